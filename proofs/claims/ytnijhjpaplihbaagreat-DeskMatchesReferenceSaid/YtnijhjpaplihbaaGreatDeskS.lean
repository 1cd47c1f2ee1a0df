/- Several texts in one (wip/xiS.py): XDeskK XDeskS. -/
import Derived.Test.YtnijhjpaplihbaaGreatRows
import Derived.Test.YtnijhjpaplihbaaGreatSyH
import Derived.Test.YtnijhjpaplihbaaGreatSySo
set_option linter.unusedVariables false
namespace Go.Proofs.YtnijhjpaplihbaaGreat
def cmbs : Nat → Nat → Nat → List (List Nat)
 | _, 0, _ => [[]]
 | 0, _ + 1, _ => []
 | k + 1, n + 1, i => (cmbs k n (i + 1)).map (i :: ·) ++ cmbs k (n + 1) (i + 1)
theorem xls (k i : Nat) : cmbs k 0 i = [[]] := by cases k <;> rfl
theorem xkw : ∀ (k n i : Nat) (c : List Nat), c ∈ cmbs k n i ↔ c.length = n ∧ c.Pairwise (· < ·) ∧ ∀ x ∈ c, i ≤ x ∧ x < i + k
 | k, 0, i, c => by
  rw [xls, List.mem_singleton]
  constructor
  ·rintro rfl; exact ⟨rfl, List.Pairwise.nil, by simp⟩
  ·rintro ⟨h, _⟩; exact List.eq_nil_of_length_eq_zero h
 | 0, n + 1, i, c => by
  show c ∈ ([] : List (List Nat)) ↔ _
  constructor
  ·intro h; cases h
  ·rintro ⟨h, _, h3⟩
   cases c with
   | nil => cases h
   | cons a r => have := h3 a (by simp); omega
 | k + 1, n + 1, i, c => by
  show c ∈ (cmbs k n (i + 1)).map (i :: ·) ++ cmbs k (n + 1) (i + 1) ↔ _
  rw [List.mem_append, List.mem_map, xkw k (n + 1) (i + 1) c]
  constructor
  ·rintro (⟨d, hd, rfl⟩ | ⟨h1, h2, h3⟩)
   ·obtain ⟨h1, h2, h3⟩ := (xkw k n (i + 1) d).1 hd
    refine ⟨by simp [h1], List.pairwise_cons.2 ⟨fun x hx => by have := h3 x hx; omega, h2⟩, fun x hx => ?_⟩
    rcases List.mem_cons.1 hx with rfl | hx
    ·omega
    ·have := h3 x hx; omega
   ·exact ⟨h1, h2, fun x hx => by have := h3 x hx; omega⟩
  ·rintro ⟨h1, h2, h3⟩
   cases c with
   | nil => cases h1
   | cons a r =>
    have ha := h3 a (by simp)
    obtain ⟨p1, p2⟩ := List.pairwise_cons.1 h2
    by_cases e : a = i
    ·subst e
     exact .inl ⟨r, (xkw k n (a + 1) r).2 ⟨by simpa using h1, p2, fun x hx => by have := p1 x hx; have := h3 x (by simp [hx]); omega⟩, rfl⟩
    ·refine .inr ⟨h1, h2, fun x hx => ?_⟩
     have hx3 := h3 x hx
     rcases List.mem_cons.1 hx with rfl | hx
     ·omega
     ·have := p1 x hx; omega
def lexN : List Nat → List Nat → Bool
 | a :: r, b :: s => decide (a < b) || (decide (a = b) && lexN r s)
 | _, _ => false
theorem xop (k i : Nat) : ∀ n, (cmbs k n i).length ≤ 2 ^ k := by
 induction k generalizing i with
 | zero => intro n; cases n <;> simp [cmbs]
 | succ k ih =>
  intro n
  cases n with
  | zero => rw [xls]; exact Nat.one_le_two_pow
  | succ n =>
   show ((cmbs k n (i + 1)).map (i :: ·) ++ cmbs k (n + 1) (i + 1)).length ≤ _
   rw [List.length_append, List.length_map, Nat.pow_succ]
   have := ih (i + 1) n
   have := ih (i + 1) (n + 1)
   omega
end Go.Proofs.YtnijhjpaplihbaaGreat
set_option linter.unusedVariables false
namespace Go.Proofs.YtnijhjpaplihbaaGreat
open Go Go.Sy
def xaB (m : Nat) (n : Int) : List (List (List Int)) := (cmbs m n.toNat 0).map fun c => xgK (c.map fun (x : Nat) => (x : Int))
noncomputable def xzp : List AV → List Sy.Obj → Option (Nat × Int × Nat)
 | [.agg [_, _, _, .sl kr], .val (.slice none 0 0), .val (.int .i64 0), n, .yl key], objs => (match n.weak, xai kr objs with
  | .int .i64 m, some o => (match xe6 Tryz.prog o.body with
   | some (_, _, l) => some (key, m, l.length)
   | none => none)
  | _, _ => none)
 | _, _ => none
noncomputable def xaU : xvf := fun f args objs =>
 match Nat.beq f 83 with
 | true => (match xzp args objs with
  | some (key, n, m) => some ⟨(0 ≤ n ∧ n ≤ 1000000) ∧ (m : Int) ≤ 1000000, key, 3, [.int .i64], xaB m n⟩
  | none => none)
 | false => none
end Go.Proofs.YtnijhjpaplihbaaGreat
