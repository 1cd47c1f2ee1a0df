/-
 From a contract to a law's row: arguments of plain data (integers, bools, structs of these), and slices of these.
-/
import Derived.Test.YtnijhjpaplihbaaGreatSyF
import Derived.ProofKit
import Derived.OpenShut
import Derived.ReadAgain
import Derived.Carry
import Derived.JoinedTies
set_option linter.unusedVariables false
namespace Go.Sy
open Go.ChangeShapes Go.WideShapes Go.ChangeAt Go.RowKit
def xqV : List CK → List Value → Prop
 | [], [] => True
 | .int k :: ks, v :: vs => (∃ n, v = .int k n ∧ (Lit.int k n).wf = true) ∧ xqV ks vs
 | .bool :: ks, v :: vs => (∃ b, v = .bool b) ∧ xqV ks vs
 | _, _ => False
theorem xm2 : ∀ {ks ks' : List CK} {l l' : List Value}, xqV ks l → xqV ks' l' → xqV (ks ++ ks') (l ++ l')
 | [], _, [], _, _, h => h
 | .int _ :: _, _, _ :: _, _, h, h' => ⟨h.1, xm2 h.2 h'⟩
 | .bool :: _, _, _ :: _, _, h, h' => ⟨h.1, xm2 h.2 h'⟩
 | [], _, _ :: _, _, h, _ => h.elim
 | .int _ :: _, _, [], _, h, _ => h.elim
 | .bool :: _, _, [], _, h, _ => h.elim
section
variable (P : Program)
def xoc : Nat → TypeId → Option (List CK)
 | 0, _ => none
 | n + 1, t => match P.underlying t with
  | some .bool => some [.bool]
  | some (.int k) => some [.int k]
  | some (.struct fs) => match xxh P (xoc n) fs.toList 0 with
   | some ks => if ks.length = P.cellsOf t then some ks else none
   | none => none
  | _ => none
inductive FK where
 | cells (ks : List CK)
 | sl (e : TypeId) (ks : List CK)
inductive VK where
 | one (k : CK)
 | agg (ks : List CK)
 | sl (e : TypeId) (ks : List CK)
 | mix (fs : List FK)
def xtj (n : Nat) : List Field → Nat → Option (List FK)
 | [], _ => some []
 | f :: r, off => if f.offset = off then (match P.underlying f.type with
   | some (.slice e) => match xoc P n e with
    | some ks => if ks.length = P.cellsOf e ∧ ks ≠ [] ∧ P.cellsOf f.type = 1 then (match xtj n r (off + 1) with | some l => some (.sl e ks :: l) | none => none) else none
    | none => none
   | _ => match xoc P n f.type with
    | some ks => if ks.length = P.cellsOf f.type then (match xtj n r (off + ks.length) with | some l => some (.cells ks :: l) | none => none) else none
    | none => none) else none
def FK.size : FK → Nat
 | .cells ks => ks.length
 | .sl _ _ => 1
def xvj (n : Nat) (t : TypeId) : Option VK :=
 match P.underlying t with
 | some .bool => some (.one .bool)
 | some (.int k) => some (.one (.int k))
 | some (.struct fs) => match xoc P n t with
  | some ks => some (.agg ks)
  | none => match xtj P n fs.toList 0 with
   | some l => if (l.map FK.size).sum = P.cellsOf t then some (.mix l) else none
   | none => none
 | some (.slice e) => match xoc P n e with
  | some ks => if ks.length = P.cellsOf e ∧ ks ≠ [] then some (.sl e ks) else none
  | none => none
 | _ => none
end
def elOk : List CK → List Int → Prop
 | [], [] => True
 | .int k :: ks, n :: ns => (Lit.int k n).wf = true ∧ elOk ks ns
 | .bool :: ks, n :: ns => (n = 0 ∨ n = 1) ∧ elOk ks ns
 | _, _ => False
theorem xlP : ∀ {ks : List CK} {ns : List Int}, elOk ks ns → ns.length = ks.length
 | [], [], _ => rfl
 | .int k :: ks, n :: ns, h => by simp [xlP h.2]
 | .bool :: ks, n :: ns, h => by simp [xlP h.2]
 | [], _ :: _, h => h.elim
 | .int _ :: _, [], h => h.elim
 | .bool :: _, [], h => h.elim
theorem xwc : ∀ {ks : List CK} {cs : List Value} (pre : List Int), xqV ks cs → ∃ ns, elOk ks ns ∧ cs = elV ks pre.length (pre ++ ns)
 | [], [], pre, _ => ⟨[], trivial, rfl⟩
 | .int k :: ks, v :: vs, pre, h => by
  obtain ⟨⟨n, rfl, hw⟩, h2⟩ := h
  obtain ⟨ns, h3, h4⟩ := xwc (pre ++ [n]) h2
  refine ⟨n :: ns, ⟨hw, h3⟩, ?_⟩
  rw [h4]
  simp [elV, CK.val]
 | .bool :: ks, v :: vs, pre, h => by
  obtain ⟨⟨b, rfl⟩, h2⟩ := h
  obtain ⟨ns, h3, h4⟩ := xwc (pre ++ [bif b then 1 else 0]) h2
  refine ⟨(bif b then 1 else 0) :: ns, ⟨by cases b <;> simp, h3⟩, ?_⟩
  rw [h4]
  cases b <;> simp [elV, CK.val]
 | [], _ :: _, _, h => h.elim
 | .int _ :: _, [], _, h => h.elim
 | .bool :: _, [], _, h => h.elim
def xF1 (W : World) (e : TypeId) (ks : List CK) (v : Value) : Prop := ∃ l : List (List Int), (∀ el ∈ l, elOk ks el) ∧ xbc W false e ks.length v l.length (rowV ks l)
def xwt (W : World) : List FK → List Value → Prop
 | [], cs => cs = []
 | .cells ks :: r, cs => xqV ks (cs.take ks.length) ∧ xwt W r (cs.drop ks.length)
 | .sl e ks :: r, cs => ∃ v cs', cs = v :: cs' ∧ xF1 W e ks v ∧ xwt W r cs'
def xoP (W : World) : VK → Value → Prop
 | .one k, v => xqV [k] [v]
 | .agg ks, v => ∃ cs, v = .agg cs.toArray ∧ xqV ks cs
 | .sl e ks, v => ∃ l : List (List Int), (∀ el ∈ l, elOk ks el) ∧ xbc W false e ks.length v l.length (rowV ks l)
 | .mix fs, v => ∃ cs, v = .agg cs.toArray ∧ xwt W fs cs
def xkf (W : World) : List VK → List Value → Prop
 | [], [] => True
 | k :: ks, v :: vs => xoP W k v ∧ xkf W ks vs
 | _, _ => False
section
variable {P : Program} {H : Type} {enc : TypeId × Value → H} {w : World} {base : Nat} {spare : Nat → Bool} {held : Bool}
theorem xth {fuel : Nat} {rec_ : TypeId → Option (List CK)} (hrec : ∀ t ks cs x, rec_ t = some ks → DataW.trod enc P w base spare held fuel t cs = some x → xqV ks cs) (cs : List Value) :
  ∀ (fs : List Field) (off : Nat) (ks : List CK) (xs : List (DataW H × List MemPlace)), xxh P rec_ fs off = some ks →
   fs.mapM (fun f => DataW.trod enc P w base spare held fuel f.type ((cs.drop f.offset).take (P.cellsOf f.type))) = some xs → xqV ks ((cs.drop off).take ks.length)
 | [], off, ks, xs, h, _ => by cases h; simp [xqV]
 | f :: r, off, ks, xs, h, hm => by
  unfold xxh at h
  split at h
  ·rename_i hoff
   split at h
   ·rename_i k1 hk1
    split at h
    ·rename_i hlen
     split at h
     ·rename_i k2 hk2
      cases h
      rw [List.mapM_cons] at hm
      simp only [bind, Option.bind_eq_some_iff, pure, Option.some.injEq] at hm
      obtain ⟨x, hx, xs', hxs, _⟩ := hm
      have h1 := hrec _ _ _ _ hk1 hx
      have h2 := xth hrec cs r _ k2 xs' hk2 hxs
      have := xm2 h1 h2
      rw [hoff, ← hlen] at this
      rw [List.length_append, List.take_add, List.drop_drop]
      exact this
     ·cases h
    ·cases h
   ·cases h
  ·cases h
theorem xpD : ∀ (fuel n : Nat) (t : TypeId) (ks : List CK) (cs : List Value) (x : DataW H × List MemPlace), xoc P n t = some ks → DataW.trod enc P w base spare held fuel t cs = some x → xqV ks cs
 | 0, _, _, _, _, _, _, h => by cases h
 | fuel + 1, 0, t, ks, cs, x, h, _ => by cases h
 | fuel + 1, n + 1, t, ks, cs, x, h, hx => by
  unfold xoc at h
  cases hu : P.underlying t with
  | none => rw [hu] at h; cases h
  | some d =>
   rw [hu] at h
   cases d with
   | bool =>
    cases h
    obtain ⟨b, hcs, _⟩ := DataW.trod_bool hu hx
    rw [hcs]
    exact ⟨⟨b, rfl⟩, trivial⟩
   | int k =>
    cases h
    obtain ⟨m, hcs, _, hwf⟩ := DataW.trod_int hu hx
    rw [hcs]
    exact ⟨⟨m, rfl, hwf⟩, trivial⟩
   | struct fs =>
    simp only [] at h
    split at h
    ·rename_i ks' hks
     split at h
     ·rename_i hlen
      cases h
      unfold DataW.trod at hx
      rw [hu] at hx
      simp only [] at hx
      split at hx
      ·rename_i hl
       cases hm : fs.toList.mapM (fun f => DataW.trod enc P w base spare held fuel f.type ((cs.drop f.offset).take (P.cellsOf f.type))) with
       | none => rw [hm] at hx; cases hx
       | some xs =>
        have := xth (fun t ks cs x h1 h2 => xpD fuel n t ks cs x h1 h2) cs fs.toList 0 ks xs hks hm
        rw [List.drop_zero, hlen, ← hl, List.take_length] at this
        exact this
      ·cases hx
     ·cases h
    ·cases h
   | _ => cases h
theorem xtz {base n : Nat} {a : Addr} {cs : List Value} (hn : n ≠ 0) (h : w.cells? base a n = some cs) : a.block < w.heap.size := by
 unfold World.cells? at h
 split at h
 ·obtain ⟨m, rfl⟩ : ∃ m, n = m + 1 := ⟨n - 1, by omega⟩
  have h2 : w.cell? (a.add 0) = cs[0]? := mapM_some_get h 0 0 (by simp)
  have h3 : 0 < cs.length := by
   have : cs.length = m + 1 := by simpa using mapM_some_length h
   omega
  rw [List.getElem?_eq_getElem h3] at h2
  unfold World.cell? at h2
  rw [xka] at h2
  cases hb : w.heap[a.block]? with
  | none => rw [hb] at h2; cases h2
  | some o => exact (Array.getElem?_eq_some_iff.1 hb).1
 ·cases h
theorem xuX {fuel n : Nat} {t e : TypeId} {ks : List CK} {cs : List Value} {x : DataW H × List MemPlace} (hsp : ∀ b, spare b = true) (hu : P.underlying t = some (.slice e)) (hks : xoc P n e = some ks) (hlen : ks.length = P.cellsOf e) (hne : ks ≠ []) (h : DataW.trod enc P w base spare held fuel t cs = some x) : ∃ v, cs = [v] ∧ xF1 w e ks v := by
 rcases DataW.trod_slice hu h with ⟨h1, _⟩ | ⟨a, len0, cap0, elems, rest, m, hm, h1, _, _, hl, hc, hel, hget, hrest, _⟩
 ·refine ⟨_, h1, ?_⟩
  refine ⟨[], (fun _ h => by cases h), ⟨⟨none, 0, rfl, Nat.le_refl _, Nat.zero_le _⟩, fun j u hj => by simp [rowV] at hj, fun b hb => by cases hb⟩, by simp [rowV], fun h => by cases h⟩
 ·refine ⟨_, h1, ?_⟩
  have cells : ∀ i, i < len0 → ∃ el, elOk ks el ∧ ∀ j u, (elV ks 0 el)[j]? = some u → w.cell? (a.add (i * ks.length + j)) = some u := by
   intro i hi
   have hg := hget i hi
   have hi' : i < elems.length := by omega
   rw [List.getElem?_eq_getElem hi', Option.bind_eq_some_iff] at hg
   obtain ⟨cs, hcs, htr⟩ := hg
   have hfit := xpD m n e ks cs _ hks htr
   obtain ⟨el, h2, h3⟩ := xwc [] hfit
   simp only [List.length_nil, List.nil_append] at h3
   refine ⟨el, h2, fun j u hj => ?_⟩
   rw [← h3] at hj
   unfold World.cells? at hcs
   split at hcs
   ·have hj' : j < P.cellsOf e := by
     have := (List.getElem?_eq_some_iff.1 hj).1
     have hl2 : cs.length = P.cellsOf e := by simpa using mapM_some_length hcs
     omega
    have := mapM_some_get hcs j j (by simp [hj'])
    rw [← xni, hlen, this, hj]
   ·cases hcs
  have build : ∀ m, m ≤ len0 → ∃ l : List (List Int), l.length = m ∧ (∀ el ∈ l, elOk ks el) ∧ ∀ i, i < m → ∀ j u, (elV ks 0 (l.getD i []))[j]? = some u → w.cell? (a.add (i * ks.length + j)) = some u := by
   intro m
   induction m with
   | zero => intro _; exact ⟨[], rfl, (fun _ h => by cases h), fun i hi => by omega⟩
   | succ m ih =>
    intro hm
    obtain ⟨l, l1, l2, l3⟩ := ih (by omega)
    obtain ⟨el, e1, e2⟩ := cells m (by omega)
    refine ⟨l ++ [el], by simp [l1], fun x hx => ?_, fun i hi => ?_⟩
    ·rcases List.mem_append.1 hx with hx | hx
     ·exact l2 x hx
     ·rw [List.mem_singleton.1 hx]; exact e1
    ·by_cases h : i < m
     ·have : (l ++ [el]).getD i [] = l.getD i [] := by simp [List.getD_eq_getElem?_getD, List.getElem?_append_left (show i < l.length by omega)]
      rw [this]; exact l3 i h
     ·have hi : i = m := by omega
      subst hi
      have : (l ++ [el]).getD i [] = el := by rw [← l1]; simp [List.getD_eq_getElem?_getD]
      rw [this]; exact e2
  obtain ⟨l, l1, l2, l3⟩ := build len0 (Nat.le_refl _)
  refine ⟨l, l2, ⟨⟨some a, cap0, by rw [l1], by rw [l1]; exact hl, hc⟩, fun j u hj => ⟨a, rfl, ?_⟩, fun b hb => ?_⟩, xbn ks l, fun h => by cases h⟩
  ·have hjl : j < (rowV ks l).length := (List.getElem?_eq_some_iff.1 hj).1
   rw [xbn] at hjl
   have hz : 0 < ks.length := by
    rcases Nat.eq_zero_or_pos ks.length with h | h
    ·rw [h, Nat.mul_zero] at hjl; omega
    ·exact h
   have h1 : j / ks.length < l.length := (Nat.div_lt_iff_lt_mul hz).2 hjl
   have h2 : j % ks.length < ks.length := Nat.mod_lt _ hz
   have h3 : j / ks.length * ks.length + j % ks.length = j := by rw [Nat.mul_comm]; exact Nat.div_add_mod j ks.length
   have h4 := xnq ks l (j / ks.length) (j % ks.length) h2 h1
   rw [h3, hj] at h4
   have := l3 (j / ks.length) (by omega) (j % ks.length) u h4.symm
   rwa [h3] at this
  ·simp only [blkO] at hb
   split at hb
   ·cases hb
   ·rename_i hcap
    cases hb
    have hn0 : P.cellsOf e ≠ 0 := by rw [← hlen]; exact fun h0 => hne (List.eq_nil_of_length_eq_zero h0)
    by_cases h0 : 0 < len0
    ·have hg := hget 0 h0
     rw [List.getElem?_eq_getElem (show 0 < elems.length by omega), Option.bind_eq_some_iff] at hg
     obtain ⟨cs, hcs, _⟩ := hg
     have := xtz hn0 hcs
     rwa [xka] at this
    ·obtain ⟨hr1, hr2⟩ := hrest (hsp _)
     have hg := hr2 0 (by omega)
     rw [List.getElem?_eq_getElem (show 0 < rest.length by omega), Option.bind_eq_some_iff] at hg
     obtain ⟨cs, hcs, _⟩ := hg
     have := xtz hn0 hcs
     rwa [xka] at this
theorem xwa {fuel n : Nat} (hsp : ∀ b, spare b = true) (cs : List Value) : ∀ (fs : List Field) (off : Nat) (l : List FK) (xs : List (DataW H × List MemPlace)), xtj P n fs off = some l → off + (l.map FK.size).sum = cs.length →
  fs.mapM (fun f => DataW.trod enc P w base spare held fuel f.type ((cs.drop f.offset).take (P.cellsOf f.type))) = some xs → xwt w l (cs.drop off)
 | [], off, l, xs, h, hl, _ => by
  cases h
  have hl : off = cs.length := by simpa using hl
  show cs.drop off = []
  rw [hl, List.drop_length]
 | f :: r, off, l, xs, h, hl, hm => by
  unfold xtj at h
  split at h
  case isFalse => cases h
  rename_i hoff
  rw [List.mapM_cons] at hm
  simp only [bind, Option.bind_eq_some_iff, pure, Option.some.injEq] at hm
  obtain ⟨x, hx, xs', hxs, _⟩ := hm
  split at h
  ·rename_i e hu
   split at h
   case h_2 => cases h
   rename_i ks hks
   split at h
   case isFalse => cases h
   rename_i hc
   split at h
   case h_2 => cases h
   rename_i l' hl'
   cases h
   obtain ⟨v, h1, h2⟩ := xuX hsp hu hks hc.1 hc.2.1 hx
   have ih := xwa hsp cs r (off + 1) l' xs' hl' (by simp [FK.size] at hl; omega) hxs
   refine ⟨v, cs.drop (off + 1), ?_, h2, ih⟩
   rw [hoff, hc.2.2] at h1
   have hlt : off < cs.length := by simp [FK.size] at hl; omega
   rw [List.drop_eq_getElem_cons hlt] at h1 ⊢
   simp only [List.take_succ_cons, List.take_zero, List.cons.injEq, and_true] at h1
   rw [h1]
  ·split at h
   case h_2 => cases h
   rename_i ks hks
   split at h
   case isFalse => cases h
   rename_i hlen
   split at h
   case h_2 => cases h
   rename_i l' hl'
   cases h
   have ih := xwa hsp cs r (off + ks.length) l' xs' hl' (by simp [FK.size] at hl; omega) hxs
   have h1 := xpD _ _ _ _ _ _ hks hx
   rw [hoff, ← hlen] at h1
   refine ⟨h1, ?_⟩
   rw [List.drop_drop]
   exact ih
theorem xCu {n : Nat} {t : TypeId} {k : VK} {r : Reach} {b0 : Nat} {v : Value} {d : DataW H} {p : List MemPlace} (hsp : ∀ b, spare b = true) (hk : xvj P n t = some k) (hv : Value.okWide P w r b0 t v) (h : DataW.Trod enc P w base spare held t v d p) : xoP w k v := by
 obtain ⟨fuel, hf⟩ := h
 unfold xvj at hk
 cases hu : P.underlying t with
 | none => rw [hu] at hk; cases hk
 | some dd =>
  rw [hu] at hk
  cases dd with
  | bool =>
   cases hk
   cases fuel with
   | zero => cases hf
   | succ fuel =>
    obtain ⟨b, hcs, _⟩ := DataW.trod_bool hu hf
    obtain ⟨x, hx⟩ : ∃ x, v = .bool x := okWide_bool hu hv
    exact ⟨⟨x, hx⟩, trivial⟩
  | int k =>
   cases hk
   cases fuel with
   | zero => cases hf
   | succ fuel =>
    obtain ⟨m, hcs, _, hwf⟩ := DataW.trod_int hu hf
    obtain ⟨x, rfl⟩ : ∃ x, v = .int k x := okWide_int hu hv
    simp [Value.cells] at hcs
    subst hcs
    exact ⟨⟨x, rfl, hwf⟩, trivial⟩
  | struct fs =>
   simp only [] at hk
   obtain ⟨cs, rfl, hcs⟩ := okWide_struct hu hv
   cases hks : xoc P n t with
   | none =>
    rw [hks] at hk
    simp only [] at hk
    split at hk
    case h_2 => cases hk
    rename_i l hl
    split at hk
    case isFalse => cases hk
    rename_i hsum
    cases hk
    refine ⟨cs.toList, by simp, ?_⟩
    have hf : DataW.trod enc P w base spare held fuel t cs.toList = some (d, p) := by simpa [Value.cells] using hf
    cases fuel with
    | zero => cases hf
    | succ fuel =>
     unfold DataW.trod at hf
     rw [hu] at hf
     simp only [] at hf
     split at hf
     ·cases hm : fs.toList.mapM (fun f => DataW.trod enc P w base spare held fuel f.type ((cs.toList.drop f.offset).take (P.cellsOf f.type))) with
      | none => rw [hm] at hf; cases hf
      | some xs =>
       have := xwa hsp cs.toList fs.toList 0 l xs hl (by rw [Nat.zero_add, hsum]; simpa using hcs.symm) hm
       rwa [List.drop_zero] at this
     ·cases hf
   | some ks =>
    rw [hks] at hk
    cases hk
    exact ⟨cs.toList, by simp, xpD fuel n t ks _ _ hks (by simpa [Value.cells] using hf)⟩
  | slice e =>
   simp only [] at hk
   cases hks : xoc P n e with
   | none => rw [hks] at hk; cases hk
   | some ks =>
    rw [hks] at hk
    simp only [] at hk
    split at hk
    ·rename_i hc
     cases hk
     obtain ⟨v', h1, h2⟩ := xuX hsp hu hks hc.1 hc.2 hf
     obtain ⟨a0, len0, cap0, rfl⟩ := okWide_slice hu hv
     have h1 : [Value.slice a0 len0 cap0] = [v'] := h1
     cases h1
     exact h2
    ·cases hk
  | _ => cases hk
theorem xzj {n : Nat} {r : Reach} {b0 : Nat} (hsp : ∀ b, spare b = true) : ∀ (ts : List TypeId) (vs : List Value) (ds : List (DataW H)) (ps : List MemPlace) (ks : List VK), ts.mapM (xvj P n) = some ks →
  (∀ (j : Nat) t v, ts[j]? = some t → vs[j]? = some v → Value.okWide P w r b0 t v) → DataW.TrodAll enc P w base spare held ts vs ds ps → xkf w ks vs
 | [], [], [], _, ks, h, _, _ => by simp at h; subst h; trivial
 | t :: ts, v :: vs, d :: ds, ps, ks, h, hv, ha => by
  rw [List.mapM_cons] at h
  simp only [bind, Option.bind_eq_some_iff, pure, Option.some.injEq] at h
  obtain ⟨k, hk, ks', hks, rfl⟩ := h
  obtain ⟨p, q, h1, h2, _⟩ := ha
  exact ⟨xCu hsp hk (hv 0 t v rfl rfl) h1, xzj hsp ts vs ds q ks' hks (fun j t v ht hv' => hv (j + 1) t v (by simpa using ht) (by simpa using hv')) h2⟩
 | [], [], _ :: _, _, _, _, _, h => h.elim
 | [], _ :: _, _, _, _, _, _, h => h.elim
 | _ :: _, [], _, _, _, _, _, h => h.elim
 | _ :: _, _ :: _, [], _, _, _, _, h => h.elim
theorem xoR (hl : laidOutB P = true) {W W' : World} (hb : Below W.heap.size W W') : ∀ (ts : List TypeId) (vs : List Value) (ds : List (DataW H)) (ps : List MemPlace), (ts.all fun t => P.readableRec t && decide (t < P.types.size)) = true →
  (∀ x ∈ ps, x.block < W.heap.size) → DataW.TrodAll enc P W 0 (fun _ => true) true ts vs ds ps → DataW.TrodAll enc P W' 0 (fun b => decide (b < W.heap.size)) true ts vs ds ps
 | [], [], [], _, _, _, h => h
 | t :: ts, v :: vs, d :: ds, ps, ht, hp, h => by
  obtain ⟨p, q, h1, h2, rfl⟩ := h
  rw [List.all_cons, Bool.and_eq_true, Bool.and_eq_true] at ht
  exact ⟨p, q, Below.trod hl ht.1.1 (of_decide_eq_true ht.1.2) h1 hb (fun x hx => hp x (List.mem_append_left _ hx)), xoR hl hb ts vs ds q ht.2 (fun x hx => hp x (List.mem_append_right _ hx)) h2, rfl⟩
 | [], [], _ :: _, _, _, _, h => h.elim
 | [], _ :: _, _, _, _, _, h => h.elim
 | _ :: _, [], _, _, _, _, h => h.elim
 | _ :: _, _ :: _, [], _, _, _, h => h.elim
theorem xuG {W : World} : ∀ (ts : List TypeId) (vs : List Value) (ds : List (DataW H)) (ps : List MemPlace), DataW.TrodAll enc P W 0 (fun _ => true) true ts vs ds ps → ∀ x ∈ ps, x.block < W.heap.size
 | [], [], [], ps, h, x, hx => by have h : ps = [] := h; rw [h] at hx; cases hx
 | t :: ts, v :: vs, d :: ds, ps, h, x, hx => by
  obtain ⟨p, q, ⟨m, hm⟩, h2, rfl⟩ := h
  rcases List.mem_append.1 hx with hx | hx
  ·exact DataW.trod_lt m _ _ _ hm x hx
  ·exact xuG ts vs ds q h2 x hx
 | [], [], _ :: _, _, h, _, _ => h.elim
 | [], _ :: _, _, _, h, _, _ => h.elim
 | _ :: _, [], _, _, h, _, _ => h.elim
 | _ :: _, _ :: _, [], _, h, _, _ => h.elim
end
theorem xxf {C : Checked} {f : FuncId} {fn : Func} {spec : ChangeSpec} {conds : List PathCond} {T : TypeId} {k : Nat} {H : Type} {enc : TypeId × Value → H}
  (hl : laidOutB C.prog = true) (hts : (fn.params.toList.all fun t => C.prog.readableRec t && decide (t < C.prog.types.size)) = true) (hk : fn.params.toList.length = k) (hres : fn.resultTypes = #[T]) (hT : C.prog.underlying T = some .bool)
  (hvars : spec.vars = []) (hspec : ∀ (H : Type) (ds : List (DataW H)), ds.length = k → spec.fn H ds = { results := [.lit (.bool true)], args := ds })
  (hwalk : ∀ (W : World) (base : Nat) (args : Array Value) (ds : List (DataW H)) (p : List MemPlace), (∀ (j : Nat) t v, fn.params.toList[j]? = some t → args.toList[j]? = some v → Value.okWide C.prog W .any base t v) →
   DataW.TrodAll enc C.prog W 0 (fun _ => true) true fn.params.toList args.toList ds p → Calls C.prog f args W fun e w' => e = .returned (.bool true) ∧ Below W.heap.size W w') :
  ∀ (W : World) (base : Nat) (args : Array Value) (ds gs : List (DataW H)) (before : List MemPlace),
   (∀ (j : Nat) t v, fn.params[j]? = some t → args[j]? = some v → Value.okWide C.prog W .any base t v) →
   DataW.Whole enc C.prog fn.params.toList spec.vars false W args.toList ds gs before →
   conds.all (PathCond.test C.prog ⟨fn.params.toList, ds, spec.plain.varTypes C.prog, gs⟩) = true →
   ({} : Assume).holds C.prog (lone (Frame.enter C.prog f args .normal) [] W) →
   Calls C.prog f args W fun e W' => ∃ v, e = .returned v ∧ spec.post enc C.prog fn false true false false W args v W' := by
 intro W base args ds gs before hval hW _ _
 have hW' := hW
 rw [hvars] at hW
 obtain ⟨p, q, hA, hV, rfl, hfz, hnd⟩ := hW
 obtain ⟨rfl, rfl⟩ := trodVars_none hV
 have hlen : ∀ (ts : List TypeId) (vs : List Value) (ds : List (DataW H)) (p : List MemPlace), DataW.TrodAll enc C.prog W 0 (fun _ => true) true ts vs ds p → ds.length = ts.length := by
  intro ts
  induction ts with
  | nil => intro vs ds p h; cases vs <;> cases ds <;> first | rfl | exact h.elim
  | cons t ts ih =>
   intro vs ds p h
   cases vs with
   | nil => exact h.elim
   | cons v vs =>
    cases ds with
    | nil => exact h.elim
    | cons d ds =>
     obtain ⟨_, _, _, h2, _⟩ := h
     simp [ih vs ds _ h2]
 refine (hwalk W base args ds p (fun j t v ht hv => hval j t v (by simpa using ht) (by simpa using hv)) hA).mono fun e W' ⟨he, bel⟩ => ?_
 subst he
 have e1 : spec.fn H (ds ++ []) = { results := [.lit (.bool true)], args := ds } := by rw [List.append_nil]; exact hspec H ds (by rw [hlen _ _ _ _ hA, hk])
 refine ⟨_, rfl, ds, [], _, [], p, [], hW', ?_, ?_, ?_, bel.frame _, fun h => by cases h⟩
 ·rw [e1, hres]
  exact trodAll_mk1 (shut_bool hT _)
 ·rw [e1]
  exact xoR hl bel _ _ _ _ hts (xuG _ _ _ _ hA) hA
 ·rw [hvars, e1]
  rfl
theorem xBh {C : Checked} {f : FuncId} {fn : Func} {spec : ChangeSpec} {conds : List PathCond} {T : TypeId} {k : Nat} {H : Type} {enc : TypeId × Value → H} {ks : List VK}
  (hl : laidOutB C.prog = true) (hts : (fn.params.toList.all fun t => C.prog.readableRec t && decide (t < C.prog.types.size)) = true) (hk : fn.params.toList.length = k) (hres : fn.resultTypes = #[T]) (hT : C.prog.underlying T = some .bool)
  (hvars : spec.vars = []) (hspec : ∀ (H : Type) (ds : List (DataW H)), ds.length = k → spec.fn H ds = { results := [.lit (.bool true)], args := ds })
  (hks : fn.params.toList.mapM (xvj C.prog 9) = some ks)
  (hwalk : ∀ (W : World) (args : List Value), xkf W ks args → Calls C.prog f args.toArray W fun e w' => e = .returned (.bool true) ∧ Below W.heap.size W w') :
  ∀ (W : World) (base : Nat) (args : Array Value) (ds gs : List (DataW H)) (before : List MemPlace),
   (∀ (j : Nat) t v, fn.params[j]? = some t → args[j]? = some v → Value.okWide C.prog W .any base t v) →
   DataW.Whole enc C.prog fn.params.toList spec.vars false W args.toList ds gs before →
   conds.all (PathCond.test C.prog ⟨fn.params.toList, ds, spec.plain.varTypes C.prog, gs⟩) = true →
   ({} : Assume).holds C.prog (lone (Frame.enter C.prog f args .normal) [] W) →
   Calls C.prog f args W fun e W' => ∃ v, e = .returned v ∧ spec.post enc C.prog fn false true false false W args v W' :=
 xxf hl hts hk hres hT hvars hspec fun W _ args _ _ hval hA => by
  have := hwalk W args.toList (xzj (fun _ => rfl) _ _ _ _ _ hks hval hA)
  simpa using this
theorem xBr {k : IntKind} {v : Value} {W : World} (h : xoP W (.one (.int k)) v) : ∃ n, v = .int k n ∧ (Lit.int k n).wf = true := h.1
theorem xBs {cs : List Value} {W : World} (h : xwt W [] cs) : cs = [] := h
theorem xwb {e : TypeId} {ks : List CK} {r : List FK} {cs : List Value} {W : World} (h : xwt W (.sl e ks :: r) cs) : ∃ v cs', cs = v :: cs' ∧ xoP W (.sl e ks) v ∧ xwt W r cs' := h
theorem xBt {k : IntKind} {r : List FK} {cs : List Value} {W : World} (h : xwt W (.cells [.int k] :: r) cs) : ∃ n cs', cs = .int k n :: cs' ∧ (Lit.int k n).wf = true ∧ xwt W r cs' := by
 obtain ⟨h1, h2⟩ := h
 cases cs with
 | nil => exact h1.elim
 | cons v cs => obtain ⟨⟨n, rfl, hw⟩, _⟩ := h1; exact ⟨n, cs, rfl, hw, h2⟩
theorem xBy {vs : List Value} {W : World} (h : xkf W [] vs) : vs = [] := by
 cases vs with
 | nil => rfl
 | cons => exact h.elim
theorem xpF {k : VK} {ks : List VK} {vs : List Value} {W : World} (h : xkf W (k :: ks) vs) : ∃ v vs', vs = v :: vs' ∧ xoP W k v ∧ xkf W ks vs' := by
 cases vs with
 | nil => exact h.elim
 | cons v vs => exact ⟨v, vs, rfl, h.1, h.2⟩
theorem xBx {k0 : VK} {vs : List Value} {W : World} (h : xkf W [k0] vs) : ∃ v0, vs = [v0] ∧ xoP W k0 v0 := by
 obtain ⟨v, vs', rfl, h0, h⟩ := xpF h
 obtain rfl := xBy h
 exact ⟨v, rfl, h0⟩
theorem xBw {k0 k1 : VK} {vs : List Value} {W : World} (h : xkf W [k0, k1] vs) : ∃ v0 v1, vs = [v0, v1] ∧ xoP W k0 v0 ∧ xoP W k1 v1 := by
 obtain ⟨v, vs', rfl, h0, h⟩ := xpF h
 obtain ⟨u0, rfl, g0⟩ := xBx h
 exact ⟨v, u0, rfl, h0, g0⟩
theorem xBv {k0 k1 k2 : VK} {vs : List Value} {W : World} (h : xkf W [k0, k1, k2] vs) : ∃ v0 v1 v2, vs = [v0, v1, v2] ∧ xoP W k0 v0 ∧ xoP W k1 v1 ∧ xoP W k2 v2 := by
 obtain ⟨v, vs', rfl, h0, h⟩ := xpF h
 obtain ⟨u0, u1, rfl, g0, g1⟩ := xBw h
 exact ⟨v, u0, u1, rfl, h0, g0, g1⟩
theorem xBu {k0 k1 k2 k3 : VK} {vs : List Value} {W : World} (h : xkf W [k0, k1, k2, k3] vs) : ∃ v0 v1 v2 v3, vs = [v0, v1, v2, v3] ∧ xoP W k0 v0 ∧ xoP W k1 v1 ∧ xoP W k2 v2 ∧ xoP W k3 v3 := by
 obtain ⟨v, vs', rfl, h0, h⟩ := xpF h
 obtain ⟨u0, u1, u2, rfl, g0, g1, g2⟩ := xBv h
 exact ⟨v, u0, u1, u2, rfl, h0, g0, g1, g2⟩
theorem xDu {P : Program} {Γ : Con} (hΓ : xaI P Γ) {f : FuncId} {args : List AV} {objs : List Obj} {x : Eff} (h : Γ f args objs = some x) (hr : x.rm = []) (hv : ∀ E, x.v.den E = .bool true) (hp : x.holds) {E : Env} {w : World} (hpre : xxP E w objs) :
  Calls P f (AV.denL E args).toArray w fun e w' => e = .returned (.bool true) ∧ Below w.heap.size w w' := by
 obtain ⟨_, _, hc⟩ := (hΓ f args objs x h).1 hr
 exact (hc hp E w hpre).mono fun e w' ⟨E', he, hg⟩ => ⟨by rw [he, hv], hg.below.toBelow⟩
def xyv (vs : List Value) : Env := fun k => vs.getD k (.slice none 0 0)
theorem xBJ {w : World} (vs : List Value) (rows : List (TypeId × List CK × List (List Int))) (hl : vs.length = rows.length)
  (h : ∀ (k : Nat) v e ks l, vs[k]? = some v → rows[k]? = some (e, ks, l) → xbc w false e ks.length v l.length (rowV ks l)) :
  xxP (xyv vs) w (rows.zipIdx.map fun y => ⟨y.2, 0, false, .row y.1.1 y.1.2.1 y.1.2.2⟩) := by
 refine ⟨fun k => ?_, fun o ho => ?_, fun o ho o' ho' hk => ?_⟩
 ·unfold xyv
  rw [List.getD_eq_getElem?_getD]
  cases hv : vs[k]? with
  | none => rfl
  | some v =>
   have hk : k < rows.length := by have := (List.getElem?_eq_some_iff.1 hv).1; omega
   rcases hr : rows[k] with ⟨e, ks, l⟩
   obtain ⟨a, c, h1, _⟩ := (h k v e ks l hv (by rw [List.getElem?_eq_getElem hk, hr])).reads.is
   simp [h1, Value.oneCell']
 ·obtain ⟨⟨⟨e, ks, l⟩, k⟩, hm, rfl⟩ := List.mem_map.1 ho
  have hr := (List.mk_mem_zipIdx_iff_getElem? (l := rows) (x := (e, ks, l)) (i := k)).1 hm
  have hk : k < rows.length := (List.getElem?_eq_some_iff.1 hr).1
  have hv : vs[k]? = some vs[k] := List.getElem?_eq_getElem (by omega)
  refine ⟨?_, rfl, by simpa using hk⟩
  show xbc w false e ks.length (xyv vs k) l.length (rowV ks l)
  have : xyv vs k = vs[k] := by unfold xyv; rw [List.getD_eq_getElem?_getD, hv]; rfl
  rw [this]
  exact h k _ e ks l hv hr
 ·obtain ⟨⟨x, k⟩, hm, rfl⟩ := List.mem_map.1 ho
  obtain ⟨⟨x', k'⟩, hm', rfl⟩ := List.mem_map.1 ho'
  simp only [] at hk
  subst hk
  have h1 := (List.mk_mem_zipIdx_iff_getElem? (l := rows) (x := x) (i := k)).1 hm
  have h2 := (List.mk_mem_zipIdx_iff_getElem? (l := rows) (x := x') (i := k)).1 hm'
  rw [h1] at h2
  cases h2
  rfl
def Con.none : Con := fun _ _ _ => Option.none
theorem xAc (P : Program) : xaI P Con.none := fun _ _ _ _ h => by cases h
end Go.Sy
