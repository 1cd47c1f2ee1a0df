/- Several texts in one (wip/pack.py): XSyH XSyRc XSyRx XSyLq XSySo XShelf XInq1D XInq1 XInq2D XInq2 XInqO XInq3D XInq3 XInq4D XInq4 XInq5D XInq5. -/
import Derived.ProofKit
import Derived.OpenShut
import Derived.ReadAgain
import Derived.Carry
import Derived.JoinedTies
import Derived.Shelf.GgSortFunc.InsertionK
import Derived.Shelf.Small.Bits
import Derived.Shelf.Sort.Plain
import Derived.Shelf.Slices.In.SortNone
import Derived.Shelf.SlSortCmp.WholeK
import Derived.Shelf.Slices.CompactI
import Derived.Ground.Names2Prog
import Derived.Ground.SlsfProg
import Derived.Test.YtikhnofbbcmpeaaGreatProg
import Derived.Test.YtikhnofbbcmpeaaGreatRows
import Derived.Shelf.SlSortCmp.NoneTotal
import Derived.Test.YtikhnofbbcmpeaaGreatQIP02
import Derived.Test.YtikhnofbbcmpeaaGreatQIP04
set_option linter.unusedVariables false
namespace Go.Sy
open Go.ChangeShapes Go.WideShapes Go.ChangeAt Go.RowKit
def xm5 : List CK → List Value → Prop
 | [], [] => True
 | .int k :: ks, v :: vs => (∃ n, v = .int k n ∧ (Lit.int k n).wf = true) ∧ xm5 ks vs
 | .bool :: ks, v :: vs => (∃ b, v = .bool b) ∧ xm5 ks vs
 | _, _ => False
theorem xjP : ∀ {ks ks' : List CK} {l l' : List Value}, xm5 ks l → xm5 ks' l' → xm5 (ks ++ ks') (l ++ l')
 | [], _, [], _, _, h => h
 | .int _ :: _, _, _ :: _, _, h, h' => ⟨h.1, xjP h.2 h'⟩
 | .bool :: _, _, _ :: _, _, h, h' => ⟨h.1, xjP h.2 h'⟩
 | [], _, _ :: _, _, h, _ => h.elim
 | .int _ :: _, _, [], _, h, _ => h.elim
 | .bool :: _, _, [], _, h, _ => h.elim
section
variable (P : Program)
def xkn : Nat → TypeId → Option (List CK)
 | 0, _ => none
 | n + 1, t => match P.underlying t with
  | some .bool => some [.bool]
  | some (.int k) => some [.int k]
  | some (.struct fs) => match xsp P (xkn n) fs.toList 0 with
   | some ks => if ks.length = P.cellsOf t then some ks else none
   | none => none
  | _ => none
inductive FK where
 | cells (ks : List CK)
 | sl (e : TypeId) (ks : List CK)
inductive VK where
 | one (k : CK)
 | agg (ks : List CK)
 | sl (e : TypeId) (ks : List CK)
 | mix (fs : List FK)
 | nst (e : TypeId) (fs : List FK)
def xk8 (n : Nat) : List Field → Nat → Option (List FK)
 | [], _ => some []
 | f :: r, off => if f.offset = off then (match P.underlying f.type with
   | some (.slice e) => match xkn P n e with
    | some ks => if ks.length = P.cellsOf e ∧ ks ≠ [] ∧ P.cellsOf f.type = 1 then (match xk8 n r (off + 1) with | some l => some (.sl e ks :: l) | none => none) else none
    | none => none
   | _ => match xkn P n f.type with
    | some ks => if ks.length = P.cellsOf f.type then (match xk8 n r (off + ks.length) with | some l => some (.cells ks :: l) | none => none) else none
    | none => none) else none
def FK.size : FK → Nat
 | .cells ks => ks.length
 | .sl _ _ => 1
def xqC (n : Nat) (t : TypeId) : Option VK :=
 match P.underlying t with
 | some .bool => some (.one .bool)
 | some (.int k) => some (.one (.int k))
 | some (.struct fs) => match xkn P n t with
  | some ks => some (.agg ks)
  | none => match xk8 P n fs.toList 0 with
   | some l => if (l.map FK.size).sum = P.cellsOf t then some (.mix l) else none
   | none => none
 | some (.slice e) => match xkn P n e with
  | some ks => if ks.length = P.cellsOf e ∧ ks ≠ [] then some (.sl e ks) else none
  | none => match P.underlying e with
   | some (.struct fs) => match xk8 P n fs.toList 0 with
    | some l => if (l.map FK.size).sum = P.cellsOf e ∧ P.cellsOf e ≠ 0 then some (.nst e l) else none
    | none => none
   | _ => none
 | _ => none
end
def nksF : List FK → List NK
 | [] => []
 | .cells ks :: r => ks.map .c ++ nksF r
 | .sl e ks :: r => .s e ks :: nksF r
theorem xkU : ∀ l : List FK, (nksF l).length = (l.map FK.size).sum
 | [] => rfl
 | .cells ks :: r => by simp [nksF, FK.size, xkU r]
 | .sl e ks :: r => by simp [nksF, FK.size, xkU r]; omega
def elOk : List CK → List Int → Prop
 | [], [] => True
 | .int k :: ks, n :: ns => (Lit.int k n).wf = true ∧ elOk ks ns
 | .bool :: ks, n :: ns => (n = 0 ∨ n = 1) ∧ elOk ks ns
 | _, _ => False
theorem xpb : ∀ {ks : List CK} {ns : List Int}, elOk ks ns → ns.length = ks.length
 | [], [], _ => rfl
 | .int k :: ks, n :: ns, h => by simp [xpb h.2]
 | .bool :: ks, n :: ns, h => by simp [xpb h.2]
 | [], _ :: _, h => h.elim
 | .int _ :: _, [], h => h.elim
 | .bool :: _, [], h => h.elim
theorem xoa : ∀ {ks : List CK} {cs : List Value} (pre : List Int), xm5 ks cs → ∃ ns, elOk ks ns ∧ cs = elV ks pre.length (pre ++ ns)
 | [], [], pre, _ => ⟨[], trivial, rfl⟩
 | .int k :: ks, v :: vs, pre, h => by
  obtain ⟨⟨n, rfl, hw⟩, h2⟩ := h
  obtain ⟨ns, h3, h4⟩ := xoa (pre ++ [n]) h2
  refine ⟨n :: ns, ⟨hw, h3⟩, ?_⟩
  rw [h4]
  simp [elV, CK.val]
 | .bool :: ks, v :: vs, pre, h => by
  obtain ⟨⟨b, rfl⟩, h2⟩ := h
  obtain ⟨ns, h3, h4⟩ := xoa (pre ++ [bif b then 1 else 0]) h2
  refine ⟨(bif b then 1 else 0) :: ns, ⟨by cases b <;> simp, h3⟩, ?_⟩
  rw [h4]
  cases b <;> simp [elV, CK.val]
 | [], _ :: _, _, h => h.elim
 | .int _ :: _, [], _, h => h.elim
 | .bool :: _, [], _, h => h.elim
def xAO (W : World) (e : TypeId) (ks : List CK) (v : Value) : Prop := ∃ l : List (List Int), (∀ el ∈ l, elOk ks el) ∧ xaT W false e ks.length v l.length (rowV ks l)
def xpA (W : World) : List FK → List Value → Prop
 | [], cs => cs = []
 | .cells ks :: r, cs => xm5 ks (cs.take ks.length) ∧ xpA W r (cs.drop ks.length)
 | .sl e ks :: r, cs => ∃ v cs', cs = v :: cs' ∧ xAO W e ks v ∧ xpA W r cs'
def xpc : List NK → List Int → Prop
 | [], [] => True
 | .c (.int k) :: ks, n :: ns => (Lit.int k n).wf = true ∧ xpc ks ns
 | .c .bool :: ks, n :: ns => (n = 0 ∨ n = 1) ∧ xpc ks ns
 | .s _ ks' :: ks, n :: ns => (∃ l : List (List Int), n = encL l ∧ ∀ el ∈ l, elOk ks' el) ∧ xpc ks ns
 | _, _ => False
def xew (W : World) : VK → Value → Prop
 | .one k, v => xm5 [k] [v]
 | .agg ks, v => ∃ cs, v = .agg cs.toArray ∧ xm5 ks cs
 | .sl e ks, v => ∃ l : List (List Int), (∀ el ∈ l, elOk ks el) ∧ xaT W false e ks.length v l.length (rowV ks l)
 | .mix fs, v => ∃ cs, v = .agg cs.toArray ∧ xpA W fs cs
 | .nst e fs, v => ∃ l vs, xft W false e (nksF fs) v l vs ∧ ∀ el ∈ l, xpc (nksF fs) el
def xkG (w : World) : List NK → List Int → List Value → Prop
 | [], [], [] => True
 | k :: ks, n :: ns, v :: vs => xeZ w k n v ∧ xkG w ks ns vs
 | _, _, _ => False
theorem xlz {w : World} : ∀ {k1 k2 : List NK} {n1 n2 : List Int} {v1 v2 : List Value}, xkG w k1 n1 v1 → xkG w k2 n2 v2 → xkG w (k1 ++ k2) (n1 ++ n2) (v1 ++ v2)
 | [], _, [], _, [], _, _, h => h
 | _ :: _, _, _ :: _, _, _ :: _, _, h, h' => ⟨h.1, xlz h.2 h'⟩
 | [], _, [], _, _ :: _, _, h, _ => h.elim
 | [], _, _ :: _, _, _, _, h, _ => h.elim
 | _ :: _, _, [], _, _, _, h, _ => h.elim
 | _ :: _, _, _ :: _, _, [], _, h, _ => h.elim
theorem xhd : ∀ {k1 k2 : List NK} {n1 n2 : List Int}, xpc k1 n1 → xpc k2 n2 → xpc (k1 ++ k2) (n1 ++ n2)
 | [], _, [], _, _, h => h
 | .c (.int k) :: _, _, _ :: _, _, h, h' => ⟨h.1, xhd h.2 h'⟩
 | .c .bool :: _, _, _ :: _, _, h, h' => ⟨h.1, xhd h.2 h'⟩
 | .s _ _ :: _, _, _ :: _, _, h, h' => ⟨h.1, xhd h.2 h'⟩
 | [], _, _ :: _, _, h, _ => h.elim
 | .c (.int k) :: _, _, [], _, h, _ => h.elim
 | .c .bool :: _, _, [], _, h, _ => h.elim
 | .s _ _ :: _, _, [], _, h, _ => h.elim
theorem xtH : ∀ {ks : List CK} {ns : List Int}, elOk ks ns → xpc (ks.map .c) ns
 | [], [], _ => trivial
 | .int k :: ks, n :: ns, h => ⟨h.1, xtH h.2⟩
 | .bool :: ks, n :: ns, h => ⟨h.1, xtH h.2⟩
 | [], _ :: _, h => h.elim
 | .int _ :: _, [], h => h.elim
 | .bool :: _, [], h => h.elim
theorem xup {w : World} : ∀ {ks : List CK} {ns : List Int} (pre : List Int), elOk ks ns → xkG w (ks.map .c) ns (elV ks pre.length (pre ++ ns))
 | [], [], _, _ => trivial
 | k :: ks, n :: ns, pre, h => by
  have h2 : elOk ks ns := by cases k <;> exact h.2
  have ih := xup (w := w) (pre ++ [n]) h2
  rw [List.append_assoc] at ih
  simp only [List.length_append, List.length_cons, List.length_nil, Nat.zero_add, List.singleton_append] at ih
  refine ⟨?_, ih⟩
  show k.val _ = k.val n
  simp
 | [], _ :: _, _, h => h.elim
 | .int _ :: _, [], _, h => h.elim
 | .bool :: _, [], _, h => h.elim
theorem xrl {W : World} : ∀ {fs : List FK} {cs : List Value}, xpA W fs cs → ∃ ns, xpc (nksF fs) ns ∧ xkG W (nksF fs) ns cs
 | [], cs, h => by
  have h : cs = [] := h
  subst h; exact ⟨[], trivial, trivial⟩
 | .cells ks :: r, cs, h => by
  obtain ⟨n1, h1, h2⟩ := xoa [] h.1
  obtain ⟨n2, h3, h4⟩ := xrl h.2
  refine ⟨n1 ++ n2, xhd (xtH h1) h3, ?_⟩
  rw [← List.take_append_drop ks.length cs, h2]
  exact xlz (xup [] h1) h4
 | .sl e ks :: r, cs, h => by
  obtain ⟨v, cs', rfl, ⟨l, hl, hr⟩, h2⟩ := h
  obtain ⟨ns, h3, h4⟩ := xrl h2
  refine ⟨encL l :: ns, ⟨⟨l, rfl, hl⟩, h3⟩, ⟨?_, ?_⟩, h4⟩
  ·obtain ⟨a, c, h1, _⟩ := hr.reads.is
   rw [h1]; rfl
  ·rw [xeQ]; exact hr
theorem xqd {w : World} : ∀ {ks : List NK} {ns : List Int} {vs : List Value}, xkG w ks ns vs → ns.length = ks.length ∧ vs.length = ks.length
 | [], [], [], _ => ⟨rfl, rfl⟩
 | k :: ks, n :: ns, v :: vs, h => by obtain ⟨a, b⟩ := xqd h.2; simp [a, b]
 | [], [], _ :: _, h => h.elim
 | [], _ :: _, _, h => h.elim
 | _ :: _, [], _, h => h.elim
 | _ :: _, _ :: _, [], h => h.elim
theorem xqe {w : World} : ∀ {ks : List NK} {ns : List Int} {vs : List Value}, xkG w ks ns vs → ∀ (j : Nat) (k : NK), ks[j]? = some k → ∃ u, vs[j]? = some u ∧ xeZ w k (ns.getD j 0) u
 | [], [], [], _, j, k, hk => by simp at hk
 | k0 :: ks, n :: ns, v :: vs, h, 0, k, hk => by
  simp only [List.getElem?_cons_zero, Option.some.injEq] at hk
  subst hk
  exact ⟨v, rfl, h.1⟩
 | k0 :: ks, n :: ns, v :: vs, h, j + 1, k, hk => xqe h.2 j k (by simpa using hk)
 | [], [], _ :: _, h, _, _, _ => h.elim
 | [], _ :: _, _, h, _, _, _ => h.elim
 | _ :: _, [], _, h, _, _, _ => h.elim
 | _ :: _, _ :: _, [], h, _, _, _ => h.elim
theorem xrk {α : Type} {z : Nat} : ∀ (L : List (List α)), (∀ x ∈ L, x.length = z) → ∀ i j, i < L.length → j < z → L.flatten[i * z + j]? = (L.getD i [])[j]?
 | [], _, i, j, hi, _ => by cases hi
 | x :: L, h, 0, j, _, hj => by
  rw [List.flatten_cons, Nat.zero_mul, Nat.zero_add, List.getElem?_append_left (by rw [h x (by simp)]; exact hj)]; rfl
 | x :: L, h, i + 1, j, hi, hj => by
  have hx := h x (by simp)
  rw [List.flatten_cons, List.getElem?_append_right (by rw [hx, Nat.succ_mul]; omega), hx, show (i + 1) * z + j - z = i * z + j by rw [Nat.succ_mul]; omega]
  exact xrk L (fun y hy => h y (by simp [hy])) i j (by simpa using hi) hj
theorem xuF {α : Type} {z : Nat} : ∀ (L : List (List α)), (∀ x ∈ L, x.length = z) → L.flatten.length = L.length * z
 | [], _ => by simp
 | x :: L, h => by rw [List.flatten_cons, List.length_append, h x (by simp), xuF L (fun y hy => h y (by simp [hy])), List.length_cons, Nat.succ_mul]; omega
def xfq (W : World) : List VK → List Value → Prop
 | [], [] => True
 | k :: ks, v :: vs => xew W k v ∧ xfq W ks vs
 | _, _ => False
section
variable {P : Program} {H : Type} {enc : TypeId × Value → H} {w : World} {base : Nat} {spare : Nat → Bool} {held : Bool}
theorem xo6 {fuel : Nat} {rec_ : TypeId → Option (List CK)} (hrec : ∀ t ks cs x, rec_ t = some ks → DataW.trod enc P w base spare held fuel t cs = some x → xm5 ks cs) (cs : List Value) :
  ∀ (fs : List Field) (off : Nat) (ks : List CK) (xs : List (DataW H × List MemPlace)), xsp P rec_ fs off = some ks →
   fs.mapM (fun f => DataW.trod enc P w base spare held fuel f.type ((cs.drop f.offset).take (P.cellsOf f.type))) = some xs → xm5 ks ((cs.drop off).take ks.length)
 | [], off, ks, xs, h, _ => by cases h; simp [xm5]
 | f :: r, off, ks, xs, h, hm => by
  unfold xsp at h
  split at h
  ·rename_i hoff
   split at h
   ·rename_i k1 hk1
    split at h
    ·rename_i hlen
     split at h
     ·rename_i k2 hk2
      cases h
      rw [List.mapM_cons] at hm
      simp only [bind, Option.bind_eq_some_iff, pure, Option.some.injEq] at hm
      obtain ⟨x, hx, xs', hxs, _⟩ := hm
      have h1 := hrec _ _ _ _ hk1 hx
      have h2 := xo6 hrec cs r _ k2 xs' hk2 hxs
      have := xjP h1 h2
      rw [hoff, ← hlen] at this
      rw [List.length_append, List.take_add, List.drop_drop]
      exact this
     ·cases h
    ·cases h
   ·cases h
  ·cases h
theorem xlT : ∀ (fuel n : Nat) (t : TypeId) (ks : List CK) (cs : List Value) (x : DataW H × List MemPlace), xkn P n t = some ks → DataW.trod enc P w base spare held fuel t cs = some x → xm5 ks cs
 | 0, _, _, _, _, _, _, h => by cases h
 | fuel + 1, 0, t, ks, cs, x, h, _ => by cases h
 | fuel + 1, n + 1, t, ks, cs, x, h, hx => by
  unfold xkn at h
  cases hu : P.underlying t with
  | none => rw [hu] at h; cases h
  | some d =>
   rw [hu] at h
   cases d with
   | bool =>
    cases h
    obtain ⟨b, hcs, _⟩ := DataW.trod_bool hu hx
    rw [hcs]
    exact ⟨⟨b, rfl⟩, trivial⟩
   | int k =>
    cases h
    obtain ⟨m, hcs, _, hwf⟩ := DataW.trod_int hu hx
    rw [hcs]
    exact ⟨⟨m, rfl, hwf⟩, trivial⟩
   | struct fs =>
    simp only [] at h
    split at h
    ·rename_i ks' hks
     split at h
     ·rename_i hlen
      cases h
      unfold DataW.trod at hx
      rw [hu] at hx
      simp only [] at hx
      split at hx
      ·rename_i hl
       cases hm : fs.toList.mapM (fun f => DataW.trod enc P w base spare held fuel f.type ((cs.drop f.offset).take (P.cellsOf f.type))) with
       | none => rw [hm] at hx; cases hx
       | some xs =>
        have := xo6 (fun t ks cs x h1 h2 => xlT fuel n t ks cs x h1 h2) cs fs.toList 0 ks xs hks hm
        rw [List.drop_zero, hlen, ← hl, List.take_length] at this
        exact this
      ·cases hx
     ·cases h
    ·cases h
   | _ => cases h
theorem xiH {base n : Nat} {a : Addr} {cs : List Value} (hn : n ≠ 0) (h : w.cells? base a n = some cs) : a.block < w.heap.size := by
 unfold World.cells? at h
 split at h
 ·obtain ⟨m, rfl⟩ : ∃ m, n = m + 1 := ⟨n - 1, by omega⟩
  have h2 : w.cell? (a.add 0) = cs[0]? := mapM_some_get h 0 0 (by simp)
  have h3 : 0 < cs.length := by
   have : cs.length = m + 1 := by simpa using mapM_some_length h
   omega
  rw [List.getElem?_eq_getElem h3] at h2
  unfold World.cell? at h2
  rw [xf3] at h2
  cases hb : w.heap[a.block]? with
  | none => rw [hb] at h2; cases h2
  | some o => exact (Array.getElem?_eq_some_iff.1 hb).1
 ·cases h
theorem xql {fuel n : Nat} {t e : TypeId} {ks : List CK} {cs : List Value} {x : DataW H × List MemPlace} (hsp : ∀ b, spare b = true) (hu : P.underlying t = some (.slice e)) (hks : xkn P n e = some ks) (hlen : ks.length = P.cellsOf e) (hne : ks ≠ []) (h : DataW.trod enc P w base spare held fuel t cs = some x) : ∃ v, cs = [v] ∧ xAO w e ks v := by
 rcases DataW.trod_slice hu h with ⟨h1, _⟩ | ⟨a, len0, cap0, elems, rest, m, hm, h1, _, _, hl, hc, hel, hget, hrest, _⟩
 ·refine ⟨_, h1, ?_⟩
  refine ⟨[], (fun _ h => by cases h), ⟨⟨none, 0, rfl, Nat.le_refl _, Nat.zero_le _⟩, fun j u hj => by simp [rowV] at hj, fun b hb => by cases hb⟩, by simp [rowV], fun h => by cases h⟩
 ·refine ⟨_, h1, ?_⟩
  have cells : ∀ i, i < len0 → ∃ el, elOk ks el ∧ ∀ j u, (elV ks 0 el)[j]? = some u → w.cell? (a.add (i * ks.length + j)) = some u := by
   intro i hi
   have hg := hget i hi
   have hi' : i < elems.length := by omega
   rw [List.getElem?_eq_getElem hi', Option.bind_eq_some_iff] at hg
   obtain ⟨cs, hcs, htr⟩ := hg
   have hfit := xlT m n e ks cs _ hks htr
   obtain ⟨el, h2, h3⟩ := xoa [] hfit
   simp only [List.length_nil, List.nil_append] at h3
   refine ⟨el, h2, fun j u hj => ?_⟩
   rw [← h3] at hj
   unfold World.cells? at hcs
   split at hcs
   ·have hj' : j < P.cellsOf e := by
     have := (List.getElem?_eq_some_iff.1 hj).1
     have hl2 : cs.length = P.cellsOf e := by simpa using mapM_some_length hcs
     omega
    have := mapM_some_get hcs j j (by simp [hj'])
    rw [← xiM, hlen, this, hj]
   ·cases hcs
  have build : ∀ m, m ≤ len0 → ∃ l : List (List Int), l.length = m ∧ (∀ el ∈ l, elOk ks el) ∧ ∀ i, i < m → ∀ j u, (elV ks 0 (l.getD i []))[j]? = some u → w.cell? (a.add (i * ks.length + j)) = some u := by
   intro m
   induction m with
   | zero => intro _; exact ⟨[], rfl, (fun _ h => by cases h), fun i hi => by omega⟩
   | succ m ih =>
    intro hm
    obtain ⟨l, l1, l2, l3⟩ := ih (by omega)
    obtain ⟨el, e1, e2⟩ := cells m (by omega)
    refine ⟨l ++ [el], by simp [l1], fun x hx => ?_, fun i hi => ?_⟩
    ·rcases List.mem_append.1 hx with hx | hx
     ·exact l2 x hx
     ·rw [List.mem_singleton.1 hx]; exact e1
    ·by_cases h : i < m
     ·have : (l ++ [el]).getD i [] = l.getD i [] := by simp [List.getD_eq_getElem?_getD, List.getElem?_append_left (show i < l.length by omega)]
      rw [this]; exact l3 i h
     ·have hi : i = m := by omega
      subst hi
      have : (l ++ [el]).getD i [] = el := by rw [← l1]; simp [List.getD_eq_getElem?_getD]
      rw [this]; exact e2
  obtain ⟨l, l1, l2, l3⟩ := build len0 (Nat.le_refl _)
  refine ⟨l, l2, ⟨⟨some a, cap0, by rw [l1], by rw [l1]; exact hl, hc⟩, fun j u hj => ⟨a, rfl, ?_⟩, fun b hb => ?_⟩, xaP ks l, fun h => by cases h⟩
  ·have hjl : j < (rowV ks l).length := (List.getElem?_eq_some_iff.1 hj).1
   rw [xaP] at hjl
   have hz : 0 < ks.length := by
    rcases Nat.eq_zero_or_pos ks.length with h | h
    ·rw [h, Nat.mul_zero] at hjl; omega
    ·exact h
   have h1 : j / ks.length < l.length := (Nat.div_lt_iff_lt_mul hz).2 hjl
   have h2 : j % ks.length < ks.length := Nat.mod_lt _ hz
   have h3 : j / ks.length * ks.length + j % ks.length = j := by rw [Nat.mul_comm]; exact Nat.div_add_mod j ks.length
   have h4 := xj5 ks l (j / ks.length) (j % ks.length) h2 h1
   rw [h3, hj] at h4
   have := l3 (j / ks.length) (by omega) (j % ks.length) u h4.symm
   rwa [h3] at this
  ·simp only [blkO] at hb
   split at hb
   ·cases hb
   ·rename_i hcap
    cases hb
    have hn0 : P.cellsOf e ≠ 0 := by rw [← hlen]; exact fun h0 => hne (List.eq_nil_of_length_eq_zero h0)
    by_cases h0 : 0 < len0
    ·have hg := hget 0 h0
     rw [List.getElem?_eq_getElem (show 0 < elems.length by omega), Option.bind_eq_some_iff] at hg
     obtain ⟨cs, hcs, _⟩ := hg
     have := xiH hn0 hcs
     rwa [xf3] at this
    ·obtain ⟨hr1, hr2⟩ := hrest (hsp _)
     have hg := hr2 0 (by omega)
     rw [List.getElem?_eq_getElem (show 0 < rest.length by omega), Option.bind_eq_some_iff] at hg
     obtain ⟨cs, hcs, _⟩ := hg
     have := xiH hn0 hcs
     rwa [xf3] at this
theorem xn9 {fuel n : Nat} (hsp : ∀ b, spare b = true) (cs : List Value) : ∀ (fs : List Field) (off : Nat) (l : List FK) (xs : List (DataW H × List MemPlace)), xk8 P n fs off = some l → off + (l.map FK.size).sum = cs.length →
  fs.mapM (fun f => DataW.trod enc P w base spare held fuel f.type ((cs.drop f.offset).take (P.cellsOf f.type))) = some xs → xpA w l (cs.drop off)
 | [], off, l, xs, h, hl, _ => by
  cases h
  have hl : off = cs.length := by simpa using hl
  show cs.drop off = []
  rw [hl, List.drop_length]
 | f :: r, off, l, xs, h, hl, hm => by
  unfold xk8 at h
  split at h
  case isFalse => cases h
  rename_i hoff
  rw [List.mapM_cons] at hm
  simp only [bind, Option.bind_eq_some_iff, pure, Option.some.injEq] at hm
  obtain ⟨x, hx, xs', hxs, _⟩ := hm
  split at h
  ·rename_i e hu
   split at h
   case h_2 => cases h
   rename_i ks hks
   split at h
   case isFalse => cases h
   rename_i hc
   split at h
   case h_2 => cases h
   rename_i l' hl'
   cases h
   obtain ⟨v, h1, h2⟩ := xql hsp hu hks hc.1 hc.2.1 hx
   have ih := xn9 hsp cs r (off + 1) l' xs' hl' (by simp [FK.size] at hl; omega) hxs
   refine ⟨v, cs.drop (off + 1), ?_, h2, ih⟩
   rw [hoff, hc.2.2] at h1
   have hlt : off < cs.length := by simp [FK.size] at hl; omega
   rw [List.drop_eq_getElem_cons hlt] at h1 ⊢
   simp only [List.take_succ_cons, List.take_zero, List.cons.injEq, and_true] at h1
   rw [h1]
  ·split at h
   case h_2 => cases h
   rename_i ks hks
   split at h
   case isFalse => cases h
   rename_i hlen
   split at h
   case h_2 => cases h
   rename_i l' hl'
   cases h
   have ih := xn9 hsp cs r (off + ks.length) l' xs' hl' (by simp [FK.size] at hl; omega) hxs
   have h1 := xlT _ _ _ _ _ _ hks hx
   rw [hoff, ← hlen] at h1
   refine ⟨h1, ?_⟩
   rw [List.drop_drop]
   exact ih
theorem xsz {fuel n : Nat} {t e : TypeId} {gs : Array Field} {fs : List FK} {cs : List Value} {x : DataW H × List MemPlace} (hsp : ∀ b, spare b = true) (hu : P.underlying t = some (.slice e)) (hg : P.underlying e = some (.struct gs)) (hks : xk8 P n gs.toList 0 = some fs) (hlen : (fs.map FK.size).sum = P.cellsOf e) (hne : P.cellsOf e ≠ 0) (h : DataW.trod enc P w base spare held fuel t cs = some x) : ∃ v, cs = [v] ∧ xew w (.nst e fs) v := by
 have hz : (nksF fs).length = P.cellsOf e := (xkU fs).trans hlen
 rcases DataW.trod_slice hu h with ⟨h1, _⟩ | ⟨a, len0, cap0, elems, rest, m, hm, h1, _, _, hl, hc, hel, hget, hrest, _⟩
 ·refine ⟨_, h1, [], [], ⟨⟨⟨⟨none, 0, rfl, Nat.le_refl _, Nat.zero_le _⟩, fun j u hj => by simp at hj, fun b hb => by cases hb⟩, by simp, fun h => by cases h⟩, fun i j k hi => by cases hi⟩, fun el hel => by cases hel⟩
 ·refine ⟨_, h1, ?_⟩
  have cells : ∀ i, i < len0 → ∃ (el : List Int) (cs : List Value), xpc (nksF fs) el ∧ xkG w (nksF fs) el cs ∧ ∀ j u, cs[j]? = some u → w.cell? (a.add (i * (nksF fs).length + j)) = some u := by
   intro i hi
   have hg' := hget i hi
   have hi' : i < elems.length := by omega
   rw [List.getElem?_eq_getElem hi', Option.bind_eq_some_iff] at hg'
   obtain ⟨cs, hcs, htr⟩ := hg'
   have hcl : cs.length = P.cellsOf e := by
    unfold World.cells? at hcs
    split at hcs
    ·simpa using mapM_some_length hcs
    ·cases hcs
   have hfit : xpA w fs cs := by
    cases m with
    | zero => cases htr
    | succ m =>
     unfold DataW.trod at htr
     rw [hg] at htr
     simp only [] at htr
     split at htr
     ·obtain ⟨xs, hmm, _⟩ := Option.map_eq_some_iff.1 htr
      have := xn9 hsp cs gs.toList 0 fs xs hks (by rw [Nat.zero_add, hlen, hcl]) hmm
      rwa [List.drop_zero] at this
     ·rename_i hno; exact absurd hcl hno
   obtain ⟨el, h2, h3⟩ := xrl hfit
   refine ⟨el, cs, h2, h3, fun j u hj => ?_⟩
   unfold World.cells? at hcs
   split at hcs
   ·have hj' : j < P.cellsOf e := by
     have := (List.getElem?_eq_some_iff.1 hj).1
     omega
    have := mapM_some_get hcs j j (by simp [hj'])
    rw [← xiM, hz, this, hj]
   ·cases hcs
  have build : ∀ m, m ≤ len0 → ∃ L : List (List Int × List Value), L.length = m ∧ (∀ y ∈ L, xpc (nksF fs) y.1 ∧ xkG w (nksF fs) y.1 y.2) ∧ ∀ i, i < m → ∀ j u, ((L.map (·.2)).getD i [])[j]? = some u → w.cell? (a.add (i * (nksF fs).length + j)) = some u := by
   intro m
   induction m with
   | zero => intro _; exact ⟨[], rfl, (fun _ h => by cases h), fun i hi => by omega⟩
   | succ m ih =>
    intro hm
    obtain ⟨L, l1, l2, l3⟩ := ih (by omega)
    obtain ⟨el, cs, e1, e2, e3⟩ := cells m (by omega)
    refine ⟨L ++ [(el, cs)], by simp [l1], fun y hy => ?_, fun i hi => ?_⟩
    ·rcases List.mem_append.1 hy with hy | hy
     ·exact l2 y hy
     ·rw [List.mem_singleton.1 hy]; exact ⟨e1, e2⟩
    ·by_cases h : i < m
     ·have : ((L ++ [(el, cs)]).map (·.2)).getD i [] = (L.map (·.2)).getD i [] := by simp [List.getD_eq_getElem?_getD, List.getElem?_append_left (show i < (L.map (·.2)).length by simpa [l1] using h)]
      rw [this]; exact l3 i h
     ·have hi : i = m := by omega
      subst hi
      have : ((L ++ [(el, cs)]).map (·.2)).getD i [] = cs := by rw [← l1]; simp [List.getD_eq_getElem?_getD]
      rw [this]; exact e3
  obtain ⟨L, l1, l2, l3⟩ := build len0 (Nat.le_refl _)
  have hLz : ∀ x ∈ L.map (·.2), x.length = (nksF fs).length := fun x hx => by
   obtain ⟨y, hy, rfl⟩ := List.mem_map.1 hx
   exact (xqd (l2 y hy).2).2
  have hvl : (L.map (·.2)).flatten.length = len0 * (nksF fs).length := by rw [xuF _ hLz, List.length_map, l1]
  have hz0 : 0 < (nksF fs).length := by omega
  refine ⟨L.map (·.1), (L.map (·.2)).flatten, ⟨⟨⟨⟨some a, cap0, by rw [List.length_map, l1], by rw [List.length_map, l1]; exact hl, hc⟩, fun j u hj => ⟨a, rfl, ?_⟩, fun b hb => ?_⟩, by rw [hvl, List.length_map, l1], fun h => by cases h⟩, fun i j k hi hk => ?_⟩, fun el hel => ?_⟩
  ·have hjl := (List.getElem?_eq_some_iff.1 hj).1
   rw [hvl] at hjl
   have h1 : j / (nksF fs).length < len0 := (Nat.div_lt_iff_lt_mul hz0).2 hjl
   have h2 : j % (nksF fs).length < (nksF fs).length := Nat.mod_lt _ hz0
   have h3 : j / (nksF fs).length * (nksF fs).length + j % (nksF fs).length = j := by rw [Nat.mul_comm]; exact Nat.div_add_mod j _
   have h4 := xrk _ hLz (j / (nksF fs).length) (j % (nksF fs).length) (by rw [List.length_map, l1]; exact h1) h2
   rw [h3, hj] at h4
   have := l3 (j / (nksF fs).length) h1 (j % (nksF fs).length) u h4.symm
   rwa [h3] at this
  ·simp only [blkO] at hb
   split at hb
   ·cases hb
   ·rename_i hcap
    cases hb
    by_cases h0 : 0 < len0
    ·have hg := hget 0 h0
     rw [List.getElem?_eq_getElem (show 0 < elems.length by omega), Option.bind_eq_some_iff] at hg
     obtain ⟨cs, hcs, _⟩ := hg
     have := xiH hne hcs
     rwa [xf3] at this
    ·obtain ⟨hr1, hr2⟩ := hrest (hsp _)
     have hg := hr2 0 (by omega)
     rw [List.getElem?_eq_getElem (show 0 < rest.length by omega), Option.bind_eq_some_iff] at hg
     obtain ⟨cs, hcs, _⟩ := hg
     have := xiH hne hcs
     rwa [xf3] at this
  ·have hi' : i < L.length := by simpa using hi
   have hj : j < (nksF fs).length := (List.getElem?_eq_some_iff.1 hk).1
   rw [xrk _ hLz i j (by simpa using hi') hj]
   have e1 : (L.map (·.2)).getD i [] = L[i].2 := by simp [List.getD_eq_getElem?_getD, List.getElem?_eq_getElem hi']
   have e2 : (L.map (·.1)).getD i [] = L[i].1 := by simp [List.getD_eq_getElem?_getD, List.getElem?_eq_getElem hi']
   rw [e1, e2]
   exact xqe (l2 _ (List.getElem_mem hi')).2 j k hk
  ·obtain ⟨y, hy, rfl⟩ := List.mem_map.1 hel
   exact (l2 y hy).1
theorem xxU {n : Nat} {t : TypeId} {k : VK} {r : Reach} {b0 : Nat} {v : Value} {d : DataW H} {p : List MemPlace} (hsp : ∀ b, spare b = true) (hk : xqC P n t = some k) (hv : Value.okWide P w r b0 t v) (h : DataW.Trod enc P w base spare held t v d p) : xew w k v := by
 obtain ⟨fuel, hf⟩ := h
 unfold xqC at hk
 cases hu : P.underlying t with
 | none => rw [hu] at hk; cases hk
 | some dd =>
  rw [hu] at hk
  cases dd with
  | bool =>
   cases hk
   cases fuel with
   | zero => cases hf
   | succ fuel =>
    obtain ⟨b, hcs, _⟩ := DataW.trod_bool hu hf
    obtain ⟨x, hx⟩ : ∃ x, v = .bool x := okWide_bool hu hv
    exact ⟨⟨x, hx⟩, trivial⟩
  | int k =>
   cases hk
   cases fuel with
   | zero => cases hf
   | succ fuel =>
    obtain ⟨m, hcs, _, hwf⟩ := DataW.trod_int hu hf
    obtain ⟨x, rfl⟩ : ∃ x, v = .int k x := okWide_int hu hv
    simp [Value.cells] at hcs
    subst hcs
    exact ⟨⟨x, rfl, hwf⟩, trivial⟩
  | struct fs =>
   simp only [] at hk
   obtain ⟨cs, rfl, hcs⟩ := okWide_struct hu hv
   cases hks : xkn P n t with
   | none =>
    rw [hks] at hk
    simp only [] at hk
    split at hk
    case h_2 => cases hk
    rename_i l hl
    split at hk
    case isFalse => cases hk
    rename_i hsum
    cases hk
    refine ⟨cs.toList, by simp, ?_⟩
    have hf : DataW.trod enc P w base spare held fuel t cs.toList = some (d, p) := by simpa [Value.cells] using hf
    cases fuel with
    | zero => cases hf
    | succ fuel =>
     unfold DataW.trod at hf
     rw [hu] at hf
     simp only [] at hf
     split at hf
     ·cases hm : fs.toList.mapM (fun f => DataW.trod enc P w base spare held fuel f.type ((cs.toList.drop f.offset).take (P.cellsOf f.type))) with
      | none => rw [hm] at hf; cases hf
      | some xs =>
       have := xn9 hsp cs.toList fs.toList 0 l xs hl (by rw [Nat.zero_add, hsum]; simpa using hcs.symm) hm
       rwa [List.drop_zero] at this
     ·cases hf
   | some ks =>
    rw [hks] at hk
    cases hk
    exact ⟨cs.toList, by simp, xlT fuel n t ks _ _ hks (by simpa [Value.cells] using hf)⟩
  | slice e =>
   simp only [] at hk
   cases hks : xkn P n e with
   | none =>
    rw [hks] at hk
    simp only [] at hk
    split at hk
    case h_2 => cases hk
    rename_i gs hg
    split at hk
    case h_2 => cases hk
    rename_i l hl
    split at hk
    case isFalse => cases hk
    rename_i hc
    cases hk
    obtain ⟨v', h1, h2⟩ := xsz hsp hu hg hl hc.1 hc.2 hf
    obtain ⟨a0, len0, cap0, rfl⟩ := okWide_slice hu hv
    have h1 : [Value.slice a0 len0 cap0] = [v'] := h1
    cases h1
    exact h2
   | some ks =>
    rw [hks] at hk
    simp only [] at hk
    split at hk
    ·rename_i hc
     cases hk
     obtain ⟨v', h1, h2⟩ := xql hsp hu hks hc.1 hc.2 hf
     obtain ⟨a0, len0, cap0, rfl⟩ := okWide_slice hu hv
     have h1 : [Value.slice a0 len0 cap0] = [v'] := h1
     cases h1
     exact h2
    ·cases hk
  | _ => cases hk
theorem xuG {n : Nat} {r : Reach} {b0 : Nat} (hsp : ∀ b, spare b = true) : ∀ (ts : List TypeId) (vs : List Value) (ds : List (DataW H)) (ps : List MemPlace) (ks : List VK), ts.mapM (xqC P n) = some ks →
  (∀ (j : Nat) t v, ts[j]? = some t → vs[j]? = some v → Value.okWide P w r b0 t v) → DataW.TrodAll enc P w base spare held ts vs ds ps → xfq w ks vs
 | [], [], [], _, ks, h, _, _ => by simp at h; subst h; trivial
 | t :: ts, v :: vs, d :: ds, ps, ks, h, hv, ha => by
  rw [List.mapM_cons] at h
  simp only [bind, Option.bind_eq_some_iff, pure, Option.some.injEq] at h
  obtain ⟨k, hk, ks', hks, rfl⟩ := h
  obtain ⟨p, q, h1, h2, _⟩ := ha
  exact ⟨xxU hsp hk (hv 0 t v rfl rfl) h1, xuG hsp ts vs ds q ks' hks (fun j t v ht hv' => hv (j + 1) t v (by simpa using ht) (by simpa using hv')) h2⟩
 | [], [], _ :: _, _, _, _, _, h => h.elim
 | [], _ :: _, _, _, _, _, _, h => h.elim
 | _ :: _, [], _, _, _, _, _, h => h.elim
 | _ :: _, _ :: _, [], _, _, _, _, h => h.elim
theorem xlh (hl : laidOutB P = true) {W W' : World} (hb : Below W.heap.size W W') : ∀ (ts : List TypeId) (vs : List Value) (ds : List (DataW H)) (ps : List MemPlace), (ts.all fun t => P.readableRec t && decide (t < P.types.size)) = true →
  (∀ x ∈ ps, x.block < W.heap.size) → DataW.TrodAll enc P W 0 (fun _ => true) true ts vs ds ps → DataW.TrodAll enc P W' 0 (fun b => decide (b < W.heap.size)) true ts vs ds ps
 | [], [], [], _, _, _, h => h
 | t :: ts, v :: vs, d :: ds, ps, ht, hp, h => by
  obtain ⟨p, q, h1, h2, rfl⟩ := h
  rw [List.all_cons, Bool.and_eq_true, Bool.and_eq_true] at ht
  exact ⟨p, q, Below.trod hl ht.1.1 (of_decide_eq_true ht.1.2) h1 hb (fun x hx => hp x (List.mem_append_left _ hx)), xlh hl hb ts vs ds q ht.2 (fun x hx => hp x (List.mem_append_right _ hx)) h2, rfl⟩
 | [], [], _ :: _, _, _, _, h => h.elim
 | [], _ :: _, _, _, _, _, h => h.elim
 | _ :: _, [], _, _, _, _, h => h.elim
 | _ :: _, _ :: _, [], _, _, _, h => h.elim
theorem xpZ {W : World} : ∀ (ts : List TypeId) (vs : List Value) (ds : List (DataW H)) (ps : List MemPlace), DataW.TrodAll enc P W 0 (fun _ => true) true ts vs ds ps → ∀ x ∈ ps, x.block < W.heap.size
 | [], [], [], ps, h, x, hx => by have h : ps = [] := h; rw [h] at hx; cases hx
 | t :: ts, v :: vs, d :: ds, ps, h, x, hx => by
  obtain ⟨p, q, ⟨m, hm⟩, h2, rfl⟩ := h
  rcases List.mem_append.1 hx with hx | hx
  ·exact DataW.trod_lt m _ _ _ hm x hx
  ·exact xpZ ts vs ds q h2 x hx
 | [], [], _ :: _, _, h, _, _ => h.elim
 | [], _ :: _, _, _, h, _, _ => h.elim
 | _ :: _, [], _, _, h, _, _ => h.elim
 | _ :: _, _ :: _, [], _, h, _, _ => h.elim
end
theorem xsm {C : Checked} {f : FuncId} {fn : Func} {spec : ChangeSpec} {conds : List PathCond} {T : TypeId} {k : Nat} {H : Type} {enc : TypeId × Value → H}
  (hl : laidOutB C.prog = true) (hts : (fn.params.toList.all fun t => C.prog.readableRec t && decide (t < C.prog.types.size)) = true) (hk : fn.params.toList.length = k) (hres : fn.resultTypes = #[T]) (hT : C.prog.underlying T = some .bool)
  (hvars : spec.vars = []) (hspec : ∀ (H : Type) (ds : List (DataW H)), ds.length = k → spec.fn H ds = { results := [.lit (.bool true)], args := ds })
  (hwalk : ∀ (W : World) (base : Nat) (args : Array Value) (ds : List (DataW H)) (p : List MemPlace), (∀ (j : Nat) t v, fn.params.toList[j]? = some t → args.toList[j]? = some v → Value.okWide C.prog W .any base t v) →
   DataW.TrodAll enc C.prog W 0 (fun _ => true) true fn.params.toList args.toList ds p → Calls C.prog f args W fun e w' => e = .returned (.bool true) ∧ Below W.heap.size W w') :
  ∀ (W : World) (base : Nat) (args : Array Value) (ds gs : List (DataW H)) (before : List MemPlace),
   (∀ (j : Nat) t v, fn.params[j]? = some t → args[j]? = some v → Value.okWide C.prog W .any base t v) →
   DataW.Whole enc C.prog fn.params.toList spec.vars false W args.toList ds gs before →
   conds.all (PathCond.test C.prog ⟨fn.params.toList, ds, spec.plain.varTypes C.prog, gs⟩) = true →
   ({} : Assume).holds C.prog (lone (Frame.enter C.prog f args .normal) [] W) →
   Calls C.prog f args W fun e W' => ∃ v, e = .returned v ∧ spec.post enc C.prog fn false true false false W args v W' := by
 intro W base args ds gs before hval hW _ _
 have hW' := hW
 rw [hvars] at hW
 obtain ⟨p, q, hA, hV, rfl, hfz, hnd⟩ := hW
 obtain ⟨rfl, rfl⟩ := trodVars_none hV
 have hlen : ∀ (ts : List TypeId) (vs : List Value) (ds : List (DataW H)) (p : List MemPlace), DataW.TrodAll enc C.prog W 0 (fun _ => true) true ts vs ds p → ds.length = ts.length := by
  intro ts
  induction ts with
  | nil => intro vs ds p h; cases vs <;> cases ds <;> first | rfl | exact h.elim
  | cons t ts ih =>
   intro vs ds p h
   cases vs with
   | nil => exact h.elim
   | cons v vs =>
    cases ds with
    | nil => exact h.elim
    | cons d ds =>
     obtain ⟨_, _, _, h2, _⟩ := h
     simp [ih vs ds _ h2]
 refine (hwalk W base args ds p (fun j t v ht hv => hval j t v (by simpa using ht) (by simpa using hv)) hA).mono fun e W' ⟨he, bel⟩ => ?_
 subst he
 have e1 : spec.fn H (ds ++ []) = { results := [.lit (.bool true)], args := ds } := by rw [List.append_nil]; exact hspec H ds (by rw [hlen _ _ _ _ hA, hk])
 refine ⟨_, rfl, ds, [], _, [], p, [], hW', ?_, ?_, ?_, bel.frame _, fun h => by cases h⟩
 ·rw [e1, hres]
  exact trodAll_mk1 (shut_bool hT _)
 ·rw [e1]
  exact xlh hl bel _ _ _ _ hts (xpZ _ _ _ _ hA) hA
 ·rw [hvars, e1]
  rfl
theorem xwA {C : Checked} {f : FuncId} {fn : Func} {spec : ChangeSpec} {conds : List PathCond} {T : TypeId} {k : Nat} {H : Type} {enc : TypeId × Value → H} {ks : List VK}
  (hl : laidOutB C.prog = true) (hts : (fn.params.toList.all fun t => C.prog.readableRec t && decide (t < C.prog.types.size)) = true) (hk : fn.params.toList.length = k) (hres : fn.resultTypes = #[T]) (hT : C.prog.underlying T = some .bool)
  (hvars : spec.vars = []) (hspec : ∀ (H : Type) (ds : List (DataW H)), ds.length = k → spec.fn H ds = { results := [.lit (.bool true)], args := ds })
  (hks : fn.params.toList.mapM (xqC C.prog 9) = some ks)
  (hwalk : ∀ (W : World) (args : List Value), xfq W ks args → Calls C.prog f args.toArray W fun e w' => e = .returned (.bool true) ∧ Below W.heap.size W w') :
  ∀ (W : World) (base : Nat) (args : Array Value) (ds gs : List (DataW H)) (before : List MemPlace),
   (∀ (j : Nat) t v, fn.params[j]? = some t → args[j]? = some v → Value.okWide C.prog W .any base t v) →
   DataW.Whole enc C.prog fn.params.toList spec.vars false W args.toList ds gs before →
   conds.all (PathCond.test C.prog ⟨fn.params.toList, ds, spec.plain.varTypes C.prog, gs⟩) = true →
   ({} : Assume).holds C.prog (lone (Frame.enter C.prog f args .normal) [] W) →
   Calls C.prog f args W fun e W' => ∃ v, e = .returned v ∧ spec.post enc C.prog fn false true false false W args v W' :=
 xsm hl hts hk hres hT hvars hspec fun W _ args _ _ hval hA => by
  have := hwalk W args.toList (xuG (fun _ => rfl) _ _ _ _ _ hks hval hA)
  simpa using this
theorem xsA {k : IntKind} {v : Value} {W : World} (h : xew W (.one (.int k)) v) : ∃ n, v = .int k n ∧ (Lit.int k n).wf = true := h.1
theorem xwY {cs : List Value} {W : World} (h : xpA W [] cs) : cs = [] := h
theorem xxV {e : TypeId} {ks : List CK} {r : List FK} {cs : List Value} {W : World} (h : xpA W (.sl e ks :: r) cs) : ∃ v cs', cs = v :: cs' ∧ xew W (.sl e ks) v ∧ xpA W r cs' := h
theorem xwZ {k : IntKind} {r : List FK} {cs : List Value} {W : World} (h : xpA W (.cells [.int k] :: r) cs) : ∃ n cs', cs = .int k n :: cs' ∧ (Lit.int k n).wf = true ∧ xpA W r cs' := by
 obtain ⟨h1, h2⟩ := h
 cases cs with
 | nil => exact h1.elim
 | cons v cs => obtain ⟨⟨n, rfl, hw⟩, _⟩ := h1; exact ⟨n, cs, rfl, hw, h2⟩
theorem xw7 {vs : List Value} {W : World} (h : xfq W [] vs) : vs = [] := by
 cases vs with
 | nil => rfl
 | cons => exact h.elim
theorem xgM {k : VK} {ks : List VK} {vs : List Value} {W : World} (h : xfq W (k :: ks) vs) : ∃ v vs', vs = v :: vs' ∧ xew W k v ∧ xfq W ks vs' := by
 cases vs with
 | nil => exact h.elim
 | cons v vs => exact ⟨v, vs, rfl, h.1, h.2⟩
theorem xw6 {k0 : VK} {vs : List Value} {W : World} (h : xfq W [k0] vs) : ∃ v0, vs = [v0] ∧ xew W k0 v0 := by
 obtain ⟨v, vs', rfl, h0, h⟩ := xgM h
 obtain rfl := xw7 h
 exact ⟨v, rfl, h0⟩
theorem xw5 {k0 k1 : VK} {vs : List Value} {W : World} (h : xfq W [k0, k1] vs) : ∃ v0 v1, vs = [v0, v1] ∧ xew W k0 v0 ∧ xew W k1 v1 := by
 obtain ⟨v, vs', rfl, h0, h⟩ := xgM h
 obtain ⟨u0, rfl, g0⟩ := xw6 h
 exact ⟨v, u0, rfl, h0, g0⟩
theorem xw4 {k0 k1 k2 : VK} {vs : List Value} {W : World} (h : xfq W [k0, k1, k2] vs) : ∃ v0 v1 v2, vs = [v0, v1, v2] ∧ xew W k0 v0 ∧ xew W k1 v1 ∧ xew W k2 v2 := by
 obtain ⟨v, vs', rfl, h0, h⟩ := xgM h
 obtain ⟨u0, u1, rfl, g0, g1⟩ := xw5 h
 exact ⟨v, u0, u1, rfl, h0, g0, g1⟩
theorem xw3 {k0 k1 k2 k3 : VK} {vs : List Value} {W : World} (h : xfq W [k0, k1, k2, k3] vs) : ∃ v0 v1 v2 v3, vs = [v0, v1, v2, v3] ∧ xew W k0 v0 ∧ xew W k1 v1 ∧ xew W k2 v2 ∧ xew W k3 v3 := by
 obtain ⟨v, vs', rfl, h0, h⟩ := xgM h
 obtain ⟨u0, u1, u2, rfl, g0, g1, g2⟩ := xw4 h
 exact ⟨v, u0, u1, u2, rfl, h0, g0, g1, g2⟩
theorem xw2 {k0 k1 k2 k3 k4 : VK} {vs : List Value} {W : World} (h : xfq W [k0, k1, k2, k3, k4] vs) : ∃ v0 v1 v2 v3 v4, vs = [v0, v1, v2, v3, v4] ∧ xew W k0 v0 ∧ xew W k1 v1 ∧ xew W k2 v2 ∧ xew W k3 v3 ∧ xew W k4 v4 := by
 obtain ⟨v, vs', rfl, h0, h⟩ := xgM h
 obtain ⟨u0, u1, u2, u3, rfl, g0, g1, g2, g3⟩ := xw3 h
 exact ⟨v, u0, u1, u2, u3, rfl, h0, g0, g1, g2, g3⟩
theorem xw1 {k0 k1 k2 k3 k4 k5 : VK} {vs : List Value} {W : World} (h : xfq W [k0, k1, k2, k3, k4, k5] vs) : ∃ v0 v1 v2 v3 v4 v5, vs = [v0, v1, v2, v3, v4, v5] ∧ xew W k0 v0 ∧ xew W k1 v1 ∧ xew W k2 v2 ∧ xew W k3 v3 ∧ xew W k4 v4 ∧ xew W k5 v5 := by
 obtain ⟨v, vs', rfl, h0, h⟩ := xgM h
 obtain ⟨u0, u1, u2, u3, u4, rfl, g0, g1, g2, g3, g4⟩ := xw2 h
 exact ⟨v, u0, u1, u2, u3, u4, rfl, h0, g0, g1, g2, g3, g4⟩
theorem xw0 {k0 k1 k2 k3 k4 k5 k6 : VK} {vs : List Value} {W : World} (h : xfq W [k0, k1, k2, k3, k4, k5, k6] vs) : ∃ v0 v1 v2 v3 v4 v5 v6, vs = [v0, v1, v2, v3, v4, v5, v6] ∧ xew W k0 v0 ∧ xew W k1 v1 ∧ xew W k2 v2 ∧ xew W k3 v3 ∧ xew W k4 v4 ∧ xew W k5 v5 ∧ xew W k6 v6 := by
 obtain ⟨v, vs', rfl, h0, h⟩ := xgM h
 obtain ⟨u0, u1, u2, u3, u4, u5, rfl, g0, g1, g2, g3, g4, g5⟩ := xw1 h
 exact ⟨v, u0, u1, u2, u3, u4, u5, rfl, h0, g0, g1, g2, g3, g4, g5⟩
theorem xy2 {P : Program} {Γ : Con} (hΓ : xbm P Γ) {f : FuncId} {args : List AV} {objs : List Obj} {x : Eff} (h : Γ f args objs = some x) (hr : x.rm = []) (hv : ∀ E, x.v.den E = .bool true) (hp : x.holds) {E : Env} {w : World} (hpre : xs4 E w objs) :
  Calls P f (AV.denL E args).toArray w fun e w' => e = .returned (.bool true) ∧ Below w.heap.size w w' := by
 obtain ⟨_, _, hc⟩ := (hΓ f args objs x h).1 hr
 exact (hc hp E w hpre).mono fun e w' ⟨E', he, hg⟩ => ⟨by rw [he, hv], hg.below.toBelow⟩
def xw9 (vs : List Value) : Env := fun k => vs.getD k (.slice none 0 0)
theorem xvx {w : World} (vs : List Value) (bs : List Body) (hl : vs.length = bs.length)
  (h : ∀ (k : Nat) v b, vs[k]? = some v → bs[k]? = some b → v.oneCell' = true ∧ xaX b = true ∧ ∀ (E : Env), E k = v → xaU E w k false b) :
  xs4 (xw9 vs) w (bs.zipIdx.map fun y => ⟨y.2, 0, false, y.1⟩) := by
 refine ⟨fun k => ?_, fun o ho => ?_, fun o ho o' ho' hk => ?_⟩
 ·unfold xw9
  rw [List.getD_eq_getElem?_getD]
  cases hv : vs[k]? with
  | none => rfl
  | some v =>
   have hk : k < bs.length := by have := (List.getElem?_eq_some_iff.1 hv).1; omega
   exact (h k v bs[k] hv (List.getElem?_eq_getElem hk)).1
 ·obtain ⟨⟨b, k⟩, hm, rfl⟩ := List.mem_map.1 ho
  have hr := (List.mk_mem_zipIdx_iff_getElem? (l := bs) (x := b) (i := k)).1 hm
  have hk : k < bs.length := (List.getElem?_eq_some_iff.1 hr).1
  have hv : vs[k]? = some vs[k] := List.getElem?_eq_getElem (by omega)
  obtain ⟨_, h2, h3⟩ := h k _ b hv hr
  exact ⟨h3 _ (by unfold xw9; rw [List.getD_eq_getElem?_getD, hv]; rfl), h2, by simpa using hk⟩
 ·obtain ⟨⟨x, k⟩, hm, rfl⟩ := List.mem_map.1 ho
  obtain ⟨⟨x', k'⟩, hm', rfl⟩ := List.mem_map.1 ho'
  simp only [] at hk
  subst hk
  have h1 := (List.mk_mem_zipIdx_iff_getElem? (l := bs) (x := x) (i := k)).1 hm
  have h2 := (List.mk_mem_zipIdx_iff_getElem? (l := bs) (x := x') (i := k)).1 hm'
  rw [h1] at h2
  cases h2
  rfl
def Con.none : Con := fun _ _ _ => Option.none
theorem xvy (P : Program) : xbm P Con.none := fun _ _ _ _ h => by cases h
end Go.Sy
set_option linter.unusedVariables false
namespace Go.Sy
open Go.RowKit Go.Proofs Go.Sort
section
variable {P : Program} {Γ : Con} {w : World}
def xv3 (cl : Option FuncId) : List AV → Bool
 | [] => cl.isNone
 | [.fn (.func g) [] []] => (match cl with | some g' => Nat.beq g g' | none => false)
 | [.val (.func (.func g) ⟨[]⟩ ⟨[]⟩)] => (match cl with | some g' => Nat.beq g g' | none => false)
 | _ => false
def xyU : Option FuncId → List Value
 | none => []
 | some g => [.func (.func g) #[] #[]]
theorem xvd {cl : Option FuncId} {rest : List AV} (h : xv3 cl rest = true) (E : Env) : AV.denL E rest = xyU cl := by
 unfold xv3 at h
 split at h
 ·cases cl with
  | none => rfl
  | some g => cases h
 ·split at h
  ·rw [Nat.eq_of_beq_eq_true h]; rfl
  ·cases h
 ·split at h
  ·rw [Nat.eq_of_beq_eq_true h]; rfl
  ·cases h
 ·cases h
def conR (Γ : Con) (F : FuncId) (cl : Option FuncId) (e : TypeId) (ks : List CK) (pr : List (List Int) → Option Prop) (g : List (List Int) → List (List Int)) (v : List (List Int) → AV) : Con := fun f args objs =>
 match Nat.beq f F, args, objs with
 | true, .sl 0 :: rest, [⟨0, 0, true, .row e' ks' l⟩] =>
  if xv3 cl rest && Nat.beq e' e && decide (ks' = ks) then some ⟨pr l, [0], 0, [⟨0, 0, true, .row e ks (g l)⟩], v l⟩ else Γ f args objs
 | _, _, _ => Γ f args objs
def xx4 (P : Program) (F : FuncId) (cl : Option FuncId) (e : TypeId) (ks : List CK) (pr : List (List Int) → Option Prop) (g : List (List Int) → List (List Int)) (v : List (List Int) → AV) : Prop :=
 ∀ (l : List (List Int)) (rv : Value) (w : World), (∀ p, pr l = some p → p) → rv.oneCell' = true → xaT w true e ks.length rv l.length (rowV ks l) →
  Calls P F (rv :: xyU cl).toArray w fun ex w' => ex = .returned ((v l).den fun _ => rv) ∧ xaT w' true e ks.length rv (g l).length (rowV ks (g l)) ∧ Chg w w' (blkO rv).toList
theorem xmW (hΓ : xbm P Γ) {F : FuncId} {cl : Option FuncId} {e : TypeId} {ks : List CK} {pr : List (List Int) → Option Prop} {g : List (List Int) → List (List Int)} {v : List (List Int) → AV} (hv : ∀ l, ∀ k ∈ AV.keys (v l), k = 0) (hf : xdi P F) (h : xx4 P F cl e ks pr g v) : xbm P (conR Γ F cl e ks pr g v) := by
 intro f args objs x hx
 unfold conR at hx
 split at hx
 ·rename_i rest e' ks' l hb
  split at hx
  ·rename_i hc
   simp only [Bool.and_eq_true] at hc
   obtain ⟨⟨h1, h2⟩, h3⟩ := hc
   have h2 := Nat.eq_of_beq_eq_true h2
   have h3 := of_decide_eq_true h3
   subst h2 h3
   have hb := Nat.eq_of_beq_eq_true hb
   subst hb
   cases hx
   refine ⟨fun hn => absurd hn (by simp), fun _ => ⟨_, _, _, l, g l, ⟨rfl, rfl, rfl, hv l, hf, fun hp E w hE hr => ?_⟩⟩⟩
   have := h l (E 0) w (fun p hp' => by
    have hp : Eff.holds ⟨pr l, [0], 0, [⟨0, 0, true, .row _ _ (g l)⟩], v l⟩ := hp
    unfold Eff.holds at hp
    simp only [hp'] at hp
    exact hp) (hE 0) hr
   have e1 : (AV.denL E (.sl 0 :: _)).toArray = (E 0 :: xyU cl).toArray := congrArg List.toArray (congrArg (E 0 :: ·) (xvd h1 E))
   rw [e1]
   have e2 : (v l).den E = (v l).den fun _ => E 0 := xcr (p := fun k => k = 0) (fun k hk => by rw [hk]) _ ((xaR _).2 (hv l))
   rw [e2]
   exact this
  ·exact hΓ _ _ _ _ hx
 ·exact hΓ _ _ _ _ hx
variable {e : TypeId} {ks : List CK} {l : List (List Int)} {v : Value} {α : Type} [Inhabited α]
theorem xjM {d : Array α} {enc : α → Value} {vs : List Value} (hd : d.toList.map enc = vs) {j : Nat} (hj : j < d.size) : vs[j]? = some (enc d[j]!) := by
 rw [← hd, List.getElem?_map, getElem!_pos d j hj]
 simp [hj]
theorem xuh (enc : α → Value) (d : Array α) (cur : Array Value) (h : d.size ≤ cur.size) : (putCells enc 0 d cur).toList.take d.size = d.toList.map enc := by
 apply List.ext_getElem?
 intro j
 rw [List.getElem?_take]
 split
 ·rename_i hj
  rw [xjM rfl hj]
  simp [putCells, hj, show j < cur.size by omega]
 ·rename_i hj
  rw [List.getElem?_eq_none (by simp; omega)]
theorem xoH (h : xaT w true e ks.length v l.length (rowV ks l)) : (∃ a, v = .slice a 0 0 ∧ l = []) ∨
  ∃ b cap, cap ≠ 0 ∧ v = .slice (some ⟨b, 0, none⟩) l.length cap ∧ blkO v = some b ∧ b < w.heap.size ∧ l.length ≤ maxLen ∧ l.length ≤ cap ∧
   (∀ (β : Type) (_ : Inhabited β) (enc : β → Value) (d : Array β), d.toList.map enc = rowV ks l → Holds enc w b 0 d) ∧
   ∀ (β : Type) (_ : Inhabited β) (enc : β → Value) (d : Array β) (l' : List (List Int)) (m : Nat) (os : Array Go.Obj), l'.length = l.length → (rowV ks l').length = l'.length * ks.length → d.toList.map enc = rowV ks l' →
    xaT (grow (Go.Sort.putRow enc (Sort.ahead w m) b 0 d) os) true e ks.length v l'.length (rowV ks l') ∧ Chg w (grow (Go.Sort.putRow enc (Sort.ahead w m) b 0 d) os) [b] := by
 rcases h.own rfl with ⟨a, h1, h2⟩ | ⟨b, cap, cur, h1, h2, h3, h4, h5, h6⟩
 ·exact .inl ⟨a, by rw [h1], List.length_eq_zero_iff.1 h2⟩
 ·by_cases hc : cap = 0
  ·subst hc
   have : l.length = 0 := by omega
   exact .inl ⟨_, by rw [h1, this], List.length_eq_zero_iff.1 this⟩
  ·have hb : blkO v = some b := by rw [h1]; simp [blkO, hc]
   have hlt := h.reads.blk b hb
   have hle : l.length * ks.length ≤ cur.size := by rw [h5]; exact Nat.mul_le_mul_right _ h3
   refine .inr ⟨b, cap, hc, h1, hb, hlt, Nat.le_trans h3 h4, h3, fun β _ enc d hd j hj => ?_, fun β _ enc d l' m os hl hlen hd => ?_⟩
   ·have hsz : d.size = (rowV ks l).length := by rw [← hd]; simp
    have hjc : j < cur.size := by rw [hsz, h.len] at hj; omega
    have := xjM hd hj
    rw [← h6, List.getElem?_take] at this
    split at this
    ·refine ⟨?_, ?_⟩
     ·simp only [World.cell?, Nat.zero_add, h2]
      simpa using this
     ·simp only [World.frozen?, Nat.zero_add, h2]
      simp
    ·cases this
   ·have hsz : d.size = l'.length * ks.length := by rw [← hlen, ← hd]; simp
    have hw : (grow (Go.Sort.putRow enc (Sort.ahead w m) b 0 d) os).heap[b]? = some (.cells (putCells enc 0 d cur) e (0, 0)) := by
     have e1 : (Go.Sort.putRow enc (Sort.ahead w m) b 0 d).heap[b]? = some (.cells (putCells enc 0 d cur) e (0, 0)) := by
      simp [Go.Sort.putRow, mapBlock, Sort.ahead, Array.getElem?_modify, h2, onCells]
     have e2 : b < (Go.Sort.putRow enc (Sort.ahead w m) b 0 d).heap.size := by simpa [Go.Sort.putRow, mapBlock, Sort.ahead] using hlt
     show ((Go.Sort.putRow enc (Sort.ahead w m) b 0 d).heap ++ os)[b]? = _
     rw [Array.getElem?_append_left e2]
     exact e1
    refine ⟨xct (.inr ⟨b, cap, _, by rw [h1, hl], hw, by rw [hl]; exact h3, h4, by simp [putCells, h5], ?_⟩) hlen, ?_⟩
    ·rw [← hsz, ← hd]
     exact xuh enc d cur (by rw [hsz, hl]; exact hle)
    ·refine ⟨Nat.le_add_right _ _, rfl, rfl, rfl, by simp [grow, putRow, mapBlock, Sort.ahead], fun k hk hn => ?_⟩
     have hne : b ≠ k := fun h => hn (by simp [h])
     show ((Go.Sort.putRow enc (Sort.ahead w m) b 0 d).heap ++ os)[k]? = _
     rw [Array.getElem?_append_left (by simpa [Go.Sort.putRow, mapBlock, Sort.ahead] using hk)]
     simp [Go.Sort.putRow, mapBlock, Sort.ahead, Array.getElem?_modify, hne]
theorem xsy (ks : List CK) (l : List (List Int)) : (flatK (elV ks 0) ks.length l.toArray).toList.map id = rowV ks l := by
 rw [List.map_id]
 apply List.ext_getElem?
 intro t
 by_cases ht : t < l.length * ks.length
 ·have h0 : 0 < ks.length := by
   rcases Nat.eq_zero_or_pos ks.length with h | h
   ·rw [h] at ht; omega
   ·exact h
  have hq : t / ks.length < l.length := (Nat.div_lt_iff_lt_mul h0).2 ht
  have hm : t % ks.length < ks.length := Nat.mod_lt _ h0
  have e1 : (flatK (elV ks 0) ks.length l.toArray).toList[t]? = some (elV ks 0 l[t / ks.length])[t % ks.length]! := by
   have := get_flatK (elV ks 0) ks.length l.toArray t (by simpa using ht)
   rw [getElem!_pos _ t (by simpa using ht)] at this
   rw [Array.getElem?_toList, Array.getElem?_eq_getElem (by simpa using ht), this]
   congr 2
   simp [getElem!_pos l.toArray (t / ks.length) (by simpa using hq)]
  rw [e1]
  clear e1
  have key : ∀ (l : List (List Int)) (q : Nat) (hq : q < l.length) (c : Nat), c < ks.length → (rowV ks l)[q * ks.length + c]? = some (elV ks 0 l[q])[c]! := by
   intro l
   induction l with
   | nil => intro q hq; simp at hq
   | cons x l ih =>
    intro q hq c hc
    have e : rowV ks (x :: l) = elV ks 0 x ++ rowV ks l := rfl
    rw [e]
    cases q with
    | zero =>
     rw [Nat.zero_mul, Nat.zero_add, List.getElem?_append_left (by rw [xbA]; exact hc)]
     rw [List.getElem?_eq_getElem (by rw [xbA]; exact hc), getElem!_pos _ _ (by simpa [xbA] using hc)]
     rfl
    | succ q =>
     rw [List.getElem?_append_right (by rw [xbA, Nat.add_mul]; omega), xbA, show (q + 1) * ks.length + c - ks.length = q * ks.length + c by rw [Nat.add_mul]; omega]
     exact ih q (by simpa using hq) c hc
  have := key l (t / ks.length) hq (t % ks.length) hm
  rw [Nat.div_add_mod'] at this
  exact this.symm
 ·rw [List.getElem?_eq_none (by simpa using ht), List.getElem?_eq_none (by rw [xaP]; omega)]
end
end Go.Sy
set_option linter.unusedVariables false
namespace Go.Sy
open Go.RowKit
section
variable {P : Program} {Γ : Con} {Ξ : xnA}
end
end Go.Sy
namespace Go.Sy
theorem xst {step : List U → Option (Nat × List U)} : ∀ {n m : Nat} {xs : List U} {r r' : Nat × List U}, xgG step n xs = some r → xgG step m xs = some r' → r = r'
 | 0, _, _, _, _, h, _ => by cases h
 | _ + 1, 0, _, _, _, _, h => by cases h
 | n + 1, m + 1, xs, r, r', h, h' => by
  unfold xgG at h h'
  cases hs : step xs with
  | none => rw [hs] at h; cases h
  | some y =>
   obtain ⟨k, ys⟩ := y
   rw [hs] at h h'
   cases k with
   | zero => exact xst h h'
   | succ k => cases h; cases h'; rfl
theorem xkX {step : List U → Option (Nat × List U)} {n : Nat} {xs : List U} {r : Nat × List U} (h : xgG step n xs = some r) : xaH step xs ∧ xaw step xs = r := by
 have hok : xaH step xs := ⟨n, r, h⟩
 obtain ⟨m, hm⟩ := xni hok
 exact ⟨hok, xst hm h⟩
theorem xhS {step : List U → Option (Nat × List U)} {n : Nat} {xs ys : List U} {r : Nat × List U} (hs : step xs = some (0, ys)) (h : xgG step n ys = some r) : xgG step (n + 1) xs = some r := by
 unfold xgG; rw [hs]; exact h
theorem xiu {step : List U → Option (Nat × List U)} {xs ys : List U} {m : Nat} (hs : step xs = some (m + 1, ys)) : xgG step 1 xs = some (m + 1, ys) := by
 unfold xgG; rw [hs]
theorem xaa {α : Type} {p : Prop} {o : Option α} (hp : p) : xae p o = o := xvp hp o
end Go.Sy
namespace Go.Sy
theorem xgl {x : Int} (h : -9223372036854775808 ≤ x ∧ x ≤ 9223372036854775807) : IntKind.i64.wrap x = x := IntWalk.i64_in x h
theorem xog {i : Nat} (h : i < 4611686018427387904) : IntKind.i64.wrap ((i : Int) + 1) = ((i + 1 : Nat) : Int) := by
 rw [xgl (by omega)]; rfl
theorem xa0 {i : Nat} {l : List (List Int)} (h : i < l.length) : inR (i : Int) l := by unfold inR; omega
theorem dlt {α : Type} {i n : Nat} (h : i < n) {inst : Decidable ((i : Int) < (n : Int))} (x y : α) : (bif @decide ((i : Int) < (n : Int)) inst then x else y) = x := by rw [decide_eq_true (by omega)]; rfl
theorem dnlt {α : Type} (n : Nat) {inst : Decidable ((n : Int) < (n : Int))} (x y : α) : (bif @decide ((n : Int) < (n : Int)) inst then x else y) = y := by rw [decide_eq_false (by omega)]; rfl
theorem gi_z (n : Int) (r : List U) : gi (.i n :: r) 0 = n := by cases r <;> rfl
theorem gi_1 (a : U) (r : List U) : gi (a :: r) 1 = gi r 0 := by cases r <;> rfl
theorem gi_2 (a b : U) (r : List U) : gi (a :: b :: r) 2 = gi r 0 := by cases r <;> rfl
theorem gi_3 (a b c : U) (r : List U) : gi (a :: b :: c :: r) 3 = gi r 0 := by cases r <;> rfl
theorem gi_4 (a b c d : U) (r : List U) : gi (a :: b :: c :: d :: r) 4 = gi r 0 := by cases r <;> rfl
theorem gb_z (n : Bool) (r : List U) : gb (.b n :: r) 0 = n := by cases r <;> rfl
theorem gb_1 (a : U) (r : List U) : gb (a :: r) 1 = gb r 0 := by cases r <;> rfl
theorem gr_z (n : List (List Int)) (r : List U) : gr (.r n :: r) 0 = n := by cases r <;> rfl
theorem gr_1 (a : U) (r : List U) : gr (a :: r) 1 = gr r 0 := by cases r <;> rfl
theorem gr_2 (a b : U) (r : List U) : gr (a :: b :: r) 2 = gr r 0 := by cases r <;> rfl
theorem gr_3 (a b c : U) (r : List U) : gr (a :: b :: c :: r) 3 = gr r 0 := by cases r <;> rfl
theorem xfG {step : List U → Option (Nat × List U)} (n : Nat) (p : Nat → Bool) (mk out : Nat → List U) (m m' : Nat) (fin : List U)
  (hs : ∀ i, i < n → step (mk i) = bif p i then some (m + 1, out i) else some (0, mk (i + 1))) (he : step (mk n) = some (m' + 1, fin)) :
  xaH step (mk 0) ∧ ((∃ i, i < n ∧ p i = true ∧ (∀ j, j < i → p j = false) ∧ xaw step (mk 0) = (m + 1, out i)) ∨ ((∀ j, j < n → p j = false) ∧ xaw step (mk 0) = (m' + 1, fin))) := by
 have key : ∀ k i, k + i = n → (∃ i', i ≤ i' ∧ i' < n ∧ p i' = true ∧ (∀ j, i ≤ j → j < i' → p j = false) ∧ xgG step (k + 1) (mk i) = some (m + 1, out i')) ∨ ((∀ j, i ≤ j → j < n → p j = false) ∧ xgG step (k + 1) (mk i) = some (m' + 1, fin)) := by
  intro k
  induction k with
  | zero =>
   intro i hi
   obtain rfl : i = n := by omega
   exact Or.inr ⟨fun j _ _ => by omega, xiu he⟩
  | succ k ih =>
   intro i hi
   have h := hs i (by omega)
   cases hp : p i with
   | true =>
    rw [hp] at h
    refine Or.inl ⟨i, Nat.le_refl _, by omega, hp, fun j _ _ => by omega, ?_⟩
    unfold xgG; rw [h]; rfl
   | false =>
    rw [hp] at h
    rcases ih (i + 1) (by omega) with ⟨i', h1, h2, h3, h4, h5⟩ | ⟨h4, h5⟩
    ·refine Or.inl ⟨i', by omega, h2, h3, fun j hj hj' => ?_, xhS h h5⟩
     by_cases e : j = i
     ·rw [e]; exact hp
     ·exact h4 j (by omega) hj'
    ·refine Or.inr ⟨fun j hj hj' => ?_, xhS h h5⟩
     by_cases e : j = i
     ·rw [e]; exact hp
     ·exact h4 j (by omega) hj'
 rcases key n 0 rfl with ⟨i, _, h2, h3, h4, h5⟩ | ⟨h4, h5⟩
 ·obtain ⟨h6, h7⟩ := xkX h5
  exact ⟨h6, Or.inl ⟨i, h2, h3, fun j hj => h4 j (Nat.zero_le _) hj, h7⟩⟩
 ·obtain ⟨h6, h7⟩ := xkX h5
  exact ⟨h6, Or.inr ⟨fun j hj => h4 j (Nat.zero_le _) hj, h7⟩⟩
def upto {σ : Type} (f : Nat → σ → σ) : Nat → σ → σ
 | 0, s => s
 | n + 1, s => f n (upto f n s)
theorem xoQ {σ : Type} {step : List U → Option (Nat × List U)} (n : Nat) (mk : Nat → σ → List U) (f : Nat → σ → σ) (I : Nat → σ → Prop) (m : Nat) (fin : σ → List U)
  (hI : ∀ i s, i < n → I i s → I (i + 1) (f i s)) (hs : ∀ i s, i < n → I i s → step (mk i s) = some (0, mk (i + 1) (f i s))) (he : ∀ s, I n s → step (mk n s) = some (m + 1, fin s)) {s : σ} (h0 : I 0 s) :
  xaH step (mk 0 s) ∧ xaw step (mk 0 s) = (m + 1, fin (upto f n s)) ∧ I n (upto f n s) := by
 have hIn : ∀ i, i ≤ n → I i (upto f i s) := by
  intro i
  induction i with
  | zero => intro _; exact h0
  | succ i ih => intro h; exact hI i _ (by omega) (ih (by omega))
 have key : ∀ k i, k + i = n → xgG step (k + 1) (mk i (upto f i s)) = some (m + 1, fin (upto f n s)) := by
  intro k
  induction k with
  | zero =>
   intro i hi
   obtain rfl : i = n := by omega
   exact xiu (he _ (hIn _ (Nat.le_refl _)))
  | succ k ih =>
   intro i hi
   exact xhS (hs i _ (by omega) (hIn i (by omega))) (ih (i + 1) (by omega))
 obtain ⟨h6, h7⟩ := xkX (key n 0 rfl)
 exact ⟨h6, h7, hIn n (Nat.le_refl _)⟩
theorem xxM {step : List U → Option (Nat × List U)} (n : Nat) (Inv : Nat → List U → Prop) (Post : Nat × List U → Prop)
  (hs : ∀ i xs, i < n → Inv i xs → (∃ ys, step xs = some (0, ys) ∧ Inv (i + 1) ys) ∨ ∃ m ys, step xs = some (m + 1, ys) ∧ Post (m + 1, ys))
  (he : ∀ xs, Inv n xs → ∃ m ys, step xs = some (m + 1, ys) ∧ Post (m + 1, ys)) {xs : List U} (h0 : Inv 0 xs) : xaH step xs ∧ Post (xaw step xs) := by
 have key : ∀ k i xs, k + i = n → Inv i xs → ∃ r, xgG step (k + 1) xs = some r ∧ Post r := by
  intro k
  induction k with
  | zero =>
   intro i xs hi h
   obtain rfl : i = n := by omega
   obtain ⟨m, ys, h1, h2⟩ := he _ h
   exact ⟨_, xiu h1, h2⟩
  | succ k ih =>
   intro i xs hi h
   rcases hs i xs (by omega) h with ⟨ys, h1, h2⟩ | ⟨m, ys, h1, h2⟩
   ·obtain ⟨r, h3, h4⟩ := ih (i + 1) ys (by omega) h2
    exact ⟨r, xhS h1 h3, h4⟩
   ·refine ⟨(m + 1, ys), ?_, h2⟩
    unfold xgG; rw [h1]
 obtain ⟨r, h1, h2⟩ := key n 0 xs rfl h0
 obtain ⟨h3, h4⟩ := xkX h1
 rw [h4]; exact ⟨h3, h2⟩
end Go.Sy
set_option linter.unusedVariables false
namespace Go.Sy
section
variable {α : Type} {le : α → α → Bool}
def insB (le : α → α → Bool) (x : α) : List α → List α
 | [] => [x]
 | y :: r => if le x y then x :: y :: r else y :: insB le x r
def xeY (le : α → α → Bool) : List α → List α
 | [] => []
 | x :: r => insB le x (xeY le r)
theorem xoX (x : α) : ∀ l : List α, (insB le x l).Perm (x :: l)
 | [] => .refl _
 | y :: r => by
  unfold insB
  split
  ·exact .refl _
  ·exact ((xoX x r).cons y).trans (.swap x y r)
theorem xgr : ∀ l : List α, (xeY le l).Perm l
 | [] => .refl _
 | x :: r => (xoX x _).trans ((xgr r).cons x)
theorem xoW (ht : ∀ a b, le a b = true ∨ le b a = true) (htr : ∀ a b c, le a b = true → le b c = true → le a c = true) (x : α) : ∀ l : List α, l.Pairwise (fun a b => le a b = true) → (insB le x l).Pairwise (fun a b => le a b = true)
 | [], _ => by simp [insB]
 | y :: r, h => by
  unfold insB
  have h1 := List.pairwise_cons.1 h
  split
  ·rename_i hxy
   refine List.pairwise_cons.2 ⟨fun z hz => ?_, h⟩
   rcases List.mem_cons.1 hz with rfl | hz
   ·exact hxy
   ·exact htr _ _ _ hxy (h1.1 z hz)
  ·rename_i hxy
   refine List.pairwise_cons.2 ⟨fun z hz => ?_, xoW ht htr x r h1.2⟩
   rcases List.mem_cons.1 ((xoX x r).mem_iff.1 hz) with rfl | hz
   ·exact (ht y z).resolve_right hxy
   ·exact h1.1 z hz
theorem xg2 (ht : ∀ a b, le a b = true ∨ le b a = true) (htr : ∀ a b c, le a b = true → le b c = true → le a c = true) : ∀ l : List α, (xeY le l).Pairwise (fun a b => le a b = true)
 | [] => List.Pairwise.nil
 | x :: r => xoW ht htr x _ (xg2 ht htr r)
theorem xjx (ht : ∀ a b, le a b = true ∨ le b a = true) (htr : ∀ a b c, le a b = true → le b c = true → le a c = true) {l l' : List α} (ha : ∀ a ∈ l, ∀ b ∈ l, le a b = true → le b a = true → a = b)
  (hp : l'.Perm l) (hs : l'.Pairwise (fun a b => le a b = true)) : l' = xeY le l :=
 List.Perm.eq_of_pairwise (le := fun a b => le a b = true) (fun a b h1 h2 h3 h4 => ha a (hp.mem_iff.1 h1) b ((xgr l).mem_iff.1 h2) h3 h4) hs (xg2 ht htr l) (hp.trans (xgr l).symm)
theorem xef (l : List α) : (xeY le l).length = l.length := (xgr l).length_eq
theorem xoV {l : List α} {x : α} : x ∈ xeY le l ↔ x ∈ l := (xgr l).mem_iff
end
def nums (l : List (List Int)) : List Int := l.map fun r => r.getD 0 0
def xcT (zs : List Int) : List (List Int) := zs.map fun z => [z]
def leI (x y : Int) : Bool := decide (x ≤ y)
theorem xsl (x y : Int) : leI x y = true ∨ leI y x = true := by simp [leI]; omega
theorem xsk (x y z : Int) (h : leI x y = true) (k : leI y z = true) : leI x z = true := by simp [leI] at *; omega
theorem xgD (zs : List Int) : nums (xcT zs) = zs := by
 unfold nums xcT
 rw [List.map_map]
 exact (List.map_congr_left fun z _ => rfl).trans (List.map_id _)
def xbf (l : List (List Int)) : List (List Int) := xcT (xeY leI (nums l))
def leL : List Nat → List Int → List Int → Bool
 | [], _, _ => true
 | k :: ks, a, b => if a.getD k 0 = b.getD k 0 then leL ks a b else decide (a.getD k 0 < b.getD k 0)
theorem xed : ∀ (ks : List Nat) (a b : List Int), leL ks a b = true ∨ leL ks b a = true
 | [], _, _ => .inl rfl
 | k :: ks, a, b => by
  unfold leL
  by_cases h : a.getD k 0 = b.getD k 0
  ·rw [if_pos h, if_pos h.symm]; exact xed ks a b
  ·rw [if_neg h, if_neg (Ne.symm h)]; simp only [decide_eq_true_eq]; omega
theorem xec : ∀ (ks : List Nat) (a b c : List Int), leL ks a b = true → leL ks b c = true → leL ks a c = true
 | [], _, _, _, _, _ => rfl
 | k :: ks, a, b, c, h, h' => by
  unfold leL at *
  by_cases e1 : a.getD k 0 = b.getD k 0
  ·by_cases e2 : b.getD k 0 = c.getD k 0
   ·rw [if_pos e1] at h; rw [if_pos e2] at h'; rw [if_pos (e1.trans e2)]; exact xec ks a b c h h'
   ·rw [if_neg e2] at h'; rw [e1, if_neg e2]; exact h'
  ·rw [if_neg e1] at h
   simp only [decide_eq_true_eq] at h
   by_cases e2 : b.getD k 0 = c.getD k 0
   ·rw [if_neg (by omega)]; simp only [decide_eq_true_eq]; omega
   ·rw [if_neg e2] at h'
    simp only [decide_eq_true_eq] at h'
    rw [if_neg (by omega)]; simp only [decide_eq_true_eq]; omega
theorem xn4 : ∀ (ks : List Nat) (a b : List Int), leL ks a b = true → leL ks b a = true → ∀ k ∈ ks, a.getD k 0 = b.getD k 0
 | [], _, _, _, _, _, hk => by cases hk
 | k :: ks, a, b, h, h', k', hk => by
  unfold leL at *
  by_cases e1 : a.getD k 0 = b.getD k 0
  ·rw [if_pos e1] at h; rw [if_pos e1.symm] at h'
   rcases List.mem_cons.1 hk with rfl | hk
   ·exact e1
   ·exact xn4 ks a b h h' k' hk
  ·rw [if_neg e1] at h; rw [if_neg (Ne.symm e1)] at h'
   simp only [decide_eq_true_eq] at h h'
   omega
def norm (n : Nat) (r : List Int) : List Int := (List.range n).map fun j => r.getD j 0
theorem xq3 (n : Nat) (r : List Int) {j : Nat} (h : j < n) : (norm n r).getD j 0 = r.getD j 0 := by
 simp [norm, List.getD_eq_getElem?_getD, h]
theorem xyZ {n : Nat} {r : List Int} (h : r.length = n) : norm n r = r := by
 apply List.ext_getElem?
 intro j
 by_cases hj : j < n
 ·simp [norm, hj, List.getD_eq_getElem?_getD, List.getElem?_eq_getElem (show j < r.length by omega)]
 ·rw [List.getElem?_eq_none (by simp [norm]; omega), List.getElem?_eq_none (by omega)]
theorem xxK {n : Nat} {a b : List Int} (h : ∀ j, j < n → a.getD j 0 = b.getD j 0) : norm n a = norm n b :=
 List.map_congr_left fun j hj => h j (List.mem_range.1 hj)
theorem xuJ : ∀ (ks : List CK) (m n : Nat) (r : List Int), m + ks.length ≤ n → elV ks m (norm n r) = elV ks m r
 | [], _, _, _, _ => rfl
 | k :: ks, m, n, r, h => by
  simp only [List.length_cons] at h
  unfold elV
  rw [xq3 n r (by omega), xuJ ks (m + 1) n r (by omega)]
theorem xv0 (ks : List CK) (l : List (List Int)) : rowV ks (l.map (norm ks.length)) = rowV ks l := by
 unfold rowV
 rw [List.flatMap_map]
 congr 1
 funext r
 exact xuJ ks 0 ks.length r (by omega)
def xaM (n : Nat) (keys : List Nat) (l : List (List Int)) : List (List Int) := xeY (leL keys) (l.map (norm n))
theorem xxL {n : Nat} {l : List (List Int)} (h : ∀ r ∈ l, r.length = n) : l.map (norm n) = l := by
 conv => rhs; rw [← List.map_id l]
 exact List.map_congr_left fun r hr => xyZ (h r hr)
def dd : Option Int → List Int → List Int
 | _, [] => []
 | p, x :: r => if p = some x then dd (some x) r else x :: dd (some x) r
theorem xxe (x : Int) : ∀ (l : List Int) (p : Option Int), dd p (l ++ [x]) = dd p l ++ (if l.getLast?.or p = some x then [] else [x])
 | [], p => by by_cases h : p = some x <;> simp [dd, h]
 | y :: r, p => by
  have ih := xxe x r (some y)
  have e : (y :: r).getLast?.or p = r.getLast?.or (some y) := by
   cases r with
   | nil => rfl
   | cons a b =>
    rw [List.getLast?_cons_cons]
    cases h : (a :: b).getLast? with
    | none => simp at h
    | some z => rfl
  rw [List.cons_append, e]
  unfold dd
  split
  ·exact ih
  ·rw [ih, List.cons_append]
theorem xlZ : ∀ (l : List Int) (p : Option Int), (dd p l).length ≤ l.length
 | [], _ => Nat.le_refl _
 | x :: r, p => by
  unfold dd
  have := xlZ r (some x)
  split <;> simp <;> omega
def xc9 (l : List (List Int)) : List (List Int) := xcT (dd none (nums l) ++ List.replicate ((nums l).length - (dd none (nums l)).length) 0)
def xem (l : List (List Int)) : Int := ((dd none (nums l)).length : Int)
end Go.Sy
set_option linter.unusedVariables false
namespace Go.Sy
section
variable {α : Type} (k : α → Int)
variable {k}
end
end Go.Sy
set_option linter.unusedVariables false
namespace Go.Sy
section
variable {α : Type}
variable (d : α)
variable {k : α → Int}
end
end Go.Sy
namespace Go.Proofs
open Go.Shelf
def Tryz.lays189_ren : Go.Shelf.Ren := ⟨fun | 189 => 93 | 125 => 116 | 257 => 115 | 128 => 132 | 129 => 133 | 294 => 123 | 295 => 124 | 296 => 125 | 297 => 126 | 298 => 127 | 299 => 128 | 216 => 129 | 300 => 130 | 301 => 131 | 328 => 143 | 329 => 144 | 330 => 145 | 331 => 146 | 332 => 147 | 215 => 121 | 343 => 159 | n => n, fun | 28 => 34 | 3 => 3 | 46 => 128 | 0 => 0 | 51 => 174 | 53 => 25 | 4 => 4 | 183 => 167 | 182 => 166 | 131 => 171 | 5 => 5 | 9 => 9 | 218 => 182 | 222 => 186 | 228 => 195 | 229 => 196 | n => n, fun | n => n⟩
theorem Tryz.lays189 : Go.Proofs.Lays.n189 Tryz.prog Tryz.lays189_ren := {
 mixed := by kernel_rfl
 f125 := Tryz.func116.trans (congrArg some (by kernel_rfl))
 f128 := Tryz.func132.trans (congrArg some (by kernel_rfl))
 f129 := Tryz.func133.trans (congrArg some (by kernel_rfl))
 f189 := Tryz.func93.trans (congrArg some (by kernel_rfl))
 f215 := Tryz.func121.trans (congrArg some (by kernel_rfl))
 f216 := Tryz.func129.trans (congrArg some (by kernel_rfl))
 f257 := Tryz.func115.trans (congrArg some (by kernel_rfl))
 f294 := Tryz.func123.trans (congrArg some (by kernel_rfl))
 f295 := Tryz.func124.trans (congrArg some (by kernel_rfl))
 f296 := Tryz.func125.trans (congrArg some (by kernel_rfl))
 f297 := Tryz.func126.trans (congrArg some (by kernel_rfl))
 f298 := Tryz.func127.trans (congrArg some (by kernel_rfl))
 f299 := Tryz.func128.trans (congrArg some (by kernel_rfl))
 f300 := Tryz.func130.trans (congrArg some (by kernel_rfl))
 f301 := Tryz.func131.trans (congrArg some (by kernel_rfl))
 f328 := Tryz.func143.trans (congrArg some (by kernel_rfl))
 f329 := Tryz.func144.trans (congrArg some (by kernel_rfl))
 f330 := Tryz.func145.trans (congrArg some (by kernel_rfl))
 f331 := Tryz.func146.trans (congrArg some (by kernel_rfl))
 f332 := Tryz.func147.trans (congrArg some (by kernel_rfl))
 f343 := Tryz.func159.trans (congrArg some (by kernel_rfl))
 t0 := Tryz.underlying0
 a0 := Tryz.isAgg0
 z0 := Tryz.sizeOf0
 v0 := Tryz.zeroValue0
 t3 := Tryz.underlying3
 a3 := Tryz.isAgg3
 z3 := Tryz.sizeOf3
 v3 := Tryz.zeroValue3
 t4 := Tryz.underlying4
 a4 := Tryz.isAgg4
 z4 := Tryz.sizeOf4
 v4 := Tryz.zeroValue4
 t5 := Tryz.underlying5
 a5 := Tryz.isAgg5
 z5 := Tryz.sizeOf5
 v5 := Tryz.zeroValue5
 t9 := Tryz.underlying9
 a9 := Tryz.isAgg9
 z9 := Tryz.sizeOf9
 v9 := Tryz.zeroValue9
 t28 := Tryz.underlying34
 a28 := Tryz.isAgg34
 z28 := Tryz.sizeOf34
 v28 := Tryz.zeroValue34
 t46 := Tryz.underlying128
 a46 := Tryz.isAgg128
 z46 := Tryz.sizeOf128
 v46 := Tryz.zeroValue128
 t51 := Tryz.underlying174
 a51 := Tryz.isAgg174
 z51 := Tryz.sizeOf174
 v51 := Tryz.zeroValue174
 t53 := Tryz.underlying25
 a53 := Tryz.isAgg25
 z53 := Tryz.sizeOf25
 v53 := Tryz.zeroValue25
 t131 := Tryz.underlying171
 a131 := Tryz.isAgg171
 z131 := Tryz.sizeOf171
 v131 := Tryz.zeroValue171
 t182 := Tryz.underlying166
 a182 := Tryz.isAgg166
 z182 := Tryz.sizeOf166
 v182 := Tryz.zeroValue166
 t183 := Tryz.underlying167
 a183 := Tryz.isAgg167
 z183 := Tryz.sizeOf167
 v183 := Tryz.zeroValue167
 t218 := Tryz.underlying182
 a218 := Tryz.isAgg182
 z218 := Tryz.sizeOf182
 v218 := Tryz.zeroValue182
 t222 := Tryz.underlying186
 a222 := Tryz.isAgg186
 z222 := Tryz.sizeOf186
 v222 := Tryz.zeroValue186
 t228 := Tryz.underlying195
 a228 := Tryz.isAgg195
 z228 := Tryz.sizeOf195
 v228 := Tryz.zeroValue195
 t229 := Tryz.underlying196
 a229 := Tryz.isAgg196
 z229 := Tryz.sizeOf196
 v229 := Tryz.zeroValue196 }
def Tryz.laysNm220_ren : Go.Shelf.Ren := ⟨fun | 20 => 94 | n => n, fun | 22 => 34 | 3 => 3 | 4 => 4 | 0 => 0 | n => n, fun | n => n⟩
theorem Tryz.laysNm220 : Go.Proofs.Lays2.n20 Tryz.prog Tryz.laysNm220_ren := {
 mixed := by kernel_rfl
 f20 := Tryz.func94.trans (congrArg some (by kernel_rfl))
 t0 := Tryz.underlying0
 a0 := Tryz.isAgg0
 z0 := Tryz.sizeOf0
 v0 := Tryz.zeroValue0
 t3 := Tryz.underlying3
 a3 := Tryz.isAgg3
 z3 := Tryz.sizeOf3
 v3 := Tryz.zeroValue3
 t4 := Tryz.underlying4
 a4 := Tryz.isAgg4
 z4 := Tryz.sizeOf4
 v4 := Tryz.zeroValue4
 t22 := Tryz.underlying34
 a22 := Tryz.isAgg34
 z22 := Tryz.sizeOf34
 v22 := Tryz.zeroValue34
 i3 := by kernel_rfl }
def Tryz.sortOm_ren : Go.Shelf.Ren := ⟨fun | 6 => 119 | 15 => 116 | 14 => 142 | 28 => 132 | 29 => 133 | 20 => 151 | 21 => 152 | 22 => 153 | 23 => 154 | 24 => 155 | 25 => 156 | 26 => 157 | 27 => 158 | 46 => 161 | 47 => 144 | 48 => 145 | 49 => 162 | 50 => 163 | 57 => 164 | n => n, fun | 22 => 54 | 24 => 80 | 25 => 109 | 3 => 3 | 39 => 128 | 0 => 0 | 53 => 174 | 55 => 25 | 4 => 4 | 46 => 167 | 45 => 166 | 50 => 171 | 5 => 5 | 9 => 9 | 66 => 182 | 70 => 186 | 76 => 195 | 77 => 196 | n => n, fun | n => n⟩
theorem Tryz.sortOm : Go.Proofs.SlLaysF0.n6 Tryz.prog Tryz.sortOm_ren := {
 mixed := by kernel_rfl
 f6 := ⟨Tryz.f119.name, by decide, Tryz.func119.trans (congrArg some (by kernel_rfl))⟩
 f14 := ⟨Tryz.f142.name, by decide, Tryz.func142.trans (congrArg some (by kernel_rfl))⟩
 f15 := Tryz.func116.trans (congrArg some (by kernel_rfl))
 f20 := ⟨Tryz.f151.name, by decide, Tryz.func151.trans (congrArg some (by kernel_rfl))⟩
 f21 := ⟨Tryz.f152.name, by decide, Tryz.func152.trans (congrArg some (by kernel_rfl))⟩
 f22 := ⟨Tryz.f153.name, by decide, Tryz.func153.trans (congrArg some (by kernel_rfl))⟩
 f23 := ⟨Tryz.f154.name, by decide, Tryz.func154.trans (congrArg some (by kernel_rfl))⟩
 f24 := ⟨Tryz.f155.name, by decide, Tryz.func155.trans (congrArg some (by kernel_rfl))⟩
 f25 := ⟨Tryz.f156.name, by decide, Tryz.func156.trans (congrArg some (by kernel_rfl))⟩
 f26 := ⟨Tryz.f157.name, by decide, Tryz.func157.trans (congrArg some (by kernel_rfl))⟩
 f27 := ⟨Tryz.f158.name, by decide, Tryz.func158.trans (congrArg some (by kernel_rfl))⟩
 f28 := Tryz.func132.trans (congrArg some (by kernel_rfl))
 f29 := Tryz.func133.trans (congrArg some (by kernel_rfl))
 f46 := ⟨Tryz.f161.name, by decide, Tryz.func161.trans (congrArg some (by kernel_rfl))⟩
 f47 := Tryz.func144.trans (congrArg some (by kernel_rfl))
 f48 := Tryz.func145.trans (congrArg some (by kernel_rfl))
 f49 := ⟨Tryz.f162.name, by decide, Tryz.func162.trans (congrArg some (by kernel_rfl))⟩
 f50 := ⟨Tryz.f163.name, by decide, Tryz.func163.trans (congrArg some (by kernel_rfl))⟩
 f57 := ⟨Tryz.f164.name, by decide, Tryz.func164.trans (congrArg some (by kernel_rfl))⟩
 t0 := Tryz.underlying0
 a0 := Tryz.isAgg0
 z0 := Tryz.sizeOf0
 v0 := Tryz.zeroValue0
 t3 := Tryz.underlying3
 a3 := Tryz.isAgg3
 z3 := Tryz.sizeOf3
 v3 := Tryz.zeroValue3
 t4 := Tryz.underlying4
 a4 := Tryz.isAgg4
 z4 := Tryz.sizeOf4
 v4 := Tryz.zeroValue4
 t5 := Tryz.underlying5
 a5 := Tryz.isAgg5
 z5 := Tryz.sizeOf5
 v5 := Tryz.zeroValue5
 t9 := Tryz.underlying9
 a9 := Tryz.isAgg9
 z9 := Tryz.sizeOf9
 v9 := Tryz.zeroValue9
 t22 := Tryz.underlying54
 a22 := Tryz.isAgg54
 z22 := Tryz.sizeOf54
 v22 := Tryz.zeroValue54
 t25 := Tryz.underlying109
 a25 := Tryz.isAgg109
 z25 := Tryz.sizeOf109
 v25 := Tryz.zeroValue109
 t39 := Tryz.underlying128
 a39 := Tryz.isAgg128
 z39 := Tryz.sizeOf128
 v39 := Tryz.zeroValue128
 t45 := Tryz.underlying166
 a45 := Tryz.isAgg166
 z45 := Tryz.sizeOf166
 v45 := Tryz.zeroValue166
 t46 := Tryz.underlying167
 a46 := Tryz.isAgg167
 z46 := Tryz.sizeOf167
 v46 := Tryz.zeroValue167
 t50 := Tryz.underlying171
 a50 := Tryz.isAgg171
 z50 := Tryz.sizeOf171
 v50 := Tryz.zeroValue171
 t53 := Tryz.underlying174
 a53 := Tryz.isAgg174
 z53 := Tryz.sizeOf174
 v53 := Tryz.zeroValue174
 t55 := Tryz.underlying25
 a55 := Tryz.isAgg25
 z55 := Tryz.sizeOf25
 v55 := Tryz.zeroValue25
 t66 := Tryz.underlying182
 a66 := Tryz.isAgg182
 z66 := Tryz.sizeOf182
 v66 := Tryz.zeroValue182
 t70 := Tryz.underlying186
 a70 := Tryz.isAgg186
 z70 := Tryz.sizeOf186
 v70 := Tryz.zeroValue186
 t76 := Tryz.underlying195
 a76 := Tryz.isAgg195
 z76 := Tryz.sizeOf195
 v76 := Tryz.zeroValue195
 t77 := Tryz.underlying196
 a77 := Tryz.isAgg196
 z77 := Tryz.sizeOf196
 v77 := Tryz.zeroValue196 }
def Tryz.sortGp_ren : Go.Shelf.Ren := ⟨fun | 6 => 97 | 15 => 116 | 14 => 118 | 28 => 132 | 29 => 133 | 20 => 134 | 21 => 135 | 22 => 136 | 23 => 137 | 24 => 138 | 25 => 139 | 26 => 140 | 27 => 141 | 46 => 148 | 47 => 144 | 48 => 145 | 49 => 149 | 50 => 150 | 57 => 160 | n => n, fun | 22 => 139 | 24 => 140 | 25 => 143 | 3 => 3 | 39 => 128 | 0 => 0 | 53 => 174 | 55 => 25 | 4 => 4 | 46 => 167 | 45 => 166 | 50 => 171 | 5 => 5 | 9 => 9 | 66 => 182 | 70 => 186 | 76 => 195 | 77 => 196 | n => n, fun | n => n⟩
theorem Tryz.sortGp : Go.Proofs.SlLaysF0.n6 Tryz.prog Tryz.sortGp_ren := {
 mixed := by kernel_rfl
 f6 := ⟨Tryz.f97.name, by decide, Tryz.func97.trans (congrArg some (by kernel_rfl))⟩
 f14 := ⟨Tryz.f118.name, by decide, Tryz.func118.trans (congrArg some (by kernel_rfl))⟩
 f15 := Tryz.func116.trans (congrArg some (by kernel_rfl))
 f20 := ⟨Tryz.f134.name, by decide, Tryz.func134.trans (congrArg some (by kernel_rfl))⟩
 f21 := ⟨Tryz.f135.name, by decide, Tryz.func135.trans (congrArg some (by kernel_rfl))⟩
 f22 := ⟨Tryz.f136.name, by decide, Tryz.func136.trans (congrArg some (by kernel_rfl))⟩
 f23 := ⟨Tryz.f137.name, by decide, Tryz.func137.trans (congrArg some (by kernel_rfl))⟩
 f24 := ⟨Tryz.f138.name, by decide, Tryz.func138.trans (congrArg some (by kernel_rfl))⟩
 f25 := ⟨Tryz.f139.name, by decide, Tryz.func139.trans (congrArg some (by kernel_rfl))⟩
 f26 := ⟨Tryz.f140.name, by decide, Tryz.func140.trans (congrArg some (by kernel_rfl))⟩
 f27 := ⟨Tryz.f141.name, by decide, Tryz.func141.trans (congrArg some (by kernel_rfl))⟩
 f28 := Tryz.func132.trans (congrArg some (by kernel_rfl))
 f29 := Tryz.func133.trans (congrArg some (by kernel_rfl))
 f46 := ⟨Tryz.f148.name, by decide, Tryz.func148.trans (congrArg some (by kernel_rfl))⟩
 f47 := Tryz.func144.trans (congrArg some (by kernel_rfl))
 f48 := Tryz.func145.trans (congrArg some (by kernel_rfl))
 f49 := ⟨Tryz.f149.name, by decide, Tryz.func149.trans (congrArg some (by kernel_rfl))⟩
 f50 := ⟨Tryz.f150.name, by decide, Tryz.func150.trans (congrArg some (by kernel_rfl))⟩
 f57 := ⟨Tryz.f160.name, by decide, Tryz.func160.trans (congrArg some (by kernel_rfl))⟩
 t0 := Tryz.underlying0
 a0 := Tryz.isAgg0
 z0 := Tryz.sizeOf0
 v0 := Tryz.zeroValue0
 t3 := Tryz.underlying3
 a3 := Tryz.isAgg3
 z3 := Tryz.sizeOf3
 v3 := Tryz.zeroValue3
 t4 := Tryz.underlying4
 a4 := Tryz.isAgg4
 z4 := Tryz.sizeOf4
 v4 := Tryz.zeroValue4
 t5 := Tryz.underlying5
 a5 := Tryz.isAgg5
 z5 := Tryz.sizeOf5
 v5 := Tryz.zeroValue5
 t9 := Tryz.underlying9
 a9 := Tryz.isAgg9
 z9 := Tryz.sizeOf9
 v9 := Tryz.zeroValue9
 t22 := Tryz.underlying139
 a22 := Tryz.isAgg139
 z22 := Tryz.sizeOf139
 v22 := Tryz.zeroValue139
 t25 := Tryz.underlying143
 a25 := Tryz.isAgg143
 z25 := Tryz.sizeOf143
 v25 := Tryz.zeroValue143
 t39 := Tryz.underlying128
 a39 := Tryz.isAgg128
 z39 := Tryz.sizeOf128
 v39 := Tryz.zeroValue128
 t45 := Tryz.underlying166
 a45 := Tryz.isAgg166
 z45 := Tryz.sizeOf166
 v45 := Tryz.zeroValue166
 t46 := Tryz.underlying167
 a46 := Tryz.isAgg167
 z46 := Tryz.sizeOf167
 v46 := Tryz.zeroValue167
 t50 := Tryz.underlying171
 a50 := Tryz.isAgg171
 z50 := Tryz.sizeOf171
 v50 := Tryz.zeroValue171
 t53 := Tryz.underlying174
 a53 := Tryz.isAgg174
 z53 := Tryz.sizeOf174
 v53 := Tryz.zeroValue174
 t55 := Tryz.underlying25
 a55 := Tryz.isAgg25
 z55 := Tryz.sizeOf25
 v55 := Tryz.zeroValue25
 t66 := Tryz.underlying182
 a66 := Tryz.isAgg182
 z66 := Tryz.sizeOf182
 v66 := Tryz.zeroValue182
 t70 := Tryz.underlying186
 a70 := Tryz.isAgg186
 z70 := Tryz.sizeOf186
 v70 := Tryz.zeroValue186
 t76 := Tryz.underlying195
 a76 := Tryz.isAgg195
 z76 := Tryz.sizeOf195
 v76 := Tryz.zeroValue195
 t77 := Tryz.underlying196
 a77 := Tryz.isAgg196
 z77 := Tryz.sizeOf196
 v77 := Tryz.zeroValue196 }
end Go.Proofs
set_option maxRecDepth 100000
set_option linter.unusedVariables false
namespace Go.Proofs.YtikhnofbbcmpeaaGreat
open Go Go.Sy
noncomputable def xiX (kind : Int) : Int :=
 bif kind == (2 : Int) then (2 : Int) else bif kind == (4 : Int) then bif kind == (4 : Int) then (3 : Int) else (0 : Int) else bif kind == (5 : Int) then (3 : Int) else (0 : Int)
noncomputable def xiW (kind : Int) : Int :=
 bif kind == (3 : Int) then (2 : Int) else bif kind == (4 : Int) then bif kind == (4 : Int) then (3 : Int) else (0 : Int) else bif kind == (5 : Int) then (3 : Int) else (0 : Int)
noncomputable def xbY (kind : Int) : Int :=
 bif kind == (1 : Int) then (1 : Int) else bif kind == (2 : Int) then (xiX kind) else (xiW kind)
noncomputable def xar (t : Int) : Bool :=
 decide (t ≥ (0 : Int)) && decide (t ≤ (10000000 : Int))
noncomputable def xeH (n : Int) : Bool :=
 decide (n ≥ (1 : Int)) && decide (n ≤ (10000 : Int))
noncomputable def xbQ (t kind n : Int) : Bool :=
 bif xbY kind == (0 : Int) then false else bif xbY kind == (3 : Int) then xar t && n == (0 : Int) else xar t && xeH n
noncomputable def xbh (owner kind : Int) : Bool :=
 (owner == (0 : Int)) == (xbY kind == (1 : Int))
noncomputable def xjX (list : List (List Int)) (y0 : List U) : Int :=
 (IntKind.u64.wrap (bXor IntKind.u64 (gi y0 0) (IntKind.u64.wrap ((list.getD (gi y0 1).toNat []).getD 0 (0 : Int))) * (11507291218515648293 : Int))).fdiv
 ((2 : Int) ^ min (Int.toNat (32 : Int)) IntKind.u64.bits)
noncomputable def xeC (list : List (List Int)) : List U :=
 [.i (IntKind.u64.wrap ((11400714819323198485 : Int) + IntKind.u64.wrap (↑list.length : Int))), .i ((0 : Int))]
noncomputable def xcO (list : List (List Int)) (y0 : List U) : Option (Nat × List U) :=
 (bif decide (gi y0 1 < (↑list.length : Int)) then xae (inR (gi y0 1) list) (xae (inR (gi y0 1) list) (xae ((0 : Int) ≤ (32 : Int)) (some (0, [.i (bXor IntKind.u64 (IntKind.u64.wrap (bXor IntKind.u64 (gi y0 0) (IntKind.u64.wrap ((list.getD (gi y0 1).toNat []).getD 0 (0 : Int))) * (11507291218515648293 : Int)))
 ((xjX list y0))), .i (IntKind.i64.wrap (gi y0 1 + (1 : Int)))])))) else some (2, [.i (gi y0 0), .i (gi y0 1)]))
noncomputable def xjY (list : List (List Int)) : Nat × List U := xaw (xcO list) (xeC list)
noncomputable def xeJ (list : List (List Int)) : Int :=
 gi (xjY list).snd 0
def xdG (list : List (List Int)) : Prop :=
 ((xaH (xcO list) (xeC list)))
noncomputable def xbW (owner last x_Time x_Kind x_Item x_Sum : Int) : Int :=
 xeJ [[owner], [IntKind.i64.wrap last], [x_Time], [x_Kind], [x_Item]]
def xbC (owner last x_Time x_Kind x_Item x_Sum : Int) : Prop :=
 (xdG [[owner], [IntKind.i64.wrap last], [x_Time], [x_Kind], [x_Item]])
noncomputable def xiY (l_Owner : Int) (l_Lines : List (List Int)) (y0 : List U) : Int :=
 xbW l_Owner (gi y0 2) ((l_Lines.getD (gi y0 4).toNat []).getD 0 (0 : Int)) ((l_Lines.getD (gi y0 4).toNat []).getD 1 (0 : Int))
 ((l_Lines.getD (gi y0 4).toNat []).getD 2 (0 : Int)) ((l_Lines.getD (gi y0 4).toNat []).getD 3 (0 : Int))
noncomputable def xei (l_Owner : Int) (l_Lines : List (List Int)) : List U :=
 [.b (false), .b (false), .i ((0 : Int)), .i ((0 : Int)), .i ((0 : Int))]
noncomputable def xbN (l_Owner : Int) (l_Lines : List (List Int)) (y0 : List U) : Option (Nat × List U) :=
 (bif decide (gi y0 4 < (↑l_Lines.length : Int)) then xae (inR (gi y0 4) l_Lines) (xae (inR (gi y0 4) l_Lines) (xae (((!xbQ ((l_Lines.getD (gi y0 4).toNat []).getD 0 (0 : Int)) ((l_Lines.getD (gi y0 4).toNat []).getD 1 (0 : Int))
     ((l_Lines.getD (gi y0 4).toNat []).getD 2 (0 : Int)) ||
   !xbh l_Owner ((l_Lines.getD (gi y0 4).toNat []).getD 1 (0 : Int)) ||
  decide ((l_Lines.getD (gi y0 4).toNat []).getD 0 (0 : Int) < gi y0 3)) =
 false) → (xbC l_Owner (gi y0 2) ((l_Lines.getD (gi y0 4).toNat []).getD 0 (0 : Int)) ((l_Lines.getD (gi y0 4).toNat []).getD 1 (0 : Int))
 ((l_Lines.getD (gi y0 4).toNat []).getD 2 (0 : Int)) ((l_Lines.getD (gi y0 4).toNat []).getD 3 (0 : Int)))) ((bif !xbQ ((l_Lines.getD (gi y0 4).toNat []).getD 0 (0 : Int)) ((l_Lines.getD (gi y0 4).toNat []).getD 1 (0 : Int))
     ((l_Lines.getD (gi y0 4).toNat []).getD 2 (0 : Int)) ||
   !xbh l_Owner ((l_Lines.getD (gi y0 4).toNat []).getD 1 (0 : Int)) ||
  decide ((l_Lines.getD (gi y0 4).toNat []).getD 0 (0 : Int) < gi y0 3) ||
 (l_Lines.getD (gi y0 4).toNat []).getD 3 (0 : Int) != (xiY l_Owner l_Lines y0) then some (1, []) else (bif xbY ((l_Lines.getD (gi y0 4).toNat []).getD 1 (0 : Int)) == (3 : Int) then (bif gb y0 1 == ((l_Lines.getD (gi y0 4).toNat []).getD 1 (0 : Int) == (4 : Int)) then some (2, []) else some (0, [.b (gb y0 0), .b (!gb y0 1), .i ((l_Lines.getD (gi y0 4).toNat []).getD 3 (0 : Int)), .i ((l_Lines.getD (gi y0 4).toNat []).getD 0 (0 : Int)), .i (IntKind.i64.wrap (gi y0 4 + (1 : Int)))])) else some (0, [.b (gb y0 0), .b (gb y0 1), .i ((l_Lines.getD (gi y0 4).toNat []).getD 3 (0 : Int)), .i ((l_Lines.getD (gi y0 4).toNat []).getD 0 (0 : Int)), .i (IntKind.i64.wrap (gi y0 4 + (1 : Int)))])))))) else some (5, [.b (gb y0 0), .b (gb y0 1), .i (gi y0 2), .i (gi y0 3), .i (gi y0 4)]))
noncomputable def xf7 (l_Owner : Int) (l_Lines : List (List Int)) : Nat × List U := xaw (xbN l_Owner l_Lines) (xei l_Owner l_Lines)
noncomputable def xad (l_Owner : Int) (l_Lines : List (List Int)) : Bool :=
 bif decide (l_Owner < (0 : Int)) || decide (l_Owner > (8 : Int)) || decide ((↑l_Lines.length : Int) > (200 : Int)) then false
else bif (xf7 l_Owner l_Lines).fst.beq 1 then false else bif (xf7 l_Owner l_Lines).fst.beq 2 then false else true
def xaz (l_Owner : Int) (l_Lines : List (List Int)) : Prop :=
 (((decide (l_Owner < (0 : Int)) || decide (l_Owner > (8 : Int)) || decide ((↑l_Lines.length : Int) > (200 : Int))) = false) → ((xaH (xbN l_Owner l_Lines) (xei l_Owner l_Lines))))
noncomputable def xfb (l_Owner t : Int) (l_Lines : List (List Int)) : List U :=
 [.i ((0 : Int)), .b (true)]
noncomputable def xc7 (l_Owner t : Int) (l_Lines : List (List Int)) (y0 : List U) : Option (Nat × List U) :=
 (bif decide (gi y0 0 < (↑l_Lines.length : Int)) then xae (inR (gi y0 0) l_Lines) (xae (inR (gi y0 0) l_Lines) ((bif decide ((l_Lines.getD (gi y0 0).toNat []).getD 0 (0 : Int) > t) == false then (bif xbY ((l_Lines.getD (gi y0 0).toNat []).getD 1 (0 : Int)) == (3 : Int) then some (0, [.i (IntKind.i64.wrap (gi y0 0 + (1 : Int))), .b ((l_Lines.getD (gi y0 0).toNat []).getD 1 (0 : Int) == (5 : Int))]) else some (0, [.i (IntKind.i64.wrap (gi y0 0 + (1 : Int))), .b (gb y0 1)])) else some (3, [.b (gb y0 1)])))) else some (4, [.i (gi y0 0), .b (gb y0 1)]))
noncomputable def xgj (l_Owner t : Int) (l_Lines : List (List Int)) : Nat × List U := xaw (xc7 l_Owner t l_Lines) (xfb l_Owner t l_Lines)
noncomputable def xaB (l_Owner t : Int) (l_Lines : List (List Int)) : Bool :=
 bif (xgj l_Owner t l_Lines).fst.beq 3 then gb (xgj l_Owner t l_Lines).snd 0 else gb (xgj l_Owner t l_Lines).snd 1
def xcq (l_Owner t : Int) (l_Lines : List (List Int)) : Prop :=
 ((xaH (xc7 l_Owner t l_Lines) (xfb l_Owner t l_Lines)))
noncomputable def xjC (l_Owner : Int) (l_Lines : List (List Int)) : Int :=
 bif decide ((↑l_Lines.length : Int) > (0 : Int)) then (l_Lines.getD (IntKind.i64.wrap ((↑l_Lines.length : Int) - (1 : Int))).toNat []).getD 0 (0 : Int) else (-1 : Int)
noncomputable def xaW (l_Owner : Int) (l_Lines : List (List Int)) : Int :=
 (xjC l_Owner l_Lines)
noncomputable def xjB (l_Owner : Int) (l_Lines : List (List Int)) : Int :=
 bif decide ((↑l_Lines.length : Int) > (0 : Int)) then (l_Lines.getD (IntKind.i64.wrap ((↑l_Lines.length : Int) - (1 : Int))).toNat []).getD 3 (0 : Int) else (0 : Int)
noncomputable def xaV (l_Owner : Int) (l_Lines : List (List Int)) : Int :=
 (xjB l_Owner l_Lines)
def xbH (l_Owner : Int) (l_Lines : List (List Int)) : Prop :=
 ((decide ((↑l_Lines.length : Int) > (0 : Int)) = true) → ((inR (IntKind.i64.wrap ((↑l_Lines.length : Int) - (1 : Int))) l_Lines) ∧ ((inR (IntKind.i64.wrap ((↑l_Lines.length : Int) - (1 : Int))) l_Lines) ∧ ((inR (IntKind.i64.wrap ((↑l_Lines.length : Int) - (1 : Int))) l_Lines) ∧ ((inR (IntKind.i64.wrap ((↑l_Lines.length : Int) - (1 : Int))) l_Lines) ∧ ((inR (IntKind.i64.wrap ((↑l_Lines.length : Int) - (1 : Int))) l_Lines) ∧ (inR (IntKind.i64.wrap ((↑l_Lines.length : Int) - (1 : Int))) l_Lines)))))))
noncomputable def xgc (office_Owner n t : Int) (office_Lines : List (List Int)) : List U :=
 [.i ((0 : Int)), .i ((0 : Int))]
noncomputable def xcM (office_Owner n t : Int) (office_Lines : List (List Int)) (y0 : List U) : Option (Nat × List U) :=
 (bif decide (gi y0 1 < (↑office_Lines.length : Int)) then xae (inR (gi y0 1) office_Lines) (xae (inR (gi y0 1) office_Lines) ((bif (office_Lines.getD (gi y0 1).toNat []).getD 2 (0 : Int) == n && (decide (t < (0 : Int)) || (office_Lines.getD (gi y0 1).toNat []).getD 0 (0 : Int) == t) then some (1, [.i (gi y0 1)]) else some (0, [.i (gi y0 0), .i (IntKind.i64.wrap (gi y0 1 + (1 : Int)))])))) else some (3, [.i (gi y0 0), .i (gi y0 1)]))
noncomputable def xjz (office_Owner n t : Int) (office_Lines : List (List Int)) : Nat × List U := xaw (xcM office_Owner n t office_Lines) (xgc office_Owner n t office_Lines)
noncomputable def xaE (office_Owner n t : Int) (office_Lines : List (List Int)) : Bool :=
 decide ((bif (xjz office_Owner n t office_Lines).fst.beq 1 then gi (xjz office_Owner n t office_Lines).snd 0 else (-1 : Int)) ≥ (0 : Int))
def xb6 (office_Owner n t : Int) (office_Lines : List (List Int)) : Prop :=
 ((xaH (xcM office_Owner n t office_Lines) (xgc office_Owner n t office_Lines)))
noncomputable def xdv (list : List (List Int)) : List U :=
 [.i ((0 : Int)), .i ((0 : Int))]
noncomputable def xbZ (list : List (List Int)) (y0 : List U) : Option (Nat × List U) :=
 (bif decide (gi y0 1 < (↑list.length : Int)) then xae (inR (gi y0 1) list) (xae (inR (gi y0 1) list) ((bif !xar ((list.getD (gi y0 1).toNat []).getD 2 (0 : Int)) || !xeH ((list.getD (gi y0 1).toNat []).getD 1 (0 : Int)) ||
  decide ((list.getD (gi y0 1).toNat []).getD 0 (0 : Int) < (1 : Int)) ||
 decide ((list.getD (gi y0 1).toNat []).getD 0 (0 : Int) > (8 : Int)) then some (1, [.i (gi y0 1)]) else some (0, [.i (gi y0 0), .i (IntKind.i64.wrap (gi y0 1 + (1 : Int)))])))) else some (3, [.i (gi y0 0), .i (gi y0 1)]))
noncomputable def xfc (list : List (List Int)) : Nat × List U := xaw (xbZ list) (xdv list)
noncomputable def xau (list : List (List Int)) : Bool :=
 decide ((↑list.length : Int) ≤ (200 : Int)) && !decide ((bif (xfc list).fst.beq 1 then gi (xfc list).snd 0 else (-1 : Int)) ≥ (0 : Int))
def xbq (list : List (List Int)) : Prop :=
 ((decide ((↑list.length : Int) ≤ (200 : Int)) = true) → ((xaH (xbZ list) (xdv list))))
end Go.Proofs.YtikhnofbbcmpeaaGreat
set_option maxRecDepth 100000
set_option linter.unusedVariables false
namespace Go.Proofs.YtikhnofbbcmpeaaGreat
open Go Go.Sy
noncomputable def K0 : Con := Con.none
theorem xA9 : xbm Tryz.prog K0 := xvy _
theorem xmA (kind : Int) : xat Tryz.prog 0 (xa6 Tryz.prog K0 xde 9 47 [.int .i64 kind] ⟨[], 0⟩) = some ⟨none, [], 0, [], .int .i64 (xbY kind)⟩ := by kernel_rfl
noncomputable def xhW : List U → Option Eff
 | [.i kind] => some ⟨none, [], 0, [], .int .i64 (xbY kind)⟩
 | _ => Option.none
noncomputable def K1 : Con := ext Tryz.prog K0 47 [.int .i64 0] [] xhW
theorem xA8 : xbm Tryz.prog K1 := xav xaD xA9 (n := 9) rfl rfl fun us x h => by
 unfold xhW at h
 split at h
 ·cases h; exact ⟨none, xmA _, fun _ => trivial⟩
 ·cases h
theorem xnN (t : Int) : xat Tryz.prog 0 (xa6 Tryz.prog K1 xde 9 50 [.int .i64 t] ⟨[], 0⟩) = some ⟨none, [], 0, [], .bool (xar t)⟩ := by kernel_rfl
noncomputable def xiQ : List U → Option Eff
 | [.i t] => some ⟨none, [], 0, [], .bool (xar t)⟩
 | _ => Option.none
noncomputable def K2 : Con := ext Tryz.prog K1 50 [.int .i64 0] [] xiQ
theorem xA7 : xbm Tryz.prog K2 := xav xaD xA8 (n := 9) rfl rfl fun us x h => by
 unfold xiQ at h
 split at h
 ·cases h; exact ⟨none, xnN _, fun _ => trivial⟩
 ·cases h
theorem xnR (n : Int) : xat Tryz.prog 0 (xa6 Tryz.prog K2 xde 9 87 [.int .i64 n] ⟨[], 0⟩) = some ⟨none, [], 0, [], .bool (xeH n)⟩ := by kernel_rfl
noncomputable def xiV : List U → Option Eff
 | [.i n] => some ⟨none, [], 0, [], .bool (xeH n)⟩
 | _ => Option.none
noncomputable def K3 : Con := ext Tryz.prog K2 87 [.int .i64 0] [] xiV
theorem xA6 : xbm Tryz.prog K3 := xav xaD xA7 (n := 9) rfl rfl fun us x h => by
 unfold xiV at h
 split at h
 ·cases h; exact ⟨none, xnR _, fun _ => trivial⟩
 ·cases h
theorem xnP (t kind n : Int) : xat Tryz.prog 0 (xa6 Tryz.prog K3 xde 9 44 [.int .i64 t, .int .i64 kind, .int .i64 n] ⟨[], 0⟩) = some ⟨none, [], 0, [], .bool (xbQ t kind n)⟩ := by kernel_rfl
noncomputable def xiT : List U → Option Eff
 | [.i t, .i kind, .i n] => some ⟨none, [], 0, [], .bool (xbQ t kind n)⟩
 | _ => Option.none
noncomputable def K4 : Con := ext Tryz.prog K3 44 [.int .i64 0, .int .i64 0, .int .i64 0] [] xiT
theorem xA5 : xbm Tryz.prog K4 := xav xaD xA6 (n := 9) rfl rfl fun us x h => by
 unfold xiT at h
 split at h
 ·cases h; exact ⟨none, xnP _ _ _, fun _ => trivial⟩
 ·cases h
theorem xoZ (owner kind : Int) : xat Tryz.prog 0 (xa6 Tryz.prog K4 xde 9 45 [.int .i64 owner, .int .i64 kind] ⟨[], 0⟩) = some ⟨none, [], 0, [], .bool (xbh owner kind)⟩ := by kernel_rfl
noncomputable def xjA : List U → Option Eff
 | [.i owner, .i kind] => some ⟨none, [], 0, [], .bool (xbh owner kind)⟩
 | _ => Option.none
noncomputable def K5 : Con := ext Tryz.prog K4 45 [.int .i64 0, .int .i64 0] [] xjA
theorem xA4 : xbm Tryz.prog K5 := xav xaD xA5 (n := 9) rfl rfl fun us x h => by
 unfold xjA at h
 split at h
 ·cases h; exact ⟨none, xoZ _ _, fun _ => trivial⟩
 ·cases h
theorem xn0 (list : List (List Int)) : xat Tryz.prog 1 (xa6 Tryz.prog K5 xde 9 48 [.sl 0] ⟨[⟨0, 1, false, .row 3 [.int .i64] list⟩], 1⟩) = some ⟨some (xdG list), [], 0, [], .int .u64 (xeJ list)⟩ := by kernel_rfl
noncomputable def xi9 : List U → Option Eff
 | [.r list] => some ⟨some (xdG list), [], 0, [], .int .u64 (xeJ list)⟩
 | _ => Option.none
noncomputable def K6 : Con := ext Tryz.prog K5 48 [.sl 0] [⟨0, 0, false, .row 3 [.int .i64] []⟩] xi9
theorem xA3 : xbm Tryz.prog K6 := xav xaD xA4 (n := 9) rfl rfl fun us x h => by
 unfold xi9 at h
 split at h
 ·cases h; exact ⟨some (xdG _), xn0 _, fun h => h⟩
 ·cases h
theorem xoY (owner last x_Time x_Kind x_Item x_Sum : Int) : xat Tryz.prog 0 (xa6 Tryz.prog K6 xde 9 46 [.int .i64 owner, .int .u64 last, .agg [.int .i64 x_Time, .int .i64 x_Kind, .int .i64 x_Item, .int .u64 x_Sum]] ⟨[], 0⟩) = some ⟨some (xbC owner last x_Time x_Kind x_Item x_Sum), [], 0, [], .int .u64 (xbW owner last x_Time x_Kind x_Item x_Sum)⟩ := by kernel_rfl
noncomputable def xjy : List U → Option Eff
 | [.i owner, .i last, .i x_Time, .i x_Kind, .i x_Item, .i x_Sum] => some ⟨some (xbC owner last x_Time x_Kind x_Item x_Sum), [], 0, [], .int .u64 (xbW owner last x_Time x_Kind x_Item x_Sum)⟩
 | _ => Option.none
noncomputable def K7 : Con := ext Tryz.prog K6 46 [.int .i64 0, .int .u64 0, .agg [.int .i64 0, .int .i64 0, .int .i64 0, .int .u64 0]] [] xjy
theorem xA2 : xbm Tryz.prog K7 := xav xaD xA3 (n := 9) rfl rfl fun us x h => by
 unfold xjy at h
 split at h
 ·cases h; exact ⟨some (xbC _ _ _ _ _ _), xoY _ _ _ _ _ _, fun h => h⟩
 ·cases h
theorem xmD (l_Owner : Int) (l_Lines : List (List Int)) : xat Tryz.prog 1 (xa6 Tryz.prog K7 xde 9 13 [.agg [.int .i64 l_Owner, .sl 0]] ⟨[⟨0, 1, false, .row 29 [.int .i64, .int .i64, .int .i64, .int .u64] l_Lines⟩], 1⟩) = some ⟨some (xaz l_Owner l_Lines), [], 0, [], .bool (xad l_Owner l_Lines)⟩ := by kernel_rfl
noncomputable def xh4 : List U → Option Eff
 | [.i l_Owner, .r l_Lines] => some ⟨some (xaz l_Owner l_Lines), [], 0, [], .bool (xad l_Owner l_Lines)⟩
 | _ => Option.none
noncomputable def K8 : Con := ext Tryz.prog K7 13 [.agg [.int .i64 0, .sl 0]] [⟨0, 0, false, .row 29 [.int .i64, .int .i64, .int .i64, .int .u64] []⟩] xh4
theorem xA1 : xbm Tryz.prog K8 := xav xaD xA2 (n := 9) rfl rfl fun us x h => by
 unfold xh4 at h
 split at h
 ·cases h; exact ⟨some (xaz _ _), xmD _ _, fun h => h⟩
 ·cases h
theorem xpN (l_Owner t : Int) (l_Lines : List (List Int)) : xat Tryz.prog 1 (xa6 Tryz.prog K8 xde 9 52 [.agg [.int .i64 l_Owner, .sl 0], .int .i64 t] ⟨[⟨0, 1, false, .row 29 [.int .i64, .int .i64, .int .i64, .int .u64] l_Lines⟩], 1⟩) = some ⟨some (xcq l_Owner t l_Lines), [], 0, [], .bool (xaB l_Owner t l_Lines)⟩ := by kernel_rfl
noncomputable def xko : List U → Option Eff
 | [.i l_Owner, .i t, .r l_Lines] => some ⟨some (xcq l_Owner t l_Lines), [], 0, [], .bool (xaB l_Owner t l_Lines)⟩
 | _ => Option.none
noncomputable def K9 : Con := ext Tryz.prog K8 52 [.agg [.int .i64 0, .sl 0], .int .i64 0] [⟨0, 0, false, .row 29 [.int .i64, .int .i64, .int .i64, .int .u64] []⟩] xko
theorem xA0 : xbm Tryz.prog K9 := xav xaD xA1 (n := 9) rfl rfl fun us x h => by
 unfold xko at h
 split at h
 ·cases h; exact ⟨some (xcq _ _ _), xpN _ _ _, fun h => h⟩
 ·cases h
theorem xnQ (l_Owner : Int) (l_Lines : List (List Int)) : xat Tryz.prog 1 (xa6 Tryz.prog K9 xde 9 73 [.agg [.int .i64 l_Owner, .sl 0]] ⟨[⟨0, 1, false, .row 29 [.int .i64, .int .i64, .int .i64, .int .u64] l_Lines⟩], 1⟩) = some ⟨some (xbH l_Owner l_Lines), [], 0, [], .tup [.int .i64 (xaW l_Owner l_Lines), .int .u64 (xaV l_Owner l_Lines)]⟩ := by kernel_rfl
noncomputable def xiU : List U → Option Eff
 | [.i l_Owner, .r l_Lines] => some ⟨some (xbH l_Owner l_Lines), [], 0, [], .tup [.int .i64 (xaW l_Owner l_Lines), .int .u64 (xaV l_Owner l_Lines)]⟩
 | _ => Option.none
noncomputable def K10 : Con := ext Tryz.prog K9 73 [.agg [.int .i64 0, .sl 0]] [⟨0, 0, false, .row 29 [.int .i64, .int .i64, .int .i64, .int .u64] []⟩] xiU
theorem xAN : xbm Tryz.prog K10 := xav xaD xA0 (n := 9) rfl rfl fun us x h => by
 unfold xiU at h
 split at h
 ·cases h; exact ⟨some (xbH _ _), xnQ _ _, fun h => h⟩
 ·cases h
theorem xnO (office_Owner n t : Int) (office_Lines : List (List Int)) : xat Tryz.prog 1 (xa6 Tryz.prog K10 xde 9 51 [.agg [.int .i64 office_Owner, .sl 0], .int .i64 n, .int .i64 t] ⟨[⟨0, 1, false, .row 29 [.int .i64, .int .i64, .int .i64, .int .u64] office_Lines⟩], 1⟩) = some ⟨some (xb6 office_Owner n t office_Lines), [], 0, [], .bool (xaE office_Owner n t office_Lines)⟩ := by kernel_rfl
noncomputable def xiS : List U → Option Eff
 | [.i office_Owner, .i n, .i t, .r office_Lines] => some ⟨some (xb6 office_Owner n t office_Lines), [], 0, [], .bool (xaE office_Owner n t office_Lines)⟩
 | _ => Option.none
noncomputable def K11 : Con := ext Tryz.prog K10 51 [.agg [.int .i64 0, .sl 0], .int .i64 0, .int .i64 0] [⟨0, 0, false, .row 29 [.int .i64, .int .i64, .int .i64, .int .u64] []⟩] xiS
theorem xAM : xbm Tryz.prog K11 := xav xaD xAN (n := 9) rfl rfl fun us x h => by
 unfold xiS at h
 split at h
 ·cases h; exact ⟨some (xb6 _ _ _ _), xnO _ _ _ _, fun h => h⟩
 ·cases h
theorem xk0 (list : List (List Int)) : xat Tryz.prog 1 (xa6 Tryz.prog K11 xde 9 49 [.sl 0] ⟨[⟨0, 1, false, .row 41 [.int .i64, .int .i64, .int .i64] list⟩], 1⟩) = some ⟨some (xbq list), [], 0, [], .bool (xau list)⟩ := by kernel_rfl
noncomputable def xgJ : List U → Option Eff
 | [.r list] => some ⟨some (xbq list), [], 0, [], .bool (xau list)⟩
 | _ => Option.none
noncomputable def K12 : Con := ext Tryz.prog K11 49 [.sl 0] [⟨0, 0, false, .row 41 [.int .i64, .int .i64, .int .i64] []⟩] xgJ
theorem xAL : xbm Tryz.prog K12 := xav xaD xAM (n := 9) rfl rfl fun us x h => by
 unfold xgJ at h
 split at h
 ·cases h; exact ⟨some (xbq _), xk0 _, fun h => h⟩
 ·cases h
end Go.Proofs.YtikhnofbbcmpeaaGreat
set_option maxRecDepth 100000
set_option linter.unusedVariables false
namespace Go.Proofs.YtikhnofbbcmpeaaGreat
open Go Go.Sy
noncomputable def xhe (x y : Int) : Int :=
 bif x != x then bif y != y then (0 : Int) else (-1 : Int) else bif y != y then (1 : Int) else bif decide (x < y) then (-1 : Int) else bif decide (x > y) then (1 : Int) else (0 : Int)
noncomputable def xaj (x y : Int) : Int :=
 (xhe x y)
noncomputable def xfn (vals : List (List Int)) : List U :=
 [.i ((0 : Int)), .i ((0 : Int))]
noncomputable def xda (vals : List (List Int)) (y0 : List U) : Option (Nat × List U) :=
 (bif decide (gi y0 1 < (↑vals.length : Int)) then xae (inR (gi y0 1) vals) (xae (inR (gi y0 1) vals) ((bif (vals.getD (gi y0 1).toNat []).getD 0 (0 : Int) != (0 : Int) then some (1, [.i ((vals.getD (gi y0 1).toNat []).getD 0 (0 : Int))]) else some (0, [.i (gi y0 0), .i (IntKind.i64.wrap (gi y0 1 + (1 : Int)))])))) else some (3, [.i (gi y0 0), .i (gi y0 1)]))
noncomputable def xiG (vals : List (List Int)) : Nat × List U := xaw (xda vals) (xfn vals)
noncomputable def xeV (vals : List (List Int)) : Int :=
 bif (xiG vals).fst.beq 1 then gi (xiG vals).snd 0 else (0 : Int)
def xdM (vals : List (List Int)) : Prop :=
 ((xaH (xda vals) (xfn vals)))
noncomputable def xeh (a_Ship a_Item b_Ship b_Item : Int) : Int :=
 xeV [[xaj a_Ship b_Ship], [xaj a_Item b_Item]]
def xcW (a_Ship a_Item b_Ship b_Item : Int) : Prop :=
 (xdM [[xaj a_Ship b_Ship], [xaj a_Item b_Item]])
noncomputable def xcX (a_Kind a_Ship a_Item b_Kind b_Ship b_Item : Int) : Int :=
 xeV [[xaj a_Kind b_Kind], [xaj a_Ship b_Ship], [xaj a_Item b_Item]]
def xbK (a_Kind a_Ship a_Item b_Kind b_Ship b_Item : Int) : Prop :=
 (xdM [[xaj a_Kind b_Kind], [xaj a_Ship b_Ship], [xaj a_Item b_Item]])
noncomputable def xfg (g_Gap_Ship g_Gap_Item : Int) (g_sent g_on : Bool) (h_Gap_Ship h_Gap_Item : Int) (h_sent h_on : Bool) : Bool :=
 !(g_Gap_Ship == h_Gap_Ship && (g_Gap_Item == h_Gap_Item && true)) && !(g_sent && h_sent && g_Gap_Item == h_Gap_Item) && !(g_on && h_on && g_Gap_Ship == h_Gap_Ship)
noncomputable def xfH (g_Gap_Ship g_Gap_Item : Int) (g_sent g_on : Bool) (o_Kind o_Ship o_Item : Int) : Bool :=
 bif o_Kind == (1 : Int) && (o_Ship == (0 : Int) && (o_Item == g_Gap_Item && true)) then g_sent
else bif o_Kind == (2 : Int) && (o_Ship == g_Gap_Ship && (o_Item == (0 : Int) && true)) then g_on else o_Kind == (3 : Int) && (o_Ship == g_Gap_Ship && (o_Item == g_Gap_Item && true))
end Go.Proofs.YtikhnofbbcmpeaaGreat
set_option maxRecDepth 100000
set_option linter.unusedVariables false
namespace Go.Proofs.YtikhnofbbcmpeaaGreat
open Go Go.Sy
theorem xla (x y : Int) : xat Tryz.prog 0 (xa6 Tryz.prog K12 xde 9 100 [.int .i64 x, .int .i64 y] ⟨[], 0⟩) = some ⟨none, [], 0, [], .int .i64 (xaj x y)⟩ := by kernel_rfl
noncomputable def xgT : List U → Option Eff
 | [.i x, .i y] => some ⟨none, [], 0, [], .int .i64 (xaj x y)⟩
 | _ => Option.none
noncomputable def K13 : Con := ext Tryz.prog K12 100 [.int .i64 0, .int .i64 0] [] xgT
theorem xAK : xbm Tryz.prog K13 := xav xaD xAL (n := 9) rfl rfl fun us x h => by
 unfold xgT at h
 split at h
 ·cases h; exact ⟨none, xla _ _, fun _ => trivial⟩
 ·cases h
theorem xpU (vals : List (List Int)) : xat Tryz.prog 1 (xa6 Tryz.prog K13 xde 9 102 [.sl 0] ⟨[⟨0, 1, false, .row 3 [.int .i64] vals⟩], 1⟩) = some ⟨some (xdM vals), [], 0, [], .int .i64 (xeV vals)⟩ := by kernel_rfl
noncomputable def xkE : List U → Option Eff
 | [.r vals] => some ⟨some (xdM vals), [], 0, [], .int .i64 (xeV vals)⟩
 | _ => Option.none
noncomputable def K14 : Con := ext Tryz.prog K13 102 [.sl 0] [⟨0, 0, false, .row 3 [.int .i64] []⟩] xkE
theorem xAJ : xbm Tryz.prog K14 := xav xaD xAK (n := 9) rfl rfl fun us x h => by
 unfold xkE at h
 split at h
 ·cases h; exact ⟨some (xdM _), xpU _, fun h => h⟩
 ·cases h
theorem xmz (a_Ship a_Item b_Ship b_Item : Int) : xat Tryz.prog 0 (xa6 Tryz.prog K14 xde 9 66 [.agg [.int .i64 a_Ship, .int .i64 a_Item], .agg [.int .i64 b_Ship, .int .i64 b_Item]] ⟨[], 0⟩) = some ⟨some (xcW a_Ship a_Item b_Ship b_Item), [], 0, [], .int .i64 (xeh a_Ship a_Item b_Ship b_Item)⟩ := by kernel_rfl
noncomputable def xhU : List U → Option Eff
 | [.i a_Ship, .i a_Item, .i b_Ship, .i b_Item] => some ⟨some (xcW a_Ship a_Item b_Ship b_Item), [], 0, [], .int .i64 (xeh a_Ship a_Item b_Ship b_Item)⟩
 | _ => Option.none
noncomputable def K15 : Con := ext Tryz.prog K14 66 [.agg [.int .i64 0, .int .i64 0], .agg [.int .i64 0, .int .i64 0]] [] xhU
theorem xAI : xbm Tryz.prog K15 := xav xaD xAJ (n := 9) rfl rfl fun us x h => by
 unfold xhU at h
 split at h
 ·cases h; exact ⟨some (xcW _ _ _ _), xmz _ _ _ _, fun h => h⟩
 ·cases h
theorem xkZ (a_Kind a_Ship a_Item b_Kind b_Ship b_Item : Int) : xat Tryz.prog 0 (xa6 Tryz.prog K15 xde 9 64 [.agg [.int .i64 a_Kind, .int .i64 a_Ship, .int .i64 a_Item], .agg [.int .i64 b_Kind, .int .i64 b_Ship, .int .i64 b_Item]] ⟨[], 0⟩) = some ⟨some (xbK a_Kind a_Ship a_Item b_Kind b_Ship b_Item), [], 0, [], .int .i64 (xcX a_Kind a_Ship a_Item b_Kind b_Ship b_Item)⟩ := by kernel_rfl
noncomputable def xgI : List U → Option Eff
 | [.i a_Kind, .i a_Ship, .i a_Item, .i b_Kind, .i b_Ship, .i b_Item] => some ⟨some (xbK a_Kind a_Ship a_Item b_Kind b_Ship b_Item), [], 0, [], .int .i64 (xcX a_Kind a_Ship a_Item b_Kind b_Ship b_Item)⟩
 | _ => Option.none
noncomputable def K16 : Con := ext Tryz.prog K15 64 [.agg [.int .i64 0, .int .i64 0, .int .i64 0], .agg [.int .i64 0, .int .i64 0, .int .i64 0]] [] xgI
theorem xAH : xbm Tryz.prog K16 := xav xaD xAI (n := 9) rfl rfl fun us x h => by
 unfold xgI at h
 split at h
 ·cases h; exact ⟨some (xbK _ _ _ _ _ _), xkZ _ _ _ _ _ _, fun h => h⟩
 ·cases h
theorem xmB (g_Gap_Ship g_Gap_Item : Int) (g_sent g_on : Bool) (h_Gap_Ship h_Gap_Item : Int) (h_sent h_on : Bool) : xat Tryz.prog 0 (xa6 Tryz.prog K16 xde 9 72 [.agg [.int .i64 g_Gap_Ship, .int .i64 g_Gap_Item, .bool g_sent, .bool g_on], .agg [.int .i64 h_Gap_Ship, .int .i64 h_Gap_Item, .bool h_sent, .bool h_on]] ⟨[], 0⟩) = some ⟨none, [], 0, [], .bool (xfg g_Gap_Ship g_Gap_Item g_sent g_on h_Gap_Ship h_Gap_Item h_sent h_on)⟩ := by kernel_rfl
noncomputable def xhX : List U → Option Eff
 | [.i g_Gap_Ship, .i g_Gap_Item, .b g_sent, .b g_on, .i h_Gap_Ship, .i h_Gap_Item, .b h_sent, .b h_on] => some ⟨none, [], 0, [], .bool (xfg g_Gap_Ship g_Gap_Item g_sent g_on h_Gap_Ship h_Gap_Item h_sent h_on)⟩
 | _ => Option.none
noncomputable def K17 : Con := ext Tryz.prog K16 72 [.agg [.int .i64 0, .int .i64 0, .bool false, .bool false], .agg [.int .i64 0, .int .i64 0, .bool false, .bool false]] [] xhX
theorem xAG : xbm Tryz.prog K17 := xav xaD xAH (n := 9) rfl rfl fun us x h => by
 unfold xhX at h
 split at h
 ·cases h; exact ⟨none, xmB _ _ _ _ _ _ _ _, fun _ => trivial⟩
 ·cases h
theorem xkY (g_Gap_Ship g_Gap_Item : Int) (g_sent g_on : Bool) (o_Kind o_Ship o_Item : Int) : xat Tryz.prog 0 (xa6 Tryz.prog K17 xde 9 68 [.agg [.int .i64 g_Gap_Ship, .int .i64 g_Gap_Item, .bool g_sent, .bool g_on], .agg [.int .i64 o_Kind, .int .i64 o_Ship, .int .i64 o_Item]] ⟨[], 0⟩) = some ⟨none, [], 0, [], .bool (xfH g_Gap_Ship g_Gap_Item g_sent g_on o_Kind o_Ship o_Item)⟩ := by kernel_rfl
noncomputable def xgH : List U → Option Eff
 | [.i g_Gap_Ship, .i g_Gap_Item, .b g_sent, .b g_on, .i o_Kind, .i o_Ship, .i o_Item] => some ⟨none, [], 0, [], .bool (xfH g_Gap_Ship g_Gap_Item g_sent g_on o_Kind o_Ship o_Item)⟩
 | _ => Option.none
noncomputable def K18 : Con := ext Tryz.prog K17 68 [.agg [.int .i64 0, .int .i64 0, .bool false, .bool false], .agg [.int .i64 0, .int .i64 0, .int .i64 0]] [] xgH
theorem xyF : xbm Tryz.prog K18 := xav xaD xAG (n := 9) rfl rfl fun us x h => by
 unfold xgH at h
 split at h
 ·cases h; exact ⟨none, xkY _ _ _ _ _ _ _, fun _ => trivial⟩
 ·cases h
end Go.Proofs.YtikhnofbbcmpeaaGreat
set_option linter.unusedVariables false
namespace Go.Proofs.YtikhnofbbcmpeaaGreat
open Go Go.Sy Go.Proofs Go.RowKit Go.Sort
theorem cmpC (a b : Int) : xaj a b = if a < b then -1 else if b < a then 1 else 0 := by
 unfold xaj xhe
 simp only [bne_self_eq_false, cond_false]
 by_cases h : a < b
 ·simp [h]
 ·by_cases h2 : b < a
  ·simp [h, h2]
  ·simp [h, h2]
def orL : List Int → Int
 | [] => 0
 | a :: r => if a = 0 then orL r else a
theorem xul : ∀ {l : List Int}, (∀ x ∈ l, x = 0) → orL l = 0
 | [], _ => rfl
 | a :: r, h => by unfold orL; rw [if_pos (h a (by simp))]; exact xul fun x hx => h x (by simp [hx])
theorem xyi : ∀ {l : List Int} {i : Nat}, i < l.length → (∀ j, j < i → l.getD j 0 = 0) → l.getD i 0 ≠ 0 → orL l = l.getD i 0
 | [], i, h, _, _ => by cases h
 | a :: r, 0, _, _, h => by
  have h : a ≠ 0 := h
  unfold orL; rw [if_neg h]; rfl
 | a :: r, i + 1, h, h1, h2 => by
  have h0 : a = 0 := h1 0 (by omega)
  unfold orL
  rw [if_pos h0]
  exact xyi (by simpa using h) (fun j hj => h1 (j + 1) (by omega)) h2
theorem xzF {v : List (List Int)} (hv : v.length < 4611686018427387904) : xdM v ∧ xeV v = orL (v.map fun r => r.getD 0 0) := by
 have eg : ∀ i, (v.map fun r => r.getD 0 0).getD i 0 = (v.getD i []).getD 0 0 := fun i => by
  simp only [List.getD_eq_getElem?_getD, List.getElem?_map]
  cases v[i]? <;> rfl
 have key := xfG (step := xda v) v.length (fun i => (v.getD i []).getD 0 0 != 0) (fun i => [.i 0, .i i]) (fun i => [.i ((v.getD i []).getD 0 0)]) 0 2 [.i 0, .i v.length]
  (fun i hi => by
   unfold xda
   simp only [gi_1, gi_z, dlt hi, xaa (xa0 hi), xog (show i < 4611686018427387904 by omega), Int.toNat_natCast])
  (by
   unfold xda
   simp only [gi_1, gi_z, dnlt])
 obtain ⟨h1, h2⟩ := key
 refine ⟨h1, ?_⟩
 unfold xeV xiG
 have hi : xfn v = [.i 0, .i ((0 : Nat) : Int)] := rfl
 rw [hi]
 rcases h2 with ⟨i, hi, hp, hb, he⟩ | ⟨hb, he⟩
 ·rw [he]
  rw [xyi (i := i) (by simpa using hi) (fun j hj => by rw [eg]; simpa using hb j hj) (by rw [eg]; simpa using hp), eg]
  rfl
 ·rw [he, xul]
  ·rfl
  ·intro x hx
   obtain ⟨r, hr, rfl⟩ := List.mem_map.1 hx
   obtain ⟨j, hj, rfl⟩ := List.getElem_of_mem hr
   have := hb j hj
   have ej : v.getD j [] = v[j] := by rw [List.getD_eq_getElem?_getD, List.getElem?_eq_getElem hj]; rfl
   rw [ej] at this
   simpa using this
theorem xn3 (a b c d : Int) : xcW a b c d ∧ xeh a b c d = orL [xaj a c, xaj b d] := xzF (by simp)
theorem xgv (a b c d e f : Int) : xbK a b c d e f ∧ xcX a b c d e f = orL [xaj a d, xaj b e, xaj c f] := xzF (by simp)
noncomputable def cfO (x y : List Int) : Int := xcX (x.getD 0 0) (x.getD 1 0) (x.getD 2 0) (y.getD 0 0) (y.getD 1 0) (y.getD 2 0)
theorem xtN (x y : List Int) : decide (cfO x y < 0) = !leL [0, 1, 2] y x := by
 unfold cfO
 rw [(xgv _ _ _ _ _ _).2]
 simp only [cmpC, orL, leL]
 generalize x.getD 0 0 = a
 generalize x.getD 1 0 = b
 generalize x.getD 2 0 = c
 generalize y.getD 0 0 = d
 generalize y.getD 1 0 = e
 generalize y.getD 2 0 = f
 rcases Int.lt_trichotomy a d with h | h | h
 ·simp [h, show ¬ d = a by omega, show ¬ d < a by omega]
 ·subst h
  rcases Int.lt_trichotomy b e with h | h | h
  ·simp [h, show ¬ e = b by omega, show ¬ e < b by omega]
  ·subst h
   rcases Int.lt_trichotomy c f with h | h | h
   ·simp [h, show ¬ f = c by omega, show ¬ f < c by omega]
   ·subst h; simp
   ·simp [h, show ¬ f = c by omega, show ¬ c < f by omega]
  ·simp [h, show ¬ e = b by omega, show ¬ b < e by omega]
 ·simp [h, show ¬ d = a by omega, show ¬ a < d by omega]
theorem swoO : SWO (ltOf cfO) := by
 have lt_le : ∀ x y, ltOf cfO x y = !leL [0, 1, 2] y x := xtN
 have le_ne : ∀ {a b : List Int}, leL [0, 1, 2] a b = false → leL [0, 1, 2] b a = true := fun {a b} h => (xed _ a b).resolve_left (by simp [h])
 refine ⟨fun x => ?_, fun x y z h k' => ?_, fun x y z h k' => ?_⟩
 ·rw [lt_le]
  have := xed [0, 1, 2] x x
  simp_all
 ·rw [lt_le] at *
  simp only [Bool.not_eq_true'] at *
  cases hz : leL [0, 1, 2] z x with
  | false => rfl
  | true =>
   have := xec _ _ _ _ hz (le_ne h)
   rw [k'] at this
   cases this
 ·rw [lt_le] at *
  simp only [Bool.not_eq_false'] at *
  exact xec _ _ _ _ k' h
theorem xtm (zs : List Int) : (zs.mergeSort fun x y => decide (x ≤ y)) = xeY leI zs :=
 xjx xsl xsk (fun a _ b _ h k => by simp [leI] at *; omega) (List.mergeSort_perm _ _) (List.pairwise_mergeSort (fun a b c h k => xsk a b c h k) (fun a b => by have := xsl a b; simpa [leI] using this) zs)
theorem xj4 (l : List (List Int)) : (nums l).map (Value.int .i64) = rowV [.int .i64] l := by
 induction l with
 | nil => rfl
 | cons r l ih =>
  show Value.int .i64 (r.getD 0 0) :: (nums l).map (Value.int .i64) = elV [.int .i64] 0 r ++ rowV [.int .i64] l
  rw [ih]; rfl
theorem xu2 : xx4 Tryz.prog 93 none 3 [.int .i64] (fun l => some (l.length < 4611686018427387904)) xbf (fun _ => .tup []) := by
 intro l v w hp _ hr
 have hlt : l.length < 4611686018427387904 := hp _ rfl
 rcases xoH hr with ⟨a, rfl, rfl⟩ | ⟨b, cap, hcap, rfl, hb, hbw, hmax, hle, hold, hput⟩
 ·refine (Any.slices_Sort_int_none Tryz.lays189 a 0 w).mono ?_
  rintro e w' ⟨rfl, rfl⟩
  exact ⟨rfl, (hr : xaT _ true 3 [CK.int IntKind.i64].length _ (xbf []).length _), Chg.refl _ _⟩
 ·have h := Any.slices_Sort_int Tryz.lays189 b 0 cap (nums l) w (hold Int _ (Value.int .i64) (nums l).toArray (by simpa using xj4 l)) hbw (by simpa [nums] using hlt)
  have el : (nums l).length = l.length := by simp [nums]
  rw [el] at h
  refine h.mono ?_
  rintro e w' ⟨rfl, n, os, rfl⟩
  rw [xtm]
  have := hput Int inferInstance (Value.int .i64) (xeY leI (nums l)).toArray (xbf l) n os (by simp [xbf, xcT, nums, xef]) (xaP _ _) (by
   rw [← xj4 (xbf l)]
   unfold xbf
   rw [xgD])
  rw [hb]
  exact ⟨rfl, this.1, this.2⟩
theorem xvD (zs : List Int) : Lib.compact zs = dd none zs := by
 have key : ∀ m, m ≤ zs.length → Lib.compactUpTo zs.toArray m = dd none (zs.take m) := by
  intro m
  induction m with
  | zero => intro _; simp [Lib.compactUpTo, dd]
  | succ m ih =>
   intro hm
   have hm' : m < zs.length := hm
   rw [Lib.compactUpTo_succ, ih (by omega), List.take_succ_eq_append_getElem hm', xxe]
   congr 1
   have e1 : zs.toArray[m]! = zs[m] := by simp [getElem!_pos zs.toArray m (by simpa using hm')]
   cases m with
   | zero => simp [Lib.keeps, hm']
   | succ k =>
    have hk : k < zs.length := by omega
    have e2 : zs.toArray[k]! = zs[k] := by simp [getElem!_pos zs.toArray k (by simpa using hk)]
    have e3 : (zs.take (k + 1)).getLast? = some zs[k] := by
     rw [List.take_succ_eq_append_getElem hk, List.getLast?_concat]
    rw [e3, Option.some_or]
    simp only [Lib.keeps, e1, Nat.add_sub_cancel, e2]
    by_cases h : zs[k] = zs[k + 1]
    ·simp [h]
    ·simp [h, Ne.symm h]
 have := key zs.length (Nat.le_refl _)
 rwa [List.take_length] at this
theorem xry : xx4 Tryz.prog 94 none 3 [.int .i64] (fun _ => none) xc9 (fun l => .vw 0 1 none (xem l)) := by
 intro l v w _ _ hr
 rcases xoH hr with ⟨a, rfl, rfl⟩ | ⟨b, cap, hcap, rfl, hb, hbw, hmax, hle, hold, hput⟩
 ·refine (Any.slices_Compact_int_empty Tryz.laysNm220 a 0 w).mono ?_
  rintro e w' ⟨rfl, rfl⟩
  have e1 : xc9 [] = [] := by simp [xc9, nums, xcT, dd]
  refine ⟨?_, by rw [e1]; exact hr, Chg.refl _ _⟩
  simp [AV.den, xdC, sliced, xem, nums, dd, loN]
 ·have el : (nums l).length = l.length := by simp [nums]
  have h := Any.slices_Compact_int Tryz.laysNm220 b 0 cap (nums l) w (hold Int _ (Value.int .i64) (nums l).toArray (by simpa using xj4 l)) (by unfold maxLen at hmax; omega) (by omega)
  rw [el, xvD] at h
  refine h.mono ?_
  rintro e w' ⟨rfl, q, rfl⟩
  have hl := xlZ (nums l) none
  have := hput Int inferInstance (Value.int .i64) (dd none (nums l) ++ List.replicate (l.length - (dd none (nums l)).length) 0).toArray (xc9 l) q #[] (by simp [xc9, xcT, el]; omega) (xaP _ _) (by
   rw [← xj4 (xc9 l)]
   unfold xc9
   rw [xgD, el])
  rw [grow_empty] at this
  rw [hb]
  refine ⟨?_, this.1, this.2⟩
  have e5 : ((⟨b, 0, none⟩ : Addr).add 0) = ⟨b, 0, none⟩ := rfl
  simp [AV.den, xdC, sliced, xem, loN, e5]
theorem xuR {W w' : World} (h : Blw W.heap.size W w') : ∃ q os', w' = grow (W.drewN q) os' := by
 refine ⟨w'.drawn - W.drawn, w'.heap.extract W.heap.size w'.heap.size, ?_⟩
 have hd := h.drawn
 have hheap : w'.heap = W.heap ++ w'.heap.extract W.heap.size w'.heap.size := by
  apply Array.ext_getElem?
  intro k
  by_cases hk : k < W.heap.size
  ·rw [Array.getElem?_append_left hk]; exact h.block k hk
  ·rw [Array.getElem?_append_right (by omega), Array.getElem?_extract]
   have hs := h.size
   by_cases hk2 : k < w'.heap.size
   ·rw [if_pos (by omega)]
    congr 1
    omega
   ·rw [if_neg (by omega), Array.getElem?_eq_none (by omega)]
 have h1 := h.os
 have h2 := h.tape
 have h3 := h.output
 obtain ⟨heap', tape', drawn', os', output'⟩ := w'
 obtain ⟨heap, tape, drawn, os, output⟩ := W
 simp only [] at *
 subst h1 h2 h3
 show (⟨heap', _, drawn', _, _⟩ : World) = ⟨heap ++ _, _, drawn + (drawn' - drawn), _, _⟩
 rw [← hheap, show drawn + (drawn' - drawn) = drawn' by omega]
 rfl
def ksO : List CK := [.int .i64, .int .i64, .int .i64]
theorem xrx (x y : List Int) (W : World) : Calls Tryz.prog 64 #[.agg (elV ksO 0 x).toArray, .agg (elV ksO 0 y).toArray] W fun e w' =>
  e = .returned (.int .i64 (cfO x y)) ∧ ∃ q os', w' = grow (W.drewN q) os' := by
 have hD : K18 64 [.agg [.int .i64 (x.getD 0 0), .int .i64 (x.getD 1 0), .int .i64 (x.getD 2 0)], .agg [.int .i64 (y.getD 0 0), .int .i64 (y.getD 1 0), .int .i64 (y.getD 2 0)]] [] = some ⟨some (xbK (x.getD 0 0) (x.getD 1 0) (x.getD 2 0) (y.getD 0 0) (y.getD 1 0) (y.getD 2 0)), [], 0, [], .int .i64 (cfO x y)⟩ := rfl
 obtain ⟨_, _, hc⟩ := (xyF _ _ _ _ hD).1 rfl
 refine (hc (xgv _ _ _ _ _ _).1 (fun _ => .slice none 0 0) W ⟨fun _ => rfl, fun o ho => (by cases ho), fun o ho => (by cases ho)⟩).mono ?_
 rintro e w' ⟨E', rfl, hg⟩
 exact ⟨rfl, xuR hg.below⟩
theorem xu3 {l : List (List Int)} {d' : Array (List Int)} (hp : PermIn 0 l.length (l.map (norm 3)).toArray d') (hs : SortedIn (ltOf cfO) 0 l.length d') : d'.toList = xaM 3 [0, 1, 2] l := by
 obtain ⟨h1, _, h3⟩ := hp
 have hsz : d'.size = l.length := by simpa using h1
 have e1 : (d'.extract 0 l.length).toList = d'.toList := by rw [← hsz]; simp
 have e2 : (((l.map (norm 3)).toArray).extract 0 l.length).toList = l.map (norm 3) := by
  rw [Array.toList_extract]
  exact List.take_of_length_le (by simp)
 rw [e1, e2] at h3
 unfold xaM
 refine xjx (xed _) (xec _) (fun a ha b hb h h' => ?_) h3 ?_
 ·have hkk := xn4 _ _ _ h h'
  obtain ⟨a', _, rfl⟩ := List.mem_map.1 ha
  obtain ⟨b', _, rfl⟩ := List.mem_map.1 hb
  apply xxK
  intro j hj
  have h012 : j = 0 ∨ j = 1 ∨ j = 2 := by omega
  have := hkk j (by simpa using h012)
  rwa [xq3 3 a' hj, xq3 3 b' hj] at this
 ·rw [List.pairwise_iff_getElem]
  intro i j hi hj hij
  have hi' : i < d'.size := by simpa using hi
  have hj' : j < d'.size := by simpa using hj
  have := hs i j (Nat.zero_le _) hij (by omega)
  rw [show ltOf cfO _ _ = _ from xtN _ _, getElem!_pos d' j hj', getElem!_pos d' i hi'] at this
  simpa using this
theorem xs7 : xx4 Tryz.prog 119 (some 64) 80 ksO (fun l => some (l.length < 4611686018427387904)) (xaM 3 [0, 1, 2]) (fun _ => .tup []) := by
 intro l v w hp _ hr
 have hlt : l.length < 4611686018427387904 := hp _ rfl
 rcases xoH hr with ⟨a, rfl, rfl⟩ | ⟨b, cap, hcap, rfl, hb, hbw, hmax, hle, hold, hput⟩
 ·refine (AnyF.slices_SortFunc_none Tryz.sortOm a 0 _ w).mono ?_
  rintro e w' ⟨rfl, rfl⟩
  exact ⟨rfl, hr, Chg.refl _ _⟩
 ·have eg : ∀ args w, (callFunc 64 args).run Tryz.prog w = .ok (.enter 64 args) w := enters_of Tryz.func64 (by kernel_rfl) rfl
  have hrowV : rowV ksO (l.map (norm 3)) = rowV ksO l := xv0 ksO l
  have hH : HoldsK (elV ksO 0) 3 w b 0 (l.map (norm 3)).toArray := hold Value inferInstance id _ ((xsy ksO (l.map (norm 3))).trans hrowV)
  have h := AnyQ.slices_SortFunc Tryz.sortOm 3 Tryz.isAgg80 Tryz.sizeOf80 (elV ksO 0) (fun x => xbA _ _ _) (fun x u hu => xrr _ _ _ u hu) cfO swoO 64 #[] b 0 cap (l.map (norm 3)).toArray w eg (fun _ _ _ _ x y => xrx x y _) hH hbw (by simpa using hlt)
  have es : (l.map (norm 3)).toArray.size = l.length := by simp
  rw [es] at h
  refine h.mono ?_
  rintro e w' ⟨rfl, d', n, os, g1, g2, rfl⟩
  have hd := xu3 g1 g2
  have e3 : d' = (xaM 3 [0, 1, 2] l).toArray := by rw [← hd]
  have := hput Value inferInstance id (flatK (elV ksO 0) 3 (xaM 3 [0, 1, 2] l).toArray) (xaM 3 [0, 1, 2] l) n os (by simp [xaM, xef]) (xaP _ _) (xsy ksO _)
  rw [hb, e3]
  exact ⟨rfl, this.1, this.2⟩
noncomputable def K19 : Con := conR K18 93 none 3 [.int .i64] (fun l => some (l.length < 4611686018427387904)) xbf (fun _ => .tup [])
theorem xAF : xbm Tryz.prog K19 := xmW xyF (fun _ k hk => by cases hk) ⟨_, Tryz.func93, by decide, rfl⟩ xu2
noncomputable def K20 : Con := conR K19 94 none 3 [.int .i64] (fun _ => none) xc9 (fun l => .vw 0 1 none (xem l))
theorem xAE : xbm Tryz.prog K20 := xmW xAF (fun l k hk => by simpa [AV.keys] using hk) ⟨_, Tryz.func94, by decide, rfl⟩ xry
noncomputable def K21 : Con := conR K20 119 (some 64) 80 ksO (fun l => some (l.length < 4611686018427387904)) (xaM 3 [0, 1, 2]) (fun _ => .tup [])
theorem xAD : xbm Tryz.prog K21 := xmW xAE (fun _ k hk => by cases hk) ⟨_, Tryz.func119, by decide, rfl⟩ xs7
end Go.Proofs.YtikhnofbbcmpeaaGreat
set_option maxRecDepth 100000
set_option linter.unusedVariables false
namespace Go.Proofs.YtikhnofbbcmpeaaGreat
open Go Go.Sy
noncomputable def xeg (l_Owner t : Int) (l_Lines : List (List Int)) : List U :=
 [.i ((0 : Int)), .r ([])]
noncomputable def xcw (l_Owner t : Int) (l_Lines : List (List Int)) (y0 : List U) : Option (Nat × List U) :=
 (bif decide (gi y0 0 < (↑l_Lines.length : Int)) then xae (inR (gi y0 0) l_Lines) (xae (inR (gi y0 0) l_Lines) ((bif decide ((l_Lines.getD (gi y0 0).toNat []).getD 0 (0 : Int) > t) == false then (bif (l_Lines.getD (gi y0 0).toNat []).getD 1 (0 : Int) == (3 : Int) then xae (xbJ 8 ((gr y0 1).length + [[(l_Lines.getD (gi y0 0).toNat []).getD 2 (0 : Int)]].length)) (some (0, [.i (IntKind.i64.wrap (gi y0 0 + (1 : Int))), .r (gr y0 1 ++ [[(l_Lines.getD (gi y0 0).toNat []).getD 2 (0 : Int)]])])) else some (0, [.i (IntKind.i64.wrap (gi y0 0 + (1 : Int))), .r (gr y0 1)])) else some (3, [.r (gr y0 1)])))) else some (4, [.i (gi y0 0), .r (gr y0 1)]))
noncomputable def xaA (l_Owner t : Int) (l_Lines : List (List Int)) : Nat × List U := xaw (xcw l_Owner t l_Lines) (xeg l_Owner t l_Lines)
noncomputable def xiR (l_Owner t : Int) (l_Lines : List (List Int)) : List (List Int) :=
 bif (xaA l_Owner t l_Lines).fst.beq 3 then List.take (xem (xbf (gr (xaA l_Owner t l_Lines).snd 0))).toNat (xc9 (xbf (gr (xaA l_Owner t l_Lines).snd 0)))
else List.take (xem (xbf (gr (xaA l_Owner t l_Lines).snd 1))).toNat (xc9 (xbf (gr (xaA l_Owner t l_Lines).snd 1)))
noncomputable def xcx (l_Owner t : Int) (l_Lines : List (List Int)) : List (List Int) :=
 (xiR l_Owner t l_Lines)
def xbM (l_Owner t : Int) (l_Lines : List (List Int)) : Prop :=
 (((xaH (xcw l_Owner t l_Lines) (xeg l_Owner t l_Lines))) ∧ ((((xaA l_Owner t l_Lines).fst.beq 3 = true) → (((gr (xaA l_Owner t l_Lines).snd 0).length < 4611686018427387904) ∧ (((0 : Int) ≤ xem (xbf (gr (xaA l_Owner t l_Lines).snd 0))) ∧ (xem (xbf (gr (xaA l_Owner t l_Lines).snd 0)) ≤ (↑(xc9 (xbf (gr (xaA l_Owner t l_Lines).snd 0))).length : Int))))) ∧ (((xaA l_Owner t l_Lines).fst.beq 3 = false) → (((gr (xaA l_Owner t l_Lines).snd 1).length < 4611686018427387904) ∧ (((0 : Int) ≤ xem (xbf (gr (xaA l_Owner t l_Lines).snd 1))) ∧ (xem (xbf (gr (xaA l_Owner t l_Lines).snd 1)) ≤ (↑(xc9 (xbf (gr (xaA l_Owner t l_Lines).snd 1))).length : Int)))))))
noncomputable def xcy (l_Owner t : Int) (l_Lines : List (List Int)) : List (List Int) :=
 bif !xad l_Owner l_Lines || !xar t then [] else xcx l_Owner t l_Lines
noncomputable def xcZ (l_Owner t : Int) (l_Lines : List (List Int)) : Int :=
 bif !xad l_Owner l_Lines || !xar t then (1 : Int) else (0 : Int)
def xcn (l_Owner t : Int) (l_Lines : List (List Int)) : Prop :=
 ((xaz l_Owner l_Lines) ∧ (((!xad l_Owner l_Lines || !xar t) = false) → (xbM l_Owner t l_Lines)))
noncomputable def xej (office_Owner ship_Owner t : Int) (office_Lines ship_Lines list : List (List Int)) : List U :=
 [.i ((0 : Int)), .r ([])]
noncomputable def xcz (office_Owner ship_Owner t : Int) (office_Lines ship_Lines list : List (List Int)) (y0 : List U) : Option (Nat × List U) :=
 (bif decide (gi y0 0 < (↑list.length : Int)) then xae (inR (gi y0 0) list) (xae (inR (gi y0 0) list) (xae ((((list.getD (gi y0 0).toNat []).getD 0 (0 : Int) == ship_Owner && decide ((list.getD (gi y0 0).toNat []).getD 2 (0 : Int) ≤ t)) = true) → (xb6 office_Owner ((list.getD (gi y0 0).toNat []).getD 1 (0 : Int)) ((list.getD (gi y0 0).toNat []).getD 2 (0 : Int)) office_Lines)) (xae ((((list.getD (gi y0 0).toNat []).getD 0 (0 : Int) == ship_Owner && decide ((list.getD (gi y0 0).toNat []).getD 2 (0 : Int) ≤ t) &&
  xaE office_Owner ((list.getD (gi y0 0).toNat []).getD 1 (0 : Int)) ((list.getD (gi y0 0).toNat []).getD 2 (0 : Int)) office_Lines) =
 true) → (xcq ship_Owner ((list.getD (gi y0 0).toNat []).getD 2 (0 : Int)) ship_Lines)) ((bif (list.getD (gi y0 0).toNat []).getD 0 (0 : Int) == ship_Owner && decide ((list.getD (gi y0 0).toNat []).getD 2 (0 : Int) ≤ t) &&
  xaE office_Owner ((list.getD (gi y0 0).toNat []).getD 1 (0 : Int)) ((list.getD (gi y0 0).toNat []).getD 2 (0 : Int)) office_Lines &&
 xaB ship_Owner ((list.getD (gi y0 0).toNat []).getD 2 (0 : Int)) ship_Lines then xae (xbJ 8 ((gr y0 1).length + [[(list.getD (gi y0 0).toNat []).getD 1 (0 : Int)]].length)) (some (0, [.i (IntKind.i64.wrap (gi y0 0 + (1 : Int))), .r (gr y0 1 ++ [[(list.getD (gi y0 0).toNat []).getD 1 (0 : Int)]])])) else some (0, [.i (IntKind.i64.wrap (gi y0 0 + (1 : Int))), .r (gr y0 1)])))))) else some (3, [.i (gi y0 0), .r (gr y0 1)]))
noncomputable def xb9 (office_Owner ship_Owner t : Int) (office_Lines ship_Lines list : List (List Int)) : Nat × List U := xaw (xcz office_Owner ship_Owner t office_Lines ship_Lines list) (xej office_Owner ship_Owner t office_Lines ship_Lines list)
noncomputable def xi0 (office_Owner ship_Owner t : Int) (office_Lines ship_Lines list : List (List Int)) : List (List Int) :=
 bif !xad office_Owner office_Lines || !xad ship_Owner ship_Lines || !xau list || !xar t || office_Owner != (0 : Int) || ship_Owner == (0 : Int) then []
else List.take (xem (xbf (gr (xb9 office_Owner ship_Owner t office_Lines ship_Lines list).snd 1))).toNat (xc9 (xbf (gr (xb9 office_Owner ship_Owner t office_Lines ship_Lines list).snd 1)))
noncomputable def xcB (office_Owner ship_Owner t : Int) (office_Lines ship_Lines list : List (List Int)) : List (List Int) :=
 (xi0 office_Owner ship_Owner t office_Lines ship_Lines list)
noncomputable def xcA (office_Owner ship_Owner t : Int) (office_Lines ship_Lines list : List (List Int)) : Int :=
 bif !xad office_Owner office_Lines || !xad ship_Owner ship_Lines || !xau list || !xar t || office_Owner != (0 : Int) || ship_Owner == (0 : Int) then
 (1 : Int)
else (0 : Int)
def xbw (office_Owner ship_Owner t : Int) (office_Lines ship_Lines list : List (List Int)) : Prop :=
 ((xaz office_Owner office_Lines) ∧ ((((!xad office_Owner office_Lines) = false) → (xaz ship_Owner ship_Lines)) ∧ ((((!xad office_Owner office_Lines || !xad ship_Owner ship_Lines) = false) → (xbq list)) ∧ (((!xad office_Owner office_Lines || !xad ship_Owner ship_Lines || !xau list || !xar t || office_Owner != (0 : Int) || ship_Owner == (0 : Int)) = false) → (((xaH (xcz office_Owner ship_Owner t office_Lines ship_Lines list) (xej office_Owner ship_Owner t office_Lines ship_Lines list))) ∧ (((gr (xb9 office_Owner ship_Owner t office_Lines ship_Lines list).snd 1).length < 4611686018427387904) ∧ (((0 : Int) ≤ xem (xbf (gr (xb9 office_Owner ship_Owner t office_Lines ship_Lines list).snd 1))) ∧ (xem (xbf (gr (xb9 office_Owner ship_Owner t office_Lines ship_Lines list).snd 1)) ≤ (↑(xc9 (xbf (gr (xb9 office_Owner ship_Owner t office_Lines ship_Lines list).snd 1))).length : Int)))))))))
noncomputable def xbs (l_Owner s_Owner s_Time s_Count s_Sum : Int) (l_Lines : List (List Int)) : Int :=
 (↑((xas (↑l_Lines.length : Int) none (some (imin s_Count (↑l_Lines.length : Int)))).snd.snd.toNat -
    loN (xas (↑l_Lines.length : Int) none (some (imin s_Count (↑l_Lines.length : Int)))).snd.fst) :
  Int) -
 (1 : Int)
noncomputable def xf8 (l_Owner s_Owner s_Time s_Count s_Sum : Int) (l_Lines : List (List Int)) : Int :=
 s_Count -
 (↑((xas (↑l_Lines.length : Int) none (some (imin s_Count (↑l_Lines.length : Int)))).snd.snd.toNat -
    loN (xas (↑l_Lines.length : Int) none (some (imin s_Count (↑l_Lines.length : Int)))).snd.fst) :
  Int)
noncomputable def xi2 (l_Owner s_Owner s_Time s_Count s_Sum : Int) (l_Lines : List (List Int)) : Int :=
 bif
  decide
   ((↑((xas (↑l_Lines.length : Int) none (some (imin s_Count (↑l_Lines.length : Int)))).snd.snd.toNat -
       loN (xas (↑l_Lines.length : Int) none (some (imin s_Count (↑l_Lines.length : Int)))).snd.fst) :
     Int) >
    (0 : Int)) then
 (l_Lines.getD (shI (xas (↑l_Lines.length : Int) none (some (imin s_Count (↑l_Lines.length : Int)))).snd.fst (IntKind.i64.wrap ((xbs l_Owner s_Owner s_Time s_Count s_Sum l_Lines)))).toNat []).getD 3 (0 : Int)
else (0 : Int)
noncomputable def xi1 (l_Owner s_Owner s_Time s_Count s_Sum : Int) (l_Lines : List (List Int)) : Int :=
 bif
  decide
   ((↑((xas (↑l_Lines.length : Int) none (some (imin s_Count (↑l_Lines.length : Int)))).snd.snd.toNat -
       loN (xas (↑l_Lines.length : Int) none (some (imin s_Count (↑l_Lines.length : Int)))).snd.fst) :
     Int) >
    (0 : Int)) then
 (l_Lines.getD (shI (xas (↑l_Lines.length : Int) none (some (imin s_Count (↑l_Lines.length : Int)))).snd.fst (IntKind.i64.wrap ((xbs l_Owner s_Owner s_Time s_Count s_Sum l_Lines)))).toNat []).getD 0 (0 : Int)
else (-1 : Int)
noncomputable def xnU (l_Owner s_Owner s_Time s_Count s_Sum : Int) (l_Lines : List (List Int)) : Int :=
 bif
  !xad l_Owner l_Lines || !xar s_Time || s_Owner != l_Owner || decide (s_Count < (0 : Int)) || decide (s_Count > (200 : Int)) ||
   s_Count == (0 : Int) && s_Sum != (0 : Int) then
 (0 : Int)
else bif IntKind.i64.wrap ((xf8 l_Owner s_Owner s_Time s_Count s_Sum l_Lines)) == (0 : Int) && (xi2 l_Owner s_Owner s_Time s_Count s_Sum l_Lines) != s_Sum || decide ((xi1 l_Owner s_Owner s_Time s_Count s_Sum l_Lines) > s_Time) then (0 : Int) else IntKind.i64.wrap ((xf8 l_Owner s_Owner s_Time s_Count s_Sum l_Lines))
noncomputable def xjK (l_Owner s_Owner s_Time s_Count s_Sum : Int) (l_Lines : List (List Int)) : Int :=
 (xnU l_Owner s_Owner s_Time s_Count s_Sum l_Lines)
noncomputable def xnT (l_Owner s_Owner s_Time s_Count s_Sum : Int) (l_Lines : List (List Int)) : Int :=
 bif
  !xad l_Owner l_Lines || !xar s_Time || s_Owner != l_Owner || decide (s_Count < (0 : Int)) || decide (s_Count > (200 : Int)) ||
   s_Count == (0 : Int) && s_Sum != (0 : Int) then
 (1 : Int)
else bif IntKind.i64.wrap ((xf8 l_Owner s_Owner s_Time s_Count s_Sum l_Lines)) == (0 : Int) && (xi2 l_Owner s_Owner s_Time s_Count s_Sum l_Lines) != s_Sum || decide ((xi1 l_Owner s_Owner s_Time s_Count s_Sum l_Lines) > s_Time) then (18 : Int) else (0 : Int)
noncomputable def xjJ (l_Owner s_Owner s_Time s_Count s_Sum : Int) (l_Lines : List (List Int)) : Int :=
 (xnT l_Owner s_Owner s_Time s_Count s_Sum l_Lines)
def xfJ (l_Owner s_Owner s_Time s_Count s_Sum : Int) (l_Lines : List (List Int)) : Prop :=
 ((xaz l_Owner l_Lines) ∧ (((!xad l_Owner l_Lines || !xar s_Time || s_Owner != l_Owner || decide (s_Count < (0 : Int)) || decide (s_Count > (200 : Int)) || s_Count == (0 : Int) && s_Sum != (0 : Int)) =
 false) → ((((0 : Int) ≤ imin s_Count (↑l_Lines.length : Int)) ∧ (imin s_Count (↑l_Lines.length : Int) ≤ (↑l_Lines.length : Int))) ∧ ((decide
  ((↑((xas (↑l_Lines.length : Int) none (some (imin s_Count (↑l_Lines.length : Int)))).snd.snd.toNat -
      loN (xas (↑l_Lines.length : Int) none (some (imin s_Count (↑l_Lines.length : Int)))).snd.fst) :
    Int) >
   (0 : Int)) =
 true) → ((((0 : Int) ≤ IntKind.i64.wrap ((xbs l_Owner s_Owner s_Time s_Count s_Sum l_Lines))) ∧ (((↑(loN (xas (↑l_Lines.length : Int) none (some (imin s_Count (↑l_Lines.length : Int)))).snd.fst) : Int) + IntKind.i64.wrap ((xbs l_Owner s_Owner s_Time s_Count s_Sum l_Lines)) <
 (xas (↑l_Lines.length : Int) none (some (imin s_Count (↑l_Lines.length : Int)))).snd.snd) ∧ ((xas (↑l_Lines.length : Int) none (some (imin s_Count (↑l_Lines.length : Int)))).snd.snd ≤ (↑l_Lines.length : Int)))) ∧ ((inR (shI (xas (↑l_Lines.length : Int) none (some (imin s_Count (↑l_Lines.length : Int)))).snd.fst (IntKind.i64.wrap ((xbs l_Owner s_Owner s_Time s_Count s_Sum l_Lines)))) l_Lines) ∧ ((inR (shI (xas (↑l_Lines.length : Int) none (some (imin s_Count (↑l_Lines.length : Int)))).snd.fst (IntKind.i64.wrap ((xbs l_Owner s_Owner s_Time s_Count s_Sum l_Lines)))) l_Lines) ∧ ((((0 : Int) ≤ IntKind.i64.wrap ((xbs l_Owner s_Owner s_Time s_Count s_Sum l_Lines))) ∧ (((↑(loN (xas (↑l_Lines.length : Int) none (some (imin s_Count (↑l_Lines.length : Int)))).snd.fst) : Int) + IntKind.i64.wrap ((xbs l_Owner s_Owner s_Time s_Count s_Sum l_Lines)) <
 (xas (↑l_Lines.length : Int) none (some (imin s_Count (↑l_Lines.length : Int)))).snd.snd) ∧ ((xas (↑l_Lines.length : Int) none (some (imin s_Count (↑l_Lines.length : Int)))).snd.snd ≤ (↑l_Lines.length : Int)))) ∧ ((inR (shI (xas (↑l_Lines.length : Int) none (some (imin s_Count (↑l_Lines.length : Int)))).snd.fst (IntKind.i64.wrap ((xbs l_Owner s_Owner s_Time s_Count s_Sum l_Lines)))) l_Lines) ∧ (inR (shI (xas (↑l_Lines.length : Int) none (some (imin s_Count (↑l_Lines.length : Int)))).snd.fst (IntKind.i64.wrap ((xbs l_Owner s_Owner s_Time s_Count s_Sum l_Lines)))) l_Lines))))))))))
noncomputable def xky (l_Owner t kind n : Int) (l_Lines : List (List Int)) : List (List Int) :=
 bif kind == (4 : Int) && !xaB l_Owner (10000000 : Int) l_Lines then [] else [] ++ l_Lines ++ [[t, kind, n, xbW l_Owner (xaV l_Owner l_Lines) t kind n (0 : Int)]]
noncomputable def xkx (l_Owner t kind n : Int) (l_Lines : List (List Int)) : List (List Int) :=
 bif kind == (5 : Int) && xaB l_Owner (10000000 : Int) l_Lines then [] else [] ++ l_Lines ++ [[t, kind, n, xbW l_Owner (xaV l_Owner l_Lines) t kind n (0 : Int)]]
noncomputable def xhq (l_Owner t kind n : Int) (l_Lines : List (List Int)) : List (List Int) :=
 bif decide ((↑l_Lines.length : Int) ≥ (200 : Int)) then []
else bif decide (t < xaW l_Owner l_Lines) then [] else bif kind == (4 : Int) && !xaB l_Owner (10000000 : Int) l_Lines then (xky l_Owner t kind n l_Lines) else (xkx l_Owner t kind n l_Lines)
noncomputable def xfj (l_Owner t kind n : Int) (l_Lines : List (List Int)) : List (List Int) :=
 bif !xad l_Owner l_Lines then bif !xad l_Owner l_Lines then [] else bif !xbh l_Owner kind then [] else (xhq l_Owner t kind n l_Lines)
else bif !xbQ t kind n then [] else bif !xbh l_Owner kind then [] else (xhq l_Owner t kind n l_Lines)
noncomputable def xhp (l_Owner t kind n : Int) (l_Lines : List (List Int)) : Int :=
 bif kind == (4 : Int) && !xaB l_Owner (10000000 : Int) l_Lines then bif kind == (4 : Int) && !xaB l_Owner (10000000 : Int) l_Lines then (0 : Int) else l_Owner
else bif kind == (5 : Int) && xaB l_Owner (10000000 : Int) l_Lines then (0 : Int) else l_Owner
noncomputable def xkw (l_Owner t kind n : Int) (l_Lines : List (List Int)) : Int :=
 bif !xad l_Owner l_Lines then (0 : Int)
else
 bif !xbh l_Owner kind then (0 : Int)
 else bif decide ((↑l_Lines.length : Int) ≥ (200 : Int)) then (0 : Int) else bif decide (t < xaW l_Owner l_Lines) then (0 : Int) else (xhp l_Owner t kind n l_Lines)
noncomputable def xkv (l_Owner t kind n : Int) (l_Lines : List (List Int)) : Int :=
 bif !xbQ t kind n then (0 : Int)
else
 bif !xbh l_Owner kind then (0 : Int)
 else bif decide ((↑l_Lines.length : Int) ≥ (200 : Int)) then (0 : Int) else bif decide (t < xaW l_Owner l_Lines) then (0 : Int) else (xhp l_Owner t kind n l_Lines)
noncomputable def xfi (l_Owner t kind n : Int) (l_Lines : List (List Int)) : Int :=
 bif !xad l_Owner l_Lines then (xkw l_Owner t kind n l_Lines) else (xkv l_Owner t kind n l_Lines)
noncomputable def xho (l_Owner t kind n : Int) (l_Lines : List (List Int)) : Int :=
 bif kind == (4 : Int) && !xaB l_Owner (10000000 : Int) l_Lines then bif kind == (4 : Int) && !xaB l_Owner (10000000 : Int) l_Lines then (6 : Int) else (0 : Int)
else bif kind == (5 : Int) && xaB l_Owner (10000000 : Int) l_Lines then (6 : Int) else (0 : Int)
noncomputable def xku (l_Owner t kind n : Int) (l_Lines : List (List Int)) : Int :=
 bif !xad l_Owner l_Lines then (1 : Int)
else
 bif !xbh l_Owner kind then (12 : Int)
 else bif decide ((↑l_Lines.length : Int) ≥ (200 : Int)) then (2 : Int) else bif decide (t < xaW l_Owner l_Lines) then (13 : Int) else (xho l_Owner t kind n l_Lines)
noncomputable def xkt (l_Owner t kind n : Int) (l_Lines : List (List Int)) : Int :=
 bif !xbQ t kind n then (1 : Int)
else
 bif !xbh l_Owner kind then (12 : Int)
 else bif decide ((↑l_Lines.length : Int) ≥ (200 : Int)) then (2 : Int) else bif decide (t < xaW l_Owner l_Lines) then (13 : Int) else (xho l_Owner t kind n l_Lines)
noncomputable def xfh (l_Owner t kind n : Int) (l_Lines : List (List Int)) : Int :=
 bif !xad l_Owner l_Lines then (xku l_Owner t kind n l_Lines) else (xkt l_Owner t kind n l_Lines)
def xek (l_Owner t kind n : Int) (l_Lines : List (List Int)) : Prop :=
 ((xbH l_Owner l_Lines) ∧ ((xcq l_Owner (10000000 : Int) l_Lines) ∧ ((xaz l_Owner l_Lines) ∧ ((((!xad l_Owner l_Lines) = true) → (((!xad l_Owner l_Lines) = false) → (((!xbh l_Owner kind) = false) → ((decide ((↑l_Lines.length : Int) ≥ (200 : Int)) = false) → ((decide (t < xaW l_Owner l_Lines) = false) → ((((kind == (4 : Int) && !xaB l_Owner (10000000 : Int) l_Lines) = true) → (((kind == (4 : Int) && !xaB l_Owner (10000000 : Int) l_Lines) = false) → ((xbC l_Owner (xaV l_Owner l_Lines) t kind n (0 : Int)) ∧ ((((l_Lines = []) → ((True) ∧ (([] ++ l_Lines = []) ∧ (True)))) ∧ (xbJ 32 (0 + l_Lines.length))) ∧ (xbJ 32 (([] ++ l_Lines).length + [[t, kind, n, xbW l_Owner (xaV l_Owner l_Lines) t kind n (0 : Int)]].length)))))) ∧ (((kind == (4 : Int) && !xaB l_Owner (10000000 : Int) l_Lines) = false) → (((kind == (5 : Int) && xaB l_Owner (10000000 : Int) l_Lines) = false) → ((xbC l_Owner (xaV l_Owner l_Lines) t kind n (0 : Int)) ∧ ((((l_Lines = []) → ((True) ∧ (([] ++ l_Lines = []) ∧ (True)))) ∧ (xbJ 32 (0 + l_Lines.length))) ∧ (xbJ 32 (([] ++ l_Lines).length + [[t, kind, n, xbW l_Owner (xaV l_Owner l_Lines) t kind n (0 : Int)]].length)))))))))))) ∧ (((!xad l_Owner l_Lines) = false) → (((!xbQ t kind n) = false) → (((!xbh l_Owner kind) = false) → ((decide ((↑l_Lines.length : Int) ≥ (200 : Int)) = false) → ((decide (t < xaW l_Owner l_Lines) = false) → ((((kind == (4 : Int) && !xaB l_Owner (10000000 : Int) l_Lines) = true) → (((kind == (4 : Int) && !xaB l_Owner (10000000 : Int) l_Lines) = false) → ((xbC l_Owner (xaV l_Owner l_Lines) t kind n (0 : Int)) ∧ ((((l_Lines = []) → ((True) ∧ (([] ++ l_Lines = []) ∧ (True)))) ∧ (xbJ 32 (0 + l_Lines.length))) ∧ (xbJ 32 (([] ++ l_Lines).length + [[t, kind, n, xbW l_Owner (xaV l_Owner l_Lines) t kind n (0 : Int)]].length)))))) ∧ (((kind == (4 : Int) && !xaB l_Owner (10000000 : Int) l_Lines) = false) → (((kind == (5 : Int) && xaB l_Owner (10000000 : Int) l_Lines) = false) → ((xbC l_Owner (xaV l_Owner l_Lines) t kind n (0 : Int)) ∧ ((((l_Lines = []) → ((True) ∧ (([] ++ l_Lines = []) ∧ (True)))) ∧ (xbJ 32 (0 + l_Lines.length))) ∧ (xbJ 32 (([] ++ l_Lines).length + [[t, kind, n, xbW l_Owner (xaV l_Owner l_Lines) t kind n (0 : Int)]].length))))))))))))))))
end Go.Proofs.YtikhnofbbcmpeaaGreat
set_option maxRecDepth 100000
set_option linter.unusedVariables false
namespace Go.Proofs.YtikhnofbbcmpeaaGreat
open Go Go.Sy
theorem xmy (l_Owner t : Int) (l_Lines : List (List Int)) : xat Tryz.prog 1 (xa6 Tryz.prog K21 xde 9 54 [.agg [.int .i64 l_Owner, .sl 0], .int .i64 t] ⟨[⟨0, 1, false, .row 29 [.int .i64, .int .i64, .int .i64, .int .u64] l_Lines⟩], 1⟩) = some ⟨some (xbM l_Owner t l_Lines), [], 1, [⟨1, 1, true, .row 3 [.int .i64] (xcx l_Owner t l_Lines)⟩], .sl 1⟩ := by kernel_rfl
noncomputable def xhT : List U → Option Eff
 | [.i l_Owner, .i t, .r l_Lines] => some ⟨some (xbM l_Owner t l_Lines), [], 1, [⟨1, 1, true, .row 3 [.int .i64] (xcx l_Owner t l_Lines)⟩], .sl 1⟩
 | _ => Option.none
noncomputable def K22 : Con := ext Tryz.prog K21 54 [.agg [.int .i64 0, .sl 0], .int .i64 0] [⟨0, 0, false, .row 29 [.int .i64, .int .i64, .int .i64, .int .u64] []⟩] xhT
theorem xAC : xbm Tryz.prog K22 := xav xaD xAD (n := 9) rfl rfl fun us x h => by
 unfold xhT at h
 split at h
 ·cases h; exact ⟨some (xbM _ _ _), xmy _ _ _, fun h => h⟩
 ·cases h
theorem xmE (l_Owner t : Int) (l_Lines : List (List Int)) : xat Tryz.prog 1 (xa6 Tryz.prog K22 xde 9 17 [.agg [.int .i64 l_Owner, .sl 0], .int .i64 t] ⟨[⟨0, 1, false, .row 29 [.int .i64, .int .i64, .int .i64, .int .u64] l_Lines⟩], 1⟩) = some ⟨some (xcn l_Owner t l_Lines), [], 1, [⟨1, 1, true, .row 3 [.int .i64] (xcy l_Owner t l_Lines)⟩], .tup [.sl 1, .int .i64 (xcZ l_Owner t l_Lines)]⟩ := by kernel_rfl
noncomputable def xh5 : List U → Option Eff
 | [.i l_Owner, .i t, .r l_Lines] => some ⟨some (xcn l_Owner t l_Lines), [], 1, [⟨1, 1, true, .row 3 [.int .i64] (xcy l_Owner t l_Lines)⟩], .tup [.sl 1, .int .i64 (xcZ l_Owner t l_Lines)]⟩
 | _ => Option.none
noncomputable def K23 : Con := ext Tryz.prog K22 17 [.agg [.int .i64 0, .sl 0], .int .i64 0] [⟨0, 0, false, .row 29 [.int .i64, .int .i64, .int .i64, .int .u64] []⟩] xh5
theorem xAB : xbm Tryz.prog K23 := xav xaD xAC (n := 9) rfl rfl fun us x h => by
 unfold xh5 at h
 split at h
 ·cases h; exact ⟨some (xcn _ _ _), xmE _ _ _, fun h => h⟩
 ·cases h
theorem xmF (office_Owner ship_Owner t : Int) (office_Lines ship_Lines list : List (List Int)) : xat Tryz.prog 3 (xa6 Tryz.prog K23 xde 9 16 [.agg [.int .i64 office_Owner, .sl 0], .agg [.int .i64 ship_Owner, .sl 1], .sl 2, .int .i64 t] ⟨[⟨0, 3, false, .row 29 [.int .i64, .int .i64, .int .i64, .int .u64] office_Lines⟩, ⟨1, 3, false, .row 29 [.int .i64, .int .i64, .int .i64, .int .u64] ship_Lines⟩, ⟨2, 3, false, .row 41 [.int .i64, .int .i64, .int .i64] list⟩], 3⟩) = some ⟨some (xbw office_Owner ship_Owner t office_Lines ship_Lines list), [], 1, [⟨3, 3, true, .row 3 [.int .i64] (xcB office_Owner ship_Owner t office_Lines ship_Lines list)⟩], .tup [.sl 3, .int .i64 (xcA office_Owner ship_Owner t office_Lines ship_Lines list)]⟩ := by kernel_rfl
noncomputable def xh6 : List U → Option Eff
 | [.i office_Owner, .i ship_Owner, .i t, .r office_Lines, .r ship_Lines, .r list] => some ⟨some (xbw office_Owner ship_Owner t office_Lines ship_Lines list), [], 1, [⟨3, 3, true, .row 3 [.int .i64] (xcB office_Owner ship_Owner t office_Lines ship_Lines list)⟩], .tup [.sl 3, .int .i64 (xcA office_Owner ship_Owner t office_Lines ship_Lines list)]⟩
 | _ => Option.none
noncomputable def K24 : Con := ext Tryz.prog K23 16 [.agg [.int .i64 0, .sl 0], .agg [.int .i64 0, .sl 1], .sl 2, .int .i64 0] [⟨0, 0, false, .row 29 [.int .i64, .int .i64, .int .i64, .int .u64] []⟩, ⟨1, 0, false, .row 29 [.int .i64, .int .i64, .int .i64, .int .u64] []⟩, ⟨2, 0, false, .row 41 [.int .i64, .int .i64, .int .i64] []⟩] xh6
theorem xAA : xbm Tryz.prog K24 := xav xaD xAB (n := 9) rfl rfl fun us x h => by
 unfold xh6 at h
 split at h
 ·cases h; exact ⟨some (xbw _ _ _ _ _ _), xmF _ _ _ _ _ _, fun h => h⟩
 ·cases h
theorem xmG (l_Owner s_Owner s_Time s_Count s_Sum : Int) (l_Lines : List (List Int)) : xat Tryz.prog 1 (xa6 Tryz.prog K24 xde 9 34 [.agg [.int .i64 l_Owner, .sl 0], .agg [.int .i64 s_Owner, .int .i64 s_Time, .int .i64 s_Count, .int .u64 s_Sum]] ⟨[⟨0, 1, false, .row 29 [.int .i64, .int .i64, .int .i64, .int .u64] l_Lines⟩], 1⟩) = some ⟨some (xfJ l_Owner s_Owner s_Time s_Count s_Sum l_Lines), [], 0, [], .tup [.int .i64 (xjK l_Owner s_Owner s_Time s_Count s_Sum l_Lines), .int .i64 (xjJ l_Owner s_Owner s_Time s_Count s_Sum l_Lines)]⟩ := by kernel_rfl
noncomputable def xh7 : List U → Option Eff
 | [.i l_Owner, .i s_Owner, .i s_Time, .i s_Count, .i s_Sum, .r l_Lines] => some ⟨some (xfJ l_Owner s_Owner s_Time s_Count s_Sum l_Lines), [], 0, [], .tup [.int .i64 (xjK l_Owner s_Owner s_Time s_Count s_Sum l_Lines), .int .i64 (xjJ l_Owner s_Owner s_Time s_Count s_Sum l_Lines)]⟩
 | _ => Option.none
noncomputable def K25 : Con := ext Tryz.prog K24 34 [.agg [.int .i64 0, .sl 0], .agg [.int .i64 0, .int .i64 0, .int .i64 0, .int .u64 0]] [⟨0, 0, false, .row 29 [.int .i64, .int .i64, .int .i64, .int .u64] []⟩] xh7
theorem xAz : xbm Tryz.prog K25 := xav xaD xAA (n := 9) rfl rfl fun us x h => by
 unfold xh7 at h
 split at h
 ·cases h; exact ⟨some (xfJ _ _ _ _ _ _), xmG _ _ _ _ _ _, fun h => h⟩
 ·cases h
theorem xo0 (l_Owner t kind n : Int) (l_Lines : List (List Int)) : xat Tryz.prog 1 (xa6 Tryz.prog K25 xde 9 29 [.agg [.int .i64 l_Owner, .sl 0], .int .i64 t, .int .i64 kind, .int .i64 n] ⟨[⟨0, 1, false, .row 29 [.int .i64, .int .i64, .int .i64, .int .u64] l_Lines⟩], 1⟩) = some ⟨some (xek l_Owner t kind n l_Lines), [], 1, [⟨1, 1, true, .row 29 [.int .i64, .int .i64, .int .i64, .int .u64] (xfj l_Owner t kind n l_Lines)⟩], .tup [.agg [.int .i64 (xfi l_Owner t kind n l_Lines), .sl 1], .int .i64 (xfh l_Owner t kind n l_Lines)]⟩ := by kernel_rfl
noncomputable def xjL : List U → Option Eff
 | [.i l_Owner, .i t, .i kind, .i n, .r l_Lines] => some ⟨some (xek l_Owner t kind n l_Lines), [], 1, [⟨1, 1, true, .row 29 [.int .i64, .int .i64, .int .i64, .int .u64] (xfj l_Owner t kind n l_Lines)⟩], .tup [.agg [.int .i64 (xfi l_Owner t kind n l_Lines), .sl 1], .int .i64 (xfh l_Owner t kind n l_Lines)]⟩
 | _ => Option.none
noncomputable def K26 : Con := ext Tryz.prog K25 29 [.agg [.int .i64 0, .sl 0], .int .i64 0, .int .i64 0, .int .i64 0] [⟨0, 0, false, .row 29 [.int .i64, .int .i64, .int .i64, .int .u64] []⟩] xjL
theorem xAy : xbm Tryz.prog K26 := xav xaD xAz (n := 9) rfl rfl fun us x h => by
 unfold xjL at h
 split at h
 ·cases h; exact ⟨some (xek _ _ _ _ _), xo0 _ _ _ _ _, fun h => h⟩
 ·cases h
end Go.Proofs.YtikhnofbbcmpeaaGreat
set_option maxRecDepth 100000
set_option linter.unusedVariables false
namespace Go.Proofs.YtikhnofbbcmpeaaGreat
open Go Go.Sy
noncomputable def xff (set : Int) (list : List (List Int)) : List U :=
 [.i ((0 : Int)), .r ([])]
noncomputable def xb3 (set : Int) (list : List (List Int)) (y0 : List U) : Option (Nat × List U) :=
 (bif decide (gi y0 0 < (9 : Int)) then xae ((0 : Int) ≤ gi y0 0) ((bif bAnd IntKind.i64 (set.fdiv ((2 : Int) ^ min (gi y0 0).toNat IntKind.i64.bits)) (1 : Int) == (1 : Int) then xae (xbJ 24 ((gr y0 1).length + [[(2 : Int), gi y0 0, (0 : Int)]].length)) (some (0, [.i (IntKind.i64.wrap (gi y0 0 + (1 : Int))), .r (gr y0 1 ++ [[(2 : Int), gi y0 0, (0 : Int)]])])) else some (0, [.i (IntKind.i64.wrap (gi y0 0 + (1 : Int))), .r (gr y0 1)]))) else some (3, [.i (gi y0 0), .r (gr y0 1)]))
noncomputable def xix (set : Int) (list : List (List Int)) : Nat × List U := xaw (xb3 set list) (xff set list)
noncomputable def xlL (set : Int) (list : List (List Int)) (y1 : List U) : List (List Int) :=
 gr y1 1 ++ [[(3 : Int), (list.getD (gi y1 0).toNat []).getD 0 (0 : Int), (list.getD (gi y1 0).toNat []).getD 1 (0 : Int)]]
noncomputable def xc8 (set : Int) (list : List (List Int)) : List U :=
 [.i ((0 : Int)), .r (gr (xix set list).snd 1)]
noncomputable def xcE (set : Int) (list : List (List Int)) (y1 : List U) : Option (Nat × List U) :=
 (bif decide (gi y1 0 < (↑list.length : Int)) then xae (inR (gi y1 0) list) (xae (inR (gi y1 0) list) (xae ((((list.getD (gi y1 0).toNat []).getD 3 (0 : Int) != (0 : Int)) = true) → ((0 : Int) ≤ (list.getD (gi y1 0).toNat []).getD 0 (0 : Int))) ((bif (list.getD (gi y1 0).toNat []).getD 3 (0 : Int) != (0 : Int) &&
 bAnd IntKind.i64 (set.fdiv ((2 : Int) ^ min ((list.getD (gi y1 0).toNat []).getD 0 (0 : Int)).toNat IntKind.i64.bits)) (1 : Int) == (1 : Int) then some (0, [.i (IntKind.i64.wrap (gi y1 0 + (1 : Int))), .r (gr y1 1)]) else (bif (list.getD (gi y1 0).toNat []).getD 2 (0 : Int) != (0 : Int) then xae (xbJ 24 ((gr y1 1).length + [[(1 : Int), (0 : Int), (list.getD (gi y1 0).toNat []).getD 1 (0 : Int)]].length)) (some (0, [.i (IntKind.i64.wrap (gi y1 0 + (1 : Int))), .r (gr y1 1 ++ [[(1 : Int), (0 : Int), (list.getD (gi y1 0).toNat []).getD 1 (0 : Int)]])])) else xae (xbJ 24 ((gr y1 1).length + [[(3 : Int), (list.getD (gi y1 0).toNat []).getD 0 (0 : Int), (list.getD (gi y1 0).toNat []).getD 1 (0 : Int)]].length)) (some (0, [.i (IntKind.i64.wrap (gi y1 0 + (1 : Int))), .r ((xlL set list y1))]))))))) else some (4, [.i (gi y1 0), .r (gr y1 1)]))
noncomputable def xam (set : Int) (list : List (List Int)) : Nat × List U := xaw (xcE set list) (xc8 set list)
noncomputable def xlK (set : Int) (list : List (List Int)) (y2 : List U) : Int :=
 ((xaM 3 [0, 1, 2] (gr (xam set list).snd 1)).getD (IntKind.i64.wrap (gi y2 0 - (1 : Int))).toNat []).getD 0 (0 : Int)
noncomputable def xlJ (set : Int) (list : List (List Int)) (y2 : List U) : Int :=
 ((xaM 3 [0, 1, 2] (gr (xam set list).snd 1)).getD (IntKind.i64.wrap (gi y2 0 - (1 : Int))).toNat []).getD 1 (0 : Int)
noncomputable def xlI (set : Int) (list : List (List Int)) (y2 : List U) : Int :=
 ((xaM 3 [0, 1, 2] (gr (xam set list).snd 1)).getD (IntKind.i64.wrap (gi y2 0 - (1 : Int))).toNat []).getD 2 (0 : Int)
noncomputable def xiw (set : Int) (list : List (List Int)) (y2 : List U) : Int :=
 (↑((xas (↑(xaM 3 [0, 1, 2] (gr (xam set list).snd 1)).length : Int) (some (gi y2 0)) none).snd.snd.toNat -
   loN (xas (↑(xaM 3 [0, 1, 2] (gr (xam set list).snd 1)).length : Int) (some (gi y2 0)) none).snd.fst) :
 Int)
noncomputable def xgk (set : Int) (list : List (List Int)) (y2 : List U) : Int :=
 (↑(loN (xas (↑(xaM 3 [0, 1, 2] (gr (xam set list).snd 1)).length : Int) (some (gi y2 0)) none).snd.fst) : Int)
noncomputable def xcQ (set : Int) (list : List (List Int)) (y2 y3 : List U) : Int :=
 shI (xas (↑(xaM 3 [0, 1, 2] (gr (xam set list).snd 1)).length : Int) (some (gi y2 0)) none).snd.fst (gi y3 1)
noncomputable def xfd (set : Int) (list : List (List Int)) (y2 y3 : List U) : Int :=
 shI (xas (↑(xaM 3 [0, 1, 2] (gr (xam set list).snd 1)).length : Int) (some (gi y2 0)) none).snd.fst
 (IntKind.i64.wrap (gi y3 1 - (1 : Int)))
noncomputable def xlH (set : Int) (list : List (List Int)) (y2 y3 : List U) : List Int :=
 [((gr y3 2).getD ((xcQ set list y2 y3)).toNat []).getD 0 (0 : Int), ((gr y3 2).getD ((xcQ set list y2 y3)).toNat []).getD 1 (0 : Int),
 ((gr y3 2).getD ((xcQ set list y2 y3)).toNat []).getD 2 (0 : Int)]
noncomputable def xcD (set : Int) (list : List (List Int)) (y2 : List U) : List U :=
 [.i (gi y2 0), .i ((1 : Int)), .r (xaM 3 [0, 1, 2] (gr (xam set list).snd 1))]
noncomputable def xb1 (set : Int) (list : List (List Int)) (y2 : List U) (y3 : List U) : Option (Nat × List U) :=
 (bif decide (gi y3 1 < (xiw set list y2)) then xae (((0 : Int) ≤ gi y3 1) ∧ (((xgk set list y2) + gi y3 1 < (xas (↑(xaM 3 [0, 1, 2] (gr (xam set list).snd 1)).length : Int) (some (gi y2 0)) none).snd.snd) ∧ ((xas (↑(xaM 3 [0, 1, 2] (gr (xam set list).snd 1)).length : Int) (some (gi y2 0)) none).snd.snd ≤ (↑(gr y3 2).length : Int)))) (xae (inR ((xcQ set list y2 y3)) (gr y3 2)) (xae (((0 : Int) ≤ IntKind.i64.wrap (gi y3 1 - (1 : Int))) ∧ (((xgk set list y2) + IntKind.i64.wrap (gi y3 1 - (1 : Int)) <
 (xas (↑(xaM 3 [0, 1, 2] (gr (xam set list).snd 1)).length : Int) (some (gi y2 0)) none).snd.snd) ∧ ((xas (↑(xaM 3 [0, 1, 2] (gr (xam set list).snd 1)).length : Int) (some (gi y2 0)) none).snd.snd ≤ (↑(gr y3 2).length : Int)))) (xae (inR ((xfd set list y2 y3)) (gr y3 2)) ((bif !(((gr y3 2).getD ((xcQ set list y2 y3)).toNat []).getD 0 (0 : Int) == ((gr y3 2).getD ((xfd set list y2 y3)).toNat []).getD 0 (0 : Int) &&
  (((gr y3 2).getD ((xcQ set list y2 y3)).toNat []).getD 1 (0 : Int) == ((gr y3 2).getD ((xfd set list y2 y3)).toNat []).getD 1 (0 : Int) &&
   (((gr y3 2).getD ((xcQ set list y2 y3)).toNat []).getD 2 (0 : Int) == ((gr y3 2).getD ((xfd set list y2 y3)).toNat []).getD 2 (0 : Int) && true))) then xae (((0 : Int) ≤ gi y3 1) ∧ (((xgk set list y2) + gi y3 1 < (xas (↑(xaM 3 [0, 1, 2] (gr (xam set list).snd 1)).length : Int) (some (gi y2 0)) none).snd.snd) ∧ ((xas (↑(xaM 3 [0, 1, 2] (gr (xam set list).snd 1)).length : Int) (some (gi y2 0)) none).snd.snd ≤ (↑(gr y3 2).length : Int)))) (xae (inR ((xcQ set list y2 y3)) (gr y3 2)) (xae (inR (gi y3 0) (gr y3 2)) (xae (inR (gi y3 0) (gr y3 2)) (some (0, [.i (IntKind.i64.wrap (gi y3 0 + (1 : Int))), .i (IntKind.i64.wrap (gi y3 1 + (1 : Int))), .r ((gr y3 2).set (gi y3 0).toNat (xnE 3 ((gr y3 2).getD (gi y3 0).toNat []) 0 ((xlH set list y2 y3))))]))))) else some (0, [.i (gi y3 0), .i (IntKind.i64.wrap (gi y3 1 + (1 : Int))), .r (gr y3 2)])))))) else some (3, [.i (gi y3 0), .i (gi y3 1), .r (gr y3 2)]))
noncomputable def xap (set : Int) (list : List (List Int)) (y2 : List U) : Nat × List U := xaw (xb1 set list y2) (xcD set list y2)
noncomputable def xb0 (set : Int) (list : List (List Int)) (y2 : List U) : Int :=
 (some (xas (↑(gr (xap set list y2).snd 2).length : Int) (some (gi (xap set list y2).snd 0)) none).snd.snd).getD (↑(gr (xap set list y2).snd 2).length : Int)
noncomputable def xkr (set : Int) (list : List (List Int)) (y2 : List U) : List (List Int) :=
 List.replicate (((xb0 set list y2)).toNat - loN (xas (↑(gr (xap set list y2).snd 2).length : Int) (some (gi (xap set list y2).snd 0)) none).snd.fst)
 [(0 : Int), (0 : Int), (0 : Int)]
noncomputable def xdJ (set : Int) (list : List (List Int)) (y2 : List U) : List (List Int) :=
 List.take (loN (xas (↑(gr (xap set list y2).snd 2).length : Int) (some (gi (xap set list y2).snd 0)) none).snd.fst) (gr (xap set list y2).snd 2) ++
 (xkr set list y2)
noncomputable def xhn (set : Int) (list : List (List Int)) (y2 : List U) : Int :=
 (xas (↑((xdJ set list y2) ++ List.drop ((xb0 set list y2)).toNat (gr (xap set list y2).snd 2)).length : Int) none (some (gi (xap set list y2).snd 0))).snd.snd
noncomputable def xfe (set : Int) (list : List (List Int)) : List U :=
 [.i ((1 : Int))]
noncomputable def xb2 (set : Int) (list : List (List Int)) (y2 : List U) : Option (Nat × List U) :=
 (bif decide (gi y2 0 < (↑(xaM 3 [0, 1, 2] (gr (xam set list).snd 1)).length : Int)) then xae (inR (gi y2 0) (xaM 3 [0, 1, 2] (gr (xam set list).snd 1))) (xae (inR (gi y2 0) (xaM 3 [0, 1, 2] (gr (xam set list).snd 1))) (xae (inR (IntKind.i64.wrap (gi y2 0 - (1 : Int))) (xaM 3 [0, 1, 2] (gr (xam set list).snd 1))) (xae (inR (IntKind.i64.wrap (gi y2 0 - (1 : Int))) (xaM 3 [0, 1, 2] (gr (xam set list).snd 1))) ((bif ((xaM 3 [0, 1, 2] (gr (xam set list).snd 1)).getD (gi y2 0).toNat []).getD 0 (0 : Int) == (xlK set list y2) &&
 (((xaM 3 [0, 1, 2] (gr (xam set list).snd 1)).getD (gi y2 0).toNat []).getD 1 (0 : Int) == (xlJ set list y2) &&
  (((xaM 3 [0, 1, 2] (gr (xam set list).snd 1)).getD (gi y2 0).toNat []).getD 2 (0 : Int) == (xlI set list y2) && true)) then xae (((0 : Int) ≤ gi y2 0) ∧ (gi y2 0 ≤ (↑(xaM 3 [0, 1, 2] (gr (xam set list).snd 1)).length : Int))) (xae ((xaH (xb1 set list y2) (xcD set list y2))) (xae (((0 : Int) ≤ gi (xap set list y2).snd 0) ∧ (gi (xap set list y2).snd 0 ≤ (↑(gr (xap set list y2).snd 2).length : Int))) (xae (((↑(loN (xas (↑(gr (xap set list y2).snd 2).length : Int) (some (gi (xap set list y2).snd 0)) none).snd.fst) : Int) ≤ (xb0 set list y2)) ∧ ((xb0 set list y2) ≤ (↑(gr (xap set list y2).snd 2).length : Int))) (xae (((0 : Int) ≤ gi (xap set list y2).snd 0) ∧ (gi (xap set list y2).snd 0 ≤ (↑((xdJ set list y2) ++ List.drop ((xb0 set list y2)).toNat (gr (xap set list y2).snd 2)).length : Int))) (some (1, [.i ((xhn set list y2)), .r ((xdJ set list y2) ++ List.drop ((xb0 set list y2)).toNat (gr (xap set list y2).snd 2))])))))) else some (0, [.i (IntKind.i64.wrap (gi y2 0 + (1 : Int)))])))))) else some (3, [.i (gi y2 0)]))
noncomputable def xbi (set : Int) (list : List (List Int)) : Nat × List U := xaw (xb2 set list) (xfe set list)
noncomputable def xkq (set : Int) (list : List (List Int)) : List (List Int) :=
 bif (xbi set list).fst.beq 1 then List.take (gi (xbi set list).snd 0).toNat (gr (xbi set list).snd 1)
else xaM 3 [0, 1, 2] (gr (xam set list).snd 1)
noncomputable def xkp (set : Int) (list : List (List Int)) : List (List Int) :=
 bif decide ((↑(xaM 3 [0, 1, 2] (gr (xam set list).snd 1)).length : Int) < (2 : Int)) then
 xaM 3 [0, 1, 2] (gr (xam set list).snd 1)
else (xkq set list)
noncomputable def xaL (set : Int) (list : List (List Int)) : List (List Int) :=
 (xkp set list)
def xdg (set : Int) (list : List (List Int)) : Prop :=
 (((xaH (xb3 set list) (xff set list))) ∧ (((xaH (xcE set list) (xc8 set list))) ∧ (((gr (xam set list).snd 1).length < 4611686018427387904) ∧ ((decide ((↑(xaM 3 [0, 1, 2] (gr (xam set list).snd 1)).length : Int) < (2 : Int)) = false) → (((xaH (xb2 set list) (xfe set list))) ∧ (((xbi set list).fst.beq 1 = true) → (((0 : Int) ≤ gi (xbi set list).snd 0) ∧ (gi (xbi set list).snd 0 ≤ (↑(gr (xbi set list).snd 1).length : Int)))))))))
noncomputable def xdR (list : List (List Int)) : List U :=
 [.i ((0 : Int)), .i ((0 : Int))]
noncomputable def xbd (list : List (List Int)) (y0 : List U) : Option (Nat × List U) :=
 (bif decide (gi y0 1 < (↑list.length : Int)) then xae (inR (gi y0 1) list) (xae (inR (gi y0 1) list) ((bif (list.getD (gi y0 1).toNat []).getD 3 (0 : Int) != (0 : Int) then xae ((0 : Int) ≤ (list.getD (gi y0 1).toNat []).getD 0 (0 : Int)) (some (0, [.i (bOr IntKind.i64 (gi y0 0) (bShl IntKind.i64 (1 : Int) ((list.getD (gi y0 1).toNat []).getD 0 (0 : Int)))), .i (IntKind.i64.wrap (gi y0 1 + (1 : Int)))])) else some (0, [.i (gi y0 0), .i (IntKind.i64.wrap (gi y0 1 + (1 : Int)))])))) else some (3, [.i (gi y0 0), .i (gi y0 1)]))
noncomputable def xdp (list : List (List Int)) : Nat × List U := xaw (xbd list) (xdR list)
noncomputable def xfI (list : List (List Int)) (y1 y2 : List U) : Int :=
 xcX (((xaL (gi y1 0) list).getD (gi y2 1).toNat []).getD 0 (0 : Int))
 (((xaL (gi y1 0) list).getD (gi y2 1).toNat []).getD 1 (0 : Int)) (((xaL (gi y1 0) list).getD (gi y2 1).toNat []).getD 2 (0 : Int))
 (((gr y1 1).getD (gi y2 1).toNat []).getD 0 (0 : Int)) (((gr y1 1).getD (gi y2 1).toNat []).getD 1 (0 : Int))
 (((gr y1 1).getD (gi y2 1).toNat []).getD 2 (0 : Int))
noncomputable def xcd (list : List (List Int)) (y1 : List U) : List U :=
 [.i ((0 : Int)), .i ((0 : Int))]
noncomputable def xbc (list : List (List Int)) (y1 : List U) (y2 : List U) : Option (Nat × List U) :=
 (bif decide (gi y2 1 < (↑(xaL (gi y1 0) list).length : Int)) then xae (inR (gi y2 1) (xaL (gi y1 0) list)) (xae (inR (gi y2 1) (xaL (gi y1 0) list)) ((bif decide (gi y2 1 ≥ (↑(gr y1 1).length : Int)) then some (1, []) else xae (inR (gi y2 1) (gr y1 1)) (xae (inR (gi y2 1) (gr y1 1)) (xae (xbK (((xaL (gi y1 0) list).getD (gi y2 1).toNat []).getD 0 (0 : Int))
 (((xaL (gi y1 0) list).getD (gi y2 1).toNat []).getD 1 (0 : Int)) (((xaL (gi y1 0) list).getD (gi y2 1).toNat []).getD 2 (0 : Int))
 (((gr y1 1).getD (gi y2 1).toNat []).getD 0 (0 : Int)) (((gr y1 1).getD (gi y2 1).toNat []).getD 1 (0 : Int))
 (((gr y1 1).getD (gi y2 1).toNat []).getD 2 (0 : Int))) ((bif (xfI list y1 y2) != (0 : Int) then some (2, [.i ((xfI list y1 y2))]) else some (0, [.i (gi y2 0), .i (IntKind.i64.wrap (gi y2 1 + (1 : Int)))])))))))) else some (4, [.i (gi y2 0), .i (gi y2 1)]))
noncomputable def xa7 (list : List (List Int)) (y1 : List U) : Nat × List U := xaw (xbc list y1) (xcd list y1)
noncomputable def xdo (list : List (List Int)) (y1 : List U) : Int :=
 bif decide ((↑(xaL (gi y1 0) list).length : Int) < (↑(gr y1 1).length : Int)) then (-1 : Int) else (0 : Int)
noncomputable def xc1 (list : List (List Int)) : List U :=
 [.i ((0 : Int)), .r (xaL (0 : Int) list)]
noncomputable def xce (list : List (List Int)) (y1 : List U) : Option (Nat × List U) :=
 (bif decide (gi y1 0 < IntKind.i64.wrap (gi (xdp list).snd 0 + (1 : Int))) then (bif bNot IntKind.i64 (gi y1 0) (gi (xdp list).snd 0) != (0 : Int) then some (0, [.i (IntKind.i64.wrap (gi y1 0 + (1 : Int))), .r (gr y1 1)]) else xae (xdg (gi y1 0) list) (xae ((decide (xaj (↑(xaL (gi y1 0) list).length : Int) (↑(gr y1 1).length : Int) < (0 : Int)) = false) → (((xaj (↑(xaL (gi y1 0) list).length : Int) (↑(gr y1 1).length : Int) == (0 : Int)) = true) → ((xaH (xbc list y1) (xcd list y1))))) ((bif decide (xaj (↑(xaL (gi y1 0) list).length : Int) (↑(gr y1 1).length : Int) < (0 : Int)) ||
 xaj (↑(xaL (gi y1 0) list).length : Int) (↑(gr y1 1).length : Int) == (0 : Int) &&
  decide ((bif (xa7 list y1).fst.beq 1 then (1 : Int) else bif (xa7 list y1).fst.beq 2 then gi (xa7 list y1).snd 0 else (xdo list y1)) < (0 : Int)) then some (0, [.i (IntKind.i64.wrap (gi y1 0 + (1 : Int))), .r (xaL (gi y1 0) list)]) else some (0, [.i (IntKind.i64.wrap (gi y1 0 + (1 : Int))), .r (gr y1 1)]))))) else some (4, [.i (gi y1 0), .r (gr y1 1)]))
noncomputable def xhV (list : List (List Int)) : Nat × List U := xaw (xce list) (xc1 list)
noncomputable def xb7 (list : List (List Int)) : List (List Int) :=
 gr (xhV list).snd 1
def xbX (list : List (List Int)) : Prop :=
 (((xaH (xbd list) (xdR list))) ∧ ((xdg (0 : Int) list) ∧ ((xaH (xce list) (xc1 list)))))
end Go.Proofs.YtikhnofbbcmpeaaGreat
set_option maxRecDepth 100000
set_option linter.unusedVariables false
namespace Go.Proofs.YtikhnofbbcmpeaaGreat
open Go Go.Sy
theorem xpO (set : Int) (list : List (List Int)) : xat Tryz.prog 1 (xa6 Tryz.prog K26 xde 9 99 [.sl 0, .int .i64 set] ⟨[⟨0, 1, false, .row 99 [.int .i64, .int .i64, .bool, .bool] list⟩], 1⟩) = some ⟨some (xdg set list), [], 1, [⟨1, 1, true, .row 80 [.int .i64, .int .i64, .int .i64] (xaL set list)⟩], .sl 1⟩ := by kernel_rfl
noncomputable def xks : List U → Option Eff
 | [.i set, .r list] => some ⟨some (xdg set list), [], 1, [⟨1, 1, true, .row 80 [.int .i64, .int .i64, .int .i64] (xaL set list)⟩], .sl 1⟩
 | _ => Option.none
noncomputable def K27 : Con := ext Tryz.prog K26 99 [.sl 0, .int .i64 0] [⟨0, 0, false, .row 99 [.int .i64, .int .i64, .bool, .bool] []⟩] xks
theorem xAx : xbm Tryz.prog K27 := xav xaD xAy (n := 9) rfl rfl fun us x h => by
 unfold xks at h
 split at h
 ·cases h; exact ⟨some (xdg _ _), xpO _ _, fun h => h⟩
 ·cases h
theorem xlG (list : List (List Int)) : xat Tryz.prog 1 (xa6 Tryz.prog K27 xde 9 57 [.sl 0] ⟨[⟨0, 1, false, .row 99 [.int .i64, .int .i64, .bool, .bool] list⟩], 1⟩) = some ⟨some (xbX list), [], 1, [⟨1, 1, true, .row 80 [.int .i64, .int .i64, .int .i64] (xb7 list)⟩], .sl 1⟩ := by kernel_rfl
noncomputable def xg3 : List U → Option Eff
 | [.r list] => some ⟨some (xbX list), [], 1, [⟨1, 1, true, .row 80 [.int .i64, .int .i64, .int .i64] (xb7 list)⟩], .sl 1⟩
 | _ => Option.none
noncomputable def K28 : Con := ext Tryz.prog K27 57 [.sl 0] [⟨0, 0, false, .row 99 [.int .i64, .int .i64, .bool, .bool] []⟩] xg3
theorem xAw : xbm Tryz.prog K28 := xav xaD xAx (n := 9) rfl rfl fun us x h => by
 unfold xg3 at h
 split at h
 ·cases h; exact ⟨some (xbX _), xlG _, fun h => h⟩
 ·cases h
end Go.Proofs.YtikhnofbbcmpeaaGreat
set_option maxRecDepth 100000
set_option linter.unusedVariables false
namespace Go.Proofs.YtikhnofbbcmpeaaGreat
open Go Go.Sy
noncomputable def xdm (v : Int) (s : List (List Int)) : List U :=
 [.i ((0 : Int)), .i ((0 : Int))]
noncomputable def xa3 (v : Int) (s : List (List Int)) (y0 : List U) : Option (Nat × List U) :=
 (bif decide (gi y0 1 < (↑s.length : Int)) then xae (inR (gi y0 1) s) (xae (inR (gi y0 1) s) ((bif v == (s.getD (gi y0 1).toNat []).getD 0 (0 : Int) then some (1, [.i (gi y0 1)]) else some (0, [.i (gi y0 0), .i (IntKind.i64.wrap (gi y0 1 + (1 : Int)))])))) else some (3, [.i (gi y0 0), .i (gi y0 1)]))
noncomputable def xex (v : Int) (s : List (List Int)) : Nat × List U := xaw (xa3 v s) (xdm v s)
noncomputable def xbB (v : Int) (s : List (List Int)) : Bool :=
 decide ((bif (xex v s).fst.beq 1 then gi (xex v s).snd 0 else (-1 : Int)) ≥ (0 : Int))
def xa2 (v : Int) (s : List (List Int)) : Prop :=
 ((xaH (xa3 v s) (xdm v s)))
end Go.Proofs.YtikhnofbbcmpeaaGreat
set_option maxRecDepth 100000
set_option linter.unusedVariables false
namespace Go.Proofs.YtikhnofbbcmpeaaGreat
open Go Go.Sy
theorem xgy (v : Int) (s : List (List Int)) : xat Tryz.prog 1 (xa6 Tryz.prog K28 xde 9 96 [.sl 0, .int .i64 v] ⟨[⟨0, 1, false, .row 3 [.int .i64] s⟩], 1⟩) = some ⟨some (xa2 v s), [], 0, [], .bool (xbB v s)⟩ := by kernel_rfl
noncomputable def xd7 : List U → Option Eff
 | [.i v, .r s] => some ⟨some (xa2 v s), [], 0, [], .bool (xbB v s)⟩
 | _ => Option.none
noncomputable def K29 : Con := ext Tryz.prog K28 96 [.sl 0, .int .i64 0] [⟨0, 0, false, .row 3 [.int .i64] []⟩] xd7
theorem xeB : xbm Tryz.prog K29 := xav xaD xAw (n := 9) rfl rfl fun us x h => by
 unfold xd7 at h
 split at h
 ·cases h; exact ⟨some (xa2 _ _), xgy _ _, fun h => h⟩
 ·cases h
end Go.Proofs.YtikhnofbbcmpeaaGreat
