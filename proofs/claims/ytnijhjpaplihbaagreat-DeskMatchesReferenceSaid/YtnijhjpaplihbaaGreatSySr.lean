/-
 Walks by hand: operations one by one, a region that draws its order with what holds at each set of operations done.
-/
import Derived.Test.YtnijhjpaplihbaaGreatSySq
set_option linter.unusedVariables false
namespace Go.Sy
open Go.RowKit
section
variable {P : Program} {ops : Array Oper} {Q : Exit → Act → World → Prop} {a : Act} {w : World} {rnd : Option Nat}
def xfz (a : Act) (t : Nat) : Value := a.tmps.getD t undef
theorem xnn {d : Nat} {v : Value} (h : d < a.tmps.size) (t : Nat) : xfz (a.put (some d) v) t = if t = d then v else xfz a t := by
 unfold xfz Act.put
 rw [Array.getD_eq_getD_getElem?, Array.getElem?_setIfInBounds]
 by_cases e : t = d
 ·subst e; rw [if_pos rfl, if_pos h, if_pos rfl]; rfl
 ·rw [if_neg (fun h => e h.symm), if_neg e, ← Array.getD_eq_getD_getElem?]
theorem xno (dst : Option Nat) (v : Value) : (a.put dst v).tmps.size = a.tmps.size := by
 cases dst <;> simp [Act.put]
theorem xjD (dst : Option Nat) (v : Value) : (a.put dst v).defers = a.defers := by cases dst <;> rfl
theorem xto (t : Nat) : a.eval (.tmp t) = xfz a t := rfl
theorem xzc {o : Oper} {rest : List Oper} {nx : Next} {v : Value} {w' : World} (hg : o.guard = none) (ho : ∀ c, o.op ≠ .defer c) (hr : (execOp a.eval o).run P w = .ok nx w') (hv : nx = .value v ∨ (nx = .skip ∧ v = undef))
  (h : wpListIn (FR rnd) 0 P ops Q rest (a.put o.dst v) w') : wpListIn (FR rnd) 0 P ops Q (o :: rest) a w := by
 unfold wpListIn
 rw [if_pos (by simp [Region.wanted, hg])]
 exact xit ho hr hv h
theorem xr3 {o : Oper} {rest : List Oper} {v : Value} {w' : World} (hg : o.guard = none) (ho : ∀ c, o.op ≠ .defer c) (hr : (execOp a.eval o).run P w = .ok (.value v) w')
  (h : wpListIn (FR rnd) 0 P ops Q rest (a.put o.dst v) w') : wpListIn (FR rnd) 0 P ops Q (o :: rest) a w := xzc hg ho hr (.inl rfl) h
theorem xBe {o : Oper} {rest : List Oper} {f : FuncId} {args : Array Value} {w' : World} (hg : o.guard = none) (ho : ∀ c, o.op ≠ .defer c) (hr : (execOp a.eval o).run P w = .ok (.enter f args) w')
  (hc : Calls P f args w' fun e w'' => ∃ v, e = .returned v ∧ wpListIn (FR rnd) 0 P ops Q rest (a.put o.dst v) w'') : wpListIn (FR rnd) 0 P ops Q (o :: rest) a w := by
 unfold wpListIn
 rw [if_pos (by simp [Region.wanted, hg])]
 exact xiR ho hr hc
theorem xzY {o : Oper} {rest : List Oper} {l : Nat} {f : FuncId} {tmps : Array Value} {assign body : Code} {w' : World} (hg : o.guard = none) (ho : ∀ c, o.op ≠ .defer c) (hr : (execOp a.eval o).run P w = .ok (.round l f tmps assign body) w')
  (hc : RoundIn (FR none) 0 P l f tmps assign body w' fun e w'' => ∃ v, e = .returned v ∧ wpListIn (FR rnd) 0 P ops Q rest (a.put o.dst v) w'') : wpListIn (FR rnd) 0 P ops Q (o :: rest) a w := by
 unfold wpListIn
 rw [if_pos (by simp [Region.wanted, hg])]
 exact xpu ho hr hc
theorem xoE {o : Oper} {j : Nat} {nx : Next} {v : Value} {w' : World} {K : Act → World → Prop} (hj : ops[j]? = some o) (hg : o.guard = none) (ho : ∀ c, o.op ≠ .defer c) (hr : (execOp a.eval o).run P w = .ok nx w') (hv : nx = .value v ∨ (nx = .skip ∧ v = undef)) (h : K (a.put o.dst v) w') :
  wpOpIn (FR rnd) 0 P ops Q j K a w := by
 unfold wpOpIn
 rw [hj]
 simp only []
 rw [if_pos (by simp [Region.wanted, hg])]
 exact xit ho hr hv h
theorem xCj {o : Oper} {j : Nat} {f : FuncId} {args : Array Value} {w' : World} {K : Act → World → Prop} (hj : ops[j]? = some o) (hg : o.guard = none) (ho : ∀ c, o.op ≠ .defer c) (hr : (execOp a.eval o).run P w = .ok (.enter f args) w')
  (hc : Calls P f args w' fun e w'' => ∃ v, e = .returned v ∧ K (a.put o.dst v) w'') : wpOpIn (FR rnd) 0 P ops Q j K a w := by
 unfold wpOpIn
 rw [hj]
 simp only []
 rw [if_pos (by simp [Region.wanted, hg])]
 exact xiR ho hr hc
theorem xzP {id : Nat} (hm : P.follows .mixedOrders = true) (I : (Nat → Bool) → Act → World → Prop)
  (hedge : ∀ i o, ops[i]? = some o → ∀ e ∈ o.after, Region.binds .any e = true → e.on < i)
  (step : ∀ (S : Nat → Bool) (a : Act) (w : World) (j : Nat) (o : Oper), I S a w → S j = false → ops[j]? = some o → (∀ e ∈ o.after, Region.binds .any e = true → S e.on = true) →
   wpOpIn (FR rnd) 0 P ops Q j (fun a' w' => I (fun m => S m || Nat.beq m j) a' w') a w)
  (fin : ∀ (S : Nat → Bool) (a : Act) (w : World), I S a w → (∀ j, j < ops.size → S j = true) → Q .normal a w)
  (h0 : I (fun _ => false) a w.drew) : (Code.region id ops true).wpIn (FR rnd) 0 P Q a w := by
 have getD_eq : ∀ (listed : Array Bool), listed.size = ops.size → ∀ j, j < ops.size → listed.getD j true = listed.getD j false := by
  intro listed hl j hj
  have : j < listed.size := by omega
  simp [Array.getD, this]
 have ready_full : ∀ (listed : Array Bool), listed.size = ops.size → Region.ready .any ops listed = [] → ∀ n j, j < n → j < ops.size → listed.getD j false = true := by
  intro listed hl hr n
  induction n with
  | zero => intro j h; omega
  | succ n ih =>
   intro j hjn hj
   cases hb : listed.getD j false with
   | true => rfl
   | false =>
    exfalso
    have hmem : j ∈ Region.ready .any ops listed := by
     refine mem_ready.2 ⟨by rw [getD_eq listed hl j hj]; exact hb, ops[j], by simp [hj], fun e he hbi => ?_⟩
     have hlt := hedge j ops[j] (by simp [hj]) e he hbi
     exact ih e.on (by omega) (by omega)
    rw [hr] at hmem
    cases hmem
 have key : ∀ (fuel : Nat) (listed : Array Bool) (a : Act) (w : World), listed.size = ops.size → I (fun m => listed.getD m false) a w →
   (List.range ops.size).countP (fun i => !(listed.getD i false)) ≤ fuel → wpAnyIn (FR rnd) 0 P .any ops Q fuel listed a w := by
  intro fuel
  induction fuel with
  | zero =>
   intro listed a w hl hinv hcount
   have hfull : ∀ j, j < ops.size → listed.getD j false = true := by
    intro j hj
    cases hb : listed.getD j false with
    | true => rfl
    | false =>
     exfalso
     have : 0 < (List.range ops.size).countP (fun i => !(listed.getD i false)) := List.countP_pos_iff.2 ⟨j, by simpa using hj, by rw [hb]; rfl⟩
     omega
   refine ⟨?_, fin _ a w hinv hfull⟩
   rw [List.eq_nil_iff_forall_not_mem]
   intro j hj
   obtain ⟨hju, oj, hoj, _⟩ := mem_ready.1 hj
   have hlt : j < ops.size := by
    rcases Nat.lt_or_ge j ops.size with h | h
    ·exact h
    ·simp [h] at hoj
   rw [getD_eq listed hl j hlt, hfull j hlt] at hju
   cases hju
  | succ fuel ih =>
   intro listed a w hl hinv hcount
   refine ⟨fun h => fin _ a w hinv (fun j hj => ready_full listed hl h (j + 1) j (by omega) hj), fun j hj => ?_⟩
   obtain ⟨hju, oj, hoj, hall⟩ := mem_ready.1 hj
   have hlt : j < ops.size := by
    rcases Nat.lt_or_ge j ops.size with h | h
    ·exact h
    ·simp [h] at hoj
   rw [getD_eq listed hl j hlt] at hju
   have hset : ∀ m, (listed.setIfInBounds j true).getD m false = (listed.getD m false || Nat.beq m j) := by
    intro m
    by_cases hm : m = j
    ·subst hm
     rw [xdM]
     simp [Array.getD_eq_getD_getElem?, hl, hlt]
    ·rw [xil hm]
     simp [Array.getD_eq_getD_getElem?, Array.getElem?_setIfInBounds_ne (fun e => hm e.symm)]
   have hfun : (fun m => (listed.setIfInBounds j true).getD m false) = fun m => (listed.getD m false || Nat.beq m j) := funext hset
   refine wpOpIn_mono (fun a2 w2 hinv2 => ?_) (step _ a w j oj hinv hju hoj (fun e he hb => hall e he hb))
   refine ih _ a2 w2 (by simpa using hl) (by rw [hfun]; exact hinv2) ?_
   have := xtw (p := fun i => !(listed.getD i false)) (q := fun i => !((listed.setIfInBounds j true).getD i false)) (l := List.range ops.size) (j := j)
    (fun x hx => by
     rw [hset] at hx
     cases hb : listed.getD x false with
     | true => rw [hb] at hx; simp at hx
     | false => rfl) (by simpa using hlt) (by rw [hju]; rfl) (by rw [hset, xdM]; simp)
   omega
 refine wpIn_region_any hm (key ops.size _ a _ (by simp) ?_ ?_)
 ·have : (fun m => (Array.replicate ops.size false).getD m false) = fun _ => false := funext fun m => xpa _ m
  rw [this]
  exact h0
 ·refine Nat.le_trans List.countP_le_length ?_
  simp
end
end Go.Sy
