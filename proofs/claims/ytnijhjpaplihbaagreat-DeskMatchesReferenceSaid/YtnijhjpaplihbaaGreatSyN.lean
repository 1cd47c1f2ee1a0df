/-
 The executor is sound: slots; one step of a region.
-/
import Derived.Test.YtnijhjpaplihbaaGreatSyM
import Derived.TacticsIn
import Derived.Lib.SliceRun
set_option linter.unusedVariables false
namespace Go.Sy
open Go.RowKit
theorem xgl {α : Type} (s : Nat → α) (d : Nat) (v : α) : upd s d v d = v := by unfold upd; rw [xdM]
theorem xgz {α : Type} (s : Nat → α) {d t : Nat} (v : α) (h : t ≠ d) : upd s d v t = s t := by unfold upd; rw [xil h]
abbrev FR (r : Option Nat) : Fence := { Fence.wide with round := r }
theorem xnB {r : Option Nat} {n : Nat} {P : Program} {f : FuncId} {args : Array Value} {w : World} {R : Ending → World → Prop} : CallsIn (FR r) n P f args w R ↔ Calls P f args w R := callsIn_wide (n := n)
section
variable {P : Program} {Γ : Con} {call : xie} {yld : Nat → List AV → Heap → Tree (AV × Heap)} {X : List (Nat × Go.Obj)} {w0 : World}
def xe8 (ctx : Ctx) : Prop := ∀ c ∈ ctx, c.2.2 = c.2.1
theorem xtx : ∀ {ctx : Ctx} {p : Prop}, xxB ctx p → xe8 ctx → p
 | [], _, h, _ => h
 | (g, want, b) :: r, _, h, hc => xtx (ctx := r) h (fun c hc' => hc c (List.mem_cons_of_mem _ hc')) (hc (g, want, b) List.mem_cons_self)
def xrA (E : Env) (n : Nat) (a : Act) (t : Nat) : Slot → Prop
 | .is v => a.tmps.getD t undef = v.den E ∧ AV.lt n v
 | .when g want v => AV.lt n v ∧ (a.tmps.getD g undef = .bool want → a.tmps.getD t undef = v.den E) ∧ (a.tmps.getD g undef ≠ .bool want → a.tmps.getD t undef = undef)
 | .junk => True
structure xaO (E : Env) (n N : Nat) (D : List Deferred) (s : xaY) (a : Act) : Prop where
 defers : a.defers = D
 size : N ≤ a.tmps.size
 ok : ∀ t, xrA E n a t (s t)
def xmb (s : xaY) (seen : List Nat) : Prop := ∀ t g want v, s t = .when g want v → g ∈ seen
theorem xaO.env {E E' : Env} {n n' N : Nat} {D : List Deferred} {s : xaY} {a : Act} (h : xaO E n N D s a) (hE : ∀ k, k < n → E' k = E k) (hn : n ≤ n') : xaO E' n' N D s a := by
 refine ⟨h.defers, h.size, fun t => ?_⟩
 have := h.ok t
 cases hs : s t with
 | is v => rw [hs] at this; exact ⟨by rw [xj8 hE v this.2]; exact this.1, xg9 hn v this.2⟩
 | when g want v => rw [hs] at this; exact ⟨xg9 hn v this.1, fun hg => by rw [xj8 hE v this.1]; exact this.2.1 hg, this.2.2⟩
 | junk => trivial
theorem xiC {a : Act} {d : Nat} (t : Nat) (v : Value) (hd : d < a.tmps.size) : (a.put (some d) v).tmps.getD t undef = if t = d then v else a.tmps.getD t undef := by
 simp only [Act.put, Array.getD_eq_getD_getElem?, Array.getElem?_setIfInBounds]
 by_cases h : d = t
 ·subst h; simp [hd]
 ·rw [if_neg h, if_neg (by omega)]
theorem xaO.put {E : Env} {n N : Nat} {D : List Deferred} {s : xaY} {a : Act} (h : xaO E n N D s a) {dst : Option Nat} (hd : ∀ d, dst = some d → d < N ∧ ∀ t g want v, s t = .when g want v → g ≠ d) {sl : Slot} {u : Value}
  (hsl : match sl with | .is v => u = v.den E ∧ AV.lt n v | .when g want v => AV.lt n v ∧ dst ≠ some g ∧ (a.tmps.getD g undef = .bool want → u = v.den E) ∧ (a.tmps.getD g undef ≠ .bool want → u = undef) | .junk => True) :
  xaO E n N D (Sy.put s dst sl) (a.put dst u) := by
 cases dst with
 | none => exact h
 | some d =>
  obtain ⟨hdN, hg⟩ := hd d rfl
  have hlt : d < a.tmps.size := Nat.lt_of_lt_of_le hdN h.size
  refine ⟨by simp only [Act.put]; exact h.defers, by simp only [Act.put, Array.size_setIfInBounds]; exact h.size, fun t => ?_⟩
  show xrA E n _ t (upd s d sl t)
  by_cases ht : t = d
  ·subst ht
   rw [xgl]
   cases sl with
   | is v => exact ⟨by rw [xiC _ _ hlt, if_pos rfl]; exact hsl.1, hsl.2⟩
   | when g want v =>
    have hne : g ≠ t := fun e => hsl.2.1 (by rw [e])
    refine ⟨hsl.1, fun hb => ?_, fun hb => ?_⟩
    ·rw [xiC _ _ hlt, if_neg hne] at hb
     rw [xiC _ _ hlt, if_pos rfl]
     exact hsl.2.2.1 hb
    ·rw [xiC _ _ hlt, if_neg hne] at hb
     rw [xiC _ _ hlt, if_pos rfl]
     exact hsl.2.2.2 hb
   | junk => trivial
  ·rw [xgz _ _ ht]
   have := h.ok t
   cases hs : s t with
   | is v => rw [hs] at this; exact ⟨by rw [xiC _ _ hlt, if_neg ht]; exact this.1, this.2⟩
   | when g want v =>
    rw [hs] at this
    refine ⟨this.1, fun hb => ?_, fun hb => ?_⟩
    ·rw [xiC _ _ hlt, if_neg (hg t g want v hs)] at hb
     rw [xiC _ _ hlt, if_neg ht]
     exact this.2.1 hb
    ·rw [xiC _ _ hlt, if_neg (hg t g want v hs)] at hb
     rw [xiC _ _ hlt, if_neg ht]
     exact this.2.2 hb
   | junk => trivial
theorem xnu {s : xaY} {seen : List Nat} {N : Nat} {seen' : List Nat} {dst : Option Nat} {sl : Slot} (h : xmb s seen) (hs : xgh N dst seen = some seen') (hsl : ∀ g want v, sl = .when g want v → g ∈ seen) : xmb (put s dst sl) seen' := by
 intro t g want v ht
 cases dst with
 | none => cases hs; exact h t g want v ht
 | some d =>
  simp only [xgh] at hs
  split at hs
  ·cases hs
   refine List.mem_cons_of_mem _ ?_
   by_cases hd : t = d
   ·subst hd
    have ht : upd s t sl t = .when g want v := ht
    rw [xgl] at ht
    exact hsl g want v ht
   ·have ht : upd s d sl t = .when g want v := ht
    rw [xgz _ _ hd] at ht
    exact h t g want v ht
  ·cases hs
theorem xB5 {N : Nat} {s : xaY} {seen seen' : List Nat} {dst : Option Nat} (h : xmb s seen) (hs : xgh N dst seen = some seen') : ∀ d, dst = some d → d < N ∧ ∀ t g want v, s t = .when g want v → g ≠ d := by
 intro d hd
 subst hd
 simp only [xgh] at hs
 split at hs
 ·rename_i hc
  rw [Bool.and_eq_true] at hc
  refine ⟨by simpa using hc.1, fun t g want v ht hg => ?_⟩
  subst hg
  have := h t g want v ht
  have h2 : seen.any (Nat.beq g) = true := List.any_eq_true.2 ⟨g, this, xdM g⟩
  rw [h2] at hc
  simp at hc
 ·cases hs
theorem xBG {ctx : Ctx} {g : Nat} {want : Bool} {a : Act} (hctx : ∀ c ∈ ctx, a.tmps.getD c.1 undef = .bool c.2.1) (h : ctx.any (fun c => Nat.beq c.1 g && (c.2.1 == want)) = true) : a.tmps.getD g undef = .bool want := by
 obtain ⟨c, hc, hb⟩ := List.any_eq_true.1 h
 rw [Bool.and_eq_true] at hb
 have h1 : c.1 = g := Nat.eq_of_beq_eq_true hb.1
 have h2 : c.2.1 = want := by simpa using hb.2
 rw [← h1, ← h2]
 exact hctx c hc
theorem xir {E : Env} {n N : Nat} {D : List Deferred} {s : xaY} {a : Act} (h : xaO E n N D s a) (ctx : Ctx) (hctx : ∀ c ∈ ctx, a.tmps.getD c.1 undef = .bool c.2.1) :
  ∀ x v, readS ctx s x = some v → a.eval x = v.den E ∧ AV.lt n v := by
 intro x v hx
 cases x with
 | tmp t =>
  simp only [readS] at hx
  have := h.ok t
  split at hx
  ·rename_i v' hs
   cases hx
   rw [hs] at this
   exact this
  ·rename_i g want v' hs
   rw [hs] at this
   split at hx
   ·rename_i hc
    cases hx
    exact ⟨this.2.1 (xBG hctx hc), this.1⟩
   ·cases hx
  ·cases hx
 | const c => cases hx; exact ⟨(xj7 E c).symm, xiy _ c⟩
 | global g => cases hx; exact ⟨rfl, trivial⟩
 | func f => cases hx; exact ⟨rfl, trivial, trivial⟩
theorem xfU {E : Env} {n N : Nat} {D : List Deferred} {s : xaY} {a : Act} (h : xaO E n N D s a) : ∀ (m g : Nat) (want : Bool) (ctx : Ctx), xbo s m g want = some ctx →
  (a.tmps.getD g undef = .bool want ↔ xe8 ctx) ∧ (xe8 ctx → ∀ c ∈ ctx, a.tmps.getD c.1 undef = .bool c.2.1) ∧ ∃ b r, ctx = (g, want, b) :: r
 | 0, _, _, _, h => by cases h
 | m + 1, g, want, ctx, hc => by
  unfold xbo at hc
  have hg := h.ok g
  split at hc
  ·rename_i v hs
   split at hc
   case h_2 => cases hc
   rename_i b hvb
   cases hc
   rw [hs] at hg
   have hg1 : a.tmps.getD g undef = .bool b := by rw [hg.1, ← xg8, hvb]; rfl
   refine ⟨⟨fun e c hc => ?_, fun hc => ?_⟩, fun hc c hmem => ?_, b, [], rfl⟩
   ·rw [hg1] at e
    cases e
    simp at hc; subst hc; rfl
   ·have := hc (g, want, b) (by simp)
    simp at this
    rw [hg1, this]
   ·have := hc (g, want, b) (by simp)
    simp at this hmem
    subst hmem
    show a.tmps.getD g undef = .bool want
    rw [hg1, this]
  ·rename_i g1 w1 v hs
   split at hc
   case h_2 => cases hc
   rename_i b hvb
   rw [hs] at hg
   have hvd : v.den E = .bool b := by rw [← xg8, hvb]; rfl
   cases hr : xbo s m g1 w1 with
   | none => rw [hr] at hc; cases hc
   | some r =>
    rw [hr] at hc
    cases hc
    obtain ⟨ih1, ih2, _⟩ := xfU h m g1 w1 r hr
    have fwd : a.tmps.getD g undef = .bool want → b = want ∧ xe8 r := by
     intro e
     by_cases h1 : a.tmps.getD g1 undef = .bool w1
     ·have := hg.2.1 h1
      rw [e, hvd] at this
      cases this
      exact ⟨rfl, ih1.1 h1⟩
     ·have := hg.2.2 h1
      rw [e] at this
      cases this
    have bwd : b = want → xe8 r → a.tmps.getD g undef = .bool want := fun hb hr' => by
     rw [hg.2.1 (ih1.2 hr'), ← hb, hvd]
    have split : xe8 ((g, want, b) :: r) ↔ b = want ∧ xe8 r := by simp [xe8]
    refine ⟨⟨fun e => split.2 (fwd e), fun hc => bwd (split.1 hc).1 (split.1 hc).2⟩, fun hc c hmem => ?_, b, r, rfl⟩
    obtain ⟨h1, h2⟩ := split.1 hc
    rcases List.mem_cons.1 hmem with rfl | hmem
    ·exact bwd h1 h2
    ·exact ih2 h2 c hmem
  ·cases hc
theorem xzd {E : Env} {n N : Nat} {D : List Deferred} {s : xaY} {a : Act} (h : xaO E n N D s a) {g : Nat} {v : Bool} (hg : a.tmps.getD g undef = .bool v) : xaO E n N D (xs6 g v s) a := by
 refine ⟨h.defers, h.size, fun t => ?_⟩
 unfold xs6
 by_cases ht : t = g
 ·subst ht; rw [xgl]; exact ⟨hg, trivial⟩
 ·rw [xgz _ _ ht]
  have := h.ok t
  cases hs : s t with
  | is x => rw [hs] at this; exact this
  | junk => trivial
  | when g' w x =>
   rw [hs] at this
   simp only []
   cases hb : Nat.beq g' g with
   | false => simp only [Bool.false_eq_true, if_false]; exact this
   | true =>
    have hgg : g' = g := Nat.eq_of_beq_eq_true hb
    subst hgg
    simp only [if_true]
    cases hw : (w == v) with
    | true =>
     have : w = v := by simpa using hw
     subst this
     exact ⟨(by assumption : xrA E n a t (.when g' w x)).2.1 hg, (by assumption : xrA E n a t (.when g' w x)).1⟩
    | false =>
     refine ⟨this.2.2 (fun e => ?_), trivial⟩
     rw [hg] at e
     cases e
     simp at hw
theorem xlh {g : Nat} {v : Bool} {s : xaY} {t g' : Nat} {w : Bool} {x : AV} (h : xs6 g v s t = .when g' w x) : s t = .when g' w x := by
 unfold xs6 at h
 by_cases ht : t = g
 ·subst ht; rw [xgl] at h; cases h
 ·rw [xgz _ _ ht] at h
  cases hs : s t with
  | is y => rw [hs] at h; cases h
  | junk => rw [hs] at h; cases h
  | when g2 w2 y =>
   rw [hs] at h
   simp only [] at h
   split at h
   ·split at h <;> cases h
   ·exact h
def xoQ (a : Act) : Ctx → Prop
 | [] => True
 | (g, want, b) :: r => a.tmps.getD g undef = .bool b ∧ (b = want → xoQ a r)
theorem xru {a : Act} {g : Nat} {want b : Bool} : ∀ {l : Ctx}, xoQ a l → (xe8 l → a.tmps.getD g undef = .bool b) → xoQ a (l ++ [(g, want, b)])
 | [], _, h => ⟨h (fun c hc => by cases hc), fun _ => trivial⟩
 | (g', w', b') :: r, hc, h => ⟨hc.1, fun hb => xru (hc.2 hb) (fun hr => h (fun c hm => by
   rcases List.mem_cons.1 hm with rfl | hm
   ·exact hb
   ·exact hr c hm))⟩
theorem xfO {ctx : Ctx} : xe8 ctx.reverse ↔ xe8 ctx := by simp [xe8]
theorem xl6 {E : Env} {n N : Nat} {D : List Deferred} {s : xaY} {a : Act} (h : xaO E n N D s a) : ∀ (m g : Nat) (want : Bool) (ctx : Ctx), xbo s m g want = some ctx → xoQ a ctx.reverse
 | 0, _, _, _, hc => by cases hc
 | m + 1, g, want, ctx, hc => by
  unfold xbo at hc
  have hg := h.ok g
  split at hc
  ·rename_i v hs
   split at hc
   case h_2 => cases hc
   rename_i b hvb
   cases hc
   rw [hs] at hg
   exact ⟨by rw [hg.1, ← xg8, hvb]; rfl, fun _ => trivial⟩
  ·rename_i g1 w1 v hs
   split at hc
   case h_2 => cases hc
   rename_i b hvb
   rw [hs] at hg
   cases hr : xbo s m g1 w1 with
   | none => rw [hr] at hc; cases hc
   | some r =>
    rw [hr] at hc
    cases hc
    obtain ⟨q1, _, _⟩ := xfU h m g1 w1 r hr
    rw [List.reverse_cons]
    refine xru (xl6 h m g1 w1 r hr) (fun hcs => ?_)
    rw [hg.2.1 (q1.2 (xfO.1 hcs)), ← xg8, hvb]; rfl
  ·cases hc
theorem xp4 {E : Env} {n N : Nat} {D : List Deferred} {a : Act} {t e : xaY → Tree RCfg} {Q : RCfg → Prop} : ∀ (rs : Ctx) (s : xaY), xaO E n N D s a → xoQ a rs → (brG rs s t e).holds Q →
  (xe8 rs → ∃ s', xaO E n N D s' a ∧ (∀ u g w v, s' u = .when g w v → s u = .when g w v) ∧ (t s').holds Q) ∧ (¬ xe8 rs → ∃ s', xaO E n N D s' a ∧ (∀ u g w v, s' u = .when g w v → s u = .when g w v) ∧ (e s').holds Q)
 | [], s, hS, _, h => ⟨fun _ => ⟨s, hS, fun _ _ _ _ h => h, h⟩, fun hn => absurd (fun c hc => by cases hc) hn⟩
 | (g, want, b) :: rest, s, hS, hc, h => by
  have split : xe8 ((g, want, b) :: rest) ↔ b = want ∧ xe8 rest := by simp [xe8]
  by_cases hb : b = want
  ·have hg : a.tmps.getD g undef = .bool want := by rw [hc.1, hb]
   obtain ⟨i1, i2⟩ := xp4 rest (xs6 g want s) (xzd hS hg) (hc.2 hb) (h.1 (by simp [hb]))
   refine ⟨fun hcs => ?_, fun hcs => ?_⟩
   ·obtain ⟨s', q1, q2, q3⟩ := i1 (split.1 hcs).2
    exact ⟨s', q1, fun u g' w v hu => xlh (q2 u g' w v hu), q3⟩
   ·obtain ⟨s', q1, q2, q3⟩ := i2 (fun hr => hcs (split.2 ⟨hb, hr⟩))
    exact ⟨s', q1, fun u g' w v hu => xlh (q2 u g' w v hu), q3⟩
  ·have hbw : b = !want := by cases b <;> cases want <;> simp_all
   have hg : a.tmps.getD g undef = .bool (!want) := by rw [hc.1, hbw]
   refine ⟨fun hcs => absurd (split.1 hcs).1 hb, fun _ => ⟨_, xzd hS hg, fun u g' w v hu => xlh hu, h.2 (by simp [hb])⟩⟩
section
variable {rnd : Option Nat} {E : Env} {H : Heap} {n N : Nat} {D : List Deferred} {s : xaY} {a : Act} {w : World}
def xuD (P : Program) (yld : Nat → List AV → Heap → Tree (AV × Heap)) : Prop := ∀ (X : List (Nat × Go.Obj)) (w0 : World) (key : Nat) (args : List AV) (H : Heap) (E : Env) (w : World) (R : Ending → World → Prop),
 xag X E w0 H w → key < H.next → AV.ltL H.next args →
 (yld key args H).holds (fun x => ∀ E' w', (∀ k, k < H.next → E' k = E k) → xag X E' w0 x.2 w' → AV.lt x.2.next x.1 → H.next ≤ x.2.next → Old H x.2 → R (.returned (x.1.den E')) w') →
 ∃ fn tmps assign body, (Instr.yield (blk (E key)) (AV.denL E args).toArray).run P w = .ok (.round (blk (E key)) fn tmps assign body) w ∧ RoundIn (FR none) 0 P (blk (E key)) fn tmps assign body w R
theorem xit {o : Oper} {nx : Next} {w' : World} {v : Value} {K : Act → World → Prop} {Q : Exit → Act → World → Prop} (ho : ∀ c, o.op ≠ .defer c) (hr : (execOp a.eval o).run P w = .ok nx w') (hv : nx = .value v ∨ (nx = .skip ∧ v = undef)) (hK : K (a.put o.dst v) w') :
  o.wpIn (FR rnd) 0 P a w K Q := by
 refine ⟨fun _ _ => trivial, ?_⟩
 rw [Oper.semAt_eq _ _ _ ho, hr]
 rcases hv with rfl | ⟨rfl, rfl⟩
 ·exact hK
 ·exact hK
theorem xiR {o : Oper} {f : FuncId} {args : Array Value} {w' : World} {K : Act → World → Prop} {Q : Exit → Act → World → Prop} (ho : ∀ c, o.op ≠ .defer c) (hr : (execOp a.eval o).run P w = .ok (.enter f args) w')
  (hc : Calls P f args w' fun e w'' => ∃ v, e = .returned v ∧ K (a.put o.dst v) w'') : o.wpIn (FR rnd) 0 P a w K Q := by
 refine ⟨fun _ _ => trivial, ?_⟩
 rw [Oper.semAt_eq _ _ _ ho, hr]
 refine ⟨fun h => (by cases h), (xnB.2 hc).mono fun e w'' he => ?_⟩
 obtain ⟨v, rfl, hk⟩ := he
 exact hk
theorem xpu {o : Oper} {l : Nat} {f : FuncId} {tmps : Array Value} {assign body : Code} {w' : World} {K : Act → World → Prop} {Q : Exit → Act → World → Prop} (ho : ∀ c, o.op ≠ .defer c) (hr : (execOp a.eval o).run P w = .ok (.round l f tmps assign body) w')
  (hc : RoundIn (FR none) 0 P l f tmps assign body w' fun e w'' => ∃ v, e = .returned v ∧ K (a.put o.dst v) w'') : o.wpIn (FR rnd) 0 P a w K Q := by
 refine ⟨fun _ _ => trivial, ?_⟩
 rw [Oper.semAt_eq _ _ _ ho, hr]
 refine ⟨fun h => (by cases h), ?_⟩
 have hc' : RoundIn (FR rnd) 0 P l f tmps assign body w' fun e w'' => ∃ v, e = .returned v ∧ K (a.put o.dst v) w'' := hc
 refine RoundIn.mono hc' fun e w'' he => ?_
 obtain ⟨v, rfl, hk⟩ := he
 exact hk
def Post (X : List (Nat × Go.Obj)) (w0 : World) (E : Env) (H : Heap) (N : Nat) (D : List Deferred) (K : Act → World → Prop) (x : RCfg) : Prop :=
 ∀ E' a' w', (∀ k, k < H.next → E' k = E k) → xaO E' x.2.next N D x.1 a' → xag X E' w0 x.2 w' → H.next ≤ x.2.next → Old H x.2 → K a' w'
def Goal (rnd : Option Nat) (P : Program) (a : Act) (w : World) (o : Oper) (K : Act → World → Prop) (Q : Exit → Act → World → Prop) : Ctx → Prop
 | [] => o.wpIn (FR rnd) 0 P a w K Q
 | c :: r => (xe8 (c :: r) → o.wpIn (FR rnd) 0 P a w K Q) ∧ (¬ xe8 (c :: r) → K (a.put o.dst undef) w)
def xAn (a : Act) (o : Oper) : Ctx → Prop
 | [] => True
 | (g, want, b) :: r => (a.tmps.getD g undef = .bool want ↔ xe8 ((g, want, b) :: r)) ∧ (xe8 ((g, want, b) :: r) → ∀ c ∈ (g, want, b) :: r, a.tmps.getD c.1 undef = .bool c.2.1) ∧ o.dst ≠ some g
theorem xAn.vals {o : Oper} {ctx : Ctx} (h : xAn a o ctx) (hc : xe8 ctx) : ∀ c ∈ ctx, a.tmps.getD c.1 undef = .bool c.2.1 := by
 cases ctx with
 | nil => intro c hc; cases hc
 | cons c r => obtain ⟨g, want, b⟩ := c; exact h.2.1 hc
theorem xys {o : Oper} {ctx : Ctx} {K : Act → World → Prop} {Q : Exit → Act → World → Prop} (h1 : xe8 ctx → o.wpIn (FR rnd) 0 P a w K Q) (h2 : ∀ c r, ctx = c :: r → ¬ xe8 ctx → K (a.put o.dst undef) w) : Goal rnd P a w o K Q ctx := by
 cases ctx with
 | nil => exact h1 (fun c hc => by cases hc)
 | cons c r => exact ⟨h1, h2 c r rfl⟩
theorem xld (hS : xaO E n N D s a) {o : Oper} (hd : ∀ d, o.dst = some d → d < N ∧ ∀ t g want v, s t = .when g want v → g ≠ d) {ctx : Ctx} (hctx : xAn a o ctx) {v : AV} (hl : AV.lt n v) :
  (xe8 ctx → xaO E n N D (Sy.put s o.dst (xkY ctx v)) (a.put o.dst (v.den E))) ∧ (∀ c r, ctx = c :: r → ¬ xe8 ctx → xaO E n N D (Sy.put s o.dst (xkY ctx v)) (a.put o.dst undef)) := by
 cases ctx with
 | nil => exact ⟨fun _ => hS.put hd ⟨rfl, hl⟩, fun c r e => by cases e⟩
 | cons c r =>
  obtain ⟨g, want, b⟩ := c
  exact ⟨fun hc => hS.put hd ⟨hl, hctx.2.2, fun _ => rfl, fun hn => absurd (hctx.1.2 hc) hn⟩, fun c r _ hc => hS.put hd ⟨hl, hctx.2.2, fun he => absurd (hctx.1.1 he) hc, fun _ => rfl⟩⟩
def Does (rnd : Option Nat) (P : Program) (E : Env) (objs : List Obj) (K0 : Nat) (a : Act) (w : World) (o : Oper) (x : Eff) : Prop :=
 x.holds → ∀ (K : Act → World → Prop) (Q : Exit → Act → World → Prop), (∀ E' w', xhI E objs w K0 x E' w' → K (a.put o.dst (x.v.den E')) w') → o.wpIn (FR rnd) 0 P a w K Q
theorem xu4 {objs : List Obj} {K0 : Nat} {o : Oper} {x : Eff} (ho : ∀ c, o.op ≠ .defer c) (h : OpOk P E objs w K0 a.eval o x) : Does rnd P E objs K0 a w o x := by
 intro hp K Q hK
 obtain ⟨E', w', nx, hr, hv, he⟩ := h hp
 exact xit ho hr hv (hK E' w' he)
theorem xlR {objs : List Obj} {K0 : Nat} {o : Oper} {x : Eff} {f : FuncId} {args : Array Value} (hE : ∀ k, (E k).oneCell' = true) (ho : ∀ c, o.op ≠ .defer c) (hr : (execOp a.eval o).run P w = .ok (.enter f args) w) (hw : xke K0 x)
  (h : x.holds → Calls P f args w fun e w' => ∃ E', e = .returned (x.v.den E') ∧ xxO E w K0 x E' w') : Does rnd P E objs K0 a w o x := by
 intro hp K Q hK
 refine xiR ho hr ((h hp).mono fun e w' ⟨E', he, hg⟩ => ⟨_, he, ?_⟩)
 obtain ⟨h1, h2⟩ := hg.effOk (objs := objs) hE hw
 rw [← h2]
 exact hK _ _ h1
theorem xwV {x : Eff} (h : x.pure = true) : x.rm = [] ∧ x.add = [] ∧ x.nk = 0 := by
 unfold Eff.pure at h
 rw [Bool.and_eq_true, Bool.and_eq_true] at h
 exact ⟨by simpa using h.1.1, by simpa using h.1.2, Nat.eq_of_beq_eq_true h.2⟩
theorem xoG {α : Type} {ctx : Ctx} {p : Option Prop} {t : Tree α} {Q : α → Prop} (h : (xw4 ctx p t).holds Q) : (∀ q, p = some q → xxB ctx q) ∧ t.holds Q := by
 cases p with
 | none => exact ⟨fun q hq => by (cases hq), h⟩
 | some p => exact ⟨fun q hq => by (cases hq; exact h.1), h.2⟩
theorem xng (hS : xaO E H.next N D s a) (hH : xag X E w0 H w) {o : Oper} (hd : ∀ d, o.dst = some d → d < N ∧ ∀ t g want v, s t = .when g want v → g ≠ d)
  {ctx : Ctx} (hctx : xAn a o ctx) (hch : xoQ a ctx.reverse) {x : Eff} (hwf : xe7 H.next H.objs H.next x) (hr : xe8 ctx → Does rnd P E H.objs H.next a w o x) {K : Act → World → Prop} {Q : Exit → Act → World → Prop}
  (h : (xtL s H o.dst ctx x).holds (Post X w0 E H N D K)) : Goal rnd P a w o K Q ctx := by
 have hd' : ∀ s' : xaY, (∀ u g w v, s' u = .when g w v → s u = .when g w v) → ∀ d, o.dst = some d → d < N ∧ ∀ t g want v, s' t = .when g want v → g ≠ d := fun s' hw d hdd => ⟨(hd d hdd).1, fun t g want v ht => (hd d hdd).2 t g want v (hw t g want v ht)⟩
 have skip : ∀ s' : xaY, xaO E H.next N D s' a → (∀ u g w v, s' u = .when g w v → s u = .when g w v) → (Post X w0 E H N D K (Sy.put s' o.dst (.is (.val undef)), H)) → K (a.put o.dst undef) w := fun s' hS' hw hp =>
  hp E _ w (fun _ _ => rfl) (hS'.put (hd' s' hw) ⟨rfl, trivial⟩) hH (Nat.le_refl _) (Old.refl _)
 have hfr : ∀ o ∈ H.objs, (o.key < H.next ∨ H.next + x.nk ≤ o.key) ∧ xbh (fun k => k < H.next ∨ H.next + x.nk ≤ k) o.body := fun o ho => ⟨.inl (hH.lt o ho).1, xa3 (fun k hk => .inl hk) (hH.lt o ho).2⟩
 unfold xtL at h
 split at h
 ·rename_i hpure
  obtain ⟨hn1, h⟩ := xoG h
  obtain ⟨e1, e2, e3⟩ := xwV hpure
  have hl : AV.lt H.next x.v := xgk (fun k hk => by rw [e3] at hk; show k < H.next; omega) _ hwf.val
  obtain ⟨p1, p2⟩ := xld hS hd hctx hl
  refine xys (fun hc => ?_) (fun c r e hc => h E _ w (fun _ _ => rfl) (p2 c r e hc) hH (Nat.le_refl _) (Old.refl _))
  refine hr hc ?_ K Q fun E' w' he => ?_
  ·unfold Eff.holds
   cases hp : x.p with
   | none => trivial
   | some p => exact xtx (hn1 p hp) hc
  ·have hE : ∀ k, E' k = E k := fun k => he.agree k (by omega)
   have hH2 := hH.effAt hwf he hfr (Nat.le_refl _) (by omega)
   have : xhc x H.objs = H.objs := by simp [xhc, e1, e2]
   rw [this] at hH2
   have hEE : E' = E := funext hE
   subst hEE
   exact h E' _ w' (fun _ _ => rfl) (p1 hc) hH2 (Nat.le_refl _) (Old.refl _)
 ·have go : ∀ s' : xaY, xaO E H.next N D s' a → (∀ u g w v, s' u = .when g w v → s u = .when g w v) → (xw4 [] x.p (.ret (Sy.put s' o.dst (.is x.v), H.eff x))).holds (Post X w0 E H N D K) → xe8 ctx → o.wpIn (FR rnd) 0 P a w K Q := fun s' hS' hw hp hb => by
   obtain ⟨hn1, hp⟩ := xoG hp
   refine hr hb ?_ K Q fun E' w' he => ?_
   ·unfold Eff.holds
    cases hp : x.p with
    | none => trivial
    | some p => exact hn1 p hp
   ·have hH2 := hH.effAt hwf he hfr (n' := H.next + x.nk) (by omega) (Nat.le_refl _)
    have hE : ∀ k, k < H.next → E' k = E k := fun k hk => he.agree k (.inl hk)
    refine hp E' _ w' hE ((hS'.env hE (by simp [Heap.eff])).put (hd' s' hw) ⟨rfl, xgk (fun k hk => by show k < H.next + x.nk; omega) _ hwf.val⟩) hH2 (by simp [Heap.eff]) (Old.eff hwf.ver)
  cases ctx with
  | nil => exact go s hS (fun _ _ _ _ h => h) h (fun c hc => by cases hc)
  | cons c r =>
   obtain ⟨b1, b2⟩ := xp4 _ s hS hch h
   refine ⟨fun hb => ?_, fun hb => ?_⟩
   ·obtain ⟨s', q1, q2, q3⟩ := b1 (xfO.2 hb)
    exact go s' q1 q2 q3 hb
   ·obtain ⟨s', q1, q2, q3⟩ := b2 (fun hc => hb (xfO.1 hc))
    exact skip s' q1 q2 q3
theorem xf5 (h : xaO E n N D s a) {ctx : Ctx} (hctx : ∀ c ∈ ctx, a.tmps.getD c.1 undef = .bool c.2.1) {c : Operand} {side : Bool} (hc : ∀ t, c = .tmp t → a.tmps.getD t undef = .bool side) : ∀ x v, xg3 ctx s c side x = some v → a.eval x = v.den E ∧ AV.lt n v := by
 intro x v hx
 cases x with
 | tmp t =>
  simp only [xg3] at hx
  have := h.ok t
  split at hx
  ·rename_i v' hs
   cases hx
   rw [hs] at this
   exact this
  ·rename_i g want v' hs
   rw [hs] at this
   split at hx
   ·rename_i hcc
    cases hx
    exact ⟨this.2.1 (xBG hctx hcc), this.1⟩
   ·split at hx
    ·rename_i g'
     split at hx
     ·rename_i hcc
      cases hx
      rw [Bool.and_eq_true] at hcc
      have hg : g = g' := Nat.eq_of_beq_eq_true hcc.1
      have hw : want = side := by simpa using hcc.2
      subst hg; subst hw
      exact ⟨this.2.1 (hc _ rfl), this.1⟩
     ·cases hx
    ·cases hx
  ·cases hx
 | const k => cases hx; exact ⟨(xj7 E k).symm, xiy _ k⟩
 | global g => cases hx; exact ⟨rfl, trivial⟩
 | func f => cases hx; exact ⟨rfl, trivial, trivial⟩
theorem xr4 {b : Bool} {x : Operand} (h : xz1 b x = true) : x = .const (.bool b) := by
 unfold xz1 at h
 split at h
 ·rename_i b'; have : b' = b := by simpa using h
  rw [this]
 ·cases h
theorem xzw {v u : AV} (h : xyI v = some u) : u = v ∧ ∃ b, v.weak = .bool b := by
 unfold xyI at h
 split at h
 ·cases h; exact ⟨rfl, _, rfl⟩
 ·cases h; exact ⟨rfl, _, rfl⟩
 ·cases h
theorem xwW (h : xaO E n N D s a) {ctx : Ctx} (hctx : ∀ c ∈ ctx, a.tmps.getD c.1 undef = .bool c.2.1) {c x y : Operand} {v : AV} (hp : xwX ctx s c x y = some v) : ∃ cb, a.eval c = .bool cb ∧ (if cb then a.eval x else a.eval y) = v.den E ∧ AV.lt n v := by
 unfold xwX at hp
 split at hp
 ·rename_i k h1
  have hc : a.eval c = .bool k := (xir h ctx hctx c _ h1).1
  have hct : ∀ t, c = .tmp t → a.tmps.getD t undef = .bool k := fun t ht => by subst ht; exact hc
  refine ⟨k, hc, ?_⟩
  cases k with
  | true =>
   simp only [] at hp
   cases hs : xg3 ctx s c true x with
   | none => rw [hs] at hp; cases hp
   | some u =>
    rw [hs] at hp
    obtain ⟨rfl, _⟩ := xzw hp
    exact xf5 h hctx (side := true) hct x _ hs
  | false =>
   simp only [] at hp
   cases hs : xg3 ctx s c false y with
   | none => rw [hs] at hp; cases hp
   | some u =>
    rw [hs] at hp
    obtain ⟨rfl, _⟩ := xzw hp
    exact xf5 h hctx (side := false) hct y _ hs
 ·rename_i cb h1
  split at hp
  case h_2 => cases hp
  rename_i xb yb h2 h3
  have hc := (xir h ctx hctx c _ h1).1
  refine ⟨cb, hc, ?_⟩
  have hct : ∀ t, c = .tmp t → a.tmps.getD t undef = .bool cb := fun t ht => by subst ht; exact hc
  have wk : ∀ {o : Option AV} {b : Bool}, o.map AV.weak = some (.bool b) → ∃ u, o = some u ∧ u.den E = .bool b := by
   intro o b ho
   cases o with
   | none => cases ho
   | some u =>
    have ho : u.weak = .bool b := Option.some.inj ho
    exact ⟨u, rfl, by rw [← xg8, ho]; rfl⟩
  obtain ⟨ux, hux, dux⟩ := wk h2
  obtain ⟨uy, huy, duy⟩ := wk h3
  have hx : cb = true → a.eval x = .bool xb := fun hb => by rw [(xf5 h hctx (side := true) (fun t ht => by rw [hct t ht, hb]) x _ hux).1, dux]
  have hy : cb = false → a.eval y = .bool yb := fun hb => by rw [(xf5 h hctx (side := false) (fun t ht => by rw [hct t ht, hb]) y _ huy).1, duy]
  split at hp
  ·rename_i hl
   cases hp
   have := xr4 hl
   cases cb
   ·exact ⟨by simp [hy rfl, AV.den], trivial⟩
   ·exact ⟨by subst this; rfl, trivial⟩
  ·split at hp
   ·rename_i hl
    cases hp
    have := xr4 hl
    cases cb
    ·exact ⟨by subst this; rfl, trivial⟩
    ·exact ⟨by simp [hx rfl, AV.den], trivial⟩
   ·cases hp
    cases cb
    ·exact ⟨by simp [hy rfl, AV.den], trivial⟩
    ·exact ⟨by simp [hx rfl, AV.den], trivial⟩
 ·cases hp
theorem xBd {b : Bool} {o : Option AV} (h : litV b o = true) : o = some (.val (.bool b)) := by
 unfold litV at h
 split at h
 ·rename_i b'
  have : b' = b := by simpa using h
  rw [this]
 ·cases h
theorem xsT (h : xaO E n N D s a) {ctx : Ctx} (hctx : ∀ c ∈ ctx, a.tmps.getD c.1 undef = .bool c.2.1) {c x y : Operand} {v : AV} (hp : xvP ctx s c x y = some v) : ∃ cb, a.eval c = .bool cb ∧ (if cb then a.eval x else a.eval y) = v.den E ∧ AV.lt n v := by
 unfold xvP at hp
 split at hp
 ·rename_i w hw
  cases hp
  unfold xAx at hw
  split at hw
  case h_2 => cases hw
  rename_i cb h1
  have hc := (xir h ctx hctx c _ h1).1
  have hct : ∀ t, c = .tmp t → a.tmps.getD t undef = .bool cb := fun t ht => by subst ht; exact hc
  refine ⟨cb, hc, ?_, trivial⟩
  split at hw
  ·rename_i hq
   cases hw
   rw [Bool.and_eq_true] at hq
   have e1 := xr4 hq.1
   have e2 := xBd hq.2
   cases cb with
   | true => exact (xf5 h hctx (side := true) hct x _ e2).1
   | false => subst e1; rfl
  ·split at hw
   ·rename_i hq
    cases hw
    rw [Bool.and_eq_true] at hq
    have e1 := xr4 hq.1
    have e2 := xBd hq.2
    cases cb with
    | true => subst e1; rfl
    | false => exact (xf5 h hctx (side := false) hct y _ e2).1
   ·cases hw
 ·exact xwW h hctx hp
theorem xCe (h : xaO E n N D s a) (ctx : Ctx) : ∀ x v, readS ctx s x = some v → AV.lt n v := by
 intro x v hx
 cases x with
 | tmp t =>
  simp only [readS] at hx
  have := h.ok t
  split at hx
  ·rename_i v' hs; cases hx; rw [hs] at this; exact this.2
  ·rename_i g want v' hs
   rw [hs] at this
   split at hx
   ·cases hx; exact this.1
   ·cases hx
  ·cases hx
 | const c => cases hx; exact xiy _ c
 | global g => cases hx; trivial
 | func f => cases hx; exact ⟨trivial, trivial⟩
theorem xzT {ctx : Ctx} {s : xaY} {c a b : Operand} {v : AV} (h : xvP ctx s c a b = some v) (n : Nat) : AV.lt n v := by
 unfold xvP at h
 split at h
 ·cases h; trivial
 have key : ∀ {o : Option AV}, o.bind xyI = some v → AV.lt n v := by
  intro o ho
  cases o with
  | none => cases ho
  | some u =>
   have ho : xyI u = some v := ho
   unfold xyI at ho
   split at ho <;> first | (cases ho; trivial) | cases ho
 unfold xwX at h
 split at h
 ·rename_i k _
  cases k
  ·exact key h
  ·exact key h
 ·split at h
  ·split at h
   ·cases h; trivial
   ·split at h <;> (cases h; trivial)
  ·cases h
 ·cases h
theorem xnp {o : Oper} {f : Operand} {args : Array Operand} {ts : Array TypeId} (ho : o.op = .call { callee := .value f, args := args, argTypes := ts }) {fi : FuncId} {first caps vs : List AV}
  (hf : a.eval f = (AV.fn (.func fi) first caps).den E) (hargs : args.toList.map a.eval = AV.denL E vs) (hfun : xe5 P fi) :
  (execOp a.eval o).run P w = .ok (.enter fi (AV.denL E (first ++ vs ++ caps)).toArray) w := by
 obtain ⟨fn, h1, h2, h3⟩ := hfun
 have h4 : fn.body.isNone = false := by cases hb : fn.body with
  | none => rw [hb] at h3; cases h3
  | some _ => rfl
 have e1 : (args.map a.eval) = (AV.denL E vs).toArray := by apply Array.ext'; rw [Array.toList_map]; exact hargs
 simp only [execOp, ho, resolve, hf, AV.den, Deferred.ofValue, Sem.run_bind, Sem.run_pure, Result.andThen_ok, invoke, callFunc, run_program, h1, e1, h4]
 have h5 : (fn.name == "runtime.NumGoroutine") = false := by simpa using h2
 simp only [h5, Bool.false_eq_true, if_false, Sem.run_pure]
 congr 2
 simp [xax]
theorem xyX {o : Oper} {c x y : Operand} {cb : Bool} (ho : o.op = .pick c x y) (hc : a.eval c = .bool cb) :
  (execOp a.eval o).run P w = .ok (.value (if cb then a.eval x else a.eval y)) w := by
 simp only [execOp, ho, hc, asBool, Sem.run_bind, Sem.run_pure, Result.andThen_ok]
theorem xso {o : Oper} {f : Operand} {args : Array Operand} {ts : Array TypeId} (ho : o.op = .call { callee := .value f, args := args, argTypes := ts }) {key : Nat} {vs : List AV}
  (hf : a.eval f = (AV.yl key).den E) (hargs : args.toList.map a.eval = AV.denL E vs) {nx : Next} {w' : World} (hy : (Instr.yield (blk (E key)) (AV.denL E vs).toArray).run P w = .ok nx w') :
  (execOp a.eval o).run P w = .ok nx w' := by
 have e1 : (args.map a.eval) = (AV.denL E vs).toArray := by apply Array.ext'; rw [Array.toList_map]; exact hargs
 simp only [execOp, ho, resolve, hf, AV.den, Deferred.ofValue, Sem.run_bind, Sem.run_pure, Result.andThen_ok, invoke, e1]
 simpa using hy
theorem xyF (hΓ : xaI P Γ) (hcall : xkF P call) (hk : xhl P call) {f : FuncId} {args : List AV} {x : Eff} (h : xCA P Γ call f args H.objs H.next = some x) (hH : xag X E w0 H w) (hargs : AV.ltL H.next args) :
  xe5 P f ∧ xke H.next x ∧ (x.holds → Calls P f (AV.denL E args).toArray w fun e w' => ∃ E', e = .returned (x.v.den E') ∧ xxO E w H.next x E' w') := by
 unfold xCA at h
 split at h
 ·rename_i ft y hc
  cases h
  exact xtG hΓ (n := H.next) hH hargs hc
 ·split at h
  ·cases h
  obtain ⟨h1, h2⟩ := xp0 hcall h hH hargs
  exact ⟨hk f args _ fun e => (by rw [e] at h; cases h), h1, h2⟩
theorem xk4 (w : World) (bo : BinOp) (t : TypeId) (x y : Operand) (a a' : Option Addr) (n c n' c' : Nat) : (eqGuard bo t x y (.slice a n c) (.slice a' n' c')).run P w = .ok () w := by
 unfold eqGuard
 split <;> rfl
theorem xqn (w : World) (t e : TypeId) (a : Option Addr) (n c n' c' : Nat) (h : P.underlying t = some (.slice e)) :
  (binOp .neq t (.slice a n c) (.slice none n' c')).run P w = .ok (.bool !a.isNone) w := by
 simp only [binOp]
 simp [Op.equal, Op.maxDepth, Lib.run_equalIn_slice_nil w 9999 t e a n c n' c' h]
theorem xx9 {rd : Operand → Option AV} {objs : List Obj} {bo : BinOp} {t : TypeId} {x y : Operand} {p : Prop} {v : Bool} (h : xA2 P rd objs bo t x y = some (p, v)) :
  ∃ key te, ∃ o : Obj, ∃ e ks l, rd x = some (.sl key) ∧ rd y = some (.val (.slice none 0 0)) ∧ P.underlying t = some (.slice te) ∧ o ∈ objs ∧ o.key = key ∧ xe6 P o.body = some (e, ks, l) ∧ p = (l = []) ∧ ks.length ≠ 0 ∧ ((bo = .eql ∧ v = true) ∨ (bo = .neq ∧ v = false)) := by
 unfold xA2 at h
 split at h
 case h_2 => cases h
 rename_i b te hb hu
 split at h
 case isFalse => cases h
 rename_i hy
 split at h
 case h_2 => cases h
 rename_i key hx
 split at h
 case h_2 => cases h
 rename_i o hf
 split at h
 case h_2 => cases h
 rename_i e k0 ks l hr
 cases h
 obtain ⟨hm, hk⟩ := xah hf
 refine ⟨key, te, o, e, k0 :: ks, l, hx, ?_, hu, hm, hk, hr, rfl, by simp, ?_⟩
 ·unfold xCR at hy
  split at hy
  ·assumption
  ·cases hy
 ·cases bo <;> simp at hb <;> simp [← hb]
theorem xvE {own : Bool} {e : TypeId} {ks : List CK} {v : Value} {l : List (List Int)} {c : Nat} (hr : xbc w own e ks.length v l.length (rowV ks l)) (hv : v = .slice none l.length c) (hk : ks.length ≠ 0) : ∀ a r, l ≠ a :: r := by
 intro a r hl
 ·have hpos : 0 < (rowV ks l).length := by rw [xbn, hl]; exact Nat.mul_pos (by simp) (by omega)
  obtain ⟨a0, h0, _⟩ := hr.reads.cell 0 ((rowV ks l)[0]'hpos) (List.getElem?_eq_getElem hpos)
  rw [hv] at h0
  cases h0
theorem xov (hΓ : xaI P Γ) (hcall : xkF P call) (hk : xhl P call) (hyld : xuD P yld)
  (hS : xaO E H.next N D s a) (hH : xag X E w0 H w) {o : Oper} (hd : ∀ d, o.dst = some d → d < N ∧ ∀ t g want v, s t = .when g want v → g ≠ d)
  {ctx : Ctx} (hctx : xAn a o ctx) (hch : xoQ a ctx.reverse) {K : Act → World → Prop} {Q : Exit → Act → World → Prop}
  (h : (xtZ P Γ call yld o s H ctx).holds (Post X w0 E H N D K)) : Goal rnd P a w o K Q ctx := by
 have hrd : xe8 ctx → ∀ x v, readS ctx s x = some v → a.eval x = v.den E ∧ AV.lt H.next v := fun hb => xir hS ctx (hctx.vals hb)
 have hrl := xCe hS ctx
 have hd' : ∀ s' : xaY, (∀ u g w v, s' u = .when g w v → s u = .when g w v) → ∀ d, o.dst = some d → d < N ∧ ∀ t g want v, s' t = .when g want v → g ≠ d := fun s' hw d hdd => ⟨(hd d hdd).1, fun t g want v ht => (hd d hdd).2 t g want v (hw t g want v ht)⟩
 have skip : ∀ s' : xaY, xaO E H.next N D s' a → (∀ u g w v, s' u = .when g w v → s u = .when g w v) → (Post X w0 E H N D K (Sy.put s' o.dst (.is (.val undef)), H)) → K (a.put o.dst undef) w := fun s' hS' hw hp =>
  hp E _ w (fun _ _ => rfl) (hS'.put (hd' s' hw) ⟨rfl, trivial⟩) hH (Nat.le_refl _) (Old.refl _)
 unfold xtZ at h
 simp only [] at h
 split at h
 ·-- pick
  rename_i c x y hop
  split at h
  ·rename_i v hv
   have hl : AV.lt H.next v := xzT hv _
   obtain ⟨p1, p2⟩ := xld hS hd hctx hl
   refine xys (fun hc => ?_) (fun c r e hc => h E _ w (fun _ _ => rfl) (p2 c r e hc) hH (Nat.le_refl _) (Old.refl _))
   obtain ⟨cb, hcv, hval, _⟩ := xsT hS (hctx.vals hc) hv
   refine xit (fun c e => by rw [hop] at e; cases e) (xyX hop hcv) (.inl rfl) ?_
   rw [hval]
   exact h E _ w (fun _ _ => rfl) (p1 hc) hH (Nat.le_refl _) (Old.refl _)
  ·exact h.elim
 ·-- call
  rename_i f args ts hop
  have hnd : ∀ c, o.op ≠ .defer c := fun c e => by rw [hop] at e; cases e
  split at h
  ·rename_i fi first caps vs hf hvs
   have hfl := hrl _ _ hf
   have hvl : AV.ltL H.next vs := (xha _ _).2 (xmL (Q := AV.lt H.next) hrl _ _ hvs)
   have hargs : AV.ltL H.next (first ++ vs ++ caps) := by
    rw [xha]
    intro v hv
    simp only [List.mem_append] at hv
    rcases hv with (hv | hv) | hv
    ·exact (xha _ _).1 hfl.1 v hv
    ·exact (xha _ _).1 hvl v hv
    ·exact (xha _ _).1 hfl.2 v hv
   have hrun : xe5 P fi → xe8 ctx → (execOp a.eval o).run P w = .ok (.enter fi (AV.denL E (first ++ vs ++ caps)).toArray) w := fun hfun hb =>
    xnp hop (hrd hb _ _ hf).1 (xht (fun x v hx => (hrd hb x v hx).1) _ _ hvs) hfun
   split at h
   ·rename_i x hx
    obtain ⟨h1, h2, h3⟩ := xyD (n := H.next) hΓ hH hx
    refine xng hS hH hd hctx hch h2 (fun hb => fun hp K Q hK => xiR hnd (hrun h1 hb) ((h3 hp).mono fun e w' ⟨he, hg⟩ => ⟨_, he, hK _ _ hg⟩)) h
   split at h
   ·rename_i x hx
    have hx : xCA P Γ call fi (first ++ vs ++ caps) H.objs H.next = some x := by
     unfold xEv at hx
     split at hx
     ·cases hx
     ·exact hx
    obtain ⟨h1, h2, h3⟩ := xyF hΓ hcall hk hx hH hargs
    exact xng hS hH hd hctx hch h2.eff (fun hb => xlR hH.env hnd (hrun h1 hb) h2 h3) h
   ·have go : ∀ s' : xaY, xaO E H.next N D s' a → (∀ u g w v, s' u = .when g w v → s u = .when g w v) → ((call fi (first ++ vs ++ caps) H).bind fun (x : AV × Heap) => Tree.ret (Sy.put s' o.dst (.is x.1), x.2)).holds (Post X w0 E H N D K) → xe8 ctx → o.wpIn (FR rnd) 0 P a w K Q := by
     intro s' hS' hw h hb
     have hne : call fi (first ++ vs ++ caps) H ≠ .bad := fun e => by rw [e] at h; exact h
     refine xiR hnd (hrun (hk _ _ _ hne) hb) (hcall X w0 fi _ H E w _ hH hargs (xaT (fun x hx => ?_) (xbz h)))
     intro E' w' hE hH' hlv hle hold
     exact ⟨_, rfl, hx E' _ w' hE ((hS'.env hE hle).put (hd' s' hw) ⟨rfl, hlv⟩) hH' hle hold⟩
    split at h
    ·exact go s hS (fun _ _ _ _ h => h) h (fun c hc => by cases hc)
    ·rename_i c r
     obtain ⟨b1, b2⟩ := xp4 _ s hS hch h
     refine ⟨fun hb => ?_, fun hb => ?_⟩
     ·obtain ⟨s', q1, q2, q3⟩ := b1 (xfO.2 hb)
      exact go s' q1 q2 q3 hb
     ·obtain ⟨s', q1, q2, q3⟩ := b2 (fun hc => hb (xfO.1 hc))
      exact skip s' q1 q2 q3
  ·-- a yield
   rename_i key vs hf hvs
   have hfl : key < H.next := hrl _ _ hf
   have hvl : AV.ltL H.next vs := (xha _ _).2 (xmL (Q := AV.lt H.next) hrl _ _ hvs)
   have go : ∀ s' : xaY, xaO E H.next N D s' a → (∀ u g w v, s' u = .when g w v → s u = .when g w v) → ((yld key vs H).bind fun (x : AV × Heap) => Tree.ret (Sy.put s' o.dst (.is x.1), x.2)).holds (Post X w0 E H N D K) → xe8 ctx → o.wpIn (FR rnd) 0 P a w K Q := by
    intro s' hS' hw h hb
    obtain ⟨fn, tmps, assign, body, hy, hr⟩ := hyld X w0 key vs H E w (fun e w'' => ∃ v, e = .returned v ∧ K (a.put o.dst v) w'') hH hfl hvl (xaT (fun x hx => by
     intro E' w' hE hH' hlv hle hold
     exact ⟨_, rfl, hx E' _ w' hE ((hS'.env hE hle).put (hd' s' hw) ⟨rfl, hlv⟩) hH' hle hold⟩) (xbz h))
    exact xpu hnd (xso hop (hrd hb _ _ hf).1 (xht (fun x v hx => (hrd hb x v hx).1) _ _ hvs) hy) hr
   split at h
   ·exact go s hS (fun _ _ _ _ h => h) h (fun c hc => by cases hc)
   ·rename_i c r
    obtain ⟨b1, b2⟩ := xp4 _ s hS hch h
    refine ⟨fun hb => ?_, fun hb => ?_⟩
    ·obtain ⟨s', q1, q2, q3⟩ := b1 (xfO.2 hb)
     exact go s' q1 q2 q3 hb
    ·obtain ⟨s', q1, q2, q3⟩ := b2 (fun hc => hb (xfO.1 hc))
     exact skip s' q1 q2 q3
  ·exact h.elim
 ·-- all else
  split at h
  ·rename_i x hx
   have hfr : ∀ o ∈ H.objs, o.key ≠ H.next ∧ xbh (fun k => k ≠ H.next) o.body := fun o ho => ⟨by have := (hH.lt o ho).1; omega, xa3 (fun k hk => by omega) (hH.lt o ho).2⟩
   have hwf := (xCC (P := P) hH hrl (Nat.le_refl _) o.op hx (fun _ => hfr)).1
   have hnd : ∀ c, o.op ≠ .defer c := fun c e => by
    rw [e] at hx
    unfold xp9 at hx
    simp [xhk] at hx
   exact xng hS hH hd hctx hch hwf (fun hb => xu4 hnd (xkc hH (hrd hb) (Nat.le_refl _) o hx (fun _ => hfr)).2.1) h
  ·split at h
   ·rename_i bo t x y yt hop
    split at h
    ·rename_i p v hn
     obtain ⟨key, te, ok, e, ks, l, n1, n2, n3, n4, n5, n6, n7, n9, n8⟩ := xx9 hn
     have hnd : ∀ c, o.op ≠ .defer c := fun c e => by rw [hop] at e; cases e
     obtain ⟨aa, c, hv, hlc, _⟩ := (xbT n6 (hH.objs _ n4)).reads.is
     rw [n5] at hv
     have hempty : aa = none → p := by
      rintro rfl
      rw [n7]
      cases hl : l with
      | nil => rfl
      | cons e0 r0 => exact absurd hl (xvE (xbT n6 (hH.objs _ n4)) (by rw [n5]; exact hv) n9 _ _)
     have hrun : xe8 ctx → (execOp a.eval o).run P w = .ok (.value (.bool (if aa.isNone then v else !v))) w := by
      intro hc
      have h1 := (hrd hc x _ n1).1
      have h2 := (hrd hc y _ n2).1
      simp only [AV.den] at h1 h2
      rw [hv] at h1
      rcases n8 with ⟨rfl, rfl⟩ | ⟨rfl, rfl⟩
      ·simp only [execOp, hop, h1, h2, Sem.run_bind, xk4, Lib.run_eql_slice_nil w t te aa l.length c 0 0 n3, Result.andThen_ok, Sem.run_pure]
       cases aa <;> rfl
      ·simp only [execOp, hop, h1, h2, Sem.run_bind, xk4, xqn w t te aa l.length c 0 0 n3, Result.andThen_ok, Sem.run_pure]
       cases aa <;> rfl
     have hl : ∀ u : Bool, AV.lt H.next (.val (.bool u)) := fun _ => trivial
     have side : ∀ u : Bool, (Tree.ret (Sy.put s o.dst (xkY ctx (.val (.bool u))), H)).holds (Post X w0 E H N D K) → (xe8 ctx → (execOp a.eval o).run P w = .ok (.value (.bool u)) w) → Goal rnd P a w o K Q ctx := by
      intro u h hr
      obtain ⟨p1, p2⟩ := xld hS hd hctx (hl u)
      refine xys (fun hc => ?_) (fun c r e hc => h E _ w (fun _ _ => rfl) (p2 c r e hc) hH (Nat.le_refl _) (Old.refl _))
      exact xit hnd (hr hc) (.inl rfl) (h E _ w (fun _ _ => rfl) (p1 hc) hH (Nat.le_refl _) (Old.refl _))
     cases haa : aa with
     | none => exact side v (h.1 (hempty haa)) (fun hc => by rw [hrun hc, haa]; rfl)
     | some a0 => exact side (!v) h.2 (fun hc => by rw [hrun hc, haa]; rfl)
    ·exact h.elim
   ·exact h.elim
theorem xrr {ops : Array Oper} {o : Oper} (h : xoI ops o = some none) : o.guard = none := by
 unfold xoI at h
 split at h
 ·assumption
 ·split at h
  ·split at h <;> cases h
  ·cases h
theorem xrq {ops : Array Oper} {o : Oper} {g : Nat} {want : Bool} (h : xoI ops o = some (some (g, want))) : ∃ j oj, o.guard = some (j, want) ∧ ops[j]? = some oj ∧ oj.dst = some g := by
 unfold xoI at h
 split at h
 ·cases h
 ·rename_i j want' hg
  split at h
  ·rename_i oj hj
   split at h
   ·rename_i d hd
    cases h
    exact ⟨j, oj, hg, hj, hd⟩
   ·cases h
  ·cases h
theorem xqb {ops : Array Oper} {a : Act} {j g : Nat} {oj : Oper} {b : Bool} (hj : ops[j]? = some oj) (hd : oj.dst = some g) (hb : a.tmps.getD g undef = .bool b) : yielded ops a.tmps j = some b := by
 unfold yielded
 have hg : a.tmps[g]? = some (.bool b) := by
  rw [Array.getD_eq_getD_getElem?] at hb
  cases ht : a.tmps[g]? with
  | none => rw [ht] at hb; cases hb
  | some v => rw [ht] at hb; simp at hb; rw [hb]
 simp [hj, hd, hg]
end
end
end Go.Sy
