/-
  The executor is sound: regions in text order; the states of code; loops by rounds; what code writes.
-/
import Derived.Test.YtcbgjecpnhjlpaaSyV
import Derived.LoopNIn
import Derived.RangeFuncRecord
set_option linter.unusedVariables false
namespace Go.Sy
open Go.RowKit
section
variable {P : Program} {Γ : Con} {call : CallFn} {yld : Nat → List AV → Heap → Tree (AV × Heap)} {X : List (Nat × Go.Obj)} {w0 : World} {N : Nat} {D : List Deferred} {rnd : Option Nat}

/-- A state out of another, some guards' values being known. -/
structure Learned (rs : Ctx) (s s0 : Slots) : Prop where
  whens : ∀ u g w v, s0 u = .when g w v → s u = .when g w v
  else_ : ∀ u, s0 u = s u ∨ (∃ g w v, s u = .when g w v) ∨ ∃ c ∈ rs, c.1 = u
theorem Learned.refl (rs : Ctx) (s : Slots) : Learned rs s s := ⟨fun _ _ _ _ h => h, fun _ => .inl rfl⟩
theorem learned_step {rest : Ctx} {g : Nat} {want b v : Bool} {s s0 : Slots} (h : Learned rest (learn g v s) s0) : Learned ((g, want, b) :: rest) s s0 := by
  refine ⟨fun u g' w x hu => learn_when (h.whens u g' w x hu), fun u => ?_⟩
  rcases h.else_ u with h1 | ⟨g', w, x, h1⟩ | ⟨c, hc, h1⟩
  · by_cases hu : u = g
    · exact .inr (.inr ⟨_, List.mem_cons_self, hu.symm⟩)
    · cases hs : s u with
      | when g2 w2 y => exact .inr (.inl ⟨_, _, _, rfl⟩)
      | is y => left; rw [h1]; unfold learn; rw [upd_ne _ _ hu, hs]
      | junk => left; rw [h1]; unfold learn; rw [upd_ne _ _ hu, hs]
  · exact .inr (.inl ⟨g', w, x, learn_when h1⟩)
  · exact .inr (.inr ⟨c, List.mem_cons_of_mem _ hc, h1⟩)
theorem brG_all {Q : RCfg → Prop} {t e : Slots → Tree RCfg} : ∀ (rs : Ctx) (s : Slots), (∀ s0, Learned rs s s0 → (t s0).all Q) → (∀ s0, Learned rs s s0 → (e s0).all Q) → (brG rs s t e).all Q
  | [], s, ht, _ => ht s (Learned.refl _ _)
  | (g, want, b) :: rest, s, ht, he => ⟨brG_all rest (learn g want s) (fun s0 h => ht s0 (learned_step h)) (fun s0 h => he s0 (learned_step h)), he _ (learned_step (Learned.refl _ _))⟩
/-- A step writes the operation's slot, and what is learned. -/
def PutBy (s : Slots) (dst : Option Nat) (ctx : Ctx) (s' : Slots) : Prop :=
  ∃ sl s0, s' = Sy.put s0 dst sl ∧ (∀ g want v, sl = .when g want v → ∃ b r, ctx = (g, want, b) :: r) ∧ Learned ctx.reverse s s0
theorem putBy_is {s s0 : Slots} (dst : Option Nat) {ctx : Ctx} (v : AV) (h : Learned ctx.reverse s s0) : PutBy s dst ctx (Sy.put s0 dst (.is v)) := ⟨_, _, rfl, (fun _ _ _ e => by cases e), h⟩
theorem putBy_of (s : Slots) (dst : Option Nat) (ctx : Ctx) (v : AV) : PutBy s dst ctx (Sy.put s dst (slotOf ctx v)) := by
  refine ⟨_, _, rfl, fun g want v' e => ?_, Learned.refl _ _⟩
  unfold slotOf at e
  split at e
  · cases e
  · rename_i g' want' b' r'; cases e; exact ⟨b', r', rfl⟩
theorem all_needO {α : Type} {ctx : Ctx} {p : Option Prop} {t : Tree α} {Q : α → Prop} (h : t.all Q) : (needO ctx p t).all Q := by
  cases p <;> exact h
theorem putBy_applyE (s : Slots) (H : Heap) (dst : Option Nat) (ctx : Ctx) (x : Eff) : (applyE s H dst ctx x).all fun y => PutBy s dst ctx y.1 := by
  unfold applyE
  split
  · exact all_needO (putBy_of _ _ _ _)
  · split
    · exact all_needO (putBy_is _ _ (Learned.refl _ _))
    · exact brG_all _ _ (fun s0 h => all_needO (putBy_is _ _ h)) (fun s0 h => putBy_is _ _ h)
theorem putBy_stepO (o : Oper) (s : Slots) (H : Heap) (ctx : Ctx) : (stepO P Γ call yld o s H ctx).all fun x => PutBy s o.dst ctx x.1 := by
  unfold stepO
  simp only []
  split
  · split
    · exact putBy_of _ _ _ _
    · trivial
  · split
    · split
      · exact putBy_applyE _ _ _ _ _
      split
      · exact putBy_applyE _ _ _ _ _
      · split
        · exact all_bind (all_true (fun x => putBy_is _ _ (Learned.refl _ _)) _)
        · exact brG_all _ _ (fun s0 h => all_bind (all_true (fun x => putBy_is _ _ h) _)) (fun s0 h => putBy_is _ _ h)
    · split
      · exact all_bind (all_true (fun x => putBy_is _ _ (Learned.refl _ _)) _)
      · exact brG_all _ _ (fun s0 h => all_bind (all_true (fun x => putBy_is _ _ h) _)) (fun s0 h => putBy_is _ _ h)
    · trivial
  · split
    · exact putBy_applyE _ _ _ _ _
    · split
      · split
        · exact ⟨putBy_of _ _ _ _, putBy_of _ _ _ _⟩
        · trivial
      · trivial

theorem execOps_sound (hΓ : ConOk P Γ) (hcall : CallOk P call) (hk : CallKnown P call) (hyld : YldOk P yld) (ops : Array Oper) {Q : Exit → Act → World → Prop} :
    ∀ (l : List Oper) (seen : List Nat) (s : Slots) (H : Heap) (E : Env) (a : Act) (w : World), Guards s seen → SlotsOk E H.next N D s a → HeapOk X E w0 H w →
      (execOps P Γ call yld N ops l seen s H).holds (Post X w0 E H N D (Q .normal)) → wpListIn (FR rnd) 0 P ops Q l a w
  | [], seen, s, H, E, a, w, _, hS, hH, h => h E a w (fun _ _ => rfl) hS hH (Nat.le_refl _) (Old.refl _)
  | o :: rest, seen, s, H, E, a, w, hG, hS, hH, h => by
    unfold execOps at h
    split at h
    · exact h.elim
    · rename_i seen' hseen
      have hd := seen_dst hG hseen
      have next : ∀ (ctx : Ctx), (∀ g want b r, ctx = (g, want, b) :: r → g ∈ seen) →
          ((stepO P Γ call yld o s H ctx).bind fun (x : RCfg) => execOps P Γ call yld N ops rest seen' x.1 x.2).holds (Post X w0 E H N D (Q .normal)) →
          (stepO P Γ call yld o s H ctx).holds (Post X w0 E H N D (wpListIn (FR rnd) 0 P ops Q rest)) := by
        intro ctx hc h
        refine holds_mono (fun x hx => ?_) (holds_all (holds_bind h) (putBy_stepO o s H ctx))
        obtain ⟨hx, sl, s0, hsl, hguard, hlrn⟩ := hx
        have hG0 : Guards s0 seen := fun t g w v h => hG t g w v (hlrn.whens t g w v h)
        intro E' a' w' hE hS' hH' hle hold
        refine execOps_sound hΓ hcall hk hyld ops rest seen' x.1 x.2 E' a' w' ?_ hS' hH' (holds_mono (fun y hy => ?_) hx)
        · rw [hsl]
          exact guards_put hG0 hseen fun g want v e => by
            obtain ⟨b, r, hb⟩ := hguard g want v e
            exact hc g want b r hb
        · intro E2 a2 w2 hE2 hS2 hH2 hle2 hold2
          exact hy E2 a2 w2 (fun k hk => by rw [hE2 k (by omega), hE k hk]) hS2 hH2 (Nat.le_trans hle hle2) (hold.trans hold2 hle)
      split at h
      · rename_i hg
        have hgo := guardOf_none hg
        have := stepO_sound (rnd := rnd) hΓ hcall hk hyld hS hH hd (ctx := []) trivial trivial (Q := Q) (next [] (fun _ _ _ _ e => by cases e) h)
        unfold wpListIn
        rw [if_pos (by simp [Region.wanted, hgo])]
        exact this
      · rename_i g want hg
        split at h
        · rename_i hseen2
          have hmem : g ∈ seen := by
            obtain ⟨x, hx, hb⟩ := List.any_eq_true.1 hseen2
            rw [Nat.eq_of_beq_eq_true hb]; exact hx
          obtain ⟨j, oj, hgo, hj, hdj⟩ := guardOf_some hg
          have unwanted : a.tmps.getD g undef ≠ .bool want → ¬ Region.wanted o (yielded ops a.tmps) = true := by
            intro hgv hw
            unfold Region.wanted at hw
            rw [hgo] at hw
            have hw : (yielded ops a.tmps j == some want) = true := hw
            have hy : yielded ops a.tmps j = some want := by simpa using hw
            unfold yielded at hy
            simp only [hj, Option.bind_some, hdj] at hy
            cases ht : a.tmps[g]? with
            | none => rw [ht] at hy; cases hy
            | some v =>
              rw [ht] at hy
              cases v <;> simp at hy
              subst hy
              exact hgv (by rw [Array.getD_eq_getD_getElem?, ht]; rfl)
          split at h
          · -- a guard that is known to hold
            rename_i hkn
            have hgv : a.tmps.getD g undef = .bool want := by
              have hs := hS.ok g
              unfold guardKnown at hkn
              split at hkn
              · rename_i b hsl
                rw [hsl] at hs
                have : b = want := by simpa using hkn
                subst this
                exact hs.1
              · cases hkn
              · cases hkn
            have := stepO_sound (rnd := rnd) hΓ hcall hk hyld hS hH hd (ctx := []) trivial trivial (Q := Q) (next [] (fun _ _ _ _ e => by cases e) h)
            unfold wpListIn
            rw [if_pos (by simp [Region.wanted, hgo, yielded_of hj hdj hgv])]
            exact this
          · -- one that is known not to hold
            rename_i hkn
            have hgv : a.tmps.getD g undef ≠ .bool want := by
              have hs := hS.ok g
              unfold guardKnown at hkn
              split at hkn
              · rename_i b hsl
                rw [hsl] at hs
                have : b ≠ want := by simpa using hkn
                intro e
                rw [hs.1] at e
                exact this (by cases e; rfl)
              · rename_i v hnb hsl
                rw [hsl] at hs
                intro e
                rw [hs.1] at e
                exact hnb want (by rw [show v = Value.bool want from e])
              · cases hkn
            unfold wpListIn
            rw [if_neg (unwanted hgv)]
            refine ⟨fun _ _ => trivial, ?_⟩
            refine execOps_sound hΓ hcall hk hyld ops rest seen' _ H E _ w ?_ (hS.put hd (sl := .is (.val undef)) ⟨rfl, trivial⟩) hH (holds_mono (fun y hy => ?_) h)
            · exact guards_put hG hseen fun g want v e => by cases e
            · exact fun E2 a2 w2 hE2 hS2 hH2 hle2 hold2 => hy E2 a2 w2 hE2 hS2 hH2 hle2 hold2
          · split at h
            case h_2 => exact h.elim
            rename_i ctx hch
            obtain ⟨q1, q2, b, r, rfl⟩ := guardChain_sound hS 9 g want ctx hch
            have hne : o.dst ≠ some g := fun e => by
              have h2 : seen.any (Nat.beq g) = true := hseen2
              rw [e] at hseen
              simp only [seenAdd, h2] at hseen
              simp at hseen
            have := stepO_sound (rnd := rnd) hΓ hcall hk hyld hS hH hd (ctx := (g, want, b) :: r) ⟨q1, q2, hne⟩ (guardChain_chain hS 9 g want _ hch) (Q := Q) (next _ (fun _ _ _ _ e => by cases e; exact hmem) h)
            unfold wpListIn
            by_cases hb : Conds ((g, want, b) :: r)
            · rw [if_pos (by simp [Region.wanted, hgo, yielded_of hj hdj (q1.2 hb)])]
              exact this.1 hb
            · have hgv : a.tmps.getD g undef ≠ .bool want := fun e => hb (q1.1 e)
              rw [if_neg (unwanted hgv)]
              exact ⟨fun _ _ => trivial, this.2 hb⟩
        · exact h.elim
      · exact h.elim


theorem put_other {s : Slots} {dst : Option Nat} {sl : Slot} {t : Nat} (h : dst ≠ some t) : Sy.put s dst sl t = s t := by
  cases dst with
  | none => rfl
  | some d => exact upd_ne _ _ (fun e => h (by rw [e]))
theorem guardChain_mem {s : Slots} {seen : List Nat} (hG : Guards s seen) : ∀ (m g : Nat) (want : Bool) (ctx : Ctx), guardChain s m g want = some ctx → g ∈ seen → ∀ c ∈ ctx, c.1 ∈ seen
  | 0, _, _, _, h, _ => by cases h
  | m + 1, g, want, ctx, h, hg => by
    unfold guardChain at h
    split at h
    · split at h
      · cases h; intro c hc; simp at hc; subst hc; exact hg
      · cases h
    · rename_i g1 w1 v hs
      split at h
      case h_2 => cases h
      cases hr : guardChain s m g1 w1 with
      | none => rw [hr] at h; cases h
      | some r =>
        rw [hr] at h
        cases h
        intro c hc
        rcases List.mem_cons.1 hc with rfl | hc
        · exact hg
        · exact guardChain_mem hG m g1 w1 r hr (hG g g1 w1 v hs) c hc
    · cases h
/-- Conditional slots are among those written. -/
def Whens (s : Slots) (seen : List Nat) : Prop := ∀ t g w v, s t = .when g w v → t ∈ seen
theorem seen_mem {N : Nat} {dst : Option Nat} {seen seen' : List Nat} (h : seenAdd N dst seen = some seen') : (∀ t, t ∈ seen → t ∈ seen') ∧ (∀ d, dst = some d → d ∈ seen') ∧ ∀ t, t ∈ seen' → t ∈ seen ∨ dst = some t := by
  cases dst with
  | none => cases h; exact ⟨fun _ h => h, (fun _ h => by cases h), fun _ h => .inl h⟩
  | some d =>
    simp only [seenAdd] at h
    split at h
    · cases h
      refine ⟨fun t ht => List.mem_cons_of_mem _ ht, fun d' hd => by cases hd; exact List.mem_cons_self, fun t ht => ?_⟩
      rcases List.mem_cons.1 ht with rfl | ht
      · exact .inr rfl
      · exact .inl ht
    · cases h
theorem whens_put {s : Slots} {seen seen' : List Nat} {N : Nat} {dst : Option Nat} {sl : Slot} (h : Whens s seen) (hs : seenAdd N dst seen = some seen') : Whens (Sy.put s dst sl) seen' := by
  intro t g w v ht
  obtain ⟨m1, m2, _⟩ := seen_mem hs
  by_cases hd : dst = some t
  · exact m2 t hd
  · rw [put_other hd] at ht
    exact m1 t (h t g w v ht)
theorem execOps_writes (ops : Array Oper) : ∀ (l : List Oper) (seen : List Nat) (s : Slots) (H : Heap), Guards s seen → Whens s seen → (execOps P Γ call yld N ops l seen s H).all fun x => ∀ t, t ∉ seen → (∀ o ∈ l, o.dst ≠ some t) → x.1 t = s t
  | [], seen, s, H, _, _ => fun t _ _ => rfl
  | o :: rest, seen, s, H, hG, hW => by
    unfold execOps
    split
    · trivial
    · rename_i seen' hseen
      have hsm := seen_mem hseen
      have next : ∀ (ctx : Ctx), (∀ c ∈ ctx, c.1 ∈ seen) → ((stepO P Γ call yld o s H ctx).bind fun (x : RCfg) => execOps P Γ call yld N ops rest seen' x.1 x.2).all fun x => ∀ t, t ∉ seen → (∀ o' ∈ o :: rest, o'.dst ≠ some t) → x.1 t = s t := by
        intro ctx hctx
        refine all_bind (all_mono (fun x hx => ?_) (putBy_stepO o s H ctx))
        obtain ⟨sl, s0, hsl, hguard, hlrn⟩ := hx
        have hG0 : Guards s0 seen := fun t g w v h => hG t g w v (hlrn.whens t g w v h)
        have hW0 : Whens s0 seen := fun t g w v h => hW t g w v (hlrn.whens t g w v h)
        refine all_mono (fun y hy t ht1 ht2 => ?_) (execOps_writes ops rest seen' x.1 x.2 ?_ ?_)
        · rw [hy t (fun hm => by
            rcases hsm.2.2 t hm with h | h
            · exact ht1 h
            · exact ht2 o (by simp) h) (fun o' ho' => ht2 o' (by simp [ho'])), hsl, put_other (ht2 o (by simp))]
          rcases hlrn.else_ t with h | ⟨g, w, v, h⟩ | ⟨c, hc, h⟩
          · exact h
          · exact absurd (hW t g w v h) ht1
          · exact absurd (by rw [← h]; exact hctx c (List.mem_reverse.1 hc)) ht1
        · rw [hsl]
          exact guards_put hG0 hseen fun g want v e => by
            obtain ⟨b, r, hb⟩ := hguard g want v e
            exact hctx (g, want, b) (by rw [hb]; exact List.mem_cons_self)
        · rw [hsl]; exact whens_put hW0 hseen
      split
      · exact next [] (fun c hc => by cases hc)
      · rename_i g want hg
        split
        · rename_i hs2
          have hmem : g ∈ seen := any_beq.1 hs2
          split
          · exact next [] (fun c hc => by cases hc)
          · refine all_mono (fun y hy t ht1 ht2 => ?_) (execOps_writes ops rest seen' _ H ?_ (whens_put hW hseen))
            · rw [hy t (fun hm => by
                rcases hsm.2.2 t hm with h | h
                · exact ht1 h
                · exact ht2 o (by simp) h) (fun o' ho' => ht2 o' (by simp [ho'])), put_other (ht2 o (by simp))]
            · exact guards_put hG hseen fun g want v e => by cases e
          · split
            · rename_i ctx hch
              exact next ctx (guardChain_mem hG 9 g want ctx hch hmem)
            · trivial
        · trivial
      · trivial
theorem needs_all {α : Type} {Q : α → Prop} {t : Tree α} (h : t.all Q) : ∀ L : List Item, (needs L t).all Q
  | [] => h
  | x :: r => by
    unfold needs
    split
    · exact needs_all h r
    · exact needs_all h r
theorem execRegion_writes (ops : Array Oper) (draw : Bool) (c : Cfg) : (execRegion P Γ call yld N ops draw c).all fun x => ∀ t, t ∉ ops.toList.filterMap (·.dst) → x.1 t = toSlots c.tmps t := by
  have hd : ∀ t, t ∉ ops.toList.filterMap (·.dst) → ∀ o ∈ ops.toList, o.dst ≠ some t := fun t ht o ho e => ht (List.mem_filterMap.2 ⟨o, ho, e⟩)
  unfold execRegion
  split
  · exact ⟨trivial, trivial⟩
  split
  · exact all_mono (fun x hx t ht => hx t (fun h => by cases h) (hd t ht)) (execOps_writes ops _ [] _ _ (fun t g w v h => by unfold toSlots at h; split at h <;> cases h) (fun t g w v h => by unfold toSlots at h; split at h <;> cases h))
  · unfold drawRegion
    have key : ∀ (n : Nat) (as : List (Nat × Bool)), (drawBr P Γ call N ops (toSlots c.tmps) c.heap n as).all fun x => ∀ t, t ∉ ops.toList.filterMap (·.dst) → x.1 t = toSlots c.tmps t := by
      intro n
      induction n with
      | zero => intro as; trivial
      | succ n ih =>
        intro as
        unfold drawBr
        split
        · rename_i L hrun
          split
          · refine needs_all ?_ L
            intro t ht
            obtain ⟨hmap, _⟩ := runD_chain _ _ _ _ _ hrun
            rcases slots_from (t := t) L 0 (fun _ => true) (toSlots c.tmps) with h | ⟨k, it, h1, _, h3, _⟩
            · exact h
            · exfalso
              refine hd t ht it.o ?_ h3
              rw [← hmap]
              exact List.mem_map.2 ⟨it, List.mem_of_getElem? h1, rfl⟩
          · trivial
        · split
          · exact ⟨ih _, ih _⟩
          · trivial
    exact key _ _

/-! ### loops by rounds -/
/-- At the start of a round. -/
def LoopWp (F : Fence) (n : Nat) (P : Program) (c : Code) (Q : Exit → Act → World → Prop) (a : Act) (w : World) : Prop :=
  ∀ (b : Frame) (k : List Go.Item) (cs : List Frame), b.roundOf = F.round → F.fn b.fn → F.room (cs.length + 1 + n) →
    ∃ e a' w', Q e a' w' ∧ ArrivesIn (Machine.fenced P F) P (lone (b.atR a (.code c :: .inLoop c :: k)) cs w) b k cs e a' w'
theorem wpIn_of_loopWp {F : Fence} {n : Nat} {c : Code} {Q : Exit → Act → World → Prop} {a : Act} {w : World} (h : LoopWp F n P c Q a w) : (Code.loop c).wpIn F n P Q a w := by
  intro b k cs hro hb hr
  obtain ⟨e, a', w', hq, harr⟩ := h b k cs hro hb hr
  exact ⟨e, a', w', hq, .of_steps (.one (fenced_calm hb hr rfl) stepR_loop) harr⟩
theorem loopWp_round {F : Fence} {n : Nat} {c : Code} {Q : Exit → Act → World → Prop} {a : Act} {w : World} (h : c.wpIn F n P (Exit.then (LoopWp F n P c Q) Q) a w) : LoopWp F n P c Q a w := by
  intro b k cs hro hb hr
  obtain ⟨e, a₁, w₁, hq, harr⟩ := h b (.inLoop c :: k) cs hro hb hr
  cases e with
  | normal =>
    obtain ⟨e₂, a₂, w₂, hq₂, harr₂⟩ := hq b k cs hro hb hr
    exact ⟨e₂, a₂, w₂, hq₂, .of_steps (StepsIn.trans harr (.one (fenced_calm hb hr rfl) stepR_inLoop)) harr₂⟩
  | exit id => exact ⟨_, a₁, w₁, hq, .pass (x := .inLoop c) rfl (fun _ _ => .inl (by simp)) harr⟩
  | goto l => exact ⟨_, a₁, w₁, hq, .pass (x := .inLoop c) rfl (fun _ _ => .inl (by simp)) harr⟩
  | ret => exact ⟨_, a₁, w₁, hq, .pass (x := .inLoop c) rfl (fun _ _ => .inl (by simp)) harr⟩
  | panic ch => exact ⟨_, a₁, w₁, hq, .pass (x := .inLoop c) rfl (fun _ _ => .inl (by simp)) harr⟩
  | outgrown => exact ⟨_, a₁, w₁, hq, .pass (x := .inLoop c) rfl (fun _ _ => .inl (by simp)) harr⟩

/-! ### the states of code -/
def mark (r : Nat) : Deferred := { target := .collected r, args := #[] }
def prots (rs : List Nat) (X0 : List (Nat × Go.Obj)) : List (Nat × Go.Obj) := rs.map (fun r => (r, Go.Obj.deferred (some []))) ++ X0
/-- rs: the blocks of the marks. -/
def CfgOk (X0 : List (Nat × Go.Obj)) (E : Env) (w0 : World) (N : Nat) (c : Cfg) (a : Act) (w : World) : Prop :=
  ∃ rs : List Nat, (∀ r ∈ rs, w0.heap.size ≤ r ∧ ∀ x ∈ X0, x.1 ≠ r) ∧ rs.Nodup ∧ SlotsOk E c.heap.next N (rs.map mark) (toSlots c.tmps) a ∧ HeapOk (prots rs X0) E w0 c.heap w
def AExit.toExit : AExit → Exit
  | .normal => .normal
  | .exit id => .exit id
  | .ret => .ret
def CPost (X0 : List (Nat × Go.Obj)) (w0 : World) (E : Env) (N : Nat) (c : Cfg) (Q : Exit → Act → World → Prop) (x : AExit × Cfg) : Prop :=
  ∀ E' a' w', (∀ k, k < c.heap.next → E' k = E k) → CfgOk X0 E' w0 N x.2 a' w' → c.heap.next ≤ x.2.heap.next → Old c.heap x.2.heap → Q x.1.toExit a' w'
theorem CPost.next {X0 : List (Nat × Go.Obj)} {E E' : Env} {c c' : Cfg} {Q : Exit → Act → World → Prop} {x : AExit × Cfg} (h : CPost X0 w0 E N c Q x) (hE : ∀ k, k < c.heap.next → E' k = E k) (hle : c.heap.next ≤ c'.heap.next) (hold : Old c.heap c'.heap) : CPost X0 w0 E' N c' Q x :=
  fun E2 a2 w2 hE2 hc2 hle2 hold2 => h E2 a2 w2 (fun k hk => by rw [hE2 k (Nat.lt_of_lt_of_le hk hle), hE k hk]) hc2 (Nat.le_trans hle hle2) (hold.trans hold2 hle)
theorem CfgOk.point {X0 : List (Nat × Go.Obj)} {E : Env} {c : Cfg} {a : Act} {w : World} (h : CfgOk X0 E w0 N c a w) {t : Nat} {v : AV} (ht : c.tmps t = some v) : a.tmps.getD t undef = v.den E ∧ AV.lt c.heap.next v := by
  obtain ⟨rs, _, _, hS, _⟩ := h
  have := hS.ok t
  have e : toSlots c.tmps t = .is v := by simp [toSlots, ht]
  rw [e] at this
  exact this
theorem CfgOk.lt {X0 : List (Nat × Go.Obj)} {E : Env} {c : Cfg} {a : Act} {w : World} (h : CfgOk X0 E w0 N c a w) : ∀ o ∈ c.heap.objs, o.key < c.heap.next ∧ BodyAll (fun k => k < c.heap.next) o.body := by
  obtain ⟨rs, _, _, _, hH⟩ := h
  exact hH.lt
theorem CfgOk.uniq {X0 : List (Nat × Go.Obj)} {E : Env} {c : Cfg} {a : Act} {w : World} (h : CfgOk X0 E w0 N c a w) : ∀ o ∈ c.heap.objs, ∀ o' ∈ c.heap.objs, o.key = o'.key → o = o' := by
  obtain ⟨rs, _, _, _, hH⟩ := h
  exact hH.uniq
theorem CfgOk.readS {X0 : List (Nat × Go.Obj)} {E : Env} {c : Cfg} {a : Act} {w : World} (h : CfgOk X0 E w0 N c a w) {x : Operand} {v : AV} (hx : readS [] (toSlots c.tmps) x = some v) : a.eval x = v.den E ∧ AV.lt c.heap.next v := by
  obtain ⟨rs, _, _, hS, _⟩ := h
  exact readS_sound hS [] (fun _ e => by cases e) x _ hx

theorem guards_toSlots (f : Nat → Option AV) : Guards (toSlots f) [] := by
  intro t g want v h
  unfold toSlots at h
  split at h <;> cases h
theorem slots_of {E : Env} {n : Nat} {s : Slots} {a : Act} (h : SlotsOk E n N D s a) : SlotsOk E n N D (toSlots (ofSlots s)) a := by
  refine ⟨h.defers, h.size, fun t => ?_⟩
  have := h.ok t
  cases hs : s t with
  | is v =>
    rw [hs] at this
    have e : toSlots (ofSlots s) t = .is v := by simp [toSlots, ofSlots, hs]
    rw [e]; exact this
  | when g want v =>
    have e : toSlots (ofSlots s) t = .junk := by simp [toSlots, ofSlots, hs]
    rw [e]; trivial
  | junk =>
    have e : toSlots (ofSlots s) t = .junk := by simp [toSlots, ofSlots, hs]
    rw [e]; trivial


/-! ### what code writes -/
def Wr (c : Cfg) (wr : List Nat) (x : AExit × Cfg) : Prop := x.1 ≠ .ret → ∀ t, t ∉ wr → x.2.tmps t = c.tmps t
theorem ofSlots_toSlots (f : Nat → Option AV) (t : Nat) : ofSlots (toSlots f) t = f t := by
  unfold ofSlots toSlots
  cases f t <;> rfl
theorem mem_dedupN {t : Nat} : ∀ (l acc : List Nat), t ∈ dedupN l acc ↔ t ∈ l ∨ t ∈ acc
  | [], acc => by simp [dedupN]
  | a :: r, acc => by
    unfold dedupN
    split
    · rename_i h
      rw [mem_dedupN r acc]
      have ha := any_beq.1 h
      constructor
      · rintro (h | h)
        · exact .inl (by simp [h])
        · exact .inr h
      · rintro (h | h)
        · rcases List.mem_cons.1 h with rfl | h
          · exact .inr ha
          · exact .inl h
        · exact .inr h
    · rw [mem_dedupN r (a :: acc)]
      simp only [List.mem_cons]
      constructor
      · rintro (h | h | h)
        · exact .inl (.inr h)
        · exact .inl (.inl h)
        · exact .inr h
      · rintro ((h | h) | h)
        · exact .inr (.inl h)
        · exact .inl h
        · exact .inr (.inr h)
theorem lookupT_none {t : Nat} : ∀ {l : List (Nat × AV)}, (∀ x ∈ l, x.1 ≠ t) → lookupT t l = none
  | [], _ => rfl
  | (t', v) :: r, h => by
    unfold lookupT
    rw [beq_ne (fun e => h (t', v) (by simp) e.symm)]
    exact lookupT_none (fun x hx => h x (by simp [hx]))
theorem fillSlots_keys (xs : List U) : ∀ (l : List (Nat × AV)) (j : Nat), (fillSlots xs l j).1.map (·.1) = l.map (·.1)
  | [], _ => rfl
  | (t, v) :: r, j => by
    show (t :: ((fillSlots xs r (fillV xs v j).2).1.map (·.1))) = _
    rw [fillSlots_keys xs r]
    rfl
theorem gen_tmps {S : Spec} {st : List Obj} {wr : List Nat} {tm : Nat → Option AV} {xs : List U} (h : slotsIn wr S = true) {t : Nat} (ht : t ∉ wr) : (S.gen st wr tm xs).tmps t = tm t := by
  have e : (S.gen st wr tm xs).tmps t = (match lookupT t (fillSlots xs S.slots 0).1 with | some v => some v | none => if wr.any (Nat.beq t) then none else tm t) := rfl
  rw [e, lookupT_none]
  · have : wr.any (Nat.beq t) = false := Bool.eq_false_iff.2 (fun hb => ht (any_beq.1 hb))
    simp [this]
  · intro x hx he
    have h1 : t ∈ (fillSlots xs S.slots 0).1.map (·.1) := List.mem_map.2 ⟨x, hx, he⟩
    rw [fillSlots_keys] at h1
    obtain ⟨y, hy, hyt⟩ := List.mem_map.1 h1
    have := List.all_eq_true.1 h y hy
    rw [hyt] at this
    exact ht (any_beq.1 this)
theorem brs_writes {st : List Obj} {wr : List Nat} {tm : Nat → Option AV} {r : Nat × List U} : ∀ {outs : List (Nat × AExit × Spec)}, outsIn wr outs = true → (brs st wr tm r outs).all fun x => x.1 ≠ .ret → ∀ t, t ∉ wr → x.2.tmps t = tm t
  | [], _ => trivial
  | [(n, y, T)], h => by
    intro hy t ht
    have h1 := List.all_eq_true.1 h (n, y, T) (by simp)
    cases y with
    | ret => exact absurd rfl hy
    | normal => exact gen_tmps h1 ht
    | exit id => exact gen_tmps h1 ht
  | (n, y, T) :: z :: r', h => by
    refine ⟨?_, brs_writes (outs := z :: r') (by
      unfold outsIn at h ⊢
      rw [List.all_cons, Bool.and_eq_true] at h
      exact h.2)⟩
    intro hy t ht
    have h1 := List.all_eq_true.1 h (n, y, T) (by simp)
    cases y with
    | ret => exact absurd rfl hy
    | normal => exact gen_tmps h1 ht
    | exit id => exact gen_tmps h1 ht
theorem genLoop_writes (res wr : List Nat) (body : Cfg → Tree (AExit × Cfg)) (c0 : Cfg) : (genLoop P res wr body c0).all (Wr c0 wr) := by
  unfold genLoop
  simp only []
  split
  · split
    · rename_i hc
      rw [Bool.and_eq_true] at hc
      exact brs_writes hc.2
    · trivial
  · trivial
theorem settleT_writes {wr : List Nat} : ∀ {ts : List Nat} {c1 : Cfg}, (∀ t ∈ ts, t ∈ wr) → (settleT ts c1).all (fun c2 => ∀ t, t ∉ wr → c2.tmps t = c1.tmps t)
  | [], c1, h => fun t _ => rfl
  | t :: r, c1, h => by
    unfold settleT
    split
    · split
      · refine all_mono (fun c2 h2 t' ht' => ?_) (settleT_writes (ts := r) fun t ht => h t (List.mem_cons_of_mem _ ht))
        rw [h2 t' ht']
        exact upd_ne _ _ (fun e => ht' (e ▸ h t List.mem_cons_self))
      · exact settleT_writes (ts := r) fun t ht => h t (List.mem_cons_of_mem _ ht)
    · exact settleT_writes (ts := r) fun t ht => h t (List.mem_cons_of_mem _ ht)
theorem settle_writes {code : Code} {c : Cfg} {r : AExit × Cfg} (h : Wr c (writes code) r) : (settle (dedupN (writes code) []) c r).all (Wr c (writes code)) := by
  obtain ⟨x, c1⟩ := r
  have hts : ∀ t ∈ (dedupN (writes code) []).filter fun t => isRowA (c.tmps t), t ∈ writes code := by
    intro t ht
    have := (List.mem_filter.1 ht).1
    rcases (mem_dedupN _ _).1 this with h | h
    · exact h
    · cases h
  cases x with
  | ret => exact h
  | normal => exact all_bind (all_mono (fun c2 h2 hx t ht => by show c2.tmps t = _; rw [h2 t ht]; exact h hx t ht) (settleT_writes hts))
  | exit id => exact all_bind (all_mono (fun c2 h2 hx t ht => by show c2.tmps t = _; rw [h2 t ht]; exact h hx t ht) (settleT_writes hts))
theorem execCode_writes {rb : Bool} {res : List Nat} : ∀ (code : Code) (c : Cfg), (execCode P Γ call yld rb res N code c).all (Wr c (writes code))
  | .skip, c => fun _ t _ => rfl
  | .region id ops draw, c => by
    unfold execCode
    refine all_bind (all_mono (fun x hx => ?_) (execRegion_writes ops draw c))
    intro _ t ht
    show ofSlots x.1 t = c.tmps t
    have := hx t ht
    rw [← ofSlots_toSlots c.tmps t]
    unfold ofSlots
    rw [this]
  | .seq x y, c => by
    unfold execCode
    refine all_bind (all_mono (fun r hr => ?_) (execCode_writes x c))
    obtain ⟨e, c'⟩ := r
    have left : e ≠ .ret → ∀ t, t ∉ writes (.seq x y) → c'.tmps t = c.tmps t := fun he t ht => hr he t (fun h => ht (List.mem_append.2 (.inl h)))
    cases e with
    | normal =>
      refine all_mono (fun r2 hr2 he t ht => ?_) (execCode_writes y c')
      rw [hr2 he t (fun h => ht (List.mem_append.2 (.inr h))), left (fun h => by cases h) t ht]
    | exit id => exact left
    | ret => exact left
  | .cond x t e, c => by
    unfold execCode
    have l : (execCode P Γ call yld rb res N t c).all (Wr c (writes (.cond x t e))) := all_mono (fun r hr he u hu => hr he u (fun h => hu (List.mem_append.2 (.inl h)))) (execCode_writes t c)
    have r : (execCode P Γ call yld rb res N e c).all (Wr c (writes (.cond x t e))) := all_mono (fun r hr he u hu => hr he u (fun h => hu (List.mem_append.2 (.inr h)))) (execCode_writes e c)
    split
    · exact ⟨l, r⟩
    · rename_i b _
      cases b
      · exact r
      · exact l
    · trivial
  | .block id body, c => by
    unfold execCode
    refine all_bind (all_mono (fun r hr => ?_) (execCode_writes body c))
    obtain ⟨e, c'⟩ := r
    cases e with
    | normal => exact hr
    | exit id' =>
      show Tree.all (if Nat.beq id' id = true then _ else _) _
      split
      · exact fun _ => hr (fun h => by cases h)
      · exact hr
    | ret => exact fun h => absurd rfl h
  | .exit id, c => fun _ t _ => rfl
  | .ret, c => fun _ t _ => rfl
  | .loop body, c => by
    unfold execCode
    have key : ∀ (known : Cfg → Bool) (n : Nat) (c : Cfg), (execLoop known (genLoop P res (dedupN (writes body) []) fun c => (execCode P Γ call yld rb res N body c).bind (settle (dedupN (writes body) []) c)) (fun c => execCode P Γ call yld rb res N body c) n c).all (Wr c (writes body)) := by
      intro known n
      induction n with
      | zero => intro c; trivial
      | succ n ih =>
        intro c
        unfold execLoop
        split
        · refine all_bind (all_mono (fun r hr => ?_) (execCode_writes body c))
          obtain ⟨e, c'⟩ := r
          cases e with
          | normal =>
            refine all_mono (fun r2 hr2 he t ht => ?_) (ih c')
            rw [hr2 he t ht]
            exact hr (fun h => by cases h) t ht
          | exit id => exact hr
          | ret => exact hr
        · exact all_mono (fun r hr he t ht => hr he t (fun h => ht (by rcases (mem_dedupN _ _).1 h with h | h; exact h; cases h))) (genLoop_writes res _ _ c)
    exact key _ _ c
  | .rangeFunc f params assign body, c => by
    unfold execCode
    split
    · trivial
    · split
      · refine all_bind (all_true (fun x => ?_) _)
        obtain ⟨v, H2⟩ := x
        simp only []
        split
        · split
          · trivial
          · split
            · exact fun _ t _ => rfl
            · trivial
        · trivial
      · trivial
  | .scope body, c => by unfold execCode; exact execCode_writes body c
  | .label _, c => by unfold execCode; exact fun _ t _ => rfl
  | .goto _, c => trivial
  | .refuse _, c => trivial
end
end Go.Sy
