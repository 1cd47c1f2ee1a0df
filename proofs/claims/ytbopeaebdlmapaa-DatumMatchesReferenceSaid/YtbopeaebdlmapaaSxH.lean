/-
  The executor is sound: regions in text order, code, functions; what a contract needs.
-/
import Derived.Test.YtbopeaebdlmapaaSxM
import Derived.LoopN
namespace Go.Sx
open Go.RowKit
section
variable {P : Program} {Γ : Con} {call : CallFn} {ro : Nat} {w0 : World} {N : Nat}

/-- A step writes the operation's slot alone. -/
def PutBy (s : Slots) (dst : Option Nat) (ctx : Ctx) (s' : Slots) : Prop :=
  ∃ sl, s' = Sx.put s dst sl ∧ ∀ g want v, sl = .when g want v → ∃ b r, ctx = (g, want, b) :: r
theorem putBy_is (s : Slots) (dst : Option Nat) (ctx : Ctx) (v : AV) : PutBy s dst ctx (Sx.put s dst (.is v)) := ⟨_, rfl, fun _ _ _ e => by cases e⟩
theorem putBy_of (s : Slots) (dst : Option Nat) (ctx : Ctx) (v : AV) : PutBy s dst ctx (Sx.put s dst (slotOf ctx v)) := by
  refine ⟨_, rfl, fun g want v' e => ?_⟩
  unfold slotOf at e
  split at e
  · cases e
  · rename_i g' want' b' r'; cases e; exact ⟨b', r', rfl⟩
theorem putBy_applyR (s : Slots) (H : Heap) (dst : Option Nat) (ctx : Ctx) (r : R) : (applyR ro s H dst ctx r).all fun x => PutBy s dst ctx x.1 := by
  cases r with
  | val v => exact putBy_of _ _ _ _
  | chk p v => exact putBy_of _ _ _ _
  | new cs => cases ctx with
    | nil => exact putBy_is _ _ _ _
    | cons c r => exact ⟨putBy_is _ _ _ _, putBy_is _ _ _ _⟩
  | st key off cs =>
    simp only [applyR]
    split
    · cases ctx with
      | nil => exact putBy_is _ _ _ _
      | cons c r => exact ⟨putBy_is _ _ _ _, putBy_is _ _ _ _⟩
    · trivial
  | bad => trivial
theorem putBy_stepO (o : Oper) (s : Slots) (H : Heap) (ctx : Ctx) : (stepO P Γ call ro o s H ctx).all fun x => PutBy s o.dst ctx x.1 := by
  unfold stepO
  simp only []
  split
  · split
    · exact putBy_of _ _ _ _
    · trivial
  · split
    · split
      · exact putBy_applyR _ _ _ _ _
      · split
        · exact all_bind (all_true (fun x => putBy_is _ _ _ _) _)
        · exact ⟨all_bind (all_true (fun x => putBy_is _ _ _ _) _), putBy_is _ _ _ _⟩
    · trivial
  · exact putBy_applyR _ _ _ _ _

theorem execOps_sound (hΓ : ConOk P Γ) (hcall : CallOk P call) (hk : CallKnown P call) (ops : Array Oper) {Q : Exit → Act → World → Prop} :
    ∀ (l : List Oper) (seen : List Nat) (s : Slots) (H : Heap) (E : Env) (a : Act) (w : World), Guards s seen → ro ≤ H.next → SlotsOk E H.next N s a → HeapOk ro E w0 H w →
      (execOps P Γ call ro N ops l seen s H).holds (Post ro w0 E H N (Q .normal)) → wpList P ops Q l a w
  | [], seen, s, H, E, a, w, _, _, hS, hH, h => h E a w (fun _ _ => rfl) hS hH (Nat.le_refl _)
  | o :: rest, seen, s, H, E, a, w, hG, hro, hS, hH, h => by
    unfold execOps at h
    split at h
    · exact h.elim
    · rename_i seen' hseen
      have hd := seen_dst hG hseen
      have next : ∀ (ctx : Ctx), (∀ g want b r, ctx = (g, want, b) :: r → g ∈ seen) →
          ((stepO P Γ call ro o s H ctx).bind fun (x : RCfg) => execOps P Γ call ro N ops rest seen' x.1 x.2).holds (Post ro w0 E H N (Q .normal)) →
          (stepO P Γ call ro o s H ctx).holds (Post ro w0 E H N (wpList P ops Q rest)) := by
        intro ctx hc h
        refine holds_mono (fun x hx => ?_) (holds_all (holds_bind h) (putBy_stepO o s H ctx))
        obtain ⟨hx, sl, hsl, hguard⟩ := hx
        intro E' a' w' hE hS' hH' hle
        refine execOps_sound hΓ hcall hk ops rest seen' x.1 x.2 E' a' w' ?_ (Nat.le_trans hro hle) hS' hH' (holds_mono (fun y hy => ?_) hx)
        · rw [hsl]
          exact guards_put hG hseen fun g want v e => by
            obtain ⟨b, r, hb⟩ := hguard g want v e
            exact hc g want b r hb
        · intro E2 a2 w2 hE2 hS2 hH2 hle2
          exact hy E2 a2 w2 (fun k hk => by rw [hE2 k (by omega), hE k hk]) hS2 hH2 (Nat.le_trans hle hle2)
      split at h
      · rename_i hg
        have hgo := guardOf_none hg
        have := stepO_sound hΓ hcall hk hro hS hH hd (ctx := []) trivial (Q := Q) (next [] (fun _ _ _ _ e => by cases e) h)
        unfold wpList
        rw [if_pos (by simp [Region.wanted, hgo])]
        exact .inl this
      · rename_i g want hg
        split at h
        · rename_i hseen2
          have hmem : g ∈ seen := by
            obtain ⟨x, hx, hb⟩ := List.any_eq_true.1 hseen2
            rw [Nat.eq_of_beq_eq_true hb]; exact hx
          obtain ⟨j, oj, hgo, hj, hdj⟩ := guardOf_some hg
          have unwanted : a.tmps.getD g undef ≠ .bool want → ¬ Region.wanted o (yielded ops a.tmps) = true := by
            intro hgv hw
            unfold Region.wanted at hw
            rw [hgo] at hw
            have hw : (yielded ops a.tmps j == some want) = true := hw
            have hy : yielded ops a.tmps j = some want := by simpa using hw
            unfold yielded at hy
            simp only [hj, Option.bind_some, hdj] at hy
            cases ht : a.tmps[g]? with
            | none => rw [ht] at hy; cases hy
            | some v =>
              rw [ht] at hy
              cases v <;> simp at hy
              subst hy
              exact hgv (by rw [Array.getD_eq_getD_getElem?, ht]; rfl)
          split at h
          · -- a guard that is known to hold
            rename_i hkn
            have hgv : a.tmps.getD g undef = .bool want := by
              have hs := hS.ok g
              unfold guardKnown at hkn
              split at hkn
              · rename_i b hsl
                rw [hsl] at hs
                have : b = want := by simpa using hkn
                subst this
                exact hs.1
              · cases hkn
              · cases hkn
            have := stepO_sound hΓ hcall hk hro hS hH hd (ctx := []) trivial (Q := Q) (next [] (fun _ _ _ _ e => by cases e) h)
            unfold wpList
            rw [if_pos (by simp [Region.wanted, hgo, yielded_of hj hdj hgv])]
            exact .inl this
          · -- one that is known not to hold
            rename_i hkn
            have hgv : a.tmps.getD g undef ≠ .bool want := by
              have hs := hS.ok g
              unfold guardKnown at hkn
              split at hkn
              · rename_i b hsl
                rw [hsl] at hs
                have : b ≠ want := by simpa using hkn
                intro e
                rw [hs.1] at e
                exact this (by cases e; rfl)
              · rename_i v hnb hsl
                rw [hsl] at hs
                intro e
                rw [hs.1] at e
                exact hnb want (by rw [show v = Value.bool want from e])
              · cases hkn
            unfold wpList
            rw [if_neg (unwanted hgv)]
            refine execOps_sound hΓ hcall hk ops rest seen' _ H E _ w ?_ hro (hS.put hd (sl := .is (.val undef)) ⟨rfl, trivial⟩) hH (holds_mono (fun y hy => ?_) h)
            · exact guards_put hG hseen fun g want v e => by cases e
            · exact fun E2 a2 w2 hE2 hS2 hH2 hle2 => hy E2 a2 w2 hE2 hS2 hH2 hle2
          · split at h
            case h_2 => exact h.elim
            rename_i ctx hch
            obtain ⟨q1, q2, b, r, rfl⟩ := guardChain_sound hS 9 g want ctx hch
            have hne : o.dst ≠ some g := fun e => by
              have h2 : seen.any (Nat.beq g) = true := hseen2
              rw [e] at hseen
              simp only [seenAdd, h2] at hseen
              simp at hseen
            have := stepO_sound hΓ hcall hk hro hS hH hd (ctx := (g, want, b) :: r) ⟨q1, q2, hne⟩ (Q := Q) (next _ (fun _ _ _ _ e => by cases e; exact hmem) h)
            unfold wpList
            by_cases hb : Conds ((g, want, b) :: r)
            · rw [if_pos (by simp [Region.wanted, hgo, yielded_of hj hdj (q1.2 hb)])]
              exact .inl (this.1 hb)
            · have hgv : a.tmps.getD g undef ≠ .bool want := fun e => hb (q1.1 e)
              rw [if_neg (unwanted hgv)]
              exact this.2 hb
        · exact h.elim
      · exact h.elim

/-! ### code -/
structure CfgOk (ro : Nat) (E : Env) (w0 : World) (N : Nat) (c : Cfg) (a : Act) (w : World) : Prop where
  slots : SlotsOk E c.heap.next N (toSlots c.tmps) a
  heap : HeapOk ro E w0 c.heap w
def AExit.toExit : AExit → Exit
  | .normal => .normal
  | .exit id => .exit id
  | .ret => .ret
def CPost (ro : Nat) (w0 : World) (E : Env) (N : Nat) (c : Cfg) (Q : Exit → Act → World → Prop) (x : AExit × Cfg) : Prop :=
  ∀ E' a' w', (∀ k, k < c.heap.next → E' k = E k) → CfgOk ro E' w0 N x.2 a' w' → c.heap.next ≤ x.2.heap.next → Q x.1.toExit a' w'

theorem guards_toSlots (f : Nat → Option AV) : Guards (toSlots f) [] := by
  intro t g want v h
  unfold toSlots at h
  split at h <;> cases h
theorem slots_of {E : Env} {n : Nat} {s : Slots} {a : Act} (h : SlotsOk E n N s a) : SlotsOk E n N (toSlots (ofSlots s)) a := by
  refine ⟨h.defers, h.size, fun t => ?_⟩
  have := h.ok t
  cases hs : s t with
  | is v =>
    rw [hs] at this
    have e : toSlots (ofSlots s) t = .is v := by simp [toSlots, ofSlots, hs]
    rw [e]; exact this
  | when g want v =>
    have e : toSlots (ofSlots s) t = .junk := by simp [toSlots, ofSlots, hs]
    rw [e]; trivial
  | junk =>
    have e : toSlots (ofSlots s) t = .junk := by simp [toSlots, ofSlots, hs]
    rw [e]; trivial

theorem execCode_sound (hΓ : ConOk P Γ) (hcall : CallOk P call) (hk : CallKnown P call) :
    ∀ (code : Code) (c : Cfg) (E : Env) (a : Act) (w : World) (Q : Exit → Act → World → Prop), ro ≤ c.heap.next → CfgOk ro E w0 N c a w →
      (execCode P Γ call ro N code c).holds (CPost ro w0 E N c Q) → code.wp P Q a w
  | .skip, c, E, a, w, Q, _, hc, h => wp_skip (h E a w (fun _ _ => rfl) hc (Nat.le_refl _))
  | .region id ops draw, c, E, a, w, Q, hro, hc, h => by
    unfold execCode at h
    have post : ∀ x : RCfg, CPost ro w0 E N c Q (.normal, ⟨ofSlots x.1, x.2⟩) → Post ro w0 E c.heap N (Q .normal) x := fun x hx E' a' w' hE hS hH hle => hx E' a' w' hE ⟨slots_of hS, hH⟩ hle
    have h2 := holds_bind h
    cases draw with
    | false =>
      rw [if_pos rfl] at h2
      exact wp_region_list (execOps_sound hΓ hcall hk ops ops.toList [] _ _ E a w (guards_toSlots _) hro hc.slots hc.heap (holds_mono (fun x hx => post x hx) h2))
    | true =>
      rw [if_neg (by simp)] at h2
      exact drawRegion_sound hΓ hcall hk hro hc.slots (guards_toSlots _) hc.heap (holds_mono (fun x hx => post x hx) h2)
  | .seq x y, c, E, a, w, Q, hro, hc, h => by
    unfold execCode at h
    refine wp_seq (execCode_sound hΓ hcall hk x c E a w _ hro hc (holds_mono (fun r hr => ?_) (holds_bind h)))
    intro E' a' w' hE hc' hle
    obtain ⟨e, c'⟩ := r
    cases e with
    | normal =>
      refine execCode_sound hΓ hcall hk y c' E' a' w' Q (Nat.le_trans hro hle) hc' (holds_mono (fun r2 hr2 => ?_) hr)
      intro E2 a2 w2 hE2 hc2 hle2
      exact hr2 E2 a2 w2 (fun k hk => by rw [hE2 k (Nat.lt_of_lt_of_le hk hle), hE k hk]) hc2 (Nat.le_trans hle hle2)
    | exit id => exact hr E' a' w' hE hc' hle
    | ret => exact hr E' a' w' hE hc' hle
  | .cond x t e, c, E, a, w, Q, hro, hc, h => by
    unfold execCode at h
    split at h
    · rename_i b hb
      have hv := (readS_sound hc.slots [] (fun _ e => by cases e) x _ hb).1
      exact wp_cond_split hv (fun ht => execCode_sound hΓ hcall hk t c E a w Q hro hc (h.1 ht)) (fun hf => execCode_sound hΓ hcall hk e c E a w Q hro hc (h.2 hf))
    · rename_i b hb
      have hv := (readS_sound hc.slots [] (fun _ e => by cases e) x _ hb).1
      have hv : a.eval x = .bool b := hv
      refine wp_cond_split hv (fun ht => ?_) (fun hf => ?_)
      · subst ht; exact execCode_sound hΓ hcall hk t c E a w Q hro hc h
      · subst hf; exact execCode_sound hΓ hcall hk e c E a w Q hro hc h
    · exact h.elim
  | .block id body, c, E, a, w, Q, hro, hc, h => by
    unfold execCode at h
    refine wp_block (execCode_sound hΓ hcall hk body c E a w _ hro hc (holds_mono (fun r hr => ?_) (holds_bind h)))
    intro E' a' w' hE hc' hle
    obtain ⟨e, c'⟩ := r
    cases e with
    | normal => exact hr E' a' w' hE hc' hle
    | exit id' =>
      simp only [] at hr
      show if id' = id then Q .normal a' w' else Q (.exit id') a' w'
      by_cases hid : id' = id
      · subst hid
        rw [if_pos rfl]
        rw [beq_self] at hr
        exact hr E' a' w' hE hc' hle
      · rw [if_neg hid]
        rw [beq_ne hid] at hr
        exact hr E' a' w' hE hc' hle
    | ret => exact hr E' a' w' hE hc' hle
  | .exit id, c, E, a, w, Q, _, hc, h => wp_exit (h E a w (fun _ _ => rfl) hc (Nat.le_refl _))
  | .ret, c, E, a, w, Q, _, hc, h => wp_ret (h E a w (fun _ _ => rfl) hc (Nat.le_refl _))
  | .loop body, c, E, a, w, Q, hro, hc, h => by
    unfold execCode at h
    have key : ∀ (n : Nat) (c : Cfg) (E : Env) (a : Act) (w : World), ro ≤ c.heap.next → CfgOk ro E w0 N c a w →
        (execLoop (fun c => execCode P Γ call ro N body c) n c).holds (CPost ro w0 E N c Q) → Code.rounds P body Q n a w := by
      intro n
      induction n with
      | zero => intro c E a w _ _ h; exact h.elim
      | succ n ih =>
        intro c E a w hro hc h
        unfold execLoop at h
        rw [rounds_succ]
        refine execCode_sound hΓ hcall hk body c E a w _ hro hc (holds_mono (fun r hr => ?_) (holds_bind h))
        intro E' a' w' hE hc' hle
        obtain ⟨e, c'⟩ := r
        cases e with
        | normal =>
          refine ih c' E' a' w' (Nat.le_trans hro hle) hc' (holds_mono (fun r2 hr2 => ?_) hr)
          intro E2 a2 w2 hE2 hc2 hle2
          exact hr2 E2 a2 w2 (fun k hk => by rw [hE2 k (Nat.lt_of_lt_of_le hk hle), hE k hk]) hc2 (Nat.le_trans hle hle2)
        | exit id => exact hr E' a' w' hE hc' hle
        | ret => exact hr E' a' w' hE hc' hle
    exact wp_loop_rounds _ (key _ c E a w hro hc h)
  | .rangeFunc .., _, _, _, _, _, _, _, h => h.elim
  | .scope _, _, _, _, _, _, _, _, h => h.elim
  | .label _, _, _, _, _, _, _, _, h => h.elim
  | .goto _, _, _, _, _, _, _, _, h => h.elim
  | .refuse _, _, _, _, _, _, _, _, h => h.elim

/-! ### functions -/
theorem HeapOk.filter {E : Env} {H : Heap} {w : World} (h : HeapOk ro E w0 H w) (p : Obj → Bool) : HeapOk ro E w0 { H with objs := H.objs.filter p } w :=
  ⟨h.below, fun o ho => h.objs o (List.mem_filter.1 ho).1, fun o ho o' ho' => h.inj o (List.mem_filter.1 ho).1 o' (List.mem_filter.1 ho').1, fun o ho => h.lt o (List.mem_filter.1 ho).1⟩
theorem HeapOk.restrict {E : Env} {H : Heap} {w : World} (h : HeapOk ro E w0 H w) (next : Nat) (v : AV) : HeapOk ro E w0 (restrict next v H) w := by
  unfold Sx.restrict
  split
  · exact h.filter _
  · exact h
theorem restrict_next (next : Nat) (v : AV) (H : Heap) : (restrict next v H).next = H.next := by
  unfold Sx.restrict
  split <;> rfl

def resultOf (tmps : Array Value) : ResultVar → Sem Value
  | .tmp t => pure (tmps.getD t undef)
  | .cell x t => do loadVar t (← asAddr (tmps.getD x undef))
theorem readResult_sound {E : Env} {c : Cfg} {a : Act} {w : World} (hc : CfgOk ro E w0 N c a w) {r : ResultVar} {v : AV} (h : readResult P c r = some v) :
    (resultOf a.tmps r).run P w = .ok (v.den E) w ∧ AV.lt c.heap.next v := by
  have slot : ∀ t v, c.tmps t = some v → a.tmps.getD t undef = v.den E ∧ AV.lt c.heap.next v := fun t v ht => by
    have := hc.slots.ok t
    have e : toSlots c.tmps t = .is v := by simp [toSlots, ht]
    rw [e] at this
    exact this
  cases r with
  | tmp t =>
    obtain ⟨h1, h2⟩ := slot t v h
    exact ⟨by simp [resultOf, h1], h2⟩
  | cell x t =>
    simp only [readResult] at h
    split at h
    · rename_i key off hx
      split at h
      · rename_i o ho
        obtain ⟨h1, h2⟩ := slot _ _ hx
        obtain ⟨hm, hkey⟩ := findObj_mem ho
        obtain ⟨_, T, hT⟩ := hc.heap.objs o hm
        rw [hkey] at hT
        exact ⟨by simp [resultOf, h1, AV.den, asAddr, run_load_obj hT h], lt_partA h (hc.heap.lt o hm).2⟩
      · cases h
    · cases h
theorem readResults_sound {E : Env} {c : Cfg} {a : Act} {w : World} (hc : CfgOk ro E w0 N c a w) : ∀ (rs : List ResultVar) (vs : List AV), readResults P c rs = some vs →
    (rs.mapM (resultOf a.tmps)).run P w = .ok (AV.denL E vs) w ∧ AV.ltL c.heap.next vs
  | [], vs, h => by cases h; exact ⟨by simp [AV.denL], trivial⟩
  | r :: rs, vs, h => by
    unfold readResults at h
    split at h
    · rename_i v vs' h1 h2
      cases h
      obtain ⟨e1, l1⟩ := readResult_sound hc h1
      obtain ⟨e2, l2⟩ := readResults_sound hc rs vs' h2
      refine ⟨?_, l1, l2⟩
      rw [List.mapM_cons]
      simp only [Sem.run_bind, e1, e2, Result.andThen_ok, Sem.run_pure, AV.denL]
    · cases h
theorem results_sound {E : Env} {c : Cfg} {a : Act} {w : World} (hc : CfgOk ro E w0 N c a w) {fn : Func} {vs : List AV} (h : readResults P c fn.results.toList = some vs) :
    (results fn a.tmps).run P w = .ok (if h : (AV.denL E vs).toArray.size = 1 then (AV.denL E vs).toArray[0] else .tuple (AV.denL E vs).toArray) w := by
  have := (readResults_sound hc _ _ h).1
  have e : results fn a.tmps = (do
      let vs ← fn.results.mapM (resultOf a.tmps)
      pure (if h : vs.size = 1 then vs[0] else .tuple vs)) := by
    unfold results
    congr 2
  rw [e]
  simp only [Sem.run_bind, Array.mapM_eq_mapM_toList, Sem.run_map, this, Result.andThen_ok, Sem.run_pure]

theorem callKnown_execFn : ∀ n, CallKnown P (execFn P Γ n)
  | 0 => fun _ _ _ _ h => absurd rfl h
  | n + 1 => fun ro f args H h => by
    unfold execFn at h
    split at h
    · exact absurd rfl h
    · rename_i fn hf
      split at h
      · exact absurd rfl h
      · rename_i code hb
        split at h
        · rename_i hc
          exact ⟨fn, hf, hc.1, by rw [hb]; rfl⟩
        · exact absurd rfl h

theorem callOk_execFn (hΓ : ConOk P Γ) : ∀ n, CallOk P (execFn P Γ n)
  | 0 => fun _ _ _ _ _ _ _ _ _ _ _ h => h.elim
  | n + 1 => fun w0 ro f args H E w R hro hH hargs h => by
    unfold execFn at h
    split at h
    · exact h.elim
    · rename_i fn hf
      split at h
      · exact h.elim
      · rename_i code hb
        split at h
        · rename_i hc
          refine calls_of_wp hf hb (execCode_sound hΓ (callOk_execFn hΓ n) (callKnown_execFn n) code ⟨_, H⟩ E _ w _ hro ⟨⟨rfl, ?_, fun t => ?_⟩, hH⟩ (holds_mono (fun x hx => ?_) (holds_bind h)))
          · simp [denL_map]; omega
          · have hal := (ltL_all _ _).1 hargs
            unfold toSlots
            by_cases ht : t < args.length
            · have e1 : args[t]? = some args[t] := List.getElem?_eq_getElem ht
              simp only [e1]
              refine ⟨?_, hal _ (List.getElem_mem ht)⟩
              rw [Array.getD_eq_getD_getElem?, Array.getElem?_append_left (by simp [denL_map]; exact ht)]
              simp [denL_map, ht]
            · have e1 : args[t]? = none := List.getElem?_eq_none (by omega)
              simp only [e1]
              refine ⟨?_, trivial⟩
              rw [Array.getD_eq_getD_getElem?, Array.getElem?_append_right (by simp [denL_map]; omega), Array.getElem?_replicate]
              split <;> rfl
          · intro E' a' w' hE hc' hle
            obtain ⟨e, c⟩ := x
            have fin : ((match readResults P c fn.results.toList with
                | some [v] => Tree.ret (v, restrict H.next v c.heap)
                | some vs => Tree.ret (AV.tup vs, restrict H.next (AV.tup vs) c.heap)
                | none => Tree.bad).holds fun x => ∀ (E' : Env) (w' : World), (∀ k, k < H.next → E' k = E k) → HeapOk ro E' w0 x.2 w' → AV.lt x.2.next x.1 → H.next ≤ x.2.next → R (.returned (x.1.den E')) w') →
                a'.defers = [] ∧ ∃ v, (results fn a'.tmps).run P w' = .ok v w' ∧ R (.returned v) w' := by
              intro h
              refine ⟨hc'.slots.defers, ?_⟩
              split at h
              · rename_i v hv
                refine ⟨_, results_sound hc' hv, ?_⟩
                have := h E' w' hE (hc'.heap.restrict _ _) (by rw [restrict_next]; exact (readResults_sound hc' _ _ hv).2.1) (by rw [restrict_next]; exact hle)
                simpa [AV.denL] using this
              · rename_i vs hne hv
                refine ⟨_, results_sound hc' hv, ?_⟩
                have := h E' w' hE (hc'.heap.restrict _ _) (by rw [restrict_next]; exact (readResults_sound hc' _ _ hv).2) (by rw [restrict_next]; exact hle)
                have hlen : ¬ (AV.denL E' vs).toArray.size = 1 := by
                  intro hl
                  have hl : vs.length = 1 := by simpa [denL_map] using hl
                  match vs, hl with
                  | [v], _ => exact hne v rfl
                rw [dif_neg hlen]
                simpa [AV.den] using this
              · exact h.elim
            cases e with
            | exit id => exact hx.elim
            | normal => exact fin hx
            | ret => exact fin hx
        · exact h.elim

/-- A FUNCTION's CONTRACT: if all ways through the executor's tree lead to v, the function returns it and leaves all that was there alone. -/
theorem calls_of_exec (hΓ : ConOk P Γ) {n : Nat} {f : FuncId} {args : List AV} {v : AV} (hargs : AV.flatL args = true) (hv : v.flat = true) (h : (execFn P Γ n 0 f args ⟨[], 0⟩).holds fun x => x.1.weak = v.weak) (E : Env) (w : World) :
    Calls P f (AV.denL E args).toArray w fun e w' => e = .returned (v.den E) ∧ Below w.heap.size w w' := by
  refine callOk_execFn hΓ n w 0 f args ⟨[], 0⟩ E w _ (Nat.zero_le _) ⟨Below.refl _ _, (fun _ h => by cases h), (fun _ h => by cases h), (fun _ h => by cases h)⟩ (flatL_lt args hargs) (holds_mono (fun x hx => ?_) h)
  intro E' w' _ hH _ _
  exact ⟨by rw [← den_weak E' x.1, hx, den_weak, flat_den hv E E'], hH.below⟩
end
end Go.Sx
