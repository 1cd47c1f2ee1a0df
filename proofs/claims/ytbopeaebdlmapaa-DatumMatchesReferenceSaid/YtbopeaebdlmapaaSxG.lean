/-
  The executor is sound: regions in text order, code, functions.
-/
import Derived.Test.YtbopeaebdlmapaaSxF
namespace Go.Sx
open Go.RowKit
section
variable {P : Program} {Γ : Con} {call : CallFn} {ro : Nat} {w0 : World} {E : Env} {H : Heap} {n N : Nat} {s : Slots} {a : Act} {w : World}

theorem pickSide_sound (h : SlotsOk E n N s a) {ctx : Ctx} (hctx : ∀ c ∈ ctx, a.tmps.getD c.1 undef = .bool c.2.1) {c : Operand} {side : Bool} (hc : ∀ t, c = .tmp t → a.tmps.getD t undef = .bool side) : ∀ x v, pickSide ctx s c side x = some v → a.eval x = v.den E ∧ AV.lt n v := by
  intro x v hx
  cases x with
  | tmp t =>
    simp only [pickSide] at hx
    have := h.ok t
    split at hx
    · rename_i v' hs
      cases hx
      rw [hs] at this
      exact this
    · rename_i g want v' hs
      rw [hs] at this
      split at hx
      · rename_i hcc
        cases hx
        exact ⟨this.2.1 (ctx_any hctx hcc), this.1⟩
      · split at hx
        · rename_i g'
          split at hx
          · rename_i hcc
            cases hx
            rw [Bool.and_eq_true] at hcc
            have hg : g = g' := Nat.eq_of_beq_eq_true hcc.1
            have hw : want = side := by simpa using hcc.2
            subst hg; subst hw
            exact ⟨this.2.1 (hc _ rfl), this.1⟩
          · cases hx
        · cases hx
    · cases hx
  | const k => cases hx; exact ⟨(den_ofValue E k).symm, lt_ofValue n k⟩
  | global g => cases hx; exact ⟨rfl, trivial⟩
  | func f => cases hx; exact ⟨rfl, trivial, trivial⟩
theorem isLit_eq {b : Bool} {x : Operand} (h : isLit b x = true) : x = .const (.bool b) := by
  unfold isLit at h
  split at h
  · rename_i b'; have : b' = b := by simpa using h
    rw [this]
  · cases h

/-- Where a pick's other side is not there, it is not asked for. -/
theorem boolA_eq {v u : AV} (h : boolA v = some u) : u = v ∧ ∃ b, v.weak = .bool b := by
  unfold boolA at h
  split at h
  · cases h; exact ⟨rfl, _, rfl⟩
  · cases h; exact ⟨rfl, _, rfl⟩
  · cases h
theorem pickA_sound (h : SlotsOk E n N s a) {ctx : Ctx} (hctx : ∀ c ∈ ctx, a.tmps.getD c.1 undef = .bool c.2.1) {c x y : Operand} {v : AV} (hp : pickA ctx s c x y = some v) : ∃ cb, a.eval c = .bool cb ∧ (if cb then a.eval x else a.eval y) = v.den E ∧ AV.lt n v := by
  unfold pickA at hp
  split at hp
  · rename_i k h1
    have hc : a.eval c = .bool k := (readS_sound h ctx hctx c _ h1).1
    have hct : ∀ t, c = .tmp t → a.tmps.getD t undef = .bool k := fun t ht => by subst ht; exact hc
    refine ⟨k, hc, ?_⟩
    cases k with
    | true =>
      simp only [] at hp
      cases hs : pickSide ctx s c true x with
      | none => rw [hs] at hp; cases hp
      | some u =>
        rw [hs] at hp
        obtain ⟨rfl, _⟩ := boolA_eq hp
        exact pickSide_sound h hctx (side := true) hct x _ hs
    | false =>
      simp only [] at hp
      cases hs : pickSide ctx s c false y with
      | none => rw [hs] at hp; cases hp
      | some u =>
        rw [hs] at hp
        obtain ⟨rfl, _⟩ := boolA_eq hp
        exact pickSide_sound h hctx (side := false) hct y _ hs
  · rename_i cb h1
    split at hp
    case h_2 => cases hp
    rename_i xb yb h2 h3
    have hc := (readS_sound h ctx hctx c _ h1).1
    refine ⟨cb, hc, ?_⟩
    have hct : ∀ t, c = .tmp t → a.tmps.getD t undef = .bool cb := fun t ht => by subst ht; exact hc
    have wk : ∀ {o : Option AV} {b : Bool}, o.map AV.weak = some (.bool b) → ∃ u, o = some u ∧ u.den E = .bool b := by
      intro o b ho
      cases o with
      | none => cases ho
      | some u =>
        have ho : u.weak = .bool b := Option.some.inj ho
        exact ⟨u, rfl, by rw [← den_weak, ho]; rfl⟩
    obtain ⟨ux, hux, dux⟩ := wk h2
    obtain ⟨uy, huy, duy⟩ := wk h3
    have hx : cb = true → a.eval x = .bool xb := fun hb => by rw [(pickSide_sound h hctx (side := true) (fun t ht => by rw [hct t ht, hb]) x _ hux).1, dux]
    have hy : cb = false → a.eval y = .bool yb := fun hb => by rw [(pickSide_sound h hctx (side := false) (fun t ht => by rw [hct t ht, hb]) y _ huy).1, duy]
    split at hp
    · rename_i hl
      cases hp
      have := isLit_eq hl
      cases cb
      · exact ⟨by simp [hy rfl, AV.den], trivial⟩
      · exact ⟨by subst this; rfl, trivial⟩
    · split at hp
      · rename_i hl
        cases hp
        have := isLit_eq hl
        cases cb
        · exact ⟨by subst this; rfl, trivial⟩
        · exact ⟨by simp [hx rfl, AV.den], trivial⟩
      · cases hp
        cases cb
        · exact ⟨by simp [hy rfl, AV.den], trivial⟩
        · exact ⟨by simp [hx rfl, AV.den], trivial⟩
  · cases hp

/-- An operation, whatever it is, does what the outcome says. -/
def Does (P : Program) (ro : Nat) (w0 : World) (E : Env) (H : Heap) (a : Act) (w : World) (o : Oper) : R → Prop
  | .val v => ∀ (K : Act → World → Prop) (Q : Exit → Act → World → Prop), (∀ w', Below w.heap.size w w' → K (a.put o.dst (v.den E)) w') → o.wp P a w K Q
  | .chk p v => p → ∀ (K : Act → World → Prop) (Q : Exit → Act → World → Prop), (∀ w', Below w.heap.size w w' → K (a.put o.dst (v.den E)) w') → o.wp P a w K Q
  | .new cs => ∀ (K : Act → World → Prop) (Q : Exit → Act → World → Prop), (∀ T, K (a.put o.dst (.pointer (some ⟨w.heap.size, 0, none⟩))) (w.alloc (.cells (AV.denL E cs).toArray T))) → o.wp P a w K Q
  | .st key off cs => ro ≤ key → ∀ (K : Act → World → Prop) (Q : Exit → Act → World → Prop), (∀ w', HeapOk ro E w0 (H.store key off cs) w' → K (a.put o.dst undef) w') → o.wp P a w K Q
  | .bad => True

theorem does_of_opOk {o : Oper} {r : R} (h : OpOk P ro E w0 H a.eval w o r) : Does P ro w0 E H a w o r := by
  cases r with
  | val v =>
    intro K Q hK
    have h : (execOp a.eval o).run P w = _ := h
    unfold Oper.wp; rw [h]; exact hK w (Below.refl _ _)
  | chk p v =>
    intro hp K Q hK
    have h : (execOp a.eval o).run P w = _ := h hp
    unfold Oper.wp; rw [h]; exact hK w (Below.refl _ _)
  | new cs =>
    obtain ⟨T, h⟩ := h
    exact fun K Q hK => by unfold Oper.wp; rw [h]; exact hK T
  | st key off cs =>
    intro hro K Q hK
    obtain ⟨w', h, hH'⟩ := h hro
    unfold Oper.wp; rw [h]; exact hK w' hH'
  | bad => trivial

theorem does_of_call {o : Oper} {f : FuncId} {args : List AV} (hrun : (execOp a.eval o).run P w = .ok (.enter f (AV.denL E args).toArray) w) {r : R}
    (h : CallSays P E f args w r) : Does P ro w0 E H a w o r := by
  have key : ∀ v : AV, (Calls P f (AV.denL E args).toArray w fun e w' => e = .returned (v.den E) ∧ Below w.heap.size w w') → ∀ (K : Act → World → Prop) (Q : Exit → Act → World → Prop), (∀ w', Below w.heap.size w w' → K (a.put o.dst (v.den E)) w') → o.wp P a w K Q := by
    intro v hc K Q hK
    unfold Oper.wp
    rw [hrun]
    refine hc.mono fun e w' he => ?_
    obtain ⟨rfl, hw⟩ := he
    exact hK w' hw
  cases r with
  | val v => exact key v h.2
  | chk p v => exact fun hp => key v (h.2 hp)
  | new _ => exact h.elim
  | st _ _ _ => exact h.elim
  | bad => trivial
theorem lt_of_says {f : FuncId} {args : List AV} {r : R} (h : CallSays P E f args w r) (n : Nat) : r.lt n := by
  cases r with
  | val v => exact lt_mono (Nat.zero_le _) v (flat_lt v h.1)
  | chk p v => exact lt_mono (Nat.zero_le _) v (flat_lt v h.1)
  | _ => exact h.elim

/-- What must hold behind a step. -/
def Post (ro : Nat) (w0 : World) (E : Env) (H : Heap) (N : Nat) (K : Act → World → Prop) (x : RCfg) : Prop :=
  ∀ E' a' w', (∀ k, k < H.next → E' k = E k) → SlotsOk E' x.2.next N x.1 a' → HeapOk ro E' w0 x.2 w' → H.next ≤ x.2.next → K a' w'
/-- The step under its guards: what must be shown of the operation. -/
def Goal (P : Program) (a : Act) (w : World) (o : Oper) (K : Act → World → Prop) (Q : Exit → Act → World → Prop) : Ctx → Prop
  | [] => o.wp P a w K Q
  | c :: r => (Conds (c :: r) → o.wp P a w K Q) ∧ (¬ Conds (c :: r) → K (a.put o.dst undef) w)
/-- The guards are as the slots say. -/
def CtxOk (a : Act) (o : Oper) : Ctx → Prop
  | [] => True
  | (g, want, b) :: r => (a.tmps.getD g undef = .bool want ↔ Conds ((g, want, b) :: r)) ∧ (Conds ((g, want, b) :: r) → ∀ c ∈ (g, want, b) :: r, a.tmps.getD c.1 undef = .bool c.2.1) ∧ o.dst ≠ some g
theorem CtxOk.vals {o : Oper} {ctx : Ctx} (h : CtxOk a o ctx) (hc : Conds ctx) : ∀ c ∈ ctx, a.tmps.getD c.1 undef = .bool c.2.1 := by
  cases ctx with
  | nil => intro c hc; cases hc
  | cons c r => obtain ⟨g, want, b⟩ := c; exact h.2.1 hc
theorem goal_of {o : Oper} {ctx : Ctx} {K : Act → World → Prop} {Q : Exit → Act → World → Prop} (h1 : Conds ctx → o.wp P a w K Q) (h2 : ∀ c r, ctx = c :: r → ¬ Conds ctx → K (a.put o.dst undef) w) : Goal P a w o K Q ctx := by
  cases ctx with
  | nil => exact h1 (fun c hc => by cases hc)
  | cons c r => exact ⟨h1, h2 c r rfl⟩
/-- The slot of a value under guards: carried out, or passed over. -/
theorem put_slotOf (hS : SlotsOk E n N s a) {o : Oper} (hd : ∀ d, o.dst = some d → d < N ∧ ∀ t g want v, s t = .when g want v → g ≠ d) {ctx : Ctx} (hctx : CtxOk a o ctx) {v : AV} (hl : AV.lt n v) :
    (Conds ctx → SlotsOk E n N (Sx.put s o.dst (slotOf ctx v)) (a.put o.dst (v.den E))) ∧ (∀ c r, ctx = c :: r → ¬ Conds ctx → SlotsOk E n N (Sx.put s o.dst (slotOf ctx v)) (a.put o.dst undef)) := by
  cases ctx with
  | nil => exact ⟨fun _ => hS.put hd ⟨rfl, hl⟩, fun c r e => by cases e⟩
  | cons c r =>
    obtain ⟨g, want, b⟩ := c
    exact ⟨fun hc => hS.put hd ⟨hl, hctx.2.2, fun _ => rfl, fun hn => absurd (hctx.1.2 hc) hn⟩, fun c r _ hc => hS.put hd ⟨hl, hctx.2.2, fun he => absurd (hctx.1.1 he) hc, fun _ => rfl⟩⟩

theorem applyR_sound (hS : SlotsOk E H.next N s a) (hH : HeapOk ro E w0 H w) {o : Oper} (hd : ∀ d, o.dst = some d → d < N ∧ ∀ t g want v, s t = .when g want v → g ≠ d)
    {ctx : Ctx} (hctx : CtxOk a o ctx) {r : R} (hl : r.lt H.next) (hr : Conds ctx → Does P ro w0 E H a w o r) {K : Act → World → Prop} {Q : Exit → Act → World → Prop}
    (h : (applyR ro s H o.dst ctx r).holds (Post ro w0 E H N K)) : Goal P a w o K Q ctx := by
  have skip : (Post ro w0 E H N K (Sx.put s o.dst (.is (.val undef)), H)) → K (a.put o.dst undef) w := fun hp =>
    hp E _ w (fun _ _ => rfl) (hS.put hd ⟨rfl, trivial⟩) hH (Nat.le_refl _)
  cases r with
  | val v =>
    obtain ⟨p1, p2⟩ := put_slotOf hS hd hctx hl
    exact goal_of (fun hc => hr hc K Q fun w' hw' => h E _ w' (fun _ _ => rfl) (p1 hc) (hH.step hw') (Nat.le_refl _)) (fun c r e hc => h E _ w (fun _ _ => rfl) (p2 c r e hc) hH (Nat.le_refl _))
  | chk p v =>
    obtain ⟨p1, p2⟩ := put_slotOf hS hd hctx hl
    exact goal_of (fun hc => hr hc (condsP_of h.1 hc) K Q fun w' hw' => h.2 E _ w' (fun _ _ => rfl) (p1 hc) (hH.step hw') (Nat.le_refl _)) (fun c r e hc => h.2 E _ w (fun _ _ => rfl) (p2 c r e hc) hH (Nat.le_refl _))
  | new cs =>
    have go : (Post ro w0 E H N K (Sx.put s o.dst (.is (.ptr H.next 0)), H.alloc cs)) → Conds ctx → o.wp P a w K Q := fun hp hb => by
      refine hr hb K Q fun T => ?_
      have hE : ∀ k, k < H.next → upd E H.next w.heap.size k = E k := fun k hk => upd_ne _ _ (by omega)
      have hle : H.next ≤ (H.alloc cs).next := by simp [Heap.alloc]
      refine hp _ _ _ hE ?_ (hH.alloc cs hl T) hle
      refine (hS.env hE hle).put hd ⟨?_, ?_⟩
      · simp [AV.den, upd_same]
      · show H.next < H.next + 1; omega
    cases ctx with
    | nil => exact go h (fun c hc => by cases hc)
    | cons c r => exact ⟨fun hb => go (h.1 (condsB_iff.2 hb)) hb, fun hb => skip (h.2 (Bool.eq_false_iff.2 fun e => hb (condsB_iff.1 e)))⟩
  | st key off cs =>
    simp only [applyR] at h
    split at h
    · rename_i hble
      have go : (Post ro w0 E H N K (Sx.put s o.dst (.is (.val undef)), H.store key off cs)) → Conds ctx → o.wp P a w K Q := fun hp hb =>
        hr hb (Nat.le_of_ble_eq_true hble) K Q fun w' hw' => hp E _ w' (fun _ _ => rfl) (hS.put hd ⟨rfl, trivial⟩) hw' (Nat.le_refl _)
      cases ctx with
      | nil => exact go h (fun c hc => by cases hc)
      | cons c r => exact ⟨fun hb => go (h.1 (condsB_iff.2 hb)) hb, fun hb => skip (h.2 (Bool.eq_false_iff.2 fun e => hb (condsB_iff.1 e)))⟩
    · exact h.elim
  | bad => exact h.elim

theorem readS_lt (h : SlotsOk E n N s a) (ctx : Ctx) : ∀ x v, readS ctx s x = some v → AV.lt n v := by
  intro x v hx
  cases x with
  | tmp t =>
    simp only [readS] at hx
    have := h.ok t
    split at hx
    · rename_i v' hs; cases hx; rw [hs] at this; exact this.2
    · rename_i g want v' hs
      rw [hs] at this
      split at hx
      · cases hx; exact this.1
      · cases hx
    · cases hx
  | const c => cases hx; exact lt_ofValue n c
  | global g => cases hx; trivial
  | func f => cases hx; exact ⟨trivial, trivial⟩
theorem pickA_bool {ctx : Ctx} {s : Slots} {c a b : Operand} {v : AV} (h : pickA ctx s c a b = some v) (n : Nat) : AV.lt n v := by
  have key : ∀ {o : Option AV}, o.bind boolA = some v → AV.lt n v := by
    intro o ho
    cases o with
    | none => cases ho
    | some u =>
      have ho : boolA u = some v := ho
      unfold boolA at ho
      split at ho <;> first | (cases ho; trivial) | cases ho
  unfold pickA at h
  split at h
  · rename_i k _
    cases k
    · exact key h
    · exact key h
  · split at h
    · split at h
      · cases h; trivial
      · split at h <;> (cases h; trivial)
    · cases h
  · cases h

theorem run_callFn {o : Oper} {f : Operand} {args : Array Operand} {ts : Array TypeId} (ho : o.op = .call { callee := .value f, args := args, argTypes := ts }) {fi : FuncId} {first caps vs : List AV}
    (hf : a.eval f = (AV.fn (.func fi) first caps).den E) (hargs : args.toList.map a.eval = AV.denL E vs) (hfun : CallFun P fi) :
    (execOp a.eval o).run P w = .ok (.enter fi (AV.denL E (first ++ vs ++ caps)).toArray) w := by
  obtain ⟨fn, h1, h2, h3⟩ := hfun
  have h4 : fn.body.isNone = false := by cases hb : fn.body with
    | none => rw [hb] at h3; cases h3
    | some _ => rfl
  have e1 : (args.map a.eval) = (AV.denL E vs).toArray := by apply Array.ext'; rw [Array.toList_map]; exact hargs
  simp only [execOp, ho, resolve, hf, AV.den, Deferred.ofValue, Sem.run_bind, Sem.run_pure, Result.andThen_ok, invoke, callFunc, run_program, h1, e1, h4]
  have h5 : (fn.name == "runtime.NumGoroutine") = false := by simpa using h2
  simp only [h5, Bool.false_eq_true, if_false, Sem.run_pure]
  congr 2
  simp [denL_map]

/-- Whatever the executor enters is a function with a body. -/
def CallKnown (P : Program) (call : CallFn) : Prop := ∀ ro f args H, call ro f args H ≠ .bad → CallFun P f

theorem callR_fun (hΓ : ConOk P Γ) (hk : CallKnown P call) {f : FuncId} {args : List AV} {r : R} (h : callR Γ call f args H = some r) : CallFun P f := by
  unfold callR at h
  split at h
  · rename_i r0 hr0; exact (hΓ f (AV.weakL args) _ hr0).1
  · split at h
    · rename_i r0 hr0
      exact hk H.next f args H fun e => by rw [e] at hr0; cases hr0
    · cases h

theorem run_pick {o : Oper} {c x y : Operand} {cb : Bool} (ho : o.op = .pick c x y) (hc : a.eval c = .bool cb) :
    (execOp a.eval o).run P w = .ok (.value (if cb then a.eval x else a.eval y)) w := by
  simp only [execOp, ho, hc, asBool, Sem.run_bind, Sem.run_pure, Result.andThen_ok]

theorem stepO_sound (hΓ : ConOk P Γ) (hcall : CallOk P call) (hk : CallKnown P call)
    (hro : ro ≤ H.next) (hS : SlotsOk E H.next N s a) (hH : HeapOk ro E w0 H w) {o : Oper} (hd : ∀ d, o.dst = some d → d < N ∧ ∀ t g want v, s t = .when g want v → g ≠ d)
    {ctx : Ctx} (hctx : CtxOk a o ctx) {K : Act → World → Prop} {Q : Exit → Act → World → Prop}
    (h : (stepO P Γ call ro o s H ctx).holds (Post ro w0 E H N K)) : Goal P a w o K Q ctx := by
  have hrd : Conds ctx → ∀ x v, readS ctx s x = some v → a.eval x = v.den E ∧ AV.lt H.next v := fun hb => readS_sound hS ctx (hctx.vals hb)
  have hrl := readS_lt hS ctx
  have skip : (Post ro w0 E H N K (Sx.put s o.dst (.is (.val undef)), H)) → K (a.put o.dst undef) w := fun hp =>
    hp E _ w (fun _ _ => rfl) (hS.put hd ⟨rfl, trivial⟩) hH (Nat.le_refl _)
  unfold stepO at h
  simp only [] at h
  split at h
  · -- pick
    rename_i c x y hop
    split at h
    · rename_i v hv
      have hl : AV.lt H.next v := pickA_bool hv _
      obtain ⟨p1, p2⟩ := put_slotOf hS hd hctx hl
      refine goal_of (fun hc => ?_) (fun c r e hc => h E _ w (fun _ _ => rfl) (p2 c r e hc) hH (Nat.le_refl _))
      obtain ⟨cb, hcv, hval, _⟩ := pickA_sound hS (hctx.vals hc) hv
      unfold Oper.wp
      rw [run_pick hop hcv, hval]
      exact h E _ w (fun _ _ => rfl) (p1 hc) hH (Nat.le_refl _)
    · exact h.elim
  · -- call
    rename_i f args ts hop
    split at h
    · rename_i fi first caps vs hf hvs
      have hfl := hrl _ _ hf
      have hvl : AV.ltL H.next vs := (ltL_all _ _).2 (readL_all (Q := AV.lt H.next) hrl _ _ hvs)
      have hargs : AV.ltL H.next (first ++ vs ++ caps) := by
        rw [ltL_all]
        intro v hv
        simp only [List.mem_append] at hv
        rcases hv with (hv | hv) | hv
        · exact (ltL_all _ _).1 hfl.1 v hv
        · exact (ltL_all _ _).1 hvl v hv
        · exact (ltL_all _ _).1 hfl.2 v hv
      have hrun : CallFun P fi → Conds ctx → (execOp a.eval o).run P w = .ok (.enter fi (AV.denL E (first ++ vs ++ caps)).toArray) w := fun hfun hb =>
        run_callFn hop (hrd hb _ _ hf).1 (readL_sound (fun x v hx => (hrd hb x v hx).1) _ _ hvs) hfun
      split at h
      · rename_i r hr
        have hsays : CallSays P E fi (first ++ vs ++ caps) w r := callR_sound hΓ hcall hr hH hargs
        exact applyR_sound hS hH hd hctx (lt_of_says hsays _) (fun hb => does_of_call (hrun (callR_fun hΓ hk hr) hb) hsays) h
      · have go : ((call ro fi (first ++ vs ++ caps) H).bind fun (x : AV × Heap) => Tree.ret (Sx.put s o.dst (.is x.1), x.2)).holds (Post ro w0 E H N K) → Conds ctx → o.wp P a w K Q := by
          intro h hb
          have hne : call ro fi (first ++ vs ++ caps) H ≠ .bad := fun e => by rw [e] at h; exact h
          unfold Oper.wp
          rw [hrun (hk _ _ _ _ hne) hb]
          refine hcall w0 ro fi _ H E w _ hro hH hargs (holds_mono (fun x hx => ?_) (holds_bind h))
          intro E' w' hE hH' hlv hle
          exact hx E' _ w' hE ((hS.env hE hle).put hd ⟨rfl, hlv⟩) hH' hle
        split at h
        · exact go h (fun c hc => by cases hc)
        · rename_i c r
          exact ⟨fun hb => go (h.1 (condsB_iff.2 hb)) hb, fun hb => skip (h.2 (Bool.eq_false_iff.2 fun e => hb (condsB_iff.1 e)))⟩
    · exact h.elim
  · -- all else
    have hlt := absOp_lt (P := P) hrl hH.lt o.op
    exact applyR_sound hS hH hd hctx hlt (fun hb => does_of_opOk (absOp_sound (fun x v hx => hrd hb x v hx) hH o)) h
theorem guardOf_none {ops : Array Oper} {o : Oper} (h : guardOf ops o = some none) : o.guard = none := by
  unfold guardOf at h
  split at h
  · assumption
  · split at h
    · split at h <;> cases h
    · cases h
theorem guardOf_some {ops : Array Oper} {o : Oper} {g : Nat} {want : Bool} (h : guardOf ops o = some (some (g, want))) : ∃ j oj, o.guard = some (j, want) ∧ ops[j]? = some oj ∧ oj.dst = some g := by
  unfold guardOf at h
  split at h
  · cases h
  · rename_i j want' hg
    split at h
    · rename_i oj hj
      split at h
      · rename_i d hd
        cases h
        exact ⟨j, oj, hg, hj, hd⟩
      · cases h
    · cases h
theorem yielded_of {ops : Array Oper} {a : Act} {j g : Nat} {oj : Oper} {b : Bool} (hj : ops[j]? = some oj) (hd : oj.dst = some g) (hb : a.tmps.getD g undef = .bool b) : yielded ops a.tmps j = some b := by
  unfold yielded
  have hg : a.tmps[g]? = some (.bool b) := by
    rw [Array.getD_eq_getD_getElem?] at hb
    cases ht : a.tmps[g]? with
    | none => rw [ht] at hb; cases hb
    | some v => rw [ht] at hb; simp at hb; rw [hb]
  simp [hj, hd, hg]

end
end Go.Sx
