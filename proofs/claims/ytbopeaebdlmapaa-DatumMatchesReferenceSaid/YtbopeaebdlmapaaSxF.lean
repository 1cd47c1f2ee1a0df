/-
  The executor is sound: one step of a region.
-/
import Derived.Test.YtbopeaebdlmapaaSxE
namespace Go.Sx
open Go.RowKit

theorem upd_same {α : Type} (s : Nat → α) (d : Nat) (v : α) : upd s d v d = v := by unfold upd; rw [beq_self]
theorem upd_ne {α : Type} (s : Nat → α) {d t : Nat} (v : α) (h : t ≠ d) : upd s d v t = s t := by unfold upd; rw [beq_ne h]

section
variable {P : Program} {Γ : Con} {call : CallFn} {ro : Nat} {w0 : World}

/-- Behind a call that leaves all old blocks alone the boxes are as they were. -/
theorem HeapOk.step {E : Env} {H : Heap} {w w' : World} (h : HeapOk ro E w0 H w) (hb : Below w.heap.size w w') : HeapOk ro E w0 H w' := by
  refine ⟨h.below.trans (hb.mono h.below.size), fun o ho => ?_, h.inj, h.lt⟩
  obtain ⟨h1, T, hT⟩ := h.objs o ho
  have hlt : E o.key < w.heap.size := (Array.getElem?_eq_some_iff.1 hT).1
  exact ⟨h1, T, by rw [hb.block _ hlt]; exact hT⟩
theorem HeapOk.alloc {E : Env} {H : Heap} {w : World} (h : HeapOk ro E w0 H w) (cs : List AV) (hcs : AV.ltL H.next cs) (T : TypeId) :
    HeapOk ro (upd E H.next w.heap.size) w0 (H.alloc cs) (w.alloc (.cells (AV.denL E cs).toArray T)) := by
  have hE : ∀ k, k < H.next → upd E H.next w.heap.size k = E k := fun k hk => upd_ne _ _ (by omega)
  have hEn : upd E H.next w.heap.size H.next = w.heap.size := upd_same _ _ _
  have hlt : ∀ o ∈ H.objs, E o.key < w.heap.size := fun o ho => by
    obtain ⟨_, T', hT⟩ := h.objs o ho
    exact (Array.getElem?_eq_some_iff.1 hT).1
  refine ⟨h.below.alloc h.below.size _, ?_, ?_, ?_⟩
  · intro o ho
    rcases List.mem_cons.1 ho with rfl | ho
    · simp only [hEn]
      refine ⟨fun _ => h.below.size, T, ?_⟩
      rw [denL_congr hE cs hcs]
      show (w.heap.push _)[w.heap.size]? = _
      simp
    · obtain ⟨h1, T', hT⟩ := h.objs o ho
      obtain ⟨l1, l2⟩ := h.lt o ho
      rw [hE _ l1, denL_congr hE _ l2]
      exact ⟨h1, T', by rw [Below.heap_alloc _ _ _ (hlt o ho)]; exact hT⟩
  · intro o ho o' ho' he
    rcases List.mem_cons.1 ho with rfl | ho <;> rcases List.mem_cons.1 ho' with rfl | ho'
    · rfl
    · exfalso
      rw [hE _ (h.lt o' ho').1] at he
      simp only [hEn] at he
      have := hlt o' ho'
      omega
    · exfalso
      rw [hE _ (h.lt o ho).1] at he
      simp only [hEn] at he
      have := hlt o ho
      omega
    · rw [hE _ (h.lt o ho).1, hE _ (h.lt o' ho').1] at he
      exact h.inj o ho o' ho' he
  · intro o ho
    rcases List.mem_cons.1 ho with rfl | ho
    · exact ⟨by simp [Heap.alloc], ltL_mono (by simp [Heap.alloc]) _ hcs⟩
    · obtain ⟨l1, l2⟩ := h.lt o ho
      exact ⟨by simp [Heap.alloc]; omega, ltL_mono (by simp [Heap.alloc]) _ l2⟩

/-! ### calls -/
def CallOk (P : Program) (call : CallFn) : Prop := ∀ (w0 : World) (ro : Nat) (f : FuncId) (args : List AV) (H : Heap) (E : Env) (w : World) (R : Ending → World → Prop),
  ro ≤ H.next → HeapOk ro E w0 H w → AV.ltL H.next args →
  (call ro f args H).holds (fun x => ∀ E' w', (∀ k, k < H.next → E' k = E k) → HeapOk ro E' w0 x.2 w' → AV.lt x.2.next x.1 → H.next ≤ x.2.next → R (.returned (x.1.den E')) w') →
  Calls P f (AV.denL E args).toArray w R
def CallFun (P : Program) (f : FuncId) : Prop := ∃ fn, P.funcs[f]? = some fn ∧ fn.name ≠ "runtime.NumGoroutine" ∧ fn.body.isSome = true

/-- The contracts hold. -/
def ConOk (P : Program) (Γ : Con) : Prop := ∀ (f : FuncId) (args : List AV) (r : R), Γ f args = some r → CallFun P f ∧ match r with
  | .val v => ∀ (E : Env) (w : World), Calls P f (AV.denL E args).toArray w fun e w' => e = .returned (v.den E) ∧ Below w.heap.size w w'
  | .chk p v => p → ∀ (E : Env) (w : World), Calls P f (AV.denL E args).toArray w fun e w' => e = .returned (v.den E) ∧ Below w.heap.size w w'
  | _ => True

mutual
theorem merge_eq {b : Bool} : ∀ {x y z : AV}, merge b x y = some z → (b = true → z = x) ∧ (b = false → z = y)
  | .bool x, .bool y, z, h => by cases h; cases b <;> simp
  | .int k x, .int k' y, z, h => by
    unfold merge at h
    split at h
    · rename_i hk; subst hk; cases h; cases b <;> simp
    · cases h
  | .agg xs, .agg ys, z, h => by
    unfold merge at h
    cases hm : mergeL b xs ys with
    | none => simp [hm] at h
    | some zs =>
      simp only [hm, Option.map_some, Option.some.injEq] at h
      subst h
      have := mergeL_eq hm
      exact ⟨fun hb => by rw [this.1 hb], fun hb => by rw [this.2 hb]⟩
  | .tup xs, .tup ys, z, h => by
    unfold merge at h
    cases hm : mergeL b xs ys with
    | none => simp [hm] at h
    | some zs =>
      simp only [hm, Option.map_some, Option.some.injEq] at h
      subst h
      have := mergeL_eq hm
      exact ⟨fun hb => by rw [this.1 hb], fun hb => by rw [this.2 hb]⟩
  | .bool _, .int _ _, _, h | .bool _, .ptr _ _, _, h | .bool _, .val _, _, h | .bool _, .fn _ _ _, _, h | .bool _, .agg _, _, h | .bool _, .tup _, _, h => by simp [merge] at h
  | .int _ _, .bool _, _, h | .int _ _, .ptr _ _, _, h | .int _ _, .val _, _, h | .int _ _, .fn _ _ _, _, h | .int _ _, .agg _, _, h | .int _ _, .tup _, _, h => by simp [merge] at h
  | .ptr _ _, _, _, h | .val _, _, _, h | .fn _ _ _, _, _, h => by simp [merge] at h
  | .agg _, .bool _, _, h | .agg _, .int _ _, _, h | .agg _, .ptr _ _, _, h | .agg _, .val _, _, h | .agg _, .fn _ _ _, _, h | .agg _, .tup _, _, h => by simp [merge] at h
  | .tup _, .bool _, _, h | .tup _, .int _ _, _, h | .tup _, .ptr _ _, _, h | .tup _, .val _, _, h | .tup _, .fn _ _ _, _, h | .tup _, .agg _, _, h => by simp [merge] at h
theorem mergeL_eq {b : Bool} : ∀ {x y z : List AV}, mergeL b x y = some z → (b = true → z = x) ∧ (b = false → z = y)
  | [], [], z, h => by cases h; simp
  | x :: xs, y :: ys, z, h => by
    unfold mergeL at h
    split at h
    · rename_i u us h1 h2
      cases h
      have e1 := merge_eq h1
      have e2 := mergeL_eq h2
      exact ⟨fun hb => by rw [e1.1 hb, e2.1 hb], fun hb => by rw [e1.2 hb, e2.2 hb]⟩
    · cases h
  | [], _ :: _, _, h | _ :: _, [], _, h => by simp [mergeL] at h
end

/-- The one result is the result on each way. -/
theorem collapse_holds : ∀ {t : Tree (AV × Heap)} {r : R}, collapse t = some r → match r with
    | .val v => t.holds fun x => x.1.weak = v.weak
    | .chk p v => p → t.holds fun x => x.1.weak = v.weak
    | _ => False
  | .ret (v, H), r, h => by
    unfold collapse at h
    split at h
    · cases h; exact rfl
    · cases h
  | .br b t e, r, h => by
    unfold collapse at h
    have key : ∀ {x y z : AV}, merge b x.weak y.weak = some z → (b = true → t.holds fun a => a.1.weak = x.weak) → (b = false → e.holds fun a => a.1.weak = y.weak) → (Tree.br b t e).holds fun a => a.1.weak = z.weak := by
      intro x y z hm h1 h2
      have := merge_eq hm
      exact ⟨fun hb => holds_mono (fun a ha => by rw [ha, this.1 hb, weak_weak]) (h1 hb), fun hb => holds_mono (fun a ha => by rw [ha, this.2 hb, weak_weak]) (h2 hb)⟩
    split at h
    · rename_i x y h1 h2
      cases hm : merge b x.weak y.weak with
      | none => simp [hm] at h
      | some z =>
        simp only [hm, Option.map_some, Option.some.injEq] at h; subst h
        exact key hm (fun _ => collapse_holds h1) (fun _ => collapse_holds h2)
    · rename_i p x y h1 h2
      cases hm : merge b x.weak y.weak with
      | none => simp [hm] at h
      | some z =>
        simp only [hm, Option.map_some, Option.some.injEq] at h; subst h
        exact fun hp => key hm (fun hb => collapse_holds h1 (hp hb)) (fun _ => collapse_holds h2)
    · rename_i x q y h1 h2
      cases hm : merge b x.weak y.weak with
      | none => simp [hm] at h
      | some z =>
        simp only [hm, Option.map_some, Option.some.injEq] at h; subst h
        exact fun hp => key hm (fun _ => collapse_holds h1) (fun hb => collapse_holds h2 (hp hb))
    · rename_i p x q y h1 h2
      cases hm : merge b x.weak y.weak with
      | none => simp [hm] at h
      | some z =>
        simp only [hm, Option.map_some, Option.some.injEq] at h; subst h
        exact fun hp => key hm (fun hb => collapse_holds h1 (hp.1 hb)) (fun hb => collapse_holds h2 (hp.2 hb))
    · cases h
  | .need p t, r, h => by
    unfold collapse at h
    split at h
    · rename_i v h1
      cases h
      exact fun hp => ⟨hp, collapse_holds h1⟩
    · rename_i q v h1
      cases h
      exact fun hp => ⟨hp.1, collapse_holds h1 hp.2⟩
    · cases h
  | .bad, r, h => by cases h

/-- What a call with one result says. -/
def CallSays (P : Program) (E : Env) (f : FuncId) (args : List AV) (w : World) : R → Prop
  | .val v => v.flat = true ∧ Calls P f (AV.denL E args).toArray w fun e w' => e = .returned (v.den E) ∧ Below w.heap.size w w'
  | .chk p v => v.flat = true ∧ (p → Calls P f (AV.denL E args).toArray w fun e w' => e = .returned (v.den E) ∧ Below w.heap.size w w')
  | _ => False
/-- A call with one result: it returns it, and all that was there is as it was. -/
theorem callR_sound (hΓ : ConOk P Γ) (hcall : CallOk P call) {f : FuncId} {args : List AV} {H : Heap} {E : Env} {w : World} {r : R}
    (h : callR Γ call f args H = some r) (hH : HeapOk ro E w0 H w) (hargs : AV.ltL H.next args) : CallSays P E f args w r := by
  have hflat : ∀ {r r' : R}, flatR r = some r' → r = r' ∧ (match r' with | .val v => v.flat = true | .chk _ v => v.flat = true | _ => False) := by
    intro r r' h
    cases r with
    | val v => simp only [flatR] at h; split at h
               · rename_i hv; cases h; exact ⟨rfl, hv⟩
               · cases h
    | chk p v => simp only [flatR] at h; split at h
                 · rename_i hv; cases h; exact ⟨rfl, hv⟩
                 · cases h
    | new _ => cases h
    | st _ _ _ => cases h
    | bad => cases h
  have hro : HeapOk H.next E w H w := ⟨Below.refl _ _, fun o ho => ⟨fun hle => absurd (hH.lt o ho).1 (by omega), (hH.objs o ho).2⟩, hH.inj, hH.lt⟩
  have hcol : ∀ v : AV, v.flat = true → ((call H.next f args H).holds fun x => x.1.weak = v.weak) → Calls P f (AV.denL E args).toArray w fun e w' => e = .returned (v.den E) ∧ Below w.heap.size w w' := by
    intro v hv ht
    refine hcall w H.next f args H E w _ (Nat.le_refl _) hro hargs (holds_mono (fun x hx => ?_) ht)
    intro E' w' hE hH' _ _
    refine ⟨?_, hH'.below⟩
    rw [← den_weak E' x.1, hx, den_weak, flat_den hv E E']
  unfold callR at h
  split at h
  · rename_i r0 hr0
    obtain ⟨rfl, hfl⟩ := hflat h
    obtain ⟨_, hc⟩ := hΓ f (AV.weakL args) _ hr0
    simp only [denL_weak] at hc
    cases r0 with
    | val v => exact ⟨hfl, hc E w⟩
    | chk p v => exact ⟨hfl, fun hp => hc hp E w⟩
    | new _ => exact hfl
    | st _ _ _ => exact hfl
    | bad => exact hfl
  · split at h
    · rename_i r0 hr0
      obtain ⟨rfl, hfl⟩ := hflat h
      have := collapse_holds hr0
      cases r0 with
      | val v => exact ⟨hfl, hcol v hfl this⟩
      | chk p v => exact ⟨hfl, fun hp => hcol v hfl (this hp)⟩
      | new _ => exact hfl
      | st _ _ _ => exact hfl
      | bad => exact hfl
    · cases h

/-! ### guards -/
def Conds (ctx : Ctx) : Prop := ∀ c ∈ ctx, c.2.2 = c.2.1
theorem condsB_iff : ∀ {ctx : Ctx}, condsB ctx = true ↔ Conds ctx
  | [] => by simp [condsB, Conds]
  | [(g, want, b)] => by simp [condsB, Conds]
  | (g, want, b) :: c :: r => by
    have ih := condsB_iff (ctx := c :: r)
    have e : condsB ((g, want, b) :: c :: r) = ((b == want) && condsB (c :: r)) := rfl
    rw [e, Bool.and_eq_true, ih]
    simp [Conds]
theorem condsP_of : ∀ {ctx : Ctx} {p : Prop}, condsP ctx p → Conds ctx → p
  | [], _, h, _ => h
  | (g, want, b) :: r, _, h, hc => condsP_of (ctx := r) h (fun c hc' => hc c (List.mem_cons_of_mem _ hc')) (hc (g, want, b) List.mem_cons_self)

/-! ### slots -/
def SlotOk (E : Env) (n : Nat) (a : Act) (t : Nat) : Slot → Prop
  | .is v => a.tmps.getD t undef = v.den E ∧ AV.lt n v
  | .when g want v => AV.lt n v ∧ (a.tmps.getD g undef = .bool want → a.tmps.getD t undef = v.den E) ∧ (a.tmps.getD g undef ≠ .bool want → a.tmps.getD t undef = undef)
  | .junk => True
structure SlotsOk (E : Env) (n N : Nat) (s : Slots) (a : Act) : Prop where
  defers : a.defers = []
  size : N ≤ a.tmps.size
  ok : ∀ t, SlotOk E n a t (s t)
/-- Guards of conditional slots are among those written. -/
def Guards (s : Slots) (seen : List Nat) : Prop := ∀ t g want v, s t = .when g want v → g ∈ seen

theorem SlotsOk.env {E E' : Env} {n n' N : Nat} {s : Slots} {a : Act} (h : SlotsOk E n N s a) (hE : ∀ k, k < n → E' k = E k) (hn : n ≤ n') : SlotsOk E' n' N s a := by
  refine ⟨h.defers, h.size, fun t => ?_⟩
  have := h.ok t
  cases hs : s t with
  | is v => rw [hs] at this; exact ⟨by rw [den_congr hE v this.2]; exact this.1, lt_mono hn v this.2⟩
  | when g want v => rw [hs] at this; exact ⟨lt_mono hn v this.1, fun hg => by rw [den_congr hE v this.1]; exact this.2.1 hg, this.2.2⟩
  | junk => trivial
theorem getD_put {a : Act} {d : Nat} (t : Nat) (v : Value) (hd : d < a.tmps.size) : (a.put (some d) v).tmps.getD t undef = if t = d then v else a.tmps.getD t undef := by
  simp only [Act.put, Array.getD_eq_getD_getElem?, Array.getElem?_setIfInBounds]
  by_cases h : d = t
  · subst h; simp [hd]
  · rw [if_neg h, if_neg (by omega)]
theorem SlotsOk.put {E : Env} {n N : Nat} {s : Slots} {a : Act} (h : SlotsOk E n N s a) {dst : Option Nat} (hd : ∀ d, dst = some d → d < N ∧ ∀ t g want v, s t = .when g want v → g ≠ d) {sl : Slot} {u : Value}
    (hsl : match sl with | .is v => u = v.den E ∧ AV.lt n v | .when g want v => AV.lt n v ∧ dst ≠ some g ∧ (a.tmps.getD g undef = .bool want → u = v.den E) ∧ (a.tmps.getD g undef ≠ .bool want → u = undef) | .junk => True) :
    SlotsOk E n N (Sx.put s dst sl) (a.put dst u) := by
  cases dst with
  | none => exact h
  | some d =>
    obtain ⟨hdN, hg⟩ := hd d rfl
    have hlt : d < a.tmps.size := Nat.lt_of_lt_of_le hdN h.size
    refine ⟨h.defers, by simp only [Act.put, Array.size_setIfInBounds]; exact h.size, fun t => ?_⟩
    show SlotOk E n _ t (upd s d sl t)
    by_cases ht : t = d
    · subst ht
      rw [upd_same]
      cases sl with
      | is v => exact ⟨by rw [getD_put _ _ hlt, if_pos rfl]; exact hsl.1, hsl.2⟩
      | when g want v =>
        have hne : g ≠ t := fun e => hsl.2.1 (by rw [e])
        refine ⟨hsl.1, fun hb => ?_, fun hb => ?_⟩
        · rw [getD_put _ _ hlt, if_neg hne] at hb
          rw [getD_put _ _ hlt, if_pos rfl]
          exact hsl.2.2.1 hb
        · rw [getD_put _ _ hlt, if_neg hne] at hb
          rw [getD_put _ _ hlt, if_pos rfl]
          exact hsl.2.2.2 hb
      | junk => trivial
    · rw [upd_ne _ _ ht]
      have := h.ok t
      cases hs : s t with
      | is v => rw [hs] at this; exact ⟨by rw [getD_put _ _ hlt, if_neg ht]; exact this.1, this.2⟩
      | when g want v =>
        rw [hs] at this
        refine ⟨this.1, fun hb => ?_, fun hb => ?_⟩
        · rw [getD_put _ _ hlt, if_neg (hg t g want v hs)] at hb
          rw [getD_put _ _ hlt, if_neg ht]
          exact this.2.1 hb
        · rw [getD_put _ _ hlt, if_neg (hg t g want v hs)] at hb
          rw [getD_put _ _ hlt, if_neg ht]
          exact this.2.2 hb
      | junk => trivial
theorem guards_put {s : Slots} {seen : List Nat} {N : Nat} {seen' : List Nat} {dst : Option Nat} {sl : Slot} (h : Guards s seen) (hs : seenAdd N dst seen = some seen') (hsl : ∀ g want v, sl = .when g want v → g ∈ seen) : Guards (put s dst sl) seen' := by
  intro t g want v ht
  cases dst with
  | none => cases hs; exact h t g want v ht
  | some d =>
    simp only [seenAdd] at hs
    split at hs
    · cases hs
      refine List.mem_cons_of_mem _ ?_
      by_cases hd : t = d
      · subst hd
        have ht : upd s t sl t = .when g want v := ht
        rw [upd_same] at ht
        exact hsl g want v ht
      · have ht : upd s d sl t = .when g want v := ht
        rw [upd_ne _ _ hd] at ht
        exact h t g want v ht
    · cases hs
theorem seen_dst {N : Nat} {s : Slots} {seen seen' : List Nat} {dst : Option Nat} (h : Guards s seen) (hs : seenAdd N dst seen = some seen') : ∀ d, dst = some d → d < N ∧ ∀ t g want v, s t = .when g want v → g ≠ d := by
  intro d hd
  subst hd
  simp only [seenAdd] at hs
  split at hs
  · rename_i hc
    rw [Bool.and_eq_true] at hc
    refine ⟨by simpa using hc.1, fun t g want v ht hg => ?_⟩
    subst hg
    have := h t g want v ht
    have h2 : seen.any (Nat.beq g) = true := List.any_eq_true.2 ⟨g, this, beq_self g⟩
    rw [h2] at hc
    simp at hc
  · cases hs

theorem ctx_any {ctx : Ctx} {g : Nat} {want : Bool} {a : Act} (hctx : ∀ c ∈ ctx, a.tmps.getD c.1 undef = .bool c.2.1) (h : ctx.any (fun c => Nat.beq c.1 g && (c.2.1 == want)) = true) : a.tmps.getD g undef = .bool want := by
  obtain ⟨c, hc, hb⟩ := List.any_eq_true.1 h
  rw [Bool.and_eq_true] at hb
  have h1 : c.1 = g := Nat.eq_of_beq_eq_true hb.1
  have h2 : c.2.1 = want := by simpa using hb.2
  rw [← h1, ← h2]
  exact hctx c hc
theorem readS_sound {E : Env} {n N : Nat} {s : Slots} {a : Act} (h : SlotsOk E n N s a) (ctx : Ctx) (hctx : ∀ c ∈ ctx, a.tmps.getD c.1 undef = .bool c.2.1) :
    ∀ x v, readS ctx s x = some v → a.eval x = v.den E ∧ AV.lt n v := by
  intro x v hx
  cases x with
  | tmp t =>
    simp only [readS] at hx
    have := h.ok t
    split at hx
    · rename_i v' hs
      cases hx
      rw [hs] at this
      exact this
    · rename_i g want v' hs
      rw [hs] at this
      split at hx
      · rename_i hc
        cases hx
        exact ⟨this.2.1 (ctx_any hctx hc), this.1⟩
      · cases hx
    · cases hx
  | const c => cases hx; exact ⟨(den_ofValue E c).symm, lt_ofValue n c⟩
  | global g => cases hx; exact ⟨rfl, trivial⟩
  | func f => cases hx; exact ⟨rfl, trivial, trivial⟩

/-- The chain of guards holds just if the guard's slot has the wanted value. -/
theorem guardChain_sound {E : Env} {n N : Nat} {s : Slots} {a : Act} (h : SlotsOk E n N s a) : ∀ (m g : Nat) (want : Bool) (ctx : Ctx), guardChain s m g want = some ctx →
    (a.tmps.getD g undef = .bool want ↔ Conds ctx) ∧ (Conds ctx → ∀ c ∈ ctx, a.tmps.getD c.1 undef = .bool c.2.1) ∧ ∃ b r, ctx = (g, want, b) :: r
  | 0, _, _, _, h => by cases h
  | m + 1, g, want, ctx, hc => by
    unfold guardChain at hc
    have hg := h.ok g
    split at hc
    · rename_i v hs
      split at hc
      case h_2 => cases hc
      rename_i b hvb
      cases hc
      rw [hs] at hg
      have hg1 : a.tmps.getD g undef = .bool b := by rw [hg.1, ← den_weak, hvb]; rfl
      refine ⟨⟨fun e c hc => ?_, fun hc => ?_⟩, fun hc c hmem => ?_, b, [], rfl⟩
      · rw [hg1] at e
        cases e
        simp at hc; subst hc; rfl
      · have := hc (g, want, b) (by simp)
        simp at this
        rw [hg1, this]
      · have := hc (g, want, b) (by simp)
        simp at this hmem
        subst hmem
        show a.tmps.getD g undef = .bool want
        rw [hg1, this]
    · rename_i g1 w1 v hs
      split at hc
      case h_2 => cases hc
      rename_i b hvb
      rw [hs] at hg
      have hvd : v.den E = .bool b := by rw [← den_weak, hvb]; rfl
      cases hr : guardChain s m g1 w1 with
      | none => rw [hr] at hc; cases hc
      | some r =>
        rw [hr] at hc
        cases hc
        obtain ⟨ih1, ih2, _⟩ := guardChain_sound h m g1 w1 r hr
        have fwd : a.tmps.getD g undef = .bool want → b = want ∧ Conds r := by
          intro e
          by_cases h1 : a.tmps.getD g1 undef = .bool w1
          · have := hg.2.1 h1
            rw [e, hvd] at this
            cases this
            exact ⟨rfl, ih1.1 h1⟩
          · have := hg.2.2 h1
            rw [e] at this
            cases this
        have bwd : b = want → Conds r → a.tmps.getD g undef = .bool want := fun hb hr' => by
          rw [hg.2.1 (ih1.2 hr'), ← hb, hvd]
        have split : Conds ((g, want, b) :: r) ↔ b = want ∧ Conds r := by simp [Conds]
        refine ⟨⟨fun e => split.2 (fwd e), fun hc => bwd (split.1 hc).1 (split.1 hc).2⟩, fun hc c hmem => ?_, b, r, rfl⟩
        obtain ⟨h1, h2⟩ := split.1 hc
        rcases List.mem_cons.1 hmem with rfl | hmem
        · exact bwd h1 h2
        · exact ih2 h2 c hmem
    · cases hc
end
end Go.Sx
