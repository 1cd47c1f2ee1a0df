/-
  The executor is sound: a region that draws its order.
-/
import Derived.Test.YtbopeaebdlmapaaSxK
namespace Go.Sx
open Go.RowKit
section
variable {P : Program} {Γ : Con} {call : CallFn} {ro N : Nat} {ops : Array Oper} {w0 : World} {H : Heap} {s : Slots} {L : List Item}

/-- All that is known of the run over a region, once and for all. -/
structure Run (P : Program) (Γ : Con) (call : CallFn) (ro N : Nat) (ops : Array Oper) (H : Heap) (s : Slots) (L : List Item) : Prop where
  hΓ : ConOk P Γ
  hcall : CallOk P call
  hk : CallKnown P call
  hro : ro ≤ H.next
  hops : L.map (·.o) = ops.toList
  at_ : ∀ k it, L[k]? = some it → ∃ seenk, ItemAt P Γ call ro N ops H.objs 0 k L [] s H it seenk
  hslots : SlotsAll (fun x => x < H.next) s
  nowhen : Guards s []
  hobjs : ObjsAll H.next H.objs
  pair : ∀ j x m y, L[j]? = some x → L[m]? = some y → j ≠ m → pairOk (masksGo ops.toList []) H.next j x m y = true
  edge : ∀ i o, ops[i]? = some o → ∀ e ∈ o.after, Region.binds .any e = true → e.on < i

/-- The state once S has been carried out. -/
def Inv (ro N : Nat) (w0 : World) (H : Heap) (s : Slots) (L : List Item) (E : Env) (S : Nat → Bool) (a : Act) (w : World) : Prop :=
  ∃ E', (∀ k, k < H.next → E' k = E k) ∧ SlotsOk E' (nextS L H.next) N (slotsS S 0 L s) a ∧ HeapOk ro E' w0 ⟨objsS S 0 L H.objs, nextS L H.next⟩ w

theorem Run.get (r : Run P Γ call ro N ops H s L) {j : Nat} {o : Oper} (h : ops[j]? = some o) : ∃ it, L[j]? = some it ∧ it.o = o := by
  have h1 : (L.map (·.o))[j]? = some o := by rw [r.hops]; simpa using h
  rw [List.getElem?_map] at h1
  cases hl : L[j]? with
  | none => rw [hl] at h1; cases h1
  | some it => rw [hl] at h1; simp at h1; exact ⟨it, rfl, h1⟩
theorem Run.back (r : Run P Γ call ro N ops H s L) {j : Nat} {it : Item} (h : L[j]? = some it) : ops[j]? = some it.o := by
  have h1 : (L.map (·.o))[j]? = some it.o := by rw [List.getElem?_map, h]; rfl
  rw [r.hops] at h1
  simpa using h1
theorem Run.distinct (r : Run P Γ call ro N ops H s L) {k k' : Nat} {x y : Item} {d : Nat} (h : L[k]? = some x) (h' : L[k']? = some y) (hx : x.o.dst = some d) (hy : y.o.dst = some d) : k = k' := by
  have lt : ∀ {k k' : Nat} {x y : Item}, L[k]? = some x → L[k']? = some y → x.o.dst = some d → y.o.dst = some d → ¬ k < k' := by
    intro k k' x y h h' hx hy hlt
    obtain ⟨seenk, hat⟩ := r.at_ k' y h'
    have hm := hat.has k x d hlt h hx
    obtain ⟨seen', hadd⟩ := hat.add
    rw [hy] at hadd
    simp only [seenAdd] at hadd
    split at hadd
    · rename_i hc
      rw [Bool.and_eq_true] at hc
      have h2 : seenk.any (Nat.beq d) = true := List.any_eq_true.2 ⟨d, hm, beq_self d⟩
      rw [h2] at hc
      simp at hc
    · cases hadd
  have h1 := lt h h' hx hy
  have h2 := lt h' h hy hx
  omega
theorem Run.dstN (r : Run P Γ call ro N ops H s L) {k : Nat} {x : Item} {d : Nat} (h : L[k]? = some x) (hx : x.o.dst = some d) : d < N := by
  obtain ⟨seenk, hat⟩ := r.at_ k x h
  obtain ⟨seen', hadd⟩ := hat.add
  rw [hx] at hadd
  simp only [seenAdd] at hadd
  split at hadd
  · rename_i hc
    rw [Bool.and_eq_true] at hc
    simpa using hc.1
  · cases hadd
theorem Run.key (r : Run P Γ call ro N ops H s L) {k : Nat} {x : Item} (h : L[k]? = some x) : x.key = nextS (L.take k) H.next := by
  obtain ⟨seenk, hat⟩ := r.at_ k x h
  exact hat.key
theorem Run.keyF (r : Run P Γ call ro N ops H s L) {k : Nat} {x : Item} (h : L[k]? = some x) : H.next ≤ x.key ∧ (∀ cs, x.r = .new cs → x.key < nextS L H.next) ∧ x.key ≤ nextS L H.next := by
  rw [r.key h]
  have hle : nextS (L.take k) H.next ≤ nextS L H.next := by
    have := nextS_take L k L.length H.next (by
      rcases Nat.lt_or_ge k L.length with h' | h'
      · omega
      · rw [List.getElem?_eq_none h'] at h; cases h)
    rwa [List.take_length] at this
  refine ⟨nextS_le _ _, fun cs hr => ?_, hle⟩
  have h1 := nextS_succ L k H.next x h
  simp only [effNext, hr] at h1
  have h2 := nextS_take L (k + 1) L.length H.next (by
    rcases Nat.lt_or_ge k L.length with h' | h'
    · omega
    · rw [List.getElem?_eq_none h'] at h; cases h)
  rw [List.take_length, h1] at h2
  omega
/-- A later item's key is above a new box's. -/
theorem Run.keyLt (r : Run P Γ call ro N ops H s L) {j k : Nat} {x y : Item} {cs : List AV} (hj : L[j]? = some x) (hk : L[k]? = some y) (hr : x.r = .new cs) (hlt : j < k) : x.key < y.key := by
  rw [r.key hj, r.key hk]
  have h1 := nextS_succ L j H.next x hj
  simp only [effNext, hr] at h1
  have h2 := nextS_take L (j + 1) k H.next (by omega)
  rw [h1] at h2
  omega

/-- What waits and what is waited for: in what has been carried out just as in the text. -/
theorem Run.agree (r : Run P Γ call ro N ops H s L) {S : Nat → Bool} (hS : Closed ops S) {j : Nat} {oj : Oper} (hj : ops[j]? = some oj) (hSj : S j = false) (hready : ∀ e ∈ oj.after, Region.binds .any e = true → S e.on = true) {m : Nat} {y : Item} (hm : L[m]? = some y) (_hne : j ≠ m)
    (ho : ordered (masksGo ops.toList []) j m = true) : S m = decide (m < j) := by
  unfold ordered at ho
  by_cases hlt : m < j
  · have : Nat.blt m j = true := by simpa using hlt
    rw [this] at ho
    simp only [if_true] at ho
    rw [closed_masks hS (j + 1) j (by omega) oj hj hready m ho]
    simp [hlt]
  · have : Nat.blt m j = false := Bool.eq_false_iff.2 (fun hb => hlt (by simpa using hb))
    rw [this] at ho
    simp only [Bool.false_eq_true, if_false] at ho
    cases hSm : S m with
    | false => simp [hlt]
    | true =>
      have hom := r.back hm
      have := closed_masks hS (m + 1) m (by omega) y.o hom (hS m y.o hom hSm) j ho
      rw [hSj] at this
      cases this

theorem pairOk_dst {M : List Nat} {n j m : Nat} {x y : Item} (h : pairOk M n j x m y = true) (hne : j ≠ m) {d : Nat} (hd : y.o.dst = some d) (hl : d ∈ looks x) : ordered M j m = true := by
  unfold pairOk at h
  rw [beq_ne hne, hd] at h
  simp only [Bool.false_or, Bool.and_eq_true] at h
  have h1 := h.1.1.1
  have h2 : (looks x).any (Nat.beq d) = true := List.any_eq_true.2 ⟨d, hl, beq_self d⟩
  rw [h2] at h1
  simpa using h1
theorem pairOk_foot {M : List Nat} {n j m : Nat} {x y : Item} (h : pairOk M n j x m y = true) (hne : j ≠ m) {key : Nat} (hf : x.foot = some key) (ht : y.touch key = true) : ordered M j m = true := by
  unfold pairOk at h
  rw [beq_ne hne, hf] at h
  simp only [Bool.false_or, Bool.and_eq_true] at h
  have h1 := h.1.1.2
  rw [ht] at h1
  simpa using h1
theorem pairOk_all {M : List Nat} {n j m : Nat} {x y : Item} (h : pairOk M n j x m y = true) (hne : j ≠ m) (ha : x.all = true) {key off : Nat} {vs : List AV} (hr : y.r = .st key off vs) (hk : key < n) : j < m ∧ ordered M j m = true := by
  unfold pairOk at h
  rw [beq_ne hne, ha, hr] at h
  simp only [Bool.false_or, Bool.and_eq_true, Bool.not_true] at h
  have h1 := h.1.2
  have h2 : Nat.ble n key = false := by
    cases hb : Nat.ble n key with
    | false => rfl
    | true => exact absurd (Nat.le_of_ble_eq_true hb) (by omega)
  rw [h2] at h1
  simp only [Bool.false_or, Bool.and_eq_true] at h1
  exact ⟨by simpa using h1.1, h1.2⟩
theorem pairOk_touch {M : List Nat} {n j m : Nat} {x y : Item} (h : pairOk M n j x m y = true) (hne : j ≠ m) {key : Nat} (hx : x.touch key = true) (hy : y.touch key = true) : ordered M j m = true := by
  unfold pairOk at h
  rw [beq_ne hne] at h
  simp only [Bool.false_or, Bool.and_eq_true] at h
  have h1 := h.2
  unfold Item.touch at hx
  cases hr : x.r with
  | new cs =>
    rw [hr] at hx h1
    have e : x.key = key := Nat.eq_of_beq_eq_true hx
    simp only [e, hy, Bool.not_true, Bool.false_or, Bool.and_eq_true] at h1
    exact h1.1
  | st k off vs =>
    rw [hr] at hx h1
    have e : k = key := Nat.eq_of_beq_eq_true hx
    simp only [e, hy, Bool.not_true, Bool.false_or] at h1
    exact h1
  | val v => rw [hr] at hx; cases hx
  | chk p v => rw [hr] at hx; cases hx
  | bad => rw [hr] at hx; cases hx
theorem pairOk_new {M : List Nat} {n j m : Nat} {x y : Item} (h : pairOk M n j x m y = true) (hne : j ≠ m) {cs : List AV} (hr : x.r = .new cs) : m < j ∨ y.flat = true ∨ ordered M j m = true := by
  unfold pairOk at h
  rw [beq_ne hne, hr] at h
  simp only [Bool.false_or, Bool.and_eq_true] at h
  have h1 := h.2.2
  simp only [Bool.or_eq_true] at h1
  rcases h1 with (h1 | h1) | h1
  · exact .inl (by simpa using h1)
  · exact .inr (.inl h1)
  · exact .inr (.inr h1)

/-- No conditional slot hangs on the slot that item j writes, as long as j has not been carried out. -/
theorem Run.noGuard (r : Run P Γ call ro N ops H s L) {S : Nat → Bool} (hS : Closed ops S) {j : Nat} {it : Item} (hj : L[j]? = some it) (hSj : S j = false) {d : Nat} (hd : it.o.dst = some d) :
    ∀ t g want v, slotsS S 0 L s t = .when g want v → g ≠ d := by
  intro t g want v ht hg
  subst hg
  rcases slots_from L 0 S s with h | ⟨k, y, h1, h2, h3, h4⟩
  · rw [h] at ht
    exact absurd (r.nowhen t g want v ht) (by simp)
  · rw [h4] at ht
    have hctx : ∃ b r, y.ctx = (g, want, b) :: r := by
      have of : ∀ v', slotOf y.ctx v' = .when g want v → ∃ b r, y.ctx = (g, want, b) :: r := by
        intro v' hv
        unfold slotOf at hv
        split at hv
        · cases hv
        · rename_i g' want' b' r' hc; cases hv; exact ⟨b', r', hc⟩
      unfold Item.slot at ht
      split at ht
      · exact of _ ht
      · exact of _ ht
      · cases ht
      · cases ht
      · cases ht
    obtain ⟨b, rr, hc⟩ := hctx
    obtain ⟨seenk, hat⟩ := r.at_ k y h1
    have hgu := hat.guard
    unfold GuardAt at hgu
    rw [hc] at hgu
    rcases hat.from_ g hgu.1 with h | ⟨k', y', hk', hy', hd'⟩
    · cases h
    · have e : k' = j := r.distinct hy' hj hd' hd
      subst e
      have hne : k ≠ k' := by omega
      have ho := pairOk_dst (r.pair k y k' it h1 hj hne) hne hd (by unfold looks; rw [hc]; simp)
      have hk0 : S k = true := by simpa using h2
      have hok := r.back h1
      unfold ordered at ho
      have hb : Nat.blt k' k = true := by simpa using hk'
      rw [hb] at ho
      simp only [if_true] at ho
      have := closed_masks hS (k + 1) k (by omega) y.o hok (hS k y.o hok hk0) k' ho
      rw [hSj] at this
      cases this

/-- Item j does in the state at S what it does in the text. -/
theorem Run.does (r : Run P Γ call ro N ops H s L) {S : Nat → Bool} (hS : Closed ops S) {j : Nat} {it : Item} (hj : L[j]? = some it) (hSj : S j = false) (hready : ∀ e ∈ it.o.after, Region.binds .any e = true → S e.on = true)
    {E' : Env} {a : Act} {w : World} (hSl : SlotsOk E' (nextS L H.next) N (slotsS S 0 L s) a) (hH : HeapOk ro E' w0 ⟨objsS S 0 L H.objs, nextS L H.next⟩ w)
    (hwant : Conds it.ctx) : Does P ro w0 E' ⟨objsS S 0 L H.objs, nextS L H.next⟩ a w it.o it.r := by
  obtain ⟨seenk, hat⟩ := r.at_ j it hj
  have hoj := r.back hj
  -- the slots it looks at are as in the text
  have hlook : ∀ t, t ∈ looks it → slotsS S 0 L s t = slotsS (fun x => decide (x < 0 + j)) 0 L s t := by
    intro t ht
    refine slotsS_agree L 0 S _ s s rfl (fun k y hy hd => ?_)
    simp only [Nat.zero_add]
    by_cases hkj : k = j
    · subst hkj; rw [hSj]; simp
    · exact r.agree hS hoj hSj hready hy (fun e => hkj e.symm) (pairOk_dst (r.pair j it k y hj hy (fun e => hkj e.symm)) (fun e => hkj e.symm) hd ht)
  have hopnd : ∀ c x, x ∈ it.o.op.operands → readS c (slotsS (fun x => decide (x < 0 + j)) 0 L s) x = readS c (slotsS S 0 L s) x := by
    intro c x hx
    refine readS_congr x fun t ht => ?_
    subst ht
    refine (hlook t ?_).symm
    unfold looks
    refine List.mem_append.2 (.inl (List.mem_filterMap.2 ⟨.tmp t, by simpa using hx, rfl⟩))
  have hgv : ∀ c ∈ it.ctx, a.tmps.getD c.1 undef = .bool c.2.1 := by
    intro c hc
    have hgu := hat.guard
    unfold GuardAt at hgu
    cases hctx : it.ctx with
    | nil => rw [hctx] at hc; cases hc
    | cons c0 r0 =>
      obtain ⟨g, want, b⟩ := c0
      rw [hctx] at hgu
      have hch := guardChain_congr (s' := slotsS S 0 L s) 9 g want _ hgu.2.1 (fun c hc => hlook c.1 (by unfold looks; rw [hctx]; exact List.mem_append.2 (.inr (List.mem_map.2 ⟨c, hc, rfl⟩))))
      rw [hctx] at hc hwant
      exact (guardChain_sound hSl 9 g want _ hch).2.1 hwant c hc
  have hrd : ∀ x v, readS it.ctx (slotsS S 0 L s) x = some v → a.eval x = v.den E' ∧ AV.lt (nextS L H.next) v := readS_sound hSl _ hgv
  have hstep := hat.step
  unfold stepD at hstep
  simp only [] at hstep
  split at hstep
  · -- pick
    rename_i c x y hop
    split at hstep
    · rename_i v hv
      have hr : it.r = .val v := (congrArg Item.r (Option.some.inj hstep)).symm
      rw [hr]
      rw [pickA_congr (s' := slotsS S 0 L s) (fun z hz t ht => by
        subst ht
        refine (hlook t ?_).symm
        unfold looks
        refine List.mem_append.2 (.inl (List.mem_filterMap.2 ⟨.tmp t, ?_, rfl⟩))
        rw [hop]
        simpa [Op.operands] using hz)] at hv
      obtain ⟨cb, hc, hval, hl⟩ := pickA_sound hSl hgv hv
      intro K Q hK
      unfold Oper.wp
      rw [run_pick hop hc, hval]
      exact hK w (Below.refl _ _)
    · cases hstep
  · -- call
    rename_i f args ts hop
    split at hstep
    · rename_i fi first caps vs hf hvs
      split at hstep
      · rename_i rr hr
        have hrr : it.r = rr := (congrArg Item.r (Option.some.inj hstep)).symm
        have hall : it.all = (match Γ fi (AV.weakL (first ++ vs ++ caps)) with | some _ => false | none => true) := by
          have := Option.some.inj hstep
          exact (congrArg Item.all this).symm
        rw [hrr]
        have hfl := slotsAll_read hat.slots _ _ _ hf
        have hvl : AV.ltL (nextS (L.take j) H.next) vs := (ltL_all _ _).2 (readL_all (Q := AV.lt (nextS (L.take j) H.next)) (fun x v hx => slotsAll_read hat.slots _ x v hx) _ _ hvs)
        have hargs : AV.ltL (nextS (L.take j) H.next) (first ++ vs ++ caps) := by
          rw [ltL_all]
          intro v hv
          simp only [List.mem_append] at hv
          rcases hv with (hv | hv) | hv
          · exact (ltL_all _ _).1 hfl.1 v hv
          · exact (ltL_all _ _).1 hvl v hv
          · exact (ltL_all _ _).1 hfl.2 v hv
        rw [hopnd _ f (by rw [hop]; simp [Op.operands, Call.operands])] at hf
        rw [readL_congr (ρ' := readS it.ctx (slotsS S 0 L s)) _ (fun x hx => hopnd _ x (by rw [hop]; simp only [Op.operands, Call.operands, Array.mem_append]; exact .inr (by simpa using hx)))] at hvs
        have hrun := run_callFn (P := P) (w := w) hop (hrd _ _ hf).1 (readL_sound (fun x v hx => (hrd x v hx).1) _ _ hvs) (callR_fun r.hΓ r.hk hr)
        refine does_of_call hrun ?_
        cases hcon : Γ fi (AV.weakL (first ++ vs ++ caps)) with
        | some r0 =>
          -- by contract: no box is read
          have hr' : callR Γ call fi (first ++ vs ++ caps) ⟨[], nextS (L.take j) H.next⟩ = some rr := by
            unfold callR at hr ⊢
            rw [hcon] at hr ⊢
            exact hr
          exact callR_sound (ro := ro) (w0 := w) (E := E') (w := w) r.hΓ r.hcall hr' ⟨Below.refl _ _, (fun _ h => by cases h), (fun _ h => by cases h), (fun _ h => by cases h)⟩ hargs
        | none =>
          rw [hcon] at hall
          have hmem : ∀ o ∈ H.objs, o ∈ objsS S 0 L H.objs := by
            intro o ho
            rw [mem_objAt]
            have e : objAt o.key (objsS S 0 L H.objs) = objAt o.key (objsS (fun _ => false) 0 L H.objs) := by
              refine objsS_agree L 0 S _ _ _ rfl (fun k y hy ht => ?_)
              simp only [Nat.zero_add]
              have hk0 := (r.hobjs o ho).1
              unfold Item.touch at ht
              cases hyr : y.r with
              | new cs =>
                rw [hyr] at ht
                have := (r.keyF hy).1
                have e : y.key = o.key := Nat.eq_of_beq_eq_true ht
                omega
              | st key off vs2 =>
                rw [hyr] at ht
                have e : key = o.key := Nat.eq_of_beq_eq_true ht
                by_cases hkj : j = k
                · subst hkj
                  exact hSj
                · obtain ⟨h1, h2⟩ := pairOk_all (r.pair j it k y hj hy hkj) hkj hall hyr (by omega)
                  rw [r.agree hS hoj hSj hready hy hkj h2]
                  simp; omega
              | val v => rw [hyr] at ht; cases ht
              | chk p v => rw [hyr] at ht; cases ht
              | bad => rw [hyr] at ht; cases ht
            rw [e, objsS_none _ _ _ _ (fun _ _ => rfl), ← mem_objAt]
            exact ho
          have hle : H.next ≤ nextS (L.take j) H.next := nextS_le _ _
          exact callR_sound (ro := ro) (w0 := w0) (E := E') (w := w) r.hΓ r.hcall hr ⟨hH.below, fun o ho => hH.objs o (hmem o ho), fun o ho o' ho' => hH.inj o (hmem o ho) o' (hmem o' ho'), fun o ho => ⟨Nat.lt_of_lt_of_le (r.hobjs o ho).1 hle, ltL_mono hle _ (r.hobjs o ho).2⟩⟩ hargs
      · cases hstep
    · cases hstep
  · -- all else
    have hr : it.r = absOp P (readS it.ctx (slotsS (fun x => decide (x < 0 + j)) 0 L s)) ⟨objsS (fun x => decide (x < 0 + j)) 0 L H.objs, nextS (L.take j) H.next⟩ it.o.op := by
      have := Option.some.inj hstep
      exact (congrArg Item.r this).symm
    have hfoot : it.foot = footOf (readS it.ctx (slotsS (fun x => decide (x < 0 + j)) 0 L s)) it.o.op := by
      have := Option.some.inj hstep
      exact (congrArg Item.foot this).symm
    rw [absOp_congr (ρ' := readS it.ctx (slotsS S 0 L s)) (H' := ⟨objsS S 0 L H.objs, nextS L H.next⟩) it.o.op (fun x hx => hopnd _ x hx) (fun key hkey => by
      rw [← hfoot] at hkey
      rw [findObj_at, findObj_at]
      congr 1
      refine (objsS_agree L 0 S _ _ _ rfl (fun k y hy ht => ?_)).symm
      simp only [Nat.zero_add]
      by_cases hkj : k = j
      · subst hkj; rw [hSj]; simp
      · exact r.agree hS hoj hSj hready hy (fun e => hkj e.symm) (pairOk_foot (r.pair j it k y hj hy (fun e => hkj e.symm)) (fun e => hkj e.symm) hkey ht))] at hr
    rw [hr]
    exact does_of_opOk (absOp_sound hrd hH it.o)
end
end Go.Sx
