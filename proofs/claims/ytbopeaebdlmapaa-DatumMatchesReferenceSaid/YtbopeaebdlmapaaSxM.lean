/-
  The executor is sound: a region that draws its order, whole.
-/
import Derived.Test.YtbopeaebdlmapaaSxL
import Derived.Still
namespace Go.Sx
open Go.RowKit
section
variable {P : Program} {Γ : Con} {call : CallFn} {ro N : Nat} {ops : Array Oper} {w0 : World} {H : Heap} {s : Slots} {L : List Item} {E : Env}

theorem Run.invStep (r : Run P Γ call ro N ops H s L) {S S' : Nat → Bool} (hS : Closed ops S) {j : Nat} {it : Item} (hj : L[j]? = some it) (hSj : S j = false) (hready : ∀ e ∈ it.o.after, Region.binds .any e = true → S e.on = true) (hS' : ∀ m, S' m = (S m || Nat.beq m j))
    (hneed : ∀ p, it.need = some p → p) {a : Act} {w : World} (hinv : Inv ro N w0 H s L E S a w) {K : Act → World → Prop} {Q : Exit → Act → World → Prop} (hK : ∀ a2 w2, Inv ro N w0 H s L E S' a2 w2 → K a2 w2) : wpOp P ops Q j K a w := by
  obtain ⟨E', hE, hSl, hH⟩ := hinv
  obtain ⟨seenk, hat⟩ := r.at_ j it hj
  have hoj := r.back hj
  have hd : ∀ d, it.o.dst = some d → d < N ∧ ∀ t g want v, slotsS S 0 L s t = .when g want v → g ≠ d := fun d hd => ⟨r.dstN hj hd, r.noGuard hS hj hSj hd⟩
  have tr_slots : ∀ t, slotsS S' 0 L s t = put (slotsS S 0 L s) it.o.dst it.slot t := fun t =>
    slotsS_add L 0 j S S' s hj (by omega) hSj hS' (fun k' y hy hne hx hty => hne (r.distinct hy hj hty hx))
  have tr_objs : ∀ key, objAt key (it.eff (objsS S 0 L H.objs)) = objAt key (objsS S' 0 L H.objs) := fun key =>
    (objsS_add L 0 j S S' H.objs hj (by omega) hSj hS' (fun k' y hy hlt hx hty => by
      have hne : j ≠ k' := by omega
      have := r.agree hS hoj hSj hready hy hne (pairOk_touch (r.pair j it k' y hj hy hne) hne hx hty)
      rw [Nat.zero_add, this]
      simp; omega)).symm
  have hltF : nextS (L.take j) H.next ≤ nextS L H.next := by rw [← r.key hj]; exact (r.keyF hj).2.2
  have done : ∀ {E2 : Env} {u : Value} {w2 : World} {l : List Obj}, (∀ k, k < H.next → E2 k = E k) → SlotsOk E2 (nextS L H.next) N (put (slotsS S 0 L s) it.o.dst it.slot) (a.put it.o.dst u) → l = it.eff (objsS S 0 L H.objs) → HeapOk ro E2 w0 ⟨l, nextS L H.next⟩ w2 → K (a.put it.o.dst u) w2 := by
    intro E2 u w2 l hE2 hs2 hl hh2
    subst hl
    exact hK _ _ ⟨E2, hE2, hs2.point tr_slots, hh2.congr tr_objs⟩
  have hfine := hat.fine
  have hguard := hat.guard
  have hlt := hat.lt
  have hlooks : ∀ c ∈ it.ctx, slotsS S 0 L s c.1 = slotsS (fun x => decide (x < 0 + j)) 0 L s c.1 := by
    intro c hc
    refine slotsS_agree L 0 S _ s s rfl (fun k y hy hdy => ?_)
    simp only [Nat.zero_add]
    by_cases hkj : k = j
    · subst hkj; rw [hSj]; simp
    · exact r.agree hS hoj hSj hready hy (fun e => hkj e.symm) (pairOk_dst (r.pair j it k y hj hy (fun e => hkj e.symm)) (fun e => hkj e.symm) hdy (by unfold looks; exact List.mem_append.2 (.inr (List.mem_map.2 ⟨c, hc, rfl⟩))))
  have hctxok : CtxOk a it.o it.ctx := by
    cases hc : it.ctx with
    | nil => trivial
    | cons c0 r0 =>
      obtain ⟨g, want, b⟩ := c0
      unfold GuardAt at hguard
      rw [hc] at hguard hlooks
      have hch := guardChain_congr (s' := slotsS S 0 L s) 9 g want _ hguard.2.1 hlooks
      obtain ⟨q1, q2, _⟩ := guardChain_sound hSl 9 g want _ hch
      refine ⟨q1, q2, fun e => ?_⟩
      rcases hat.from_ g hguard.1 with h | ⟨k', y, hk', hy, hdy⟩
      · cases h
      · have := r.distinct hy hj hdy e; omega
  -- it is carried out
  have exec : Conds it.ctx → it.o.wp P a w K Q := by
    intro hb
    have hdoes := r.does hS hj hSj hready hSl hH hb
    cases hr : it.r with
    | val v =>
      rw [hr] at hdoes hlt
      have hl : AV.lt (nextS L H.next) v := lt_mono hltF v hlt
      have heff : it.eff (objsS S 0 L H.objs) = objsS S 0 L H.objs := by unfold Item.eff; rw [hr]
      refine hdoes K Q fun w' hw' => done hE ?_ heff.symm (hH.step hw')
      have hpt : it.slot = slotOf it.ctx v := by unfold Item.slot; rw [hr]
      rw [hpt]
      exact (put_slotOf hSl hd hctxok hl).1 hb
    | chk p v =>
      rw [hr] at hdoes hlt
      have hl : AV.lt (nextS L H.next) v := lt_mono hltF v hlt
      have heff : it.eff (objsS S 0 L H.objs) = objsS S 0 L H.objs := by unfold Item.eff; rw [hr]
      have hp : p := by
        unfold Item.need at hneed
        rw [hr] at hneed
        exact condsP_of (hneed _ rfl) hb
      refine hdoes hp K Q fun w' hw' => done hE ?_ heff.symm (hH.step hw')
      have hpt : it.slot = slotOf it.ctx v := by unfold Item.slot; rw [hr]
      rw [hpt]
      exact (put_slotOf hSl hd hctxok hl).1 hb
    | new cs =>
      rw [hr] at hdoes hlt
      have hkey := r.key hj
      obtain ⟨k1, k2, _⟩ := r.keyF hj
      have hkF := k2 cs hr
      -- nothing in the state names the new key
      have hother : ∀ k y, L[k]? = some y → S k = true → (match y.r with | .val v | .chk _ v => AV.all (fun x => x ≠ it.key) v | .new cs => y.key ≠ it.key ∧ AV.allL (fun x => x ≠ it.key) cs | .st _ _ cs => AV.allL (fun x => x ≠ it.key) cs | .bad => True) := by
        intro k y hy hSk
        have hne : j ≠ k := fun e => by rw [← e, hSj] at hSk; cases hSk
        have below : k < j → y.r.lt it.key ∧ ∀ cs, y.r = .new cs → y.key < it.key := by
          intro hkj
          obtain ⟨_, haty⟩ := r.at_ k y hy
          have hle : nextS (L.take k) H.next ≤ it.key := by rw [hkey]; exact nextS_take L k j H.next (by omega)
          refine ⟨?_, fun cs hc => ?_⟩
          · have := haty.lt
            cases hyr : y.r with
            | val v => rw [hyr] at this; exact lt_mono hle v this
            | chk p v => rw [hyr] at this; exact lt_mono hle v this
            | new cs => rw [hyr] at this; exact ltL_mono hle _ this
            | st _ _ cs => rw [hyr] at this; exact ltL_mono hle _ this
            | bad => trivial
          · exact r.keyLt hy hj hc hkj
        by_cases hkj : k < j
        · obtain ⟨h1, h2⟩ := below hkj
          cases hyr : y.r with
          | val v => rw [hyr] at h1; exact all_imp (fun x hx => by omega) v h1
          | chk p v => rw [hyr] at h1; exact all_imp (fun x hx => by omega) v h1
          | new cs2 => rw [hyr] at h1; exact ⟨by have := h2 cs2 hyr; omega, allL_imp (fun x hx => by omega) _ h1⟩
          | st _ _ cs2 => rw [hyr] at h1; exact allL_imp (fun x hx => by omega) _ h1
          | bad => trivial
        · have hjk : j < k := by omega
          rcases pairOk_new (r.pair j it k y hj hy hne) hne hr with h | h | h
          · omega
          · unfold Item.flat at h
            cases hyr : y.r with
            | val v => rw [hyr] at h; exact all_imp (fun x hx => absurd hx (Nat.not_lt_zero _)) v (flat_lt v h)
            | chk p v => rw [hyr] at h; exact all_imp (fun x hx => absurd hx (Nat.not_lt_zero _)) v (flat_lt v h)
            | new cs2 => rw [hyr] at h; exact ⟨by have := r.keyLt hj hy hr hjk; omega, allL_imp (fun x hx => absurd hx (Nat.not_lt_zero _)) _ (flatL_lt _ h)⟩
            | st _ _ cs2 => rw [hyr] at h; exact allL_imp (fun x hx => absurd hx (Nat.not_lt_zero _)) _ (flatL_lt _ h)
            | bad => trivial
          · have := r.agree hS hoj hSj hready hy hne h
            rw [hSk] at this
            have : k < j := by simpa using this
            omega
      have hslots : SlotsAll (fun x => x ≠ it.key) (slotsS S 0 L s) := by
        intro t
        rcases slots_from (t := t) L 0 S s with h | ⟨k, y, h1, h2, h3, h4⟩
        · rw [h]; exact slotAll_imp (fun x hx => by omega) (r.hslots t)
        · rw [h4]
          have := hother k y h1 (by simpa using h2)
          apply Item.slotAll
          cases hyr : y.r with
          | val v => rw [hyr] at this; exact this
          | chk p v => rw [hyr] at this; exact this
          | new cs2 => rw [hyr] at this; exact this.1
          | st _ _ _ => trivial
          | bad => trivial
      have hobjs : ∀ o ∈ objsS S 0 L H.objs, o.key ≠ it.key ∧ AV.allL (fun x => x ≠ it.key) o.cells := by
        refine objs_from L 0 S H.objs (fun o ho => ?_) (fun k y hy hSk => ?_)
        · obtain ⟨a1, a2⟩ := r.hobjs o ho
          exact ⟨by omega, allL_imp (fun x hx => by omega) _ a2⟩
        · have := hother k y hy (by simpa using hSk)
          cases hyr : y.r with
          | val v => trivial
          | chk p v => trivial
          | new cs2 => rw [hyr] at this; exact this
          | st key off vs =>
            rw [hyr] at this
            intro o ho
            exact ⟨ho.1, allL_setFrom ho.2 this⟩
          | bad => trivial
      have hcs : AV.ltL (nextS L H.next) cs := ltL_mono hltF _ hlt
      have hcs2 : AV.allL (fun x => x ≠ it.key) cs := allL_imp (fun x (hx : x < nextS (L.take j) H.next) => by rw [hkey]; omega) _ hlt
      refine hdoes K Q fun T => done (E2 := upd E' it.key w.heap.size) (fun k hk => by rw [upd_ne _ _ (by omega)]; exact hE k hk) ?_ (by unfold Item.eff; rw [hr]) (hH.allocAt hkF hobjs cs hcs hcs2 T)
      have hpt : it.slot = .is (.ptr it.key 0) := by unfold Item.slot; rw [hr]
      rw [hpt]
      exact (hSl.envAll (fun k hk => upd_ne _ _ hk) hslots).put hd ⟨by simp [AV.den, upd_same], hkF⟩
    | st key off vs =>
      rw [hr] at hdoes
      have hro : ro ≤ key := by
        unfold Item.fine at hfine
        rw [hr] at hfine
        have hfine : (it.ctx.isEmpty && Nat.ble ro key) = true := hfine
        rw [Bool.and_eq_true] at hfine
        exact Nat.le_of_ble_eq_true hfine.2
      have hpt : it.slot = .is (.val undef) := by unfold Item.slot; rw [hr]
      refine hdoes hro K Q fun w' hw' => done hE ?_ (l := putObj key off vs (objsS S 0 L H.objs)) (by unfold Item.eff; rw [hr]) hw'
      rw [hpt]
      exact hSl.put hd ⟨rfl, trivial⟩
    | bad => unfold Item.fine at hfine; rw [hr] at hfine; cases hfine
  unfold wpOp
  rw [hoj]
  simp only []
  cases hc : it.ctx with
  | nil =>
    unfold GuardAt at hguard
    rw [hc] at hguard
    rw [if_pos (by simp [Region.wanted, hguard])]
    exact .inl (exec (fun c h => by rw [hc] at h; cases h))
  | cons c0 r0 =>
    obtain ⟨g, want, b⟩ := c0
    have hguard0 := hguard
    have hctx0 := hctxok
    unfold GuardAt at hguard
    rw [hc] at hguard hctx0
    obtain ⟨hseen, _, jg, og, hg1, hg2, hg3⟩ := hguard
    by_cases hb : Conds it.ctx
    · have hgv : a.tmps.getD g undef = .bool want := hctx0.1.2 (by rw [← hc]; exact hb)
      rw [if_pos (by simp [Region.wanted, hg1, yielded_of hg2 hg3 hgv])]
      exact .inl (exec hb)
    · have hgv : a.tmps.getD g undef ≠ .bool want := fun e => hb (by rw [hc]; exact hctx0.1.1 e)
      have hnw : ¬ Region.wanted it.o (yielded ops a.tmps) = true := by
        intro hw
        unfold Region.wanted at hw
        rw [hg1] at hw
        have hw : (yielded ops a.tmps jg == some want) = true := hw
        have hy : yielded ops a.tmps jg = some want := by simpa using hw
        unfold yielded at hy
        simp only [hg2, Option.bind_some, hg3] at hy
        cases ht : a.tmps[g]? with
        | none => rw [ht] at hy; cases hy
        | some v =>
          rw [ht] at hy
          cases v <;> simp at hy
          subst hy
          exact hgv (by rw [Array.getD_eq_getD_getElem?, ht]; rfl)
      rw [if_neg hnw]
      have skip : ∀ v, AV.lt (nextS L H.next) v → it.slot = slotOf it.ctx v → it.eff (objsS S 0 L H.objs) = objsS S 0 L H.objs → K (a.put it.o.dst undef) w := by
        intro v hl hpt heff
        refine done hE ?_ heff.symm hH
        rw [hpt]
        exact (put_slotOf hSl hd hctxok hl).2 _ _ hc hb
      cases hr : it.r with
      | val v =>
        rw [hr] at hlt
        exact skip v (lt_mono hltF v hlt) (by unfold Item.slot; rw [hr]) (by unfold Item.eff; rw [hr])
      | chk p v =>
        rw [hr] at hlt
        exact skip v (lt_mono hltF v hlt) (by unfold Item.slot; rw [hr]) (by unfold Item.eff; rw [hr])
      | new cs => unfold Item.fine at hfine; rw [hr, hc] at hfine; cases hfine
      | st _ _ _ => unfold Item.fine at hfine; rw [hr, hc] at hfine; cases hfine
      | bad => unfold Item.fine at hfine; rw [hr] at hfine; cases hfine
theorem countP_lt {p q : Nat → Bool} : ∀ {l : List Nat} {j : Nat}, (∀ x, q x = true → p x = true) → j ∈ l → p j = true → q j = false → l.countP q < l.countP p
  | [], j, _, h, _, _ => by cases h
  | x :: r, j, hqp, h, hp, hq => by
    have mono : r.countP q ≤ r.countP p := List.countP_mono_left (fun x _ h => hqp x h)
    simp only [List.countP_cons]
    rcases List.mem_cons.1 h with rfl | h
    · rw [hp, hq]; simp; omega
    · have := countP_lt hqp h hp hq
      cases hx : q x with
      | true => rw [hqp x hx]; simp; omega
      | false => simp; omega

theorem Run.all (r : Run P Γ call ro N ops H s L) {Q : Exit → Act → World → Prop} (hneed : ∀ (k : Nat) (it : Item) (p : Prop), L[k]? = some it → it.need = some p → p)
    (hpost : Post ro w0 E H N (Q .normal) (slotsS (fun _ => true) 0 L s, ⟨objsS (fun _ => true) 0 L H.objs, nextS L H.next⟩)) :
    ∀ (fuel : Nat) (listed : Array Bool) (a : Act) (w : World), listed.size = ops.size → Closed ops (fun m => listed.getD m false) → Inv ro N w0 H s L E (fun m => listed.getD m false) a w →
      (List.range ops.size).countP (fun i => !(listed.getD i false)) ≤ fuel → wpAny P .any ops Q fuel listed a w := by
  have hlen : L.length = ops.size := by
    have := congrArg List.length r.hops
    simpa using this
  have full : ∀ (listed : Array Bool) (a : Act) (w : World), Inv ro N w0 H s L E (fun m => listed.getD m false) a w → (∀ j, j < ops.size → listed.getD j false = true) → Q .normal a w := by
    intro listed a w hinv hfull
    obtain ⟨E', hE, hSl, hH⟩ := hinv
    have hS : ∀ k it, L[k]? = some it → listed.getD (0 + k) false = true := fun k it hk => by
      have : k < L.length := by
        rcases Nat.lt_or_ge k L.length with h | h
        · exact h
        · rw [List.getElem?_eq_none h] at hk; cases hk
      rw [Nat.zero_add]; exact hfull k (by omega)
    refine hpost E' a w hE (hSl.point fun t => ?_) (hH.congr fun key => ?_) (nextS_le _ _)
    · exact slotsS_agree L 0 (fun _ => true) (fun m => listed.getD m false) s s rfl (fun k it hk _ => (hS k it hk).symm)
    · exact objsS_agree L 0 (fun m => listed.getD m false) (fun _ => true) _ _ rfl (fun k it hk _ => hS k it hk)
  have getD_eq : ∀ (listed : Array Bool), listed.size = ops.size → ∀ j, j < ops.size → listed.getD j true = listed.getD j false := by
    intro listed hl j hj
    have : j < listed.size := by omega
    simp [Array.getD, this]
  have ready_full : ∀ (listed : Array Bool), listed.size = ops.size → Region.ready .any ops listed = [] → ∀ n j, j < n → j < ops.size → listed.getD j false = true := by
    intro listed hl hr n
    induction n with
    | zero => intro j h; omega
    | succ n ih =>
      intro j hjn hj
      cases hb : listed.getD j false with
      | true => rfl
      | false =>
        exfalso
        have hmem : j ∈ Region.ready .any ops listed := by
          refine mem_ready.2 ⟨by rw [getD_eq listed hl j hj]; exact hb, ops[j], by simp [hj], fun e he hbi => ?_⟩
          have hlt := r.edge j ops[j] (by simp [hj]) e he hbi
          exact ih e.on (by omega) (by omega)
        rw [hr] at hmem
        cases hmem
  intro fuel
  induction fuel with
  | zero =>
    intro listed a w hl hcl hinv hcount
    have hfull : ∀ j, j < ops.size → listed.getD j false = true := by
      intro j hj
      cases hb : listed.getD j false with
      | true => rfl
      | false =>
        exfalso
        have : 0 < (List.range ops.size).countP (fun i => !(listed.getD i false)) := List.countP_pos_iff.2 ⟨j, by simpa using hj, by rw [hb]; rfl⟩
        omega
    refine ⟨?_, full listed a w hinv hfull⟩
    rw [List.eq_nil_iff_forall_not_mem]
    intro j hj
    obtain ⟨hju, oj, hoj, _⟩ := mem_ready.1 hj
    have hlt : j < ops.size := by
      rcases Nat.lt_or_ge j ops.size with h | h
      · exact h
      · simp [h] at hoj
    rw [getD_eq listed hl j hlt, hfull j hlt] at hju
    cases hju
  | succ fuel ih =>
    intro listed a w hl hcl hinv hcount
    refine ⟨fun h => full listed a w hinv (fun j hj => ready_full listed hl h (j + 1) j (by omega) hj), fun j hj => ?_⟩
    obtain ⟨hju, oj, hoj, hall⟩ := mem_ready.1 hj
    have hlt : j < ops.size := by
      rcases Nat.lt_or_ge j ops.size with h | h
      · exact h
      · simp [h] at hoj
    rw [getD_eq listed hl j hlt] at hju
    obtain ⟨it, hit, hio⟩ := r.get hoj
    subst hio
    have hset : ∀ m, (listed.setIfInBounds j true).getD m false = (listed.getD m false || Nat.beq m j) := by
      intro m
      by_cases hm : m = j
      · subst hm
        rw [beq_self]
        simp [Array.getD_eq_getD_getElem?, hl, hlt]
      · rw [beq_ne hm]
        simp [Array.getD_eq_getD_getElem?, Array.getElem?_setIfInBounds_ne (fun e => hm e.symm)]
    refine r.invStep (S := fun m => listed.getD m false) (S' := fun m => (listed.setIfInBounds j true).getD m false) hcl hit hju (fun e he hb => hall e he hb) hset (fun p hp => hneed j it p hit hp) hinv (fun a2 w2 hinv2 => ?_)
    refine ih _ a2 w2 (by simpa using hl) ?_ hinv2 ?_
    · intro i o ho hSi e he hb
      simp only [hset] at hSi ⊢
      rcases Bool.or_eq_true _ _ ▸ hSi with h | h
      · have h2 : listed.getD e.on false = true := hcl i o ho h e he hb
        rw [h2]; rfl
      · have hij : i = j := Nat.eq_of_beq_eq_true h
        subst hij
        rw [hoj] at ho
        cases ho
        rw [hall e he hb]; rfl
    · have := countP_lt (p := fun i => !(listed.getD i false)) (q := fun i => !((listed.setIfInBounds j true).getD i false)) (l := List.range ops.size) (j := j)
        (fun x hx => by
          rw [hset] at hx
          cases hb : listed.getD x false with
          | true => rw [hb] at hx; simp at hx
          | false => rfl) (by simpa using hlt) (by rw [hju]; rfl) (by rw [hset, beq_self]; simp)
      omega

theorem needs_holds {α : Type} {Q : α → Prop} {t : Tree α} : ∀ {L : List Item}, (needs L t).holds Q → (∀ (k : Nat) (it : Item) (p : Prop), L[k]? = some it → it.need = some p → p) ∧ t.holds Q
  | [], h => ⟨fun k it p hk => by simp at hk, h⟩
  | x :: r, h => by
    unfold needs at h
    split at h
    · rename_i q hq
      obtain ⟨h1, h2⟩ := needs_holds (L := r) h.2
      refine ⟨fun k it p hk hp => ?_, h2⟩
      cases k with
      | zero => simp at hk; subst hk; rw [hq] at hp; cases hp; exact h.1
      | succ k => exact h1 k it p (by simpa using hk) hp
    · rename_i hq
      obtain ⟨h1, h2⟩ := needs_holds (L := r) h
      refine ⟨fun k it p hk hp => ?_, h2⟩
      cases k with
      | zero => simp at hk; subst hk; rw [hq] at hp; cases hp
      | succ k => exact h1 k it p (by simpa using hk) hp

theorem rep_false (n m : Nat) : (Array.replicate n false).getD m false = false := by
  rw [Array.getD_eq_getD_getElem?, Array.getElem?_replicate]
  split <;> rfl

theorem drawRegion_sound (hΓ : ConOk P Γ) (hcall : CallOk P call) (hk : CallKnown P call) (hro : ro ≤ H.next) {a : Act} {w : World} (hS : SlotsOk E H.next N s a) (hG : Guards s []) (hH : HeapOk ro E w0 H w) {id : Nat} {Q : Exit → Act → World → Prop}
    (h : (drawRegion P Γ call ro N ops s H).holds (Post ro w0 E H N (Q .normal))) : (Code.region id ops true).wp P Q a w := by
  unfold drawRegion at h
  split at h
  · rename_i L hrun
    split at h
    · rename_i hc
      rw [Bool.and_eq_true] at hc
      obtain ⟨hmix, hord⟩ := hc
      obtain ⟨hneed, hpost⟩ := needs_holds h
      obtain ⟨hmap, hchain⟩ := runD_chain _ _ _ _ _ hrun
      have hslots : SlotsAll (fun x => x < H.next) s := by
        intro t
        have := hS.ok t
        cases hs : s t with
        | is v => rw [hs] at this; exact this.2
        | when g want v => rw [hs] at this; exact this.1
        | junk => trivial
      have hobjs : ObjsAll H.next H.objs := fun o ho => hH.lt o ho
      unfold orderOk at hord
      simp only [Bool.and_eq_true] at hord
      obtain ⟨hedge, hpairs⟩ := hord
      have r : Run P Γ call ro N ops H s L := {
        hΓ := hΓ, hcall := hcall, hk := hk, hro := hro, hops := hmap
        at_ := fun k it hk => chain_at L 0 k [] s H it hchain hslots hobjs hk
        hslots := hslots, nowhen := hG, hobjs := hobjs
        pair := fun j x m y hj hm _ => by
          have h1 := List.all_eq_true.1 hpairs (x, j) (List.mem_zipIdx_iff_getElem?.2 hj)
          exact List.all_eq_true.1 h1 (y, m) (List.mem_zipIdx_iff_getElem?.2 hm)
        edge := fun i o ho e he hb => by
          have h1 := List.all_eq_true.1 hedge (o, i) (List.mem_zipIdx_iff_getElem?.2 (by simpa using ho))
          have h2 := Array.all_eq_true_iff_forall_mem.1 h1 e he
          rw [hb] at h2
          simpa using h2 }
      refine wp_region_any hmix (r.all hneed hpost ops.size _ a _ (by simp) (fun i o _ hi => ?_) ⟨E, fun _ _ => rfl, ?_, ?_⟩ ?_)
      · rw [show (fun m => (Array.replicate ops.size false).getD m false) i = false from rep_false _ _] at hi; cases hi
      · have e : slotsS (fun m => (Array.replicate ops.size false).getD m false) 0 L s = s := slotsS_none _ _ _ _ (fun m _ => rep_false _ _)
        rw [e]
        exact ⟨hS.defers, hS.size, (hS.env (fun _ _ => rfl) (nextS_le L H.next)).ok⟩
      · have e : objsS (fun m => (Array.replicate ops.size false).getD m false) 0 L H.objs = H.objs := objsS_none _ _ _ _ (fun m _ => rep_false _ _)
        rw [e]
        have hd := hH.drew
        exact ⟨hd.below, hd.objs, hd.inj, fun o ho => ⟨Nat.lt_of_lt_of_le (hH.lt o ho).1 (nextS_le L H.next), ltL_mono (nextS_le L H.next) _ (hH.lt o ho).2⟩⟩
      · refine Nat.le_trans List.countP_le_length ?_
        simp
    · exact h.elim
  · exact h.elim
end
end Go.Sx
