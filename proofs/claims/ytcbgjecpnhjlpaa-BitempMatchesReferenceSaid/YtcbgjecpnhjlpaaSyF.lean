/-
  The executor is sound: functions; contracts out of what the executor finds.
-/
import Derived.Test.YtcbgjecpnhjlpaaSySq
set_option linter.unusedVariables false
namespace Go.Sy
open Go.RowKit
section
variable {P : Program} {Γ : Con} {Ξ : SeqCon} {X : List (Nat × Go.Obj)} {w0 w : World} {N : Nat} {E : Env} {H : Heap}

theorem HeapOk.filter (h : HeapOk X E w0 H w) (p : Obj → Bool) : HeapOk X E w0 { H with objs := H.objs.filter p } w :=
  h.sub (fun o ho => (List.mem_filter.1 ho).1) (fun o ho => h.lt o (List.mem_filter.1 ho).1)
theorem HeapOk.restrict (h : HeapOk X E w0 H w) (next : Nat) (roots : List Nat) : HeapOk X E w0 (restrict next roots H) w := h.filter _

def resultOf (tmps : Array Value) : ResultVar → Sem Value
  | .tmp t => pure (tmps.getD t undef)
  | .cell x t => do loadVar t (← asAddr (tmps.getD x undef))
theorem readResult_sound {c : Cfg} {a : Act} {D : List Deferred} (hS : SlotsOk E c.heap.next N D (toSlots c.tmps) a) (hH : HeapOk X E w0 c.heap w) {r : ResultVar} {v : AV} (h : readResult P c r = some v) :
    (resultOf a.tmps r).run P w = .ok (v.den E) w ∧ AV.lt c.heap.next v := by
  have slot : ∀ t v, c.tmps t = some v → a.tmps.getD t undef = v.den E ∧ AV.lt c.heap.next v := fun t v ht => by
    have := hS.ok t
    have e : toSlots c.tmps t = .is v := by simp [toSlots, ht]
    rw [e] at this
    exact this
  cases r with
  | tmp t =>
    obtain ⟨h1, h2⟩ := slot t v h
    exact ⟨by simp [resultOf, h1], h2⟩
  | cell x t =>
    simp only [readResult] at h
    split at h
    · rename_i key off hx
      split at h
      · rename_i k ver own cs ho
        obtain ⟨h1, h2⟩ := slot _ _ hx
        obtain ⟨hm, hkey⟩ := findObj_mem ho
        simp only [] at hkey
        subst hkey
        obtain ⟨b, T, e1, hT⟩ := hH.objs _ hm
        simp only [] at e1
        have hb : blk (E k) = b := by rw [e1]; rfl
        exact ⟨by simp [resultOf, h1, AV.den, hb, asAddr, run_load_obj hT h], all_partA h (hH.lt _ hm).2⟩
      · cases h
    · cases h
theorem readResults_sound {c : Cfg} {a : Act} {D : List Deferred} (hS : SlotsOk E c.heap.next N D (toSlots c.tmps) a) (hH : HeapOk X E w0 c.heap w) : ∀ (rs : List ResultVar) (vs : List AV), readResults P c rs = some vs →
    (rs.mapM (resultOf a.tmps)).run P w = .ok (AV.denL E vs) w ∧ AV.ltL c.heap.next vs
  | [], vs, h => by cases h; exact ⟨by simp [AV.denL], trivial⟩
  | r :: rs, vs, h => by
    unfold readResults at h
    split at h
    · rename_i v vs' h1 h2
      cases h
      obtain ⟨e1, l1⟩ := readResult_sound hS hH h1
      obtain ⟨e2, l2⟩ := readResults_sound hS hH rs vs' h2
      refine ⟨?_, l1, l2⟩
      rw [List.mapM_cons]
      simp only [Sem.run_bind, e1, e2, Result.andThen_ok, Sem.run_pure, AV.denL]
    · cases h
theorem results_sound {c : Cfg} {a : Act} {D : List Deferred} (hS : SlotsOk E c.heap.next N D (toSlots c.tmps) a) (hH : HeapOk X E w0 c.heap w) {fn : Func} {vs : List AV} (h : readResults P c fn.results.toList = some vs) :
    (results fn a.tmps).run P w = .ok (if h : (AV.denL E vs).toArray.size = 1 then (AV.denL E vs).toArray[0] else .tuple (AV.denL E vs).toArray) w := by
  have := (readResults_sound hS hH _ _ h).1
  have e : results fn a.tmps = (do
      let vs ← fn.results.mapM (resultOf a.tmps)
      pure (if h : vs.size = 1 then vs[0] else .tuple vs)) := by
    unfold results
    congr 2
  rw [e]
  simp only [Sem.run_bind, Array.mapM_eq_mapM_toList, Sem.run_map, this, Result.andThen_ok, Sem.run_pure]

/-- Out of the function: the blocks of the marks are shut. -/
theorem leaves_marks {fn : Func} {tmps : Array Value} {R : Ending → World → Prop} : ∀ (rs : List Nat) (w : World), (∀ r ∈ rs, w0.heap.size ≤ r ∧ ∀ x ∈ X, x.1 ≠ r) → rs.Nodup → HeapOk (prots rs X) E w0 H w →
    (∀ w', HeapOk X E w0 H w' → ∃ v, (results fn tmps).run P w' = .ok v w' ∧ R (.returned v) w') → LeavesInM (FR none) 0 P fn tmps R (rs.map mark) .returning w
  | [], w, _, _, hH, hfin => hfin w hH
  | r :: rs, w, hrs, hn, hH, hfin => by
    have hH' : HeapOk ((r, .deferred (some [])) :: prots rs X) E w0 H w := hH
    have hp := (hH'.prot (r, .deferred (some [])) List.mem_cons_self).1
    have hn' := List.nodup_cons.1 hn
    refine ⟨by simp, .inl ⟨r, _, rfl, run_takeDeferred hp, ?_⟩⟩
    refine leaves_marks rs _ (fun r' hr' => hrs r' (List.mem_cons_of_mem _ hr')) hn'.2 (hH'.putX (hrs r List.mem_cons_self).1 (fun x hx => ?_)).dropX hfin
    rcases List.mem_append.1 hx with hx | hx
    · obtain ⟨r', hr', rfl⟩ := List.mem_map.1 hx
      exact fun e => hn'.1 (by rw [← show r' = r from e]; exact hr')
    · exact (hrs r List.mem_cons_self).2 x hx

theorem callKnown_execFn (hΞ : SeqOk P Ξ) : ∀ n, CallKnown P (execFn P Γ Ξ n)
  | 0 => fun _ _ _ h => absurd (by simp [execFn]) h
  | n + 1 => fun f args H h => by
    unfold execFn at h
    split at h
    · rename_i q hq
      exact (hΞ _ _ _ _ hq).1
    split at h
    · exact absurd rfl h
    · rename_i fn hf
      split at h
      · exact absurd rfl h
      · rename_i code hb
        split at h
        · rename_i hc
          exact ⟨fn, hf, hc.1, by rw [hb]; rfl⟩
        · exact absurd rfl h
theorem callOk_step (hΓ : ConOk P Γ) (hΞ : SeqOk P Ξ) {n : Nat} (hcall : CallOk P (execFn P Γ Ξ n)) (hyld : YldOk P (execYl P Γ Ξ n)) : CallOk P (execFn P Γ Ξ (n + 1)) := by
  intro X w0 f args H E w R hH hargs h
  unfold execFn at h
  split at h
  · rename_i p key e ks L hq
    exact (hΞ _ _ _ _ hq).2 _ hyld X w0 H E w R rfl hH hargs h
  split at h
  · exact h.elim
  · rename_i fn hf
    split at h
    · exact h.elim
    · rename_i code hb
      split at h
      · rename_i hc
        refine callsIn_FR.1 (callsIn_of_wp_marks (F := FR none) (n := 0) hf hb trivial (execCode_sound (rnd := none) (rb := false) (X0 := X) (w0 := w0) hΓ hcall (callKnown_execFn hΞ n) hyld (fun _ => rfl) code ⟨_, H⟩ E _ w _ ⟨[], (fun _ h => by cases h), List.nodup_nil, ⟨rfl, ?_, fun t => ?_⟩, hH⟩ (holds_mono (fun x hx => ?_) (holds_bind h))))
        · simp [denL_map]; omega
        · have hal := (ltL_all _ _).1 hargs
          unfold toSlots
          by_cases ht : t < args.length
          · have e1 : args[t]? = some args[t] := List.getElem?_eq_getElem ht
            simp only [e1]
            refine ⟨?_, hal _ (List.getElem_mem ht)⟩
            rw [Array.getD_eq_getD_getElem?, Array.getElem?_append_left (by simp [denL_map]; exact ht)]
            simp [denL_map, ht]
          · have e1 : args[t]? = none := List.getElem?_eq_none (by omega)
            simp only [e1]
            refine ⟨?_, trivial⟩
            rw [Array.getD_eq_getD_getElem?, Array.getElem?_append_right (by simp [denL_map]; omega), Array.getElem?_replicate]
            split <;> rfl
        · intro E' a' w' hE hc' hle hold
          obtain ⟨e, c⟩ := x
          obtain ⟨rs, hrs1, hrs2, hS, hH'⟩ := hc'
          have hold : Old H c.heap := hold
          have hle : H.next ≤ c.heap.next := hle
          have fin : ((match readResults P c fn.results.toList with
              | some [v] => (match settleA P c.heap.objs c.heap.next v with
                | some x => needO [] x.p (.ret (x.v, restrict H.next (AV.keys x.v) (c.heap.eff x)))
                | none => Tree.ret (v, restrict H.next (AV.keys v) c.heap))
              | some vs => Tree.ret (AV.tup vs, restrict H.next (AV.keysL vs) c.heap)
              | none => Tree.bad).holds fun x => ∀ (E' : Env) (w' : World), (∀ k, k < H.next → E' k = E k) → HeapOk X E' w0 x.2 w' → AV.lt x.2.next x.1 → H.next ≤ x.2.next → Old H x.2 → R (.returned (x.1.den E')) w') →
              LeavesInM (FR none) 0 P fn a'.tmps R a'.defers .returning w' := by
            intro h
            rw [hS.defers]
            refine leaves_marks rs w' hrs1 hrs2 hH' fun w'' hH2 => ?_
            have holdr : ∀ roots, Old H (restrict H.next roots c.heap) := fun roots o ho hv => hold o (List.mem_filter.1 ho).1 hv
            split at h
            · rename_i v hv
              refine ⟨_, results_sound hS hH2 hv, ?_⟩
              split at h
              · rename_i x hx
                have hH2 : HeapOk X E' w0 c.heap w'' := hH2
                have hle : H.next ≤ c.heap.next := hle
                obtain ⟨hn, h⟩ := needO_holds h
                obtain ⟨f1, f2, f3⟩ := settleA_sound (w := w'') hH2 (fun o ho => Nat.ne_of_lt (hH2.lt o ho).1) hx
                obtain ⟨E2, g1, g2⟩ := f3 (by
                  unfold Eff.holds
                  cases hp : x.p with
                  | none => trivial
                  | some p => exact hn p hp)
                have hH3 := hH2.effAt f1 g1 (fun o ho => ⟨.inl (hH2.lt o ho).1, bodyAll_imp (fun k hk => .inl hk) (hH2.lt o ho).2⟩) (n' := c.heap.next + x.nk) (Nat.le_add_right _ _) (Nat.le_refl _)
                have hE : ∀ k, k < H.next → E' k = E k := hE
                have f4 : ∀ o ∈ x.add, c.heap.next ≤ o.ver := f1.ver
                have hold : Old H c.heap := hold
                have := h E2 w'' (fun k hk => (g1.agree k (.inl (Nat.lt_of_lt_of_le hk hle))).trans (hE k hk)) (HeapOk.restrict (H := c.heap.eff x) hH3 _ _) (all_imp (fun k hk => (hk.elim (fun h => Nat.lt_of_lt_of_le h (Nat.le_add_right _ _)) (fun h => h) : k < c.heap.next + x.nk)) _ f1.val) (Nat.le_trans hle (Nat.le_add_right _ _)) (fun o ho hv => by
                  refine hold o ?_ hv
                  have ho := (List.mem_filter.1 ho).1
                  rcases List.mem_append.1 ho with ho | ho
                  · have := f4 o ho
                    omega
                  · exact (List.mem_filter.1 ho).1)
                rw [g2] at this
                simpa [AV.denL] using this
              · have := h E' w'' hE (hH2.restrict _ _) ((readResults_sound hS hH2 _ _ hv).2.1) hle (holdr _)
                simpa [AV.denL] using this
            · rename_i vs hne hv
              refine ⟨_, results_sound hS hH2 hv, ?_⟩
              have := h E' w'' hE (hH2.restrict _ _) ((readResults_sound hS hH2 _ _ hv).2) hle (holdr _)
              have hlen : ¬ (AV.denL E' vs).toArray.size = 1 := by
                intro hl
                have hl : vs.length = 1 := by simpa [denL_map] using hl
                match vs, hl with
                | [v], _ => exact hne v rfl
              rw [dif_neg hlen]
              simpa [AV.den] using this
            · exact h.elim
          cases e with
          | exit id => exact hx.elim
          | normal => exact fin hx
          | ret => exact fin hx
      · exact h.elim
theorem sound (hΓ : ConOk P Γ) (hΞ : SeqOk P Ξ) : ∀ n, CallOk P (execFn P Γ Ξ n) ∧ YldOk P (execYl P Γ Ξ n)
  | 0 => ⟨fun _ _ _ _ _ _ _ _ _ _ h => (by simp [execFn] at h; exact h.elim), fun _ _ _ _ _ _ _ _ _ _ _ h => (by simp [execYl] at h; exact h.elim)⟩
  | n + 1 => by
    obtain ⟨h1, h2⟩ := sound hΓ hΞ n
    refine ⟨callOk_step hΓ hΞ h1 h2, ?_⟩
    have := execYield_sound hΓ h1 (callKnown_execFn hΞ n) h2
    intro X w0 key args H E w R hH hk ha h
    unfold execYl at h
    exact this X w0 key args H E w R hH hk ha h
theorem callOk_execFn (hΓ : ConOk P Γ) (hΞ : SeqOk P Ξ) (n : Nat) : CallOk P (execFn P Γ Ξ n) := (sound hΓ hΞ n).1

/-! ### contracts -/
/-- The shape of what a contract speaks of: its arguments as slots, its rows. -/
def conSpec (as : List AV) (os : List Obj) : Spec := ⟨as.zipIdx.map fun x => (x.2, x.1), os, [], os.length, []⟩
/-- One contract more: of F, for arguments and rows of a shape; what it does, by the leaves. -/
def ext (P : Program) (Γ : Con) (F : FuncId) (as : List AV) (os : List Obj) (eff : List U → Option Eff) : Con := fun f args objs =>
  if Nat.beq f F then
    if Nat.beq args.length as.length && Nat.beq objs.length os.length then
      match (conSpec as os).match_ P [] 1 ⟨fun t => args[t]?, ⟨frozen objs, objs.length⟩⟩ with
      | some us => eff us
      | none => none
    else none
  else Γ f args objs

theorem fill_zip (us : List U) : ∀ (as : List AV) (i j : Nat), fillSlots us ((as.zipIdx i).map fun x => (x.2, x.1)) j = (((fillL us as j).1.zipIdx i).map fun x => (x.2, x.1), (fillL us as j).2)
  | [], _, _ => rfl
  | a :: r, i, j => by
    have ih := fill_zip us r (i + 1) (fillV us a j).2
    have e1 : fillSlots us (((a :: r).zipIdx i).map fun x => (x.2, x.1)) j = ((i, (fillV us a j).1) :: (fillSlots us ((r.zipIdx (i + 1)).map fun x => (x.2, x.1)) (fillV us a j).2).1, (fillSlots us ((r.zipIdx (i + 1)).map fun x => (x.2, x.1)) (fillV us a j).2).2) := rfl
    have e2 : fillL us (a :: r) j = ((fillV us a j).1 :: (fillL us r (fillV us a j).2).1, (fillL us r (fillV us a j).2).2) := rfl
    rw [e1, ih, e2]
    rfl
theorem fillL_length (us : List U) : ∀ (as : List AV) (j : Nat), (fillL us as j).1.length = as.length
  | [], _ => rfl
  | a :: r, j => by
    show ((fillV us a j).1 :: (fillL us r (fillV us a j).2).1).length = _
    simp [fillL_length us r]
theorem lookup_zip : ∀ (l : List AV) (i t : Nat), lookupT (i + t) ((l.zipIdx i).map fun x => (x.2, x.1)) = l[t]?
  | [], _, _ => rfl
  | a :: r, i, 0 => by
    show (if Nat.beq (i + 0) i then some a else _) = _
    rw [Nat.add_zero, beq_self]; rfl
  | a :: r, i, t + 1 => by
    show (if Nat.beq (i + (t + 1)) i then some a else lookupT (i + (t + 1)) ((r.zipIdx (i + 1)).map fun x => (x.2, x.1))) = _
    rw [beq_ne (by omega), show i + (t + 1) = i + 1 + t by omega, lookup_zip r (i + 1) t]
    simp

mutual
theorem fillV_keys (us : List U) : ∀ (v : AV) (j : Nat), AV.keys (fillV us v j).1 = AV.keys v
  | .bool _, _ => rfl
  | .int _ _, _ => rfl
  | .fn f a b, j => by
    show AV.keysL (fillL us a j).1 ++ AV.keysL (fillL us b (fillL us a j).2).1 = AV.keysL a ++ AV.keysL b
    rw [fillL_keys us a, fillL_keys us b]
  | .agg cs, j => fillL_keys us cs j
  | .tup cs, j => fillL_keys us cs j
  | .ptr _ _, _ => rfl
  | .val _, _ => rfl
  | .sl _, _ => rfl
  | .ix _ _ _ _ _, _ => rfl
  | .vw _ _ _ _, _ => rfl
  | .yl _, _ => rfl
theorem fillL_keys (us : List U) : ∀ (l : List AV) (j : Nat), AV.keysL (fillL us l j).1 = AV.keysL l
  | [], _ => rfl
  | a :: r, j => by
    show AV.keys (fillV us a j).1 ++ AV.keysL (fillL us r (fillV us a j).2).1 = AV.keys a ++ AV.keysL r
    rw [fillV_keys us a, fillL_keys us r]
end
theorem fillObjs_flat (ver : Nat) (us : List U) : ∀ (os : List Obj) (j : Nat), ∀ o ∈ (fillObjs ver us os j).1, ∃ s ∈ os, o.key = s.key ∧ flatBody o.body = flatBody s.body
  | [], _, o, h => by cases h
  | s :: r, j, o, h => by
    have e : (fillObjs ver us (s :: r) j).1 = ⟨s.key, ver, s.own, (fillB us s.body j).1⟩ :: (fillObjs ver us r (fillB us s.body j).2).1 := rfl
    rw [e] at h
    rcases List.mem_cons.1 h with rfl | h
    · refine ⟨s, by simp, rfl, ?_⟩
      show flatBody (fillB us s.body j).1 = _
      cases s.body <;> rfl
    · obtain ⟨s', h1, h2⟩ := fillObjs_flat ver us r _ o h
      exact ⟨s', by simp [h1], h2⟩
theorem bound_keys : ∀ l : List Nat, ∃ M, ∀ k ∈ l, k < M
  | [] => ⟨0, fun k h => by cases h⟩
  | a :: r => by
    obtain ⟨M, hM⟩ := bound_keys r
    refine ⟨M + a + 1, fun k hk => ?_⟩
    rcases List.mem_cons.1 hk with rfl | hk
    · omega
    · have := hM k hk; omega

/-- A CONTRACT OUT OF WHAT THE EXECUTOR FINDS. -/
theorem conOk_ext (hΞ : SeqOk P Ξ) (hΓ : ConOk P Γ) {n : Nat} {F : FuncId} {as : List AV} {os : List Obj} {eff : List U → Option Eff} (hflat : os.all (fun o => flatBody o.body && Nat.blt o.key os.length) = true)
    (hargs : (AV.keysL as).all (fun k => Nat.blt k os.length) = true)
    (hcol : ∀ us x, eff us = some x → ∃ p, collapse P os.length (execFn P Γ Ξ n F (fillL us as 0).1 ⟨(fillObjs os.length us os (fillL us as 0).2).1, os.length⟩) = some { x with p := p } ∧ (x.holds → Eff.holds { x with p := p })) : ConOk P (ext P Γ F as os eff) := by
  intro f args objs x h
  unfold ext at h
  split at h
  case isFalse => exact hΓ f args objs x h
  rename_i hf
  have hf : f = F := Nat.eq_of_beq_eq_true hf
  subst hf
  split at h
  case isFalse => cases h
  rename_i hl
  rw [Bool.and_eq_true] at hl
  have hl1 : args.length = as.length := Nat.eq_of_beq_eq_true hl.1
  have hl2 : objs.length = os.length := Nat.eq_of_beq_eq_true hl.2
  split at h
  case h_2 => cases h
  rename_i us hm
  obtain ⟨p0, hc, hph⟩ := hcol us x h
  have hfun : CallFun P f := callKnown_execFn hΞ n f (fillL us as 0).1 _ fun e => (by rw [e] at hc; cases hc)
  obtain ⟨hwf0, hfit0⟩ := collapse_sound hc
  unfold GiveCon
  rw [hl2]
  have hwf : GiveWf os.length x := ⟨hwf0.rm, hwf0.key, hwf0.uniq, hwf0.flat, hwf0.val, hwf0.ver⟩
  have hfit : x.holds → (execFn P Γ Ξ n f (fillL us as 0).1 ⟨(fillObjs os.length us os (fillL us as 0).2).1, os.length⟩).holds (Fits os.length x) := fun hp => hfit0 (hph hp)
  refine ⟨fun _ => ⟨hfun, hwf, fun hp E w hpre => ?_⟩, fun hne => absurd hwf.rm hne⟩
  obtain ⟨M, hM⟩ := bound_keys (AV.keysL args ++ objs.map (fun o => o.key))
  have hmem : ∀ o ∈ Sy.frozen objs, ∃ o' ∈ objs, o = { o' with own := false } := fun o ho => by
    obtain ⟨o', ho', rfl⟩ := List.mem_map.1 ho
    exact ⟨o', ho', rfl⟩
  have hH : HeapOk [] E w ⟨Sy.frozen objs, M⟩ w := by
    refine ⟨Blw.refl _ _, hpre.env, ?_, ?_, ?_, ?_, ?_, ?_⟩
    · intro o ho; obtain ⟨o', ho', rfl⟩ := hmem o ho; exact (hpre.rows o' ho').1
    · intro o ho hown; obtain ⟨o', ho', rfl⟩ := hmem o ho; cases hown
    · intro o ho o2 ho2 hown; obtain ⟨o', ho', rfl⟩ := hmem o ho; cases hown
    · intro o ho o2 ho2 hk
      obtain ⟨o', ho', rfl⟩ := hmem o ho
      obtain ⟨o2', ho2', rfl⟩ := hmem o2 ho2
      rw [hpre.uniq o' ho' o2' ho2' hk]
    · intro o ho
      obtain ⟨o', ho', rfl⟩ := hmem o ho
      exact ⟨hM _ (List.mem_append.2 (.inr (List.mem_map.2 ⟨o', ho', rfl⟩))), bodyAll_flat (hpre.rows o' ho').2.1⟩
    · intro y hy; cases hy
  have hS : SlotsOk E M 0 [] (toSlots fun t => args[t]?) { tmps := (AV.denL E args).toArray, defers := [] } := by
    refine ⟨rfl, Nat.zero_le _, fun t => ?_⟩
    cases ht : args[t]? with
    | none =>
      have e : toSlots (fun t => args[t]?) t = .junk := by simp [toSlots, ht]
      rw [e]; trivial
    | some v =>
      have e : toSlots (fun t => args[t]?) t = .is v := by simp [toSlots, ht]
      rw [e]
      refine ⟨?_, (ltL_all _ _).1 ((allL_keys _).2 fun k hk => hM k (List.mem_append.2 (.inl hk))) v (List.mem_of_getElem? ht)⟩
      rw [Array.getD_eq_getD_getElem?]
      simp [denL_map, ht]
  have hm' : (conSpec as os).match_ P [] 1 ⟨fun t => args[t]?, ⟨Sy.frozen objs, M⟩⟩ = some us := hm
  obtain ⟨E2, g1, g2, g3, g4⟩ := match_sound (wr := []) (tm := fun _ => none) hm' hH hS (fun o ho => by cases ho) (fun o ho => by cases ho) (fun t v _ hv => by cases hv)
  have hz := fill_zip us as 0 0
  have hgs : ∀ t v, (fillL us as 0).1[t]? = some v → ((conSpec as os).gen [] [] (fun _ => none) us).tmps t = some v := by
    intro t v ht
    have e : ((conSpec as os).gen [] [] (fun _ => none) us).tmps t = (match lookupT t (fillSlots us (as.zipIdx.map fun x => (x.2, x.1)) 0).1 with | some v => some v | none => if ([] : List Nat).any (Nat.beq t) then none else none) := rfl
    rw [e, hz]
    have := lookup_zip (fillL us as 0).1 0 t
    rw [Nat.zero_add] at this
    rw [this, ht]
  have hden : AV.denL E2 (fillL us as 0).1 = AV.denL E args := by
    apply List.ext_getElem?
    intro t
    rw [denL_map, denL_map, List.getElem?_map, List.getElem?_map]
    cases ht : (fillL us as 0).1[t]? with
    | none =>
      have h1 := List.getElem?_eq_none_iff.1 ht
      rw [fillL_length] at h1
      rw [List.getElem?_eq_none (by omega)]
      rfl
    | some v =>
      have h1 := (List.getElem?_eq_some_iff.1 ht).1
      rw [fillL_length] at h1
      have hpt := g2.ok t
      have e : toSlots ((conSpec as os).gen [] [] (fun _ => none) us).tmps t = .is v := by simp [toSlots, hgs t v ht]
      rw [e] at hpt
      have h2 : args[t]? = some args[t] := List.getElem?_eq_getElem (by omega)
      rw [h2]
      have h3 := hpt.1
      simp only [Array.getD_eq_getD_getElem?, denL_map] at h3
      simp only [List.getElem?_toArray, List.getElem?_map, h2, Option.map_some, Option.getD_some] at h3
      simp only [Option.map_some, h3]
  have hHc : HeapOk [] E2 w ⟨(fillObjs os.length us os (fillL us as 0).2).1, os.length⟩ w := by
    refine g3.sub (fun o ho => ?_) (fun o ho => ?_)
    · have e : ((conSpec as os).gen [] [] (fun _ => none) us).heap.objs = (fillObjs os.length us os (fillSlots us (as.zipIdx.map fun x => (x.2, x.1)) 0).2).1 ++ [] ++ [] := rfl
      rw [e, hz, List.append_nil, List.append_nil]
      exact ho
    · obtain ⟨s, h1, h2, h3⟩ := fillObjs_flat _ _ _ _ o ho
      have h4 := List.all_eq_true.1 hflat s h1
      rw [Bool.and_eq_true] at h4
      exact ⟨by rw [h2]; simpa using h4.2, bodyAll_flat (by rw [h3]; exact h4.1)⟩
  rw [← hden]
  refine callOk_execFn hΓ hΞ n [] w f _ _ E2 w _ hHc ((allL_keys _).2 fun k hk => ?_) (holds_mono (fun y hy => ?_) (hfit hp))
  · rw [fillL_keys] at hk
    simpa using List.all_eq_true.1 hargs k hk
  · intro E1 w' hE hH' _ _ _
    obtain ⟨E', e1, e2, e3, e4, e5, e6⟩ := hy [] E1 w w' hH'
    exact ⟨E', by rw [e3], fun k hk => by rw [e1 k hk, hE k hk]; exact g1 k hk, e2, hH'.below, e4, e5, e6⟩
end
end Go.Sy
