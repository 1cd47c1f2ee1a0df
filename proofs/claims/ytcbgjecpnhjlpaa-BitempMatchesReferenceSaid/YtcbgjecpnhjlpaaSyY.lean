/-
  The executor is sound: ranges over functions, code.
-/
import Derived.Test.YtcbgjecpnhjlpaaSyX
import Derived.Scope
set_option linter.unusedVariables false
namespace Go.Sy
open Go.RowKit
section
variable {P : Program} {Γ : Con} {call : CallFn} {yld : Nat → List AV → Heap → Tree (AV × Heap)} {X X0 : List (Nat × Go.Obj)} {w0 w : World} {N : Nat} {D : List Deferred} {rnd : Option Nat} {E : Env} {H : Heap}

/-! ### the heap and blocks that are no object's -/
theorem below_put {w1 : World} {l : Nat} {o : Go.Obj} {B : Nat} {wb : World} (h : Blw B wb w1) (hl : B ≤ l) : Blw B wb (w1.putObj l o) :=
  ⟨⟨h.os, h.tape, h.output, by rw [World.putObj_size]; exact h.size, fun k hk => by rw [World.putObj_heap_other (by omega)]; exact h.block k hk⟩, h.drawn⟩
theorem all_same (E : Env) {b : Body} : BodyAll (fun k => E k = E k) b := by
  cases b with
  | loop => exact fun t v _ => (all_keys v).2 fun _ _ => rfl
  | cells cs => exact (allL_keys _).2 fun _ _ => rfl
  | arr e sz els => exact (allL_keys _).2 fun _ _ => rfl
  | row => trivial
  | mp => trivial
  | fin => trivial
  | nil => trivial
/-- A block that is no object's is turned. -/
theorem HeapOk.put {l : Nat} {o : Go.Obj} (h : HeapOk X E w0 H w) (hl : w0.heap.size ≤ l) (hX : ∀ x ∈ X, x.1 ≠ l) (hO : ∀ o' ∈ H.objs, blkO (E o'.key) ≠ some l) : HeapOk X E w0 H (w.putObj l o) :=
  ⟨below_put h.below hl, h.env, fun o' ho' => (h.objs o' ho').keep rfl (all_same E) (fun g hg => World.putObj_heap_other (fun e => hO o' ho' (by rw [hg, e]))) (by simp), h.high, h.inj, h.uniq, h.lt,
    fun x hx => ⟨by rw [World.putObj_heap_other (hX x hx)]; exact (h.prot x hx).1, (h.prot x hx).2⟩⟩
theorem HeapOk.addX {l : Nat} {o : Go.Obj} (h : HeapOk X E w0 H w) (hl : w.heap[l]? = some o) (hO : ∀ o' ∈ H.objs, blkO (E o'.key) ≠ some l) : HeapOk ((l, o) :: X) E w0 H w :=
  ⟨h.below, h.env, h.objs, h.high, h.inj, h.uniq, h.lt, fun x hx => by
    rcases List.mem_cons.1 hx with rfl | hx
    · exact ⟨hl, hO⟩
    · exact h.prot x hx⟩
theorem HeapOk.dropX {y : Nat × Go.Obj} (h : HeapOk (y :: X) E w0 H w) : HeapOk X E w0 H w :=
  ⟨h.below, h.env, h.objs, h.high, h.inj, h.uniq, h.lt, fun x hx => h.prot x (List.mem_cons_of_mem _ hx)⟩
theorem HeapOk.dropXs {Y : List (Nat × Go.Obj)} (h : HeapOk (Y ++ X) E w0 H w) : HeapOk X E w0 H w :=
  ⟨h.below, h.env, h.objs, h.high, h.inj, h.uniq, h.lt, fun x hx => h.prot x (List.mem_append.2 (.inr hx))⟩
theorem HeapOk.putX {l : Nat} {o0 o : Go.Obj} (h : HeapOk ((l, o0) :: X) E w0 H w) (hl : w0.heap.size ≤ l) (hX : ∀ x ∈ X, x.1 ≠ l) : HeapOk ((l, o) :: X) E w0 H (w.putObj l o) := by
  obtain ⟨p1, p2⟩ := h.prot (l, o0) (by simp)
  exact (h.dropX.put hl hX p2).addX (World.putObj_heap_same (Array.getElem?_eq_some_iff.1 p1).1) p2
/-- An own object's block, no longer seen. -/
theorem HeapOk.hide {o : Obj} {l : Nat} {ob : Go.Obj} (h : HeapOk X E w0 H w) (ho : o ∈ H.objs) (hown : o.own = true) (hb : blkO (E o.key) = some l) (hl : w.heap[l]? = some ob) : HeapOk ((l, ob) :: X) E w0 (dropKey o.key H) w ∧ w0.heap.size ≤ l ∧ ∀ x ∈ X, x.1 ≠ l := by
  have hs : HeapOk X E w0 (dropKey o.key H) w := h.sub (fun o' ho' => (List.mem_filter.1 ho').1) (fun o' ho' => h.lt o' (List.mem_filter.1 ho').1)
  refine ⟨hs.addX hl (fun o' ho' => ?_), h.high o ho hown l hb, fun x hx e => (h.prot x hx).2 o ho (by rw [e]; exact hb)⟩
  obtain ⟨h1, h2⟩ := List.mem_filter.1 ho'
  have hne : o.key ≠ o'.key := fun e => by rw [← e, beq_self] at h2; cases h2
  exact h.inj o ho o' h1 hown hne l hb
/-- It is an object's again. -/
theorem HeapOk.show_ {l key ver : Nat} {ob : Go.Obj} {b : Body} (h : HeapOk ((l, ob) :: X) E w0 H w) (hl : w0.heap.size ≤ l) (hX : ∀ x ∈ X, x.1 ≠ l) (hE : E key = .pointer (some ⟨l, 0, none⟩)) (hb : BodyOk E w key true b) (hk : key < H.next) (hall : BodyAll (fun k => k < H.next) b)
    (hno : ∀ o ∈ H.objs, o.key ≠ key) : HeapOk X E w0 ⟨⟨key, ver, true, b⟩ :: H.objs, H.next⟩ w := by
  obtain ⟨p1, p2⟩ := h.prot (l, ob) (by simp)
  have hbl : ∀ {g}, blkO (E key) = some g → g = l := fun {g} hg => by rw [hE] at hg; cases hg; rfl
  refine ⟨h.below, h.env, ?_, ?_, ?_, ?_, ?_, ?_⟩
  · intro o ho
    rcases List.mem_cons.1 ho with rfl | ho
    · exact hb
    · exact h.objs o ho
  · intro o ho hown g hg
    rcases List.mem_cons.1 ho with rfl | ho
    · rw [hbl hg]; exact hl
    · exact h.high o ho hown g hg
  · intro o ho o' ho' hown hne g hg hg'
    rcases List.mem_cons.1 ho with rfl | ho <;> rcases List.mem_cons.1 ho' with rfl | ho'
    · exact hne rfl
    · exact p2 o' ho' (by rw [hg', hbl hg])
    · exact p2 o ho (by rw [hg, hbl hg'])
    · exact h.inj o ho o' ho' hown hne g hg hg'
  · intro o ho o' ho' hk
    rcases List.mem_cons.1 ho with rfl | ho <;> rcases List.mem_cons.1 ho' with rfl | ho'
    · rfl
    · exact absurd hk.symm (hno o' ho')
    · exact absurd hk (hno o ho)
    · exact h.uniq o ho o' ho' hk
  · intro o ho
    rcases List.mem_cons.1 ho with rfl | ho
    · exact ⟨hk, hall⟩
    · exact h.lt o ho
  · intro x hx
    refine ⟨(h.prot x (List.mem_cons_of_mem _ hx)).1, fun o ho => ?_⟩
    rcases List.mem_cons.1 ho with rfl | ho
    · intro e; exact hX x hx (hbl e)
    · exact (h.prot x (List.mem_cons_of_mem _ hx)).2 o ho
theorem HeapOk.alloc (h : HeapOk X E w0 H w) (o : Go.Obj) : HeapOk X E w0 H (w.alloc o) := by
  have old : ∀ k, k < w.heap.size → (w.alloc o).heap[k]? = w.heap[k]? := fun k hk => (below_alloc w o).block k hk
  refine ⟨h.below.alloc h.below.size _, h.env, fun o' ho' => (h.objs o' ho').keep rfl (all_same E) (fun g hg => old g (blk_lt (h.objs o' ho') hg)) (below_alloc w o).size, h.high, h.inj, h.uniq, h.lt, fun x hx => ⟨?_, (h.prot x hx).2⟩⟩
  rw [old x.1 (Array.getElem?_eq_some_iff.1 (h.prot x hx).1).1]
  exact (h.prot x hx).1
theorem HeapOk.envUp {E2 : Env} (h : HeapOk X E w0 H w) (hE : ∀ k, k < H.next → E2 k = E k) (henv : ∀ k, (E2 k).oneCell' = true) : HeapOk X E2 w0 H w :=
  ⟨h.below, henv, fun o ho => (h.objs o ho).keep (hE _ (h.lt o ho).1) (bodyAll_imp (fun k hk => hE k hk) (h.lt o ho).2) (fun _ _ => rfl) (Nat.le_refl _),
    fun o ho hown b hb => h.high o ho hown b (by rw [← hE _ (h.lt o ho).1]; exact hb),
    fun o ho o' ho' hown hne b hb => by rw [hE _ (h.lt o ho).1] at hb; rw [hE _ (h.lt o' ho').1]; exact h.inj o ho o' ho' hown hne b hb,
    h.uniq, h.lt, fun x hx => ⟨(h.prot x hx).1, fun o ho => by rw [hE _ (h.lt o ho).1]; exact (h.prot x hx).2 o ho⟩⟩
theorem hasKey_false {k : Nat} {l : List Obj} (h : hasKey k l = false) : ∀ o ∈ l, o.key ≠ k := fun o ho e => by
  have : hasKey k l = true := hasKey_iff.2 ⟨o, ho, e⟩
  rw [h] at this
  cases this

/-! ### a range over a function -/
theorem range_call {a : Act} {g : Operand} {l : Nat} {gi : FuncId} {first caps : List AV} {E E2 : Env} {key : Nat} {w1 : World} (hg : a.eval g = (AV.fn (.func gi) first caps).den E) (hcap : (AV.fn (.func gi) first caps).den E2 = (AV.fn (.func gi) first caps).den E) (hE : E2 key = .pointer (some ⟨l, 0, none⟩)) (hfun : CallFun P gi) :
    ∃ d, (resolve a.eval (rangeCall g l) 0).run P w1 = .ok d w1 ∧ (invoke d.target d.args).run P w1 = .ok (.enter gi (AV.denL E2 (first ++ [.yl key] ++ caps)).toArray) w1 := by
  obtain ⟨fn, h1, h2, h3⟩ := hfun
  have h4 : fn.body.isNone = false := by cases hb : fn.body with
    | none => rw [hb] at h3; cases h3
    | some _ => rfl
  have h5 : (fn.name == "runtime.NumGoroutine") = false := by simpa using h2
  rw [← hcap] at hg
  refine ⟨{ target := .fn (.func gi) (AV.denL E2 caps).toArray, args := (AV.denL E2 first).toArray ++ #[.func (.yield l) #[] #[]] }, ?_, ?_⟩
  · show Sem.run P (Deferred.ofValue (a.eval g) (#[Operand.const (.func (.yield l) #[] #[])].map a.eval)) w1 = _
    rw [hg]
    simp [AV.den, Deferred.ofValue, Act.eval]
  · simp only [invoke, callFunc, Sem.run_bind, run_program, Result.andThen_ok, h1, h4, h5, Bool.false_eq_true, if_false, Sem.run_pure]
    congr 2
    simp [denL_map, AV.den, hE, blk]

theorem loopEnd_spec {k st : Nat} {pend : Option Code} (h : loopEnd (findObj k H.objs) = some (st, pend)) (hH : HeapOk X E w0 H w) : ∃ o, (o ∈ H.objs ∧ o.key = k ∧ o.own = true) ∧ ∃ l r, E k = .pointer (some ⟨l, 0, none⟩) ∧ w.heap[l]? = some (.loop r) ∧ r.state = stOf st ∧ r.pending = pend := by
  unfold loopEnd at h
  split at h
  · rename_i hf
    cases h
    obtain ⟨hm, hk⟩ := findObj_mem hf
    refine ⟨_, ⟨hm, hk, rfl⟩, ?_⟩
    obtain ⟨l, fn, tmps, dfr, h1, h2, _⟩ := hH.objs _ hm
    rw [hk] at h1
    exact ⟨l, _, h1, h2, rfl, rfl⟩
  · rename_i hf
    cases h
    obtain ⟨hm, hk⟩ := findObj_mem hf
    refine ⟨_, ⟨hm, hk, rfl⟩, ?_⟩
    obtain ⟨l, r, h1, h2⟩ := hH.objs _ hm
    rw [hk] at h1
    exact ⟨l, r, h1, h2⟩
  · cases h
theorem rangeFunc_sound (hcall : CallOk P call) (hk : CallKnown P call) {res : List Nat} {f : Operand} {params : Array Tmp} {assign body : Code} {c : Cfg} {a : Act} {Q : Exit → Act → World → Prop} (hc : CfgOk X0 E w0 N c a w)
    (h : (execCode P Γ call yld false res N (.rangeFunc f params assign body) c).holds (CPost X0 w0 E N c Q)) : (Code.rangeFunc f params assign body).wpIn (FR none) 0 P Q a w := by
  unfold execCode at h
  rw [if_neg (by simp)] at h
  split at h
  case h_2 => exact h.elim
  rename_i gi first caps hf
  obtain ⟨hev, hfl⟩ := hc.readS hf
  have hne : call gi (first ++ [.yl c.heap.next] ++ caps) ⟨⟨c.heap.next, c.heap.next, true, .loop 0 none N c.tmps params assign body⟩ :: c.heap.objs, c.heap.next + 1⟩ ≠ .bad := fun e => by rw [e] at h; exact h
  have hfun := hk _ _ _ hne
  obtain ⟨rs, hrs1, hrs2, hS, hH⟩ := hc
  refine wpIn_rangeFunc fun fn _ => ?_
  let l := w.heap.size + 1
  let rec_ : Loop := { state := .ready, pending := none, fn := fn, tmps := a.tmps, params := params, assign := assign, body := body, defers := w.heap.size }
  let w1 := (w.alloc (.deferred (some []))).alloc (.loop rec_)
  let E2 : Env := upd E c.heap.next (.pointer (some ⟨l, 0, none⟩))
  have hE2 : ∀ k, k < c.heap.next → E2 k = E k := fun k hk => upd_ne _ _ (by omega)
  have hE2n : E2 c.heap.next = .pointer (some ⟨l, 0, none⟩) := upd_same _ _ _
  have hcap : (AV.fn (.func gi) first caps).den E2 = (AV.fn (.func gi) first caps).den E := den_congr hE2 _ hfl
  obtain ⟨d, hres, hinv⟩ := range_call (w1 := w1) hev hcap hE2n hfun
  refine ⟨l, [mark w.heap.size], w1, d, w1, gi, _, w1, run_enterLoop_outer _ _ _ _ _, hres, fun _ _ => trivial, hinv, fun h => (by cases h), ?_⟩
  have hsz1 : (w.alloc (.deferred (some []))).heap.size = w.heap.size + 1 := World.size_alloc _ _
  have hdef1 : (w.alloc (.deferred (some []))).heap[w.heap.size]? = some (.deferred (some [])) := heap_alloc_get _ _
  have hl1 : w1.heap[l]? = some (.loop rec_) := by
    have := heap_alloc_get (w.alloc (.deferred (some []))) (.loop rec_)
    rw [hsz1] at this
    exact this
  have hdef : w1.heap[w.heap.size]? = some (.deferred (some [])) := by
    rw [(below_alloc (w.alloc (.deferred (some []))) (.loop rec_)).block w.heap.size (by rw [hsz1]; omega)]
    exact hdef1
  have hbl : ∀ o ∈ c.heap.objs, ∀ b, blkO (E o.key) = some b → b < w.heap.size := fun o ho b hb => blk_lt (hH.objs o ho) hb
  have hXl : ∀ x ∈ prots rs X0, x.1 < w.heap.size := fun x hx => (Array.getElem?_eq_some_iff.1 (hH.prot x hx).1).1
  have hw0 : w0.heap.size ≤ w.heap.size := hH.below.size
  -- the heap at the call
  have hH1 : HeapOk (prots (w.heap.size :: rs) X0) E2 w0 ⟨⟨c.heap.next, c.heap.next, true, .loop 0 none N c.tmps params assign body⟩ :: c.heap.objs, c.heap.next + 1⟩ w1 := by
    have h1 : HeapOk (prots rs X0) E w0 c.heap w1 := (hH.alloc _).alloc _
    have h2 : HeapOk (prots (w.heap.size :: rs) X0) E w0 c.heap w1 := h1.addX hdef (fun o ho e => by have := hbl o ho _ e; omega)
    have h3 : HeapOk ((l, .loop rec_) :: prots (w.heap.size :: rs) X0) E w0 c.heap w1 := h2.addX hl1 (fun o ho e => by have := hbl o ho _ e; omega)
    have h4 : HeapOk ((l, .loop rec_) :: prots (w.heap.size :: rs) X0) E2 w0 c.heap w1 := h3.envUp hE2 (fun k => by
      by_cases hk : k = c.heap.next
      · rw [hk, hE2n]; rfl
      · show (upd E _ _ k).oneCell' = true
        rw [upd_ne _ _ hk]; exact hH.env k)
    have h5 : HeapOk ((l, .loop rec_) :: prots (w.heap.size :: rs) X0) E2 w0 ⟨c.heap.objs, c.heap.next + 1⟩ w1 := h4.sub (fun o ho => ho) (fun o ho => ⟨by have := (h4.lt o ho).1; omega, bodyAll_imp (fun k hk => by omega) (h4.lt o ho).2⟩)
    refine h5.show_ (show w0.heap.size ≤ w.heap.size + 1 by omega) (fun x hx => ?_) hE2n ?_ (Nat.lt_succ_self _) ?_ (fun o ho e => by have := (hH.lt o ho).1; omega)
    · rcases List.mem_cons.1 hx with rfl | hx
      · show w.heap.size ≠ w.heap.size + 1; omega
      · have := hXl x hx
        show x.1 ≠ w.heap.size + 1; omega
    · refine ⟨l, fn, a.tmps, w.heap.size, hE2n, hl1, hS.size, fun t v ht => ?_⟩
      have hpt := hS.ok t
      have e : toSlots c.tmps t = .is v := by simp [toSlots, ht]
      rw [e] at hpt
      rw [den_congr hE2 v hpt.2]; exact hpt.1
    · intro t v ht
      have hpt := hS.ok t
      have e : toSlots c.tmps t = .is v := by simp [toSlots, ht]
      rw [e] at hpt
      exact lt_mono (Nat.le_succ _) v hpt.2
  have hargs : AV.ltL (c.heap.next + 1) (first ++ [.yl c.heap.next] ++ caps) := by
    rw [ltL_all]
    intro v hv
    simp only [List.mem_append, List.mem_singleton] at hv
    rcases hv with (hv | rfl) | hv
    · exact lt_mono (Nat.le_succ _) v ((ltL_all _ _).1 hfl.1 v hv)
    · exact Nat.lt_succ_self _
    · exact lt_mono (Nat.le_succ _) v ((ltL_all _ _).1 hfl.2 v hv)
  refine callsIn_FR.2 (hcall _ w0 gi _ _ E2 w1 _ hH1 hargs (holds_mono (fun x hx => ?_) (holds_bind h)))
  obtain ⟨v, H2⟩ := x
  intro E3 w3 hE3 hH3 hv3 hle3 hold3
  simp only [] at hx
  split at hx
  case h_2 => exact hx.elim
  rename_i st' pend' hend
  obtain ⟨o1, hfind, l1, r1, q1, q2, hst1, hpd1⟩ := loopEnd_spec hend hH3
  split at hx
  · exact hx.elim
  · rename_i hst
    split at hx
    case h_2 => exact hx.elim
    rename_i x hpend
    obtain ⟨hm, hkey, how⟩ := hfind
    have hE3l : E3 c.heap.next = .pointer (some ⟨l, 0, none⟩) := by rw [hE3 _ (Nat.lt_succ_self _)]; exact hE2n
    rw [hE3l] at q1
    cases q1
    subst hpd1
    have hbusy : stOf st' ≠ .busy := fun e => by
      match st', hst, e with
      | 0, _, e => cases e
      | 1, h, _ => exact h rfl
      | 2, _, e => cases e
      | n + 3, _, e => cases e
    refine ⟨r1.pending, _, run_endLoop q2 (by rw [hst1]; exact hbusy), ?_⟩
    obtain ⟨g1, g2, g3⟩ := hH3.hide hm how (l := l) (by rw [hkey, hE3l]; rfl) q2
    have hH4 := (g1.putX (o := .loop { r1 with state := .exhausted }) g2 g3).dropX
    rw [hkey] at hH4
    have hcfg : CfgOk X0 E3 w0 N ⟨c.tmps, ⟨H2.objs.filter fun o => !(Nat.beq o.key c.heap.next), H2.next⟩⟩ { a with defers := [mark w.heap.size] ++ a.defers } (w3.putObj l (.loop { r1 with state := .exhausted })) := by
      refine ⟨w.heap.size :: rs, fun r hr => ?_, ?_, ⟨?_, hS.size, ?_⟩, hH4⟩
      · rcases List.mem_cons.1 hr with rfl | hr
        · refine ⟨hw0, fun x hx e => ?_⟩
          have := hXl x (List.mem_append.2 (.inr hx))
          omega
        · exact hrs1 r hr
      · refine List.nodup_cons.2 ⟨fun hm => ?_, hrs2⟩
        have := hXl (w.heap.size, .deferred (some [])) (List.mem_append.2 (.inl (List.mem_map.2 ⟨_, hm, rfl⟩)))
        simp at this
      · show mark w.heap.size :: a.defers = mark w.heap.size :: rs.map mark
        rw [hS.defers]
      · have h6 : SlotsOk E3 H2.next N (rs.map mark) (toSlots c.tmps) a := hS.env (fun k hk => by rw [hE3 k (Nat.lt_succ_of_lt hk), hE2 k hk]) (Nat.le_trans (Nat.le_succ _) hle3)
        exact h6.ok
    have hq := hx E3 { a with defers := [mark w.heap.size] ++ a.defers } _ (fun k hk => by rw [hE3 k (Nat.lt_succ_of_lt hk), hE2 k hk]) hcfg (Nat.le_trans (Nat.le_succ _) hle3) (fun o ho hv => by
      have h1 := hold3 o (List.mem_filter.1 ho).1 (Nat.lt_succ_of_lt hv)
      rcases List.mem_cons.1 h1 with rfl | h1
      · exact absurd hv (Nat.lt_irrefl _)
      · exact h1)
    generalize r1.pending = pd at hpend hq ⊢
    cases pd with
    | none =>
      cases hpend
      exact hq
    | some cd =>
      cases cd with
      | exit id => cases hpend; exact wpIn_exit hq
      | ret => cases hpend; exact wpIn_ret hq
      | _ => cases hpend

/-! ### a round's end -/
theorem cutK_sound {key sz : Nat} {hi : Int} {H' : Heap} {p : Prop} (h : HeapOk X E w0 H w) (hx : cutK key sz hi H = some (p, H')) (hp : p) : HeapOk X (upd E H.next ((AV.vw key sz none hi).den E)) w0 H' w ∧ H'.next = H.next + 1 ∧
    (∀ o ∈ H'.objs, o.ver < H.next → o ∈ H.objs) := by
  unfold cutK at hx
  split at hx
  case h_2 => cases hx
  rename_i k' ver e ks l hf
  split at hx
  case isFalse => cases hx
  rename_i hsz
  have hsz := Nat.eq_of_beq_eq_true hsz
  subst hsz
  simp only [Option.some.injEq, Prod.mk.injEq] at hx
  obtain ⟨rfl, rfl⟩ := hx
  obtain ⟨hlo, hhi⟩ := hp
  obtain ⟨hm, hk⟩ := findObj_mem hf
  simp only [] at hk
  subst hk
  have hb : RowOk w true e ks.length (E k') l.length (rowV ks l) := h.objs _ hm
  have hE : ∀ k, k < H.next → upd E H.next ((AV.vw k' ks.length none hi).den E) k = E k := fun k hk => upd_ne _ _ (by omega)
  have hEn : upd E H.next ((AV.vw k' ks.length none hi).den E) H.next = (AV.vw k' ks.length none hi).den E := upd_same _ _ _
  have hn : hi.toNat ≤ l.length := by omega
  have hlen : (l.take hi.toNat).length = hi.toNat := by rw [List.length_take]; omega
  have hv : (∃ a, E k' = .slice a 0 0 ∧ l.length = 0 ∧ (AV.vw k' ks.length none hi).den E = .slice a 0 0) ∨ ∃ g cap cur, E k' = .slice (some ⟨g, 0, none⟩) l.length cap ∧ w.heap[g]? = some (.cells cur e (0, 0)) ∧ l.length ≤ cap ∧ cap ≤ maxLen ∧ cur.size = cap * ks.length ∧ cur.toList.take (l.length * ks.length) = rowV ks l ∧
      (AV.vw k' ks.length none hi).den E = .slice (some ⟨g, 0, none⟩) hi.toNat cap := by
    rcases hb.own rfl with ⟨a, h1, h2⟩ | ⟨g, cap, cur, h1, h2, h3, h4, h5, h6⟩
    · refine .inl ⟨a, h1, h2, ?_⟩
      have : hi.toNat = 0 := by omega
      simp [AV.den, h1, partOf, sliced, loN, this]
    · refine .inr ⟨g, cap, cur, h1, h2, h3, h4, h5, h6, ?_⟩
      have e5 : ((⟨g, 0, none⟩ : Addr).add 0) = ⟨g, 0, none⟩ := rfl
      simp [AV.den, h1, partOf, sliced, loN, e5]
  have hblk : ∀ g, blkO ((AV.vw k' ks.length none hi).den E) = some g → blkO (E k') = some g := by
    intro g hg
    rcases hv with ⟨a, h1, _, h3⟩ | ⟨g', cap, cur, h1, _, _, _, _, _, h3⟩
    · rw [h3] at hg; rw [h1]; exact hg
    · rw [h3] at hg; rw [h1]; exact hg
  have hs : HeapOk X E w0 ⟨H.objs.filter (fun o => !(Nat.beq o.key k')), H.next⟩ w := h.sub (fun o ho => (List.mem_filter.1 ho).1) (fun o ho => h.lt o (List.mem_filter.1 ho).1)
  have hne : ∀ o ∈ H.objs.filter (fun o => !(Nat.beq o.key k')), o ∈ H.objs ∧ o.key ≠ k' := by
    intro o ho
    obtain ⟨h1, h2⟩ := List.mem_filter.1 ho
    exact ⟨h1, fun e => by rw [e, beq_self] at h2; cases h2⟩
  have hs2 := hs.envUp (E2 := upd E H.next ((AV.vw k' ks.length none hi).den E)) hE (fun k => by
    by_cases hk : k = H.next
    · rw [hk, hEn]
      rcases hv with ⟨a, _, _, h3⟩ | ⟨g', cap, cur, _, _, _, _, _, _, h3⟩ <;> rw [h3] <;> rfl
    · rw [upd_ne _ _ hk]; exact h.env k)
  have hrow : RowOk w true e ks.length ((AV.vw k' ks.length none hi).den E) (l.take hi.toNat).length (rowV ks (l.take hi.toNat)) := by
    refine ownRow_reads ?_ (rowV_length _ _)
    rcases hv with ⟨a, h1, h2, h3⟩ | ⟨g, cap, cur, h1, h2, h3, h4, h5, h6, h7⟩
    · exact .inl ⟨a, h3, by rw [hlen]; omega⟩
    · refine .inr ⟨g, cap, cur, by rw [h7, hlen], h2, by rw [hlen]; omega, h4, h5, ?_⟩
      rw [hlen, rowV_take, ← h6, List.take_take, Nat.min_eq_left (Nat.mul_le_mul_right _ hn)]
  refine ⟨⟨h.below, hs2.env, ?_, ?_, ?_, ?_, ?_, ?_⟩, rfl, ?_⟩
  · intro o ho
    rcases List.mem_cons.1 ho with rfl | ho
    · show RowOk w true e ks.length (upd E H.next _ H.next) _ _
      rw [hEn]; exact hrow
    · exact hs2.objs o ho
  · intro o ho hown b hb'
    rcases List.mem_cons.1 ho with rfl | ho
    · simp only [hEn] at hb'
      exact h.high _ hm rfl b (hblk b hb')
    · exact hs2.high o ho hown b hb'
  · intro o ho o' ho' hown hk b hb1 hb2
    rcases List.mem_cons.1 ho with rfl | ho <;> rcases List.mem_cons.1 ho' with rfl | ho'
    · exact hk rfl
    · simp only [hEn] at hb1
      obtain ⟨m1, m2⟩ := hne o' ho'
      rw [hE _ (h.lt o' m1).1] at hb2
      exact h.inj _ hm o' m1 rfl (Ne.symm m2) b (hblk b hb1) hb2
    · simp only [hEn] at hb2
      obtain ⟨m1, m2⟩ := hne o ho
      rw [hE _ (h.lt o m1).1] at hb1
      exact h.inj o m1 _ hm hown m2 b hb1 (hblk b hb2)
    · exact hs2.inj o ho o' ho' hown hk b hb1 hb2
  · intro o ho o' ho' hk
    rcases List.mem_cons.1 ho with rfl | ho <;> rcases List.mem_cons.1 ho' with rfl | ho'
    · rfl
    · have := (hs.lt o' ho').1
      simp only [] at hk this
      omega
    · have := (hs.lt o ho).1
      simp only [] at hk this
      omega
    · exact hs2.uniq o ho o' ho' hk
  · intro o ho
    rcases List.mem_cons.1 ho with rfl | ho
    · exact ⟨Nat.lt_succ_self _, trivial⟩
    · exact ⟨Nat.lt_succ_of_lt (hs.lt o ho).1, bodyAll_imp (fun k hk => Nat.lt_succ_of_lt hk) (hs.lt o ho).2⟩
  · intro x hx
    refine ⟨(h.prot x hx).1, fun o ho => ?_⟩
    rcases List.mem_cons.1 ho with rfl | ho
    · simp only [hEn]
      intro e'
      exact (h.prot x hx).2 _ hm (hblk _ e')
    · exact (hs2.prot x hx).2 o ho
  · intro o ho hver
    rcases List.mem_cons.1 ho with rfl | ho
    · exact absurd hver (Nat.lt_irrefl _)
    · exact (hne o ho).1
theorem settleT_sound {c : Cfg} {Q : Exit → Act → World → Prop} {x : AExit} : ∀ {ts : List Nat} {c1 : Cfg}, (settleT ts c1).holds (fun c2 => CPost X0 w0 E N c Q (x, c2)) → CPost X0 w0 E N c Q (x, c1)
  | [], c1, h => h
  | t :: r, c1, h => by
    unfold settleT at h
    split at h
    · rename_i key sz hi ht
      split at h
      · rename_i p H hc
        have ih := settleT_sound (ts := r) h.2
        intro E' a' w' hE hc1 hle hold
        have hpt := hc1.point ht
        obtain ⟨rs, hrs1, hrs2, hS, hH⟩ := hc1
        obtain ⟨g1, g2, g3⟩ := cutK_sound hH hc h.1
        have hle : c.heap.next ≤ c1.heap.next := hle
        have hE2 : ∀ k, k < c1.heap.next → upd E' c1.heap.next ((AV.vw key sz none hi).den E') k = E' k := fun k hk => upd_ne _ _ (by omega)
        have hS2 := hS.env (E' := upd E' c1.heap.next ((AV.vw key sz none hi).den E')) (n' := H.next) hE2 (by rw [g2]; exact Nat.le_succ _)
        refine ih (upd E' c1.heap.next ((AV.vw key sz none hi).den E')) a' w' (fun k hk => by rw [hE2 k (by omega)]; exact hE k hk) ⟨rs, hrs1, hrs2, ⟨hS2.defers, hS2.size, fun t' => ?_⟩, g1⟩ (by rw [show (Cfg.heap ⟨upd c1.tmps t (some (.sl c1.heap.next)), H⟩).next = H.next from rfl, g2]; exact Nat.le_succ_of_le hle) (fun o ho hv => hold o (g3 o ho (Nat.lt_of_lt_of_le hv hle)) hv)
        by_cases e : t' = t
        · subst e
          have e1 : toSlots (upd c1.tmps t' (some (.sl c1.heap.next))) t' = .is (.sl c1.heap.next) := by simp [toSlots, upd_same]
          show SlotOk _ H.next _ t' (toSlots (upd c1.tmps t' (some (.sl c1.heap.next))) t')
          rw [e1]
          refine ⟨?_, show c1.heap.next < H.next from by rw [g2]; exact Nat.lt_succ_self _⟩
          show _ = upd E' c1.heap.next _ c1.heap.next
          rw [upd_same]; exact hpt.1
        · have e1 : toSlots (upd c1.tmps t (some (.sl c1.heap.next))) t' = toSlots c1.tmps t' := by simp [toSlots, upd_ne _ _ e]
          show SlotOk _ H.next _ t' (toSlots (upd c1.tmps t (some (.sl c1.heap.next))) t')
          rw [e1]
          exact hS2.ok t'
      · exact settleT_sound (ts := r) h
    · exact settleT_sound (ts := r) h
theorem settle_sound {c : Cfg} {wr : List Nat} {Q : Exit → Act → World → Prop} {r : AExit × Cfg} (h : (settle wr c r).holds (CPost X0 w0 E N c Q)) : CPost X0 w0 E N c Q r := by
  obtain ⟨x, c1⟩ := r
  cases x with
  | ret => exact h
  | normal => exact settleT_sound (holds_bind h)
  | exit id => exact settleT_sound (holds_bind h)
/-! ### a scope through which the run goes without a jump -/
theorem stepR_scope {b : Frame} {k : List Go.Item} {cs : List Frame} {a : Act} {c : Code} : step P (lone (b.atR a (.code (.scope c) :: k)) cs w) = .next (lone (b.atR a (.code c :: .inScope c :: k)) cs w) :=
  step_lone_go (by simp [stepG, stepG.exec, Frame.atR])
theorem stepR_inScope {b : Frame} {k : List Go.Item} {cs : List Frame} {a : Act} {c : Code} : step P (lone (b.atR a (.inScope c :: k)) cs w) = .next (lone (b.atR a k) cs w) :=
  step_lone_go (by simp [stepG, stepG.exec, Frame.atR])
theorem wpIn_scope_straight {F : Fence} {n : Nat} {a : Act} {c : Code} {Q : Exit → Act → World → Prop} (h : c.wpIn F n P (Exit.noGoto Q) a w) : (Code.scope c).wpIn F n P Q a w := by
  intro b k cs hro hb hr
  have h0 : (lone (b.atR a (.code (.scope c) :: k)) cs w).fenced P F := fenced_calm hb hr rfl
  obtain ⟨e, a₁, w₁, hq, harr⟩ := h b (.inScope c :: k) cs hro hb hr
  cases e with
  | normal => exact ⟨.normal, a₁, w₁, hq, .head h0 stepR_scope (StepsIn.trans harr (.one (fenced_calm hb hr rfl) stepR_inScope))⟩
  | exit id => exact ⟨.exit id, a₁, w₁, hq, fun k' hk => .head h0 stepR_scope (harr.1 k' (by simp [exitTo, hk])), fun hr' hk => let ⟨k₁, h1, h2⟩ := harr.2 hr' (by simp [exitTo, hk]); ⟨k₁, h1, .head h0 stepR_scope h2⟩⟩
  | goto l => exact hq.elim
  | ret => exact ⟨_, a₁, w₁, hq, .of_steps (.one h0 stepR_scope) harr⟩
  | panic ch => exact ⟨_, a₁, w₁, hq, .of_steps (.one h0 stepR_scope) harr⟩
  | outgrown => exact ⟨_, a₁, w₁, hq, .of_steps (.one h0 stepR_scope) harr⟩

theorem execCode_sound (hΓ : ConOk P Γ) (hcall : CallOk P call) (hk : CallKnown P call) (hyld : YldOk P yld) {res : List Nat} {rb : Bool} (hrb : rb = false → rnd = none) :
    ∀ (code : Code) (c : Cfg) (E : Env) (a : Act) (w : World) (Q : Exit → Act → World → Prop), CfgOk X0 E w0 N c a w →
      (execCode P Γ call yld rb res N code c).holds (CPost X0 w0 E N c Q) → code.wpIn (FR rnd) 0 P Q a w
  | .skip, c, E, a, w, Q, hc, h => wpIn_skip (h E a w (fun _ _ => rfl) hc (Nat.le_refl _) (Old.refl _))
  | .region id ops draw, c, E, a, w, Q, hc, h => by
    unfold execCode at h
    obtain ⟨rs, hrs1, hrs2, hS, hH⟩ := hc
    have post : ∀ x : RCfg, CPost X0 w0 E N c Q (.normal, ⟨ofSlots x.1, x.2⟩) → Post (prots rs X0) w0 E c.heap N (rs.map mark) (Q .normal) x := fun x hx E' a' w' hE hS hH hle hold => hx E' a' w' hE ⟨rs, hrs1, hrs2, slots_of hS, hH⟩ hle hold
    have h2 := holds_bind h
    unfold execRegion at h2
    split at h2
    · exact h2.2.elim
    cases draw with
    | false =>
      rw [if_pos rfl] at h2
      exact wpIn_region_list (execOps_sound hΓ hcall hk hyld ops ops.toList [] _ _ E a w (guards_toSlots _) hS hH (holds_mono (fun x hx => post x hx) h2))
    | true =>
      rw [if_neg (by simp)] at h2
      exact drawRegion_sound hΓ hcall hk hS (guards_toSlots _) hH (holds_mono (fun x hx => post x hx) h2)
  | .seq x y, c, E, a, w, Q, hc, h => by
    unfold execCode at h
    refine wpIn_seq (execCode_sound hΓ hcall hk hyld hrb x c E a w _ hc (holds_mono (fun r hr => ?_) (holds_bind h)))
    intro E' a' w' hE hc' hle hold
    obtain ⟨e, c'⟩ := r
    cases e with
    | normal => exact execCode_sound hΓ hcall hk hyld hrb y c' E' a' w' Q hc' (holds_mono (fun r2 hr2 => hr2.next hE hle hold) hr)
    | exit id => exact hr E' a' w' hE hc' hle hold
    | ret => exact hr E' a' w' hE hc' hle hold
  | .cond x t e, c, E, a, w, Q, hc, h => by
    unfold execCode at h
    split at h
    · rename_i b hb
      have hv := (hc.readS hb).1
      exact wpIn_cond_split hv (fun ht => execCode_sound hΓ hcall hk hyld hrb t c E a w Q hc (h.1 ht)) (fun hf => execCode_sound hΓ hcall hk hyld hrb e c E a w Q hc (h.2 hf))
    · rename_i b hb
      have hv := (hc.readS hb).1
      have hv : a.eval x = .bool b := hv
      refine wpIn_cond_split hv (fun ht => ?_) (fun hf => ?_)
      · subst ht; exact execCode_sound hΓ hcall hk hyld hrb t c E a w Q hc h
      · subst hf; exact execCode_sound hΓ hcall hk hyld hrb e c E a w Q hc h
    · exact h.elim
  | .block id body, c, E, a, w, Q, hc, h => by
    unfold execCode at h
    refine wpIn_block (execCode_sound hΓ hcall hk hyld hrb body c E a w _ hc (holds_mono (fun r hr => ?_) (holds_bind h)))
    intro E' a' w' hE hc' hle hold
    obtain ⟨e, c'⟩ := r
    cases e with
    | normal => exact hr E' a' w' hE hc' hle hold
    | exit id' =>
      simp only [] at hr
      show if id' = id then Q .normal a' w' else Q (.exit id') a' w'
      by_cases hid : id' = id
      · subst hid
        rw [if_pos rfl]
        rw [beq_self] at hr
        exact hr E' a' w' hE hc' hle hold
      · rw [if_neg hid]
        rw [beq_ne hid] at hr
        exact hr E' a' w' hE hc' hle hold
    | ret => exact hr E' a' w' hE hc' hle hold
  | .exit id, c, E, a, w, Q, hc, h => wpIn_exit (h E a w (fun _ _ => rfl) hc (Nat.le_refl _) (Old.refl _))
  | .ret, c, E, a, w, Q, hc, h => wpIn_ret (h E a w (fun _ _ => rfl) hc (Nat.le_refl _) (Old.refl _))
  | .loop body, c, E, a, w, Q, hc, h => by
    unfold execCode at h
    have hbody : ∀ (c : Cfg) (E : Env) (a : Act) (w : World) (Q : Exit → Act → World → Prop), CfgOk X0 E w0 N c a w → (execCode P Γ call yld rb res N body c).holds (CPost X0 w0 E N c Q) → body.wpIn (FR rnd) 0 P Q a w :=
      execCode_sound hΓ hcall hk hyld hrb body
    have key : ∀ (known : Cfg → Bool) (n : Nat) (c : Cfg) (E : Env) (a : Act) (w : World), CfgOk X0 E w0 N c a w →
        (execLoop known (genLoop P res (dedupN (writes body) []) fun c => (execCode P Γ call yld rb res N body c).bind (settle (dedupN (writes body) []) c)) (fun c => execCode P Γ call yld rb res N body c) n c).holds (CPost X0 w0 E N c Q) → LoopWp (FR rnd) 0 P body Q a w := by
      intro known n
      induction n with
      | zero => intro c E a w _ h; exact h.elim
      | succ n ih =>
        intro c E a w hc h
        unfold execLoop at h
        split at h
        · refine loopWp_round (hbody c E a w _ hc (holds_mono (fun r hr => ?_) (holds_bind h)))
          intro E' a' w' hE hc' hle hold
          obtain ⟨e, c'⟩ := r
          cases e with
          | normal => exact ih c' E' a' w' hc' (holds_mono (fun r2 hr2 => hr2.next hE hle hold) hr)
          | exit id => exact hr E' a' w' hE hc' hle hold
          | ret => exact hr E' a' w' hE hc' hle hold
        · exact genLoop_sound (fun c E a w Q hc h => hbody c E a w Q hc (holds_mono (fun r hr => settle_sound hr) (holds_bind h))) (fun c => all_bind (all_mono (fun r hr => settle_writes hr) (execCode_writes body c))) hc h
    exact wpIn_of_loopWp (key _ _ c E a w hc h)
  | .rangeFunc f params assign body, c, E, a, w, Q, hc, h => by
    cases rb with
    | true => unfold execCode at h; rw [if_pos rfl] at h; exact h.elim
    | false =>
      have := hrb rfl
      subst this
      exact rangeFunc_sound hcall hk hc h
  | .scope body, c, E, a, w, Q, hc, h => by
    unfold execCode at h
    refine wpIn_scope_straight (execCode_sound hΓ hcall hk hyld hrb body c E a w _ hc (holds_mono (fun r hr => ?_) h))
    intro E' a' w' hE hc' hle hold
    obtain ⟨e, c'⟩ := r
    cases e with
    | normal => exact hr E' a' w' hE hc' hle hold
    | exit id => exact hr E' a' w' hE hc' hle hold
    | ret => exact hr E' a' w' hE hc' hle hold
  | .label _, c, E, a, w, Q, hc, h => wpIn_label (h E a w (fun _ _ => rfl) hc (Nat.le_refl _) (Old.refl _))
  | .goto _, _, _, _, _, _, _, h => h.elim
  | .refuse _, _, _, _, _, _, _, h => h.elim
end
end Go.Sy
