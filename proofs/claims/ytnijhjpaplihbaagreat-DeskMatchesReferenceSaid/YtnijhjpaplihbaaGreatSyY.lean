/-
 The executor is sound: ranges over functions, code.
-/
import Derived.Test.YtnijhjpaplihbaaGreatSyX
import Derived.Scope
set_option linter.unusedVariables false
namespace Go.Sy
open Go.RowKit
section
variable {P : Program} {Γ : Con} {call : xie} {yld : Nat → List AV → Heap → Tree (AV × Heap)} {X X0 : List (Nat × Go.Obj)} {w0 w : World} {N : Nat} {D : List Deferred} {rnd : Option Nat} {E : Env} {H : Heap}
theorem xBP {w1 : World} {l : Nat} {o : Go.Obj} {B : Nat} {wb : World} (h : Blw B wb w1) (hl : B ≤ l) : Blw B wb (w1.putObj l o) :=
 ⟨⟨h.os, h.tape, h.output, by rw [World.putObj_size]; exact h.size, fun k hk => by rw [World.putObj_heap_other (by omega)]; exact h.block k hk⟩, h.drawn⟩
theorem xsb (E : Env) {b : Body} : xbh (fun k => E k = E k) b := by
 cases b with
 | loop => exact fun t v _ => (xhp v).2 fun _ _ => rfl
 | cells cs => exact (xeg _).2 fun _ _ => rfl
 | arr e sz els => exact (xeg _).2 fun _ _ => rfl
 | row => trivial
 | nst => trivial
 | sub => trivial
 | mp => trivial
 | fin => trivial
 | nil => trivial
theorem xag.put {l : Nat} {o : Go.Obj} (h : xag X E w0 H w) (hl : w0.heap.size ≤ l) (hX : ∀ x ∈ X, x.1 ≠ l) (hO : ∀ o' ∈ H.objs, blkO (E o'.key) ≠ some l) (hI : ∀ o' ∈ H.objs, ¬ Inn E w o'.key o'.body l) : xag X E w0 H (w.putObj l o) := by
 have hbl : ∀ o' ∈ H.objs, ∀ g, blkO (E o'.key) = some g → (w.putObj l o).heap[g]? = w.heap[g]? := fun o' ho' g hg => World.putObj_heap_other (fun e => hO o' ho' (by rw [hg, e]))
 have hin : ∀ o' ∈ H.objs, ∀ g, Inn E (w.putObj l o) o'.key o'.body g → Inn E w o'.key o'.body g := fun o' ho' g hg => xjl (h.objs o' ho') rfl (hbl o' ho') hg
 exact ⟨xBP h.below hl, h.env, fun o' ho' => (h.objs o' ho').keep rfl (xsb E) (hbl o' ho') (by simp) (fun g hg => World.putObj_heap_other (fun e => hI o' ho' (by rw [← e]; exact hg))), h.high, h.inj, h.uniq, h.lt,
  fun x hx => ⟨by rw [World.putObj_heap_other (hX x hx)]; exact (h.prot x hx).1, (h.prot x hx).2⟩,
  fun o1 ho1 b hb => h.deep o1 ho1 b (hin o1 ho1 b hb), fun x hx o1 ho1 hb => h.protD x hx o1 ho1 (hin o1 ho1 _ hb),
  fun o1 ho1 b hb => h.fsh o1 ho1 b (hb.imp id fun h => ⟨h.1, hin o1 ho1 b h.2⟩)⟩
theorem xag.addX {l : Nat} {o : Go.Obj} (h : xag X E w0 H w) (hl : w.heap[l]? = some o) (hO : ∀ o' ∈ H.objs, blkO (E o'.key) ≠ some l) (hI : ∀ o' ∈ H.objs, ¬ Inn E w o'.key o'.body l) : xag ((l, o) :: X) E w0 H w :=
 ⟨h.below, h.env, h.objs, h.high, h.inj, h.uniq, h.lt, fun x hx => by
  rcases List.mem_cons.1 hx with rfl | hx
  ·exact ⟨hl, hO⟩
  ·exact h.prot x hx, h.deep, fun x hx => by
  rcases List.mem_cons.1 hx with rfl | hx
  ·exact hI
  ·exact h.protD x hx, h.fsh⟩
theorem xag.dropX {y : Nat × Go.Obj} (h : xag (y :: X) E w0 H w) : xag X E w0 H w :=
 ⟨h.below, h.env, h.objs, h.high, h.inj, h.uniq, h.lt, fun x hx => h.prot x (List.mem_cons_of_mem _ hx), h.deep, fun x hx => h.protD x (List.mem_cons_of_mem _ hx), h.fsh⟩
theorem xag.dropXs {Y : List (Nat × Go.Obj)} (h : xag (Y ++ X) E w0 H w) : xag X E w0 H w :=
 ⟨h.below, h.env, h.objs, h.high, h.inj, h.uniq, h.lt, fun x hx => h.prot x (List.mem_append.2 (.inr hx)), h.deep, fun x hx => h.protD x (List.mem_append.2 (.inr hx)), h.fsh⟩
theorem xag.putX {l : Nat} {o0 o : Go.Obj} (h : xag ((l, o0) :: X) E w0 H w) (hl : w0.heap.size ≤ l) (hX : ∀ x ∈ X, x.1 ≠ l) : xag ((l, o) :: X) E w0 H (w.putObj l o) := by
 obtain ⟨p1, p2⟩ := h.prot (l, o0) (by simp)
 have p3 : ∀ o' ∈ H.objs, ¬ Inn E w o'.key o'.body l := h.protD (l, o0) (by simp)
 exact (h.dropX.put hl hX p2 p3).addX (World.putObj_heap_same (Array.getElem?_eq_some_iff.1 p1).1) p2 (fun o' ho' hi => p3 o' ho' (xjl (h.objs o' ho') rfl (fun g hg => World.putObj_heap_other (fun e => p2 o' ho' (by rw [hg, e]))) hi))
theorem xag.hide {o : Obj} {l : Nat} {ob : Go.Obj} (h : xag X E w0 H w) (ho : o ∈ H.objs) (hown : o.own = true) (hb : blkO (E o.key) = some l) (hl : w.heap[l]? = some ob) : xag ((l, ob) :: X) E w0 (xwl o.key H) w ∧ w0.heap.size ≤ l ∧ ∀ x ∈ X, x.1 ≠ l := by
 have hs : xag X E w0 (xwl o.key H) w := h.sub (fun o' ho' => (List.mem_filter.1 ho').1) (fun o' ho' => h.lt o' (List.mem_filter.1 ho').1)
 refine ⟨hs.addX hl (fun o' ho' => ?_) (fun o' ho' hi => h.deep o' (List.mem_filter.1 ho').1 l hi o ho hown hb), h.high o ho hown l hb, fun x hx e => (h.prot x hx).2 o ho (by rw [e]; exact hb)⟩
 obtain ⟨h1, h2⟩ := List.mem_filter.1 ho'
 have hne : o.key ≠ o'.key := fun e => by rw [← e, xdM] at h2; cases h2
 exact h.inj o ho o' h1 hown hne l hb
theorem xag.show_ {l key ver : Nat} {ob : Go.Obj} {b : Body} (h : xag ((l, ob) :: X) E w0 H w) (hl : w0.heap.size ≤ l) (hX : ∀ x ∈ X, x.1 ≠ l) (hE : E key = .pointer (some ⟨l, 0, none⟩)) (hb : xbi E w key true b) (hk : key < H.next) (hall : xbh (fun k => k < H.next) b)
  (hno : ∀ o ∈ H.objs, o.key ≠ key) (hf : xv9 b = true := by rfl) : xag X E w0 ⟨⟨key, ver, true, b⟩ :: H.objs, H.next⟩ w := by
 obtain ⟨p1, p2⟩ := h.prot (l, ob) (by simp)
 have p3 : ∀ o' ∈ H.objs, ¬ Inn E w o'.key o'.body l := h.protD (l, ob) (by simp)
 have hbl : ∀ {g}, blkO (E key) = some g → g = l := fun {g} hg => by rw [hE] at hg; cases hg; rfl
 refine ⟨h.below, h.env, ?_, ?_, ?_, ?_, ?_, ?_, ?_, ?_, ?_⟩
 ·intro o ho
  rcases List.mem_cons.1 ho with rfl | ho
  ·exact hb
  ·exact h.objs o ho
 ·intro o ho hown g hg
  rcases List.mem_cons.1 ho with rfl | ho
  ·rw [hbl hg]; exact hl
  ·exact h.high o ho hown g hg
 ·intro o ho o' ho' hown hne g hg hg'
  rcases List.mem_cons.1 ho with rfl | ho <;> rcases List.mem_cons.1 ho' with rfl | ho'
  ·exact hne rfl
  ·exact p2 o' ho' (by rw [hg', hbl hg])
  ·exact p2 o ho (by rw [hg, hbl hg'])
  ·exact h.inj o ho o' ho' hown hne g hg hg'
 ·intro o ho o' ho' hk
  rcases List.mem_cons.1 ho with rfl | ho <;> rcases List.mem_cons.1 ho' with rfl | ho'
  ·rfl
  ·exact absurd hk.symm (hno o' ho')
  ·exact absurd hk (hno o ho)
  ·exact h.uniq o ho o' ho' hk
 ·intro o ho
  rcases List.mem_cons.1 ho with rfl | ho
  ·exact ⟨hk, hall⟩
  ·exact h.lt o ho
 ·intro x hx
  refine ⟨(h.prot x (List.mem_cons_of_mem _ hx)).1, fun o ho => ?_⟩
  rcases List.mem_cons.1 ho with rfl | ho
  ·intro e; exact hX x hx (hbl e)
  ·exact (h.prot x (List.mem_cons_of_mem _ hx)).2 o ho
 ·intro o ho g hg o' ho' hown hb'
  rcases List.mem_cons.1 ho with rfl | ho
  ·exact xe9 hf hg
  ·rcases List.mem_cons.1 ho' with rfl | ho'
   ·rw [hbl hb'] at hg; exact p3 o ho hg
   ·exact h.deep o ho g hg o' ho' hown hb'
 ·intro x hx o ho hg
  rcases List.mem_cons.1 ho with rfl | ho
  ·exact xe9 hf hg
  ·exact h.protD x (List.mem_cons_of_mem _ hx) o ho hg
 ·intro o ho g hg
  rcases List.mem_cons.1 ho with rfl | ho
  ·exact xm1 hf hg
  ·exact h.fsh o ho g hg
theorem xag.alloc (h : xag X E w0 H w) (o : Go.Obj) : xag X E w0 H (w.alloc o) := by
 have old : ∀ k, k < w.heap.size → (w.alloc o).heap[k]? = w.heap[k]? := fun k hk => (xb1 w o).block k hk
 have hin : ∀ o' ∈ H.objs, ∀ g, Inn E (w.alloc o) o'.key o'.body g → Inn E w o'.key o'.body g := fun o' ho' g hg => xjl (h.objs o' ho') rfl (fun g hg => old g (xlt (h.objs o' ho') hg)) hg
 refine ⟨h.below.alloc h.below.size _, h.env, fun o' ho' => (h.objs o' ho').keep rfl (xsb E) (fun g hg => old g (xlt (h.objs o' ho') hg)) (xb1 w o).size (fun g hg => old g (xod (h.objs o' ho') hg)), h.high, h.inj, h.uniq, h.lt, fun x hx => ⟨?_, (h.prot x hx).2⟩,
  fun o1 ho1 b hb => h.deep o1 ho1 b (hin o1 ho1 b hb), fun x hx o1 ho1 hb => h.protD x hx o1 ho1 (hin o1 ho1 _ hb), fun o1 ho1 b hb => h.fsh o1 ho1 b (hb.imp id fun h => ⟨h.1, hin o1 ho1 b h.2⟩)⟩
 rw [old x.1 (Array.getElem?_eq_some_iff.1 (h.prot x hx).1).1]
 exact (h.prot x hx).1
theorem xag.envUp {E2 : Env} (h : xag X E w0 H w) (hE : ∀ k, k < H.next → E2 k = E k) (henv : ∀ k, (E2 k).oneCell' = true) : xag X E2 w0 H w :=
 ⟨h.below, henv, fun o ho => (h.objs o ho).keep (hE _ (h.lt o ho).1) (xa3 (fun k hk => hE k hk) (h.lt o ho).2) (fun _ _ => rfl) (Nat.le_refl _) (fun _ _ => rfl),
  fun o ho hown b hb => h.high o ho hown b (by rw [← hE _ (h.lt o ho).1]; exact hb),
  fun o ho o' ho' hown hne b hb => by rw [hE _ (h.lt o ho).1] at hb; rw [hE _ (h.lt o' ho').1]; exact h.inj o ho o' ho' hown hne b hb,
  h.uniq, h.lt, fun x hx => ⟨(h.prot x hx).1, fun o ho => by rw [hE _ (h.lt o ho).1]; exact (h.prot x hx).2 o ho⟩,
  fun o ho b hb o' ho' hown => by rw [hE _ (h.lt o' ho').1]; exact h.deep o ho b (xlM (hE _ (h.lt o ho).1) hb) o' ho' hown,
  fun x hx o ho hb => h.protD x hx o ho (xlM (hE _ (h.lt o ho).1) hb),
  fun o ho b hb => h.fsh o ho b (hb.imp (fun h1 => ⟨h1.1, by rw [← hE _ (h.lt o ho).1]; exact h1.2⟩) fun h1 => ⟨h1.1, xlM (hE _ (h.lt o ho).1) h1.2⟩)⟩
theorem xxq {k : Nat} {l : List Obj} (h : xii k l = false) : ∀ o ∈ l, o.key ≠ k := fun o ho e => by
 have : xii k l = true := xjA.2 ⟨o, ho, e⟩
 rw [h] at this
 cases this
theorem xzR {a : Act} {g : Operand} {l : Nat} {gi : FuncId} {first caps : List AV} {E E2 : Env} {key : Nat} {w1 : World} (hg : a.eval g = (AV.fn (.func gi) first caps).den E) (hcap : (AV.fn (.func gi) first caps).den E2 = (AV.fn (.func gi) first caps).den E) (hE : E2 key = .pointer (some ⟨l, 0, none⟩)) (hfun : xe5 P gi) :
  ∃ d, (resolve a.eval (rangeCall g l) 0).run P w1 = .ok d w1 ∧ (invoke d.target d.args).run P w1 = .ok (.enter gi (AV.denL E2 (first ++ [.yl key] ++ caps)).toArray) w1 := by
 obtain ⟨fn, h1, h2, h3⟩ := hfun
 have h4 : fn.body.isNone = false := by cases hb : fn.body with
  | none => rw [hb] at h3; cases h3
  | some _ => rfl
 have h5 : (fn.name == "runtime.NumGoroutine") = false := by simpa using h2
 rw [← hcap] at hg
 refine ⟨{ target := .fn (.func gi) (AV.denL E2 caps).toArray, args := (AV.denL E2 first).toArray ++ #[.func (.yield l) #[] #[]] }, ?_, ?_⟩
 ·show Sem.run P (Deferred.ofValue (a.eval g) (#[Operand.const (.func (.yield l) #[] #[])].map a.eval)) w1 = _
  rw [hg]
  simp [AV.den, Deferred.ofValue, Act.eval]
 ·simp only [invoke, callFunc, Sem.run_bind, run_program, Result.andThen_ok, h1, h4, h5, Bool.false_eq_true, if_false, Sem.run_pure]
  congr 2
  simp [xax, AV.den, hE, blk]
theorem xxc {k st : Nat} {pend : Option Code} (h : xyf (xai k H.objs) = some (st, pend)) (hH : xag X E w0 H w) : ∃ o, (o ∈ H.objs ∧ o.key = k ∧ o.own = true) ∧ ∃ l r, E k = .pointer (some ⟨l, 0, none⟩) ∧ w.heap[l]? = some (.loop r) ∧ r.state = stOf st ∧ r.pending = pend := by
 unfold xyf at h
 split at h
 ·rename_i hf
  cases h
  obtain ⟨hm, hk⟩ := xah hf
  refine ⟨_, ⟨hm, hk, rfl⟩, ?_⟩
  obtain ⟨l, fn, tmps, dfr, h1, h2, _⟩ := hH.objs _ hm
  rw [hk] at h1
  exact ⟨l, _, h1, h2, rfl, rfl⟩
 ·rename_i hf
  cases h
  obtain ⟨hm, hk⟩ := xah hf
  refine ⟨_, ⟨hm, hk, rfl⟩, ?_⟩
  obtain ⟨l, r, h1, h2⟩ := hH.objs _ hm
  rw [hk] at h1
  exact ⟨l, r, h1, h2⟩
 ·cases h
theorem xsN (hcall : xkF P call) (hk : xhl P call) {res : List Nat} {f : Operand} {params : Array Tmp} {assign body : Code} {c : Cfg} {a : Act} {Q : Exit → Act → World → Prop} (hc : xjs X0 E w0 N c a w)
  (h : (xaX P Γ call yld false res N (.rangeFunc f params assign body) c).holds (xnk X0 w0 E N c Q)) : (Code.rangeFunc f params assign body).wpIn (FR none) 0 P Q a w := by
 unfold xaX at h
 rw [if_neg (by simp)] at h
 split at h
 case h_2 => exact h.elim
 rename_i gi first caps hf
 obtain ⟨hev, hfl⟩ := hc.readS hf
 have hne : call gi (first ++ [.yl c.heap.next] ++ caps) ⟨⟨c.heap.next, c.heap.next, true, .loop 0 none N c.tmps params assign body⟩ :: c.heap.objs, c.heap.next + 1⟩ ≠ .bad := fun e => by rw [e] at h; exact h
 have hfun := hk _ _ _ hne
 obtain ⟨rs, hrs1, hrs2, hS, hH⟩ := hc
 refine wpIn_rangeFunc fun fn _ => ?_
 let l := w.heap.size + 1
 let rec_ : Loop := { state := .ready, pending := none, fn := fn, tmps := a.tmps, params := params, assign := assign, body := body, defers := w.heap.size }
 let w1 := (w.alloc (.deferred (some []))).alloc (.loop rec_)
 let E2 : Env := upd E c.heap.next (.pointer (some ⟨l, 0, none⟩))
 have hE2 : ∀ k, k < c.heap.next → E2 k = E k := fun k hk => xgz _ _ (by omega)
 have hE2n : E2 c.heap.next = .pointer (some ⟨l, 0, none⟩) := xgl _ _ _
 have hcap : (AV.fn (.func gi) first caps).den E2 = (AV.fn (.func gi) first caps).den E := xj8 hE2 _ hfl
 obtain ⟨d, hres, hinv⟩ := xzR (w1 := w1) hev hcap hE2n hfun
 refine ⟨l, [mark w.heap.size], w1, d, w1, gi, _, w1, run_enterLoop_outer _ _ _ _ _, hres, fun _ _ => trivial, hinv, fun h => (by cases h), ?_⟩
 have hsz1 : (w.alloc (.deferred (some []))).heap.size = w.heap.size + 1 := World.size_alloc _ _
 have hdef1 : (w.alloc (.deferred (some []))).heap[w.heap.size]? = some (.deferred (some [])) := xb8 _ _
 have hl1 : w1.heap[l]? = some (.loop rec_) := by
  have := xb8 (w.alloc (.deferred (some []))) (.loop rec_)
  rw [hsz1] at this
  exact this
 have hdef : w1.heap[w.heap.size]? = some (.deferred (some [])) := by
  rw [(xb1 (w.alloc (.deferred (some []))) (.loop rec_)).block w.heap.size (by rw [hsz1]; omega)]
  exact hdef1
 have hbl : ∀ o ∈ c.heap.objs, ∀ b, blkO (E o.key) = some b → b < w.heap.size := fun o ho b hb => xlt (hH.objs o ho) hb
 have hXl : ∀ x ∈ xsQ rs X0, x.1 < w.heap.size := fun x hx => (Array.getElem?_eq_some_iff.1 (hH.prot x hx).1).1
 have hw0 : w0.heap.size ≤ w.heap.size := hH.below.size
 have hH1 : xag (xsQ (w.heap.size :: rs) X0) E2 w0 ⟨⟨c.heap.next, c.heap.next, true, .loop 0 none N c.tmps params assign body⟩ :: c.heap.objs, c.heap.next + 1⟩ w1 := by
  have h1 : xag (xsQ rs X0) E w0 c.heap w1 := (hH.alloc _).alloc _
  have hin1 : ∀ o ∈ c.heap.objs, ∀ g, Inn E w1 o.key o.body g → g < w.heap.size := fun o ho g hg => xod (hH.objs o ho) (xjl (w := w) (hH.objs o ho) rfl (fun g hg => by
   have := hbl o ho g hg
   exact ((xb1 (w.alloc _) _).block g (Nat.lt_of_lt_of_le this (xb1 w _).size)).trans ((xb1 w _).block g this)) hg)
  have h2 : xag (xsQ (w.heap.size :: rs) X0) E w0 c.heap w1 := h1.addX hdef (fun o ho e => by have := hbl o ho _ e; omega) (fun o ho hi => by have := hin1 o ho _ hi; omega)
  have h3 : xag ((l, .loop rec_) :: xsQ (w.heap.size :: rs) X0) E w0 c.heap w1 := h2.addX hl1 (fun o ho e => by have := hbl o ho _ e; omega) (fun o ho hi => by have := hin1 o ho _ hi; omega)
  have h4 : xag ((l, .loop rec_) :: xsQ (w.heap.size :: rs) X0) E2 w0 c.heap w1 := h3.envUp hE2 (fun k => by
   by_cases hk : k = c.heap.next
   ·rw [hk, hE2n]; rfl
   ·show (upd E _ _ k).oneCell' = true
    rw [xgz _ _ hk]; exact hH.env k)
  have h5 : xag ((l, .loop rec_) :: xsQ (w.heap.size :: rs) X0) E2 w0 ⟨c.heap.objs, c.heap.next + 1⟩ w1 := h4.sub (fun o ho => ho) (fun o ho => ⟨by have := (h4.lt o ho).1; omega, xa3 (fun k hk => by omega) (h4.lt o ho).2⟩)
  refine h5.show_ (show w0.heap.size ≤ w.heap.size + 1 by omega) (fun x hx => ?_) hE2n ?_ (Nat.lt_succ_self _) ?_ (fun o ho e => by have := (hH.lt o ho).1; omega)
  ·rcases List.mem_cons.1 hx with rfl | hx
   ·show w.heap.size ≠ w.heap.size + 1; omega
   ·have := hXl x hx
    show x.1 ≠ w.heap.size + 1; omega
  ·refine ⟨l, fn, a.tmps, w.heap.size, hE2n, hl1, hS.size, fun t v ht => ?_⟩
   have hpt := hS.ok t
   have e : xas c.tmps t = .is v := by simp [xas, ht]
   rw [e] at hpt
   rw [xj8 hE2 v hpt.2]; exact hpt.1
  ·intro t v ht
   have hpt := hS.ok t
   have e : xas c.tmps t = .is v := by simp [xas, ht]
   rw [e] at hpt
   exact xg9 (Nat.le_succ _) v hpt.2
 have hargs : AV.ltL (c.heap.next + 1) (first ++ [.yl c.heap.next] ++ caps) := by
  rw [xha]
  intro v hv
  simp only [List.mem_append, List.mem_singleton] at hv
  rcases hv with (hv | rfl) | hv
  ·exact xg9 (Nat.le_succ _) v ((xha _ _).1 hfl.1 v hv)
  ·exact Nat.lt_succ_self _
  ·exact xg9 (Nat.le_succ _) v ((xha _ _).1 hfl.2 v hv)
 refine xnB.2 (hcall _ w0 gi _ _ E2 w1 _ hH1 hargs (xaT (fun x hx => ?_) (xbz h)))
 obtain ⟨v, H2⟩ := x
 intro E3 w3 hE3 hH3 hv3 hle3 hold3
 simp only [] at hx
 split at hx
 case h_2 => exact hx.elim
 rename_i st' pend' hend
 obtain ⟨o1, hfind, l1, r1, q1, q2, hst1, hpd1⟩ := xxc hend hH3
 split at hx
 ·exact hx.elim
 ·rename_i hst
  split at hx
  case h_2 => exact hx.elim
  rename_i x hpend
  obtain ⟨hm, hkey, how⟩ := hfind
  have hE3l : E3 c.heap.next = .pointer (some ⟨l, 0, none⟩) := by rw [hE3 _ (Nat.lt_succ_self _)]; exact hE2n
  rw [hE3l] at q1
  cases q1
  subst hpd1
  have hbusy : stOf st' ≠ .busy := fun e => by
   match st', hst, e with
   | 0, _, e => cases e
   | 1, h, _ => exact h rfl
   | 2, _, e => cases e
   | n + 3, _, e => cases e
  refine ⟨r1.pending, _, run_endLoop q2 (by rw [hst1]; exact hbusy), ?_⟩
  obtain ⟨g1, g2, g3⟩ := hH3.hide hm how (l := l) (by rw [hkey, hE3l]; rfl) q2
  have hH4 := (g1.putX (o := .loop { r1 with state := .exhausted }) g2 g3).dropX
  rw [hkey] at hH4
  have hcfg : xjs X0 E3 w0 N ⟨c.tmps, ⟨H2.objs.filter fun o => !(Nat.beq o.key c.heap.next), H2.next⟩⟩ { a with defers := [mark w.heap.size] ++ a.defers } (w3.putObj l (.loop { r1 with state := .exhausted })) := by
   refine ⟨w.heap.size :: rs, fun r hr => ?_, ?_, ⟨?_, hS.size, ?_⟩, hH4⟩
   ·rcases List.mem_cons.1 hr with rfl | hr
    ·refine ⟨hw0, fun x hx e => ?_⟩
     have := hXl x (List.mem_append.2 (.inr hx))
     omega
    ·exact hrs1 r hr
   ·refine List.nodup_cons.2 ⟨fun hm => ?_, hrs2⟩
    have := hXl (w.heap.size, .deferred (some [])) (List.mem_append.2 (.inl (List.mem_map.2 ⟨_, hm, rfl⟩)))
    simp at this
   ·show mark w.heap.size :: a.defers = mark w.heap.size :: rs.map mark
    rw [hS.defers]
   ·have h6 : xaO E3 H2.next N (rs.map mark) (xas c.tmps) a := hS.env (fun k hk => by rw [hE3 k (Nat.lt_succ_of_lt hk), hE2 k hk]) (Nat.le_trans (Nat.le_succ _) hle3)
    exact h6.ok
  have hq := hx E3 { a with defers := [mark w.heap.size] ++ a.defers } _ (fun k hk => by rw [hE3 k (Nat.lt_succ_of_lt hk), hE2 k hk]) hcfg (Nat.le_trans (Nat.le_succ _) hle3) (fun o ho hv => by
   have h1 := hold3 o (List.mem_filter.1 ho).1 (Nat.lt_succ_of_lt hv)
   rcases List.mem_cons.1 h1 with rfl | h1
   ·exact absurd hv (Nat.lt_irrefl _)
   ·exact h1)
  generalize r1.pending = pd at hpend hq ⊢
  cases pd with
  | none =>
   cases hpend
   exact hq
  | some cd =>
   cases cd with
   | exit id => cases hpend; exact wpIn_exit hq
   | ret => cases hpend; exact wpIn_ret hq
   | _ => cases hpend
theorem xAb {key sz : Nat} {hi : Int} {H' : Heap} {p : Prop} (h : xag X E w0 H w) (hx : cutK key sz hi H = some (p, H')) (hp : p) : xag X (upd E H.next ((AV.vw key sz none hi).den E)) w0 H' w ∧ H'.next = H.next + 1 ∧
  (∀ o ∈ H'.objs, o.ver < H.next → o ∈ H.objs) := by
 unfold cutK at hx
 split at hx
 case h_2 => cases hx
 rename_i k' ver e ks l hf
 split at hx
 case isFalse => cases hx
 rename_i hsz
 have hsz := Nat.eq_of_beq_eq_true hsz
 subst hsz
 simp only [Option.some.injEq, Prod.mk.injEq] at hx
 obtain ⟨rfl, rfl⟩ := hx
 obtain ⟨hlo, hhi⟩ := hp
 obtain ⟨hm, hk⟩ := xah hf
 simp only [] at hk
 subst hk
 have hb : xbc w true e ks.length (E k') l.length (rowV ks l) := h.objs _ hm
 have hE : ∀ k, k < H.next → upd E H.next ((AV.vw k' ks.length none hi).den E) k = E k := fun k hk => xgz _ _ (by omega)
 have hEn : upd E H.next ((AV.vw k' ks.length none hi).den E) H.next = (AV.vw k' ks.length none hi).den E := xgl _ _ _
 have hn : hi.toNat ≤ l.length := by omega
 have hlen : (l.take hi.toNat).length = hi.toNat := by rw [List.length_take]; omega
 have hv : (∃ a, E k' = .slice a 0 0 ∧ l.length = 0 ∧ (AV.vw k' ks.length none hi).den E = .slice a 0 0) ∨ ∃ g cap cur, E k' = .slice (some ⟨g, 0, none⟩) l.length cap ∧ w.heap[g]? = some (.cells cur e (0, 0)) ∧ l.length ≤ cap ∧ cap ≤ maxLen ∧ cur.size = cap * ks.length ∧ cur.toList.take (l.length * ks.length) = rowV ks l ∧
   (AV.vw k' ks.length none hi).den E = .slice (some ⟨g, 0, none⟩) hi.toNat cap := by
  rcases hb.own rfl with ⟨a, h1, h2⟩ | ⟨g, cap, cur, h1, h2, h3, h4, h5, h6⟩
  ·refine .inl ⟨a, h1, h2, ?_⟩
   have : hi.toNat = 0 := by omega
   simp [AV.den, h1, xgJ, sliced, loN, this]
  ·refine .inr ⟨g, cap, cur, h1, h2, h3, h4, h5, h6, ?_⟩
   have e5 : ((⟨g, 0, none⟩ : Addr).add 0) = ⟨g, 0, none⟩ := rfl
   simp [AV.den, h1, xgJ, sliced, loN, e5]
 have hblk : ∀ g, blkO ((AV.vw k' ks.length none hi).den E) = some g → blkO (E k') = some g := by
  intro g hg
  rcases hv with ⟨a, h1, _, h3⟩ | ⟨g', cap, cur, h1, _, _, _, _, _, h3⟩
  ·rw [h3] at hg; rw [h1]; exact hg
  ·rw [h3] at hg; rw [h1]; exact hg
 have hs : xag X E w0 ⟨H.objs.filter (fun o => !(Nat.beq o.key k')), H.next⟩ w := h.sub (fun o ho => (List.mem_filter.1 ho).1) (fun o ho => h.lt o (List.mem_filter.1 ho).1)
 have hne : ∀ o ∈ H.objs.filter (fun o => !(Nat.beq o.key k')), o ∈ H.objs ∧ o.key ≠ k' := by
  intro o ho
  obtain ⟨h1, h2⟩ := List.mem_filter.1 ho
  exact ⟨h1, fun e => by rw [e, xdM] at h2; cases h2⟩
 have hs2 := hs.envUp (E2 := upd E H.next ((AV.vw k' ks.length none hi).den E)) hE (fun k => by
  by_cases hk : k = H.next
  ·rw [hk, hEn]
   rcases hv with ⟨a, _, _, h3⟩ | ⟨g', cap, cur, _, _, _, _, _, _, h3⟩ <;> rw [h3] <;> rfl
  ·rw [xgz _ _ hk]; exact h.env k)
 have hrow : xbc w true e ks.length ((AV.vw k' ks.length none hi).den E) (l.take hi.toNat).length (rowV ks (l.take hi.toNat)) := by
  refine xfw ?_ (xbn _ _)
  rcases hv with ⟨a, h1, h2, h3⟩ | ⟨g, cap, cur, h1, h2, h3, h4, h5, h6, h7⟩
  ·exact .inl ⟨a, h3, by rw [hlen]; omega⟩
  ·refine .inr ⟨g, cap, cur, by rw [h7, hlen], h2, by rw [hlen]; omega, h4, h5, ?_⟩
   rw [hlen, xsr, ← h6, List.take_take, Nat.min_eq_left (Nat.mul_le_mul_right _ hn)]
 refine ⟨⟨h.below, hs2.env, ?_, ?_, ?_, ?_, ?_, ?_, ?_, ?_, ?_⟩, rfl, ?_⟩
 ·intro o ho
  rcases List.mem_cons.1 ho with rfl | ho
  ·show xbc w true e ks.length (upd E H.next _ H.next) _ _
   rw [hEn]; exact hrow
  ·exact hs2.objs o ho
 ·intro o ho hown b hb'
  rcases List.mem_cons.1 ho with rfl | ho
  ·simp only [hEn] at hb'
   exact h.high _ hm rfl b (hblk b hb')
  ·exact hs2.high o ho hown b hb'
 ·intro o ho o' ho' hown hk b hb1 hb2
  rcases List.mem_cons.1 ho with rfl | ho <;> rcases List.mem_cons.1 ho' with rfl | ho'
  ·exact hk rfl
  ·simp only [hEn] at hb1
   obtain ⟨m1, m2⟩ := hne o' ho'
   rw [hE _ (h.lt o' m1).1] at hb2
   exact h.inj _ hm o' m1 rfl (Ne.symm m2) b (hblk b hb1) hb2
  ·simp only [hEn] at hb2
   obtain ⟨m1, m2⟩ := hne o ho
   rw [hE _ (h.lt o m1).1] at hb1
   exact h.inj o m1 _ hm hown m2 b hb1 (hblk b hb2)
  ·exact hs2.inj o ho o' ho' hown hk b hb1 hb2
 ·intro o ho o' ho' hk
  rcases List.mem_cons.1 ho with rfl | ho <;> rcases List.mem_cons.1 ho' with rfl | ho'
  ·rfl
  ·have := (hs.lt o' ho').1
   simp only [] at hk this
   omega
  ·have := (hs.lt o ho).1
   simp only [] at hk this
   omega
  ·exact hs2.uniq o ho o' ho' hk
 ·intro o ho
  rcases List.mem_cons.1 ho with rfl | ho
  ·exact ⟨Nat.lt_succ_self _, trivial⟩
  ·exact ⟨Nat.lt_succ_of_lt (hs.lt o ho).1, xa3 (fun k hk => Nat.lt_succ_of_lt hk) (hs.lt o ho).2⟩
 ·intro x hx
  refine ⟨(h.prot x hx).1, fun o ho => ?_⟩
  rcases List.mem_cons.1 ho with rfl | ho
  ·simp only [hEn]
   intro e'
   exact (h.prot x hx).2 _ hm (hblk _ e')
  ·exact (hs2.prot x hx).2 o ho
 ·intro o ho b hi o' ho' hown' hb'
  rcases List.mem_cons.1 ho with rfl | ho
  ·exact xe9 rfl hi
  ·rcases List.mem_cons.1 ho' with rfl | ho'
   ·simp only [hEn] at hb'
    exact h.deep o (hne o ho).1 b (xlM (hE _ (hs.lt o ho).1) hi) _ hm rfl (hblk b hb')
   ·exact hs2.deep o ho b hi o' ho' hown' hb'
 ·intro x hx o ho hi
  rcases List.mem_cons.1 ho with rfl | ho
  ·exact xe9 rfl hi
  ·exact hs2.protD x hx o ho hi
 ·intro o ho b hi
  rcases List.mem_cons.1 ho with rfl | ho
  ·exact xm1 rfl hi
  ·exact hs2.fsh o ho b hi
 ·intro o ho hver
  rcases List.mem_cons.1 ho with rfl | ho
  ·exact absurd hver (Nat.lt_irrefl _)
  ·exact (hne o ho).1
theorem xhM {c : Cfg} {Q : Exit → Act → World → Prop} {x : xdI} : ∀ {ts : List Nat} {c1 : Cfg}, (xmj ts c1).holds (fun c2 => xnk X0 w0 E N c Q (x, c2)) → xnk X0 w0 E N c Q (x, c1)
 | [], c1, h => h
 | t :: r, c1, h => by
  unfold xmj at h
  split at h
  ·rename_i key sz hi ht
   split at h
   ·rename_i p H hc
    have ih := xhM (ts := r) h.2
    intro E' a' w' hE hc1 hle hold
    have hpt := hc1.point ht
    obtain ⟨rs, hrs1, hrs2, hS, hH⟩ := hc1
    obtain ⟨g1, g2, g3⟩ := xAb hH hc h.1
    have hle : c.heap.next ≤ c1.heap.next := hle
    have hE2 : ∀ k, k < c1.heap.next → upd E' c1.heap.next ((AV.vw key sz none hi).den E') k = E' k := fun k hk => xgz _ _ (by omega)
    have hS2 := hS.env (E' := upd E' c1.heap.next ((AV.vw key sz none hi).den E')) (n' := H.next) hE2 (by rw [g2]; exact Nat.le_succ _)
    refine ih (upd E' c1.heap.next ((AV.vw key sz none hi).den E')) a' w' (fun k hk => by rw [hE2 k (by omega)]; exact hE k hk) ⟨rs, hrs1, hrs2, ⟨hS2.defers, hS2.size, fun t' => ?_⟩, g1⟩ (by rw [show (Cfg.heap ⟨upd c1.tmps t (some (.sl c1.heap.next)), H⟩).next = H.next from rfl, g2]; exact Nat.le_succ_of_le hle) (fun o ho hv => hold o (g3 o ho (Nat.lt_of_lt_of_le hv hle)) hv)
    by_cases e : t' = t
    ·subst e
     have e1 : xas (upd c1.tmps t' (some (.sl c1.heap.next))) t' = .is (.sl c1.heap.next) := by simp [xas, xgl]
     show xrA _ H.next _ t' (xas (upd c1.tmps t' (some (.sl c1.heap.next))) t')
     rw [e1]
     refine ⟨?_, show c1.heap.next < H.next from by rw [g2]; exact Nat.lt_succ_self _⟩
     show _ = upd E' c1.heap.next _ c1.heap.next
     rw [xgl]; exact hpt.1
    ·have e1 : xas (upd c1.tmps t (some (.sl c1.heap.next))) t' = xas c1.tmps t' := by simp [xas, xgz _ _ e]
     show xrA _ H.next _ t' (xas (upd c1.tmps t (some (.sl c1.heap.next))) t')
     rw [e1]
     exact hS2.ok t'
   ·exact xhM (ts := r) h
  ·exact xhM (ts := r) h
theorem xwK {c : Cfg} {wr : List Nat} {Q : Exit → Act → World → Prop} {r : xdI × Cfg} (h : (xwL wr c r).holds (xnk X0 w0 E N c Q)) : xnk X0 w0 E N c Q r := by
 obtain ⟨x, c1⟩ := r
 cases x with
 | ret => exact h
 | normal => exact xhM (xbz h)
 | exit id => exact xhM (xbz h)
theorem xim {b : Frame} {k : List Go.Item} {cs : List Frame} {a : Act} {c : Code} : step P (lone (b.atR a (.code (.scope c) :: k)) cs w) = .next (lone (b.atR a (.code c :: .inScope c :: k)) cs w) :=
 step_lone_go (by simp [stepG, stepG.exec, Frame.atR])
theorem xvl {b : Frame} {k : List Go.Item} {cs : List Frame} {a : Act} {c : Code} : step P (lone (b.atR a (.inScope c :: k)) cs w) = .next (lone (b.atR a k) cs w) :=
 step_lone_go (by simp [stepG, stepG.exec, Frame.atR])
theorem xou {F : Fence} {n : Nat} {a : Act} {c : Code} {Q : Exit → Act → World → Prop} (h : c.wpIn F n P (Exit.noGoto Q) a w) : (Code.scope c).wpIn F n P Q a w := by
 intro b k cs hro hb hr
 have h0 : (lone (b.atR a (.code (.scope c) :: k)) cs w).fenced P F := fenced_calm hb hr rfl
 obtain ⟨e, a₁, w₁, hq, harr⟩ := h b (.inScope c :: k) cs hro hb hr
 cases e with
 | normal => exact ⟨.normal, a₁, w₁, hq, .head h0 xim (StepsIn.trans harr (.one (fenced_calm hb hr rfl) xvl))⟩
 | exit id => exact ⟨.exit id, a₁, w₁, hq, fun k' hk => .head h0 xim (harr.1 k' (by simp [exitTo, hk])), fun hr' hk => let ⟨k₁, h1, h2⟩ := harr.2 hr' (by simp [exitTo, hk]); ⟨k₁, h1, .head h0 xim h2⟩⟩
 | goto l => exact hq.elim
 | ret => exact ⟨_, a₁, w₁, hq, .of_steps (.one h0 xim) harr⟩
 | panic ch => exact ⟨_, a₁, w₁, hq, .of_steps (.one h0 xim) harr⟩
 | outgrown => exact ⟨_, a₁, w₁, hq, .of_steps (.one h0 xim) harr⟩
theorem xbO (hΓ : xaI P Γ) (hcall : xkF P call) (hk : xhl P call) (hyld : xuD P yld) {res : List Nat} {rb : Bool} (hrb : rb = false → rnd = none) :
  ∀ (code : Code) (c : Cfg) (E : Env) (a : Act) (w : World) (Q : Exit → Act → World → Prop), xjs X0 E w0 N c a w →
   (xaX P Γ call yld rb res N code c).holds (xnk X0 w0 E N c Q) → code.wpIn (FR rnd) 0 P Q a w
 | .skip, c, E, a, w, Q, hc, h => wpIn_skip (h E a w (fun _ _ => rfl) hc (Nat.le_refl _) (Old.refl _))
 | .region id ops draw, c, E, a, w, Q, hc, h => by
  unfold xaX at h
  obtain ⟨rs, hrs1, hrs2, hS, hH⟩ := hc
  have post : ∀ x : RCfg, xnk X0 w0 E N c Q (.normal, ⟨xhY x.1, x.2⟩) → Post (xsQ rs X0) w0 E c.heap N (rs.map mark) (Q .normal) x := fun x hx E' a' w' hE hS hH hle hold => hx E' a' w' hE ⟨rs, hrs1, hrs2, xB2 hS, hH⟩ hle hold
  have h2 := xbz h
  unfold xlo at h2
  split at h2
  ·exact h2.2.elim
  cases draw with
  | false =>
   rw [if_pos rfl] at h2
   exact wpIn_region_list (xlO hΓ hcall hk hyld ops ops.toList [] _ _ E a w (xof _) hS hH (xaT (fun x hx => post x hx) h2))
  | true =>
   rw [if_neg (by simp)] at h2
   exact xrV hΓ hcall hk hS (xof _) hH (xaT (fun x hx => post x hx) h2)
 | .seq x y, c, E, a, w, Q, hc, h => by
  unfold xaX at h
  refine wpIn_seq (xbO hΓ hcall hk hyld hrb x c E a w _ hc (xaT (fun r hr => ?_) (xbz h)))
  intro E' a' w' hE hc' hle hold
  obtain ⟨e, c'⟩ := r
  cases e with
  | normal => exact xbO hΓ hcall hk hyld hrb y c' E' a' w' Q hc' (xaT (fun r2 hr2 => hr2.next hE hle hold) hr)
  | exit id => exact hr E' a' w' hE hc' hle hold
  | ret => exact hr E' a' w' hE hc' hle hold
 | .cond x t e, c, E, a, w, Q, hc, h => by
  unfold xaX at h
  split at h
  ·rename_i b hb
   have hv := (hc.readS hb).1
   exact wpIn_cond_split hv (fun ht => xbO hΓ hcall hk hyld hrb t c E a w Q hc (h.1 ht)) (fun hf => xbO hΓ hcall hk hyld hrb e c E a w Q hc (h.2 hf))
  ·rename_i b hb
   have hv := (hc.readS hb).1
   have hv : a.eval x = .bool b := hv
   refine wpIn_cond_split hv (fun ht => ?_) (fun hf => ?_)
   ·subst ht; exact xbO hΓ hcall hk hyld hrb t c E a w Q hc h
   ·subst hf; exact xbO hΓ hcall hk hyld hrb e c E a w Q hc h
  ·exact h.elim
 | .block id body, c, E, a, w, Q, hc, h => by
  unfold xaX at h
  refine wpIn_block (xbO hΓ hcall hk hyld hrb body c E a w _ hc (xaT (fun r hr => ?_) (xbz h)))
  intro E' a' w' hE hc' hle hold
  obtain ⟨e, c'⟩ := r
  cases e with
  | normal => exact hr E' a' w' hE hc' hle hold
  | exit id' =>
   simp only [] at hr
   show if id' = id then Q .normal a' w' else Q (.exit id') a' w'
   by_cases hid : id' = id
   ·subst hid
    rw [if_pos rfl]
    rw [xdM] at hr
    exact hr E' a' w' hE hc' hle hold
   ·rw [if_neg hid]
    rw [xil hid] at hr
    exact hr E' a' w' hE hc' hle hold
  | ret => exact hr E' a' w' hE hc' hle hold
 | .exit id, c, E, a, w, Q, hc, h => wpIn_exit (h E a w (fun _ _ => rfl) hc (Nat.le_refl _) (Old.refl _))
 | .ret, c, E, a, w, Q, hc, h => wpIn_ret (h E a w (fun _ _ => rfl) hc (Nat.le_refl _) (Old.refl _))
 | .loop body, c, E, a, w, Q, hc, h => by
  unfold xaX at h
  have hbody : ∀ (c : Cfg) (E : Env) (a : Act) (w : World) (Q : Exit → Act → World → Prop), xjs X0 E w0 N c a w → (xaX P Γ call yld rb res N body c).holds (xnk X0 w0 E N c Q) → body.wpIn (FR rnd) 0 P Q a w :=
   xbO hΓ hcall hk hyld hrb body
  have key : ∀ (known : Cfg → Bool) (n : Nat) (c : Cfg) (E : Env) (a : Act) (w : World), xjs X0 E w0 N c a w →
    (xny known (xh1 P res (xib (xdG body) []) fun c => (xaX P Γ call yld rb res N body c).bind (xwL (xib (xdG body) []) c)) (fun c => xaX P Γ call yld rb res N body c) n c).holds (xnk X0 w0 E N c Q) → xtV (FR rnd) 0 P body Q a w := by
   intro known n
   induction n with
   | zero => intro c E a w _ h; exact h.elim
   | succ n ih =>
    intro c E a w hc h
    unfold xny at h
    split at h
    ·refine xky (hbody c E a w _ hc (xaT (fun r hr => ?_) (xbz h)))
     intro E' a' w' hE hc' hle hold
     obtain ⟨e, c'⟩ := r
     cases e with
     | normal => exact ih c' E' a' w' hc' (xaT (fun r2 hr2 => hr2.next hE hle hold) hr)
     | exit id => exact hr E' a' w' hE hc' hle hold
     | ret => exact hr E' a' w' hE hc' hle hold
    ·exact xv8 (fun c E a w Q hc h => hbody c E a w Q hc (xaT (fun r hr => xwK hr) (xbz h))) (fun c => xdN (xcS (fun r hr => xvw hr) (xdk body c))) hc h
  exact xnH (key _ _ c E a w hc h)
 | .rangeFunc f params assign body, c, E, a, w, Q, hc, h => by
  cases rb with
  | true => unfold xaX at h; rw [if_pos rfl] at h; exact h.elim
  | false =>
   have := hrb rfl
   subst this
   exact xsN hcall hk hc h
 | .scope body, c, E, a, w, Q, hc, h => by
  unfold xaX at h
  refine xou (xbO hΓ hcall hk hyld hrb body c E a w _ hc (xaT (fun r hr => ?_) h))
  intro E' a' w' hE hc' hle hold
  obtain ⟨e, c'⟩ := r
  cases e with
  | normal => exact hr E' a' w' hE hc' hle hold
  | exit id => exact hr E' a' w' hE hc' hle hold
  | ret => exact hr E' a' w' hE hc' hle hold
 | .label _, c, E, a, w, Q, hc, h => wpIn_label (h E a w (fun _ _ => rfl) hc (Nat.le_refl _) (Old.refl _))
 | .goto _, _, _, _, _, _, _, h => h.elim
 | .refuse _, _, _, _, _, _, _, h => h.elim
end
end Go.Sy
