/-
 The executor is sound: functions that hand the elements of a list to a loop's yield.
-/
import Derived.Test.YtnijhjpaplihbaaGreatSyZ
set_option linter.unusedVariables false
namespace Go.Sy
open Go.RowKit
section
variable {P : Program} {yld : Nat → List AV → Heap → Tree (AV × Heap)} {q : SeqQ} {w0 : World} {X X1 X2 : List (Nat × Go.Obj)} {E0 : Env} {n0 : Nat} {j : Int} {w : World} {Qx : List (Nat × Go.Obj) → Exit → Act → World → Prop}
def RndZ (yld : Nat → List AV → Heap → Tree (AV × Heap)) (q : SeqQ) (w0 : World) (E0 : Env) (n0 : Nat) (Qx : List (Nat × Go.Obj) → Exit → Act → World → Prop) (Z : List (Nat × Go.Obj) → Act → World → Prop) (X1 : List (Nat × Go.Obj)) (a : Act) (w : World) : Prop :=
 ∃ (c : Cfg) (E : Env), xjs X1 E w0 1 c a w ∧ (∀ k, k < n0 → E k = E0 k) ∧ n0 ≤ c.heap.next ∧ ∀ X2, (xmk yld q c).holds (xnk X2 w0 E 1 c (Exit.then (Z X2) (Qx X2)))
def xAm (yld : Nat → List AV → Heap → Tree (AV × Heap)) (q : SeqQ) (w0 : World) (E0 : Env) (n0 : Nat) (Qx : List (Nat × Go.Obj) → Exit → Act → World → Prop) (X1 : List (Nat × Go.Obj)) (a : Act) (w : World) : Prop :=
 ∀ Z : List (Nat × Go.Obj) → Act → World → Prop, (∀ X1 a w, RndZ yld q w0 E0 n0 Qx Z X1 a w → Z X1 a w) → Z X1 a w
theorem xwR {Z Z' : List (Nat × Go.Obj) → Act → World → Prop} (h : ∀ X a w, Z X a w → Z' X a w) {a : Act} (hr : RndZ yld q w0 E0 n0 Qx Z X1 a w) : RndZ yld q w0 E0 n0 Qx Z' X1 a w := by
 obtain ⟨c, E, h1, h2, h3, h4⟩ := hr
 refine ⟨c, E, h1, h2, h3, fun X2 => xaT (fun x hx => ?_) (h4 X2)⟩
 intro E' a' w' g1 g2 g3 g4
 have := hx E' a' w' g1 g2 g3 g4
 revert this
 cases x.1.toExit with
 | normal => exact h _ _ _
 | _ => exact fun h => h
theorem xvz {a : Act} (hr : RndZ yld q w0 E0 n0 Qx (xAm yld q w0 E0 n0 Qx) X1 a w) : xAm yld q w0 E0 n0 Qx X1 a w := fun Z hZ =>
 hZ _ _ _ (xwR (fun X a w h => h Z hZ) hr)
theorem xo4 {a : Act} (h : xAm yld q w0 E0 n0 Qx X1 a w) : RndZ yld q w0 E0 n0 Qx (xAm yld q w0 E0 n0 Qx) X1 a w :=
 h (fun X a w => RndZ yld q w0 E0 n0 Qx (xAm yld q w0 E0 n0 Qx) X a w) fun X a w hr => xwR (fun X a w h => xvz h) hr
def xkb (j : Int) : Act := { tmps := #[.int .i64 j], defers := [] }
def At (yld : Nat → List AV → Heap → Tree (AV × Heap)) (q : SeqQ) (w0 : World) (E0 : Env) (n0 : Nat) (Qx : List (Nat × Go.Obj) → Exit → Act → World → Prop) (X1 : List (Nat × Go.Obj)) (j : Int) (w : World) : Prop := xAm yld q w0 E0 n0 Qx X1 (xkb j) w
theorem xzv {E : Env} {c : Cfg} (h : xjs X1 E w0 1 c (xkb j) w) : xag X1 E w0 c.heap w ∧ xaO E c.heap.next 1 [] (xas c.tmps) (xkb j) := by
 obtain ⟨rs, h1, h2, h3, h4⟩ := h
 have : rs = [] := by
  have h5 : ([] : List Deferred) = rs.map mark := h3.defers
  cases rs with
  | nil => rfl
  | cons r rs => cases h5
 subst this
 exact ⟨h4, h3⟩
theorem xzu {E : Env} {c : Cfg} (h : xag X1 E w0 c.heap w) (hs : xaO E c.heap.next 1 [] (xas c.tmps) (xkb j)) : xjs X1 E w0 1 c (xkb j) w :=
 ⟨[], (fun r hr => by cases hr), List.nodup_nil, hs, h⟩
theorem At.move {w2 : World} (h : At yld q w0 E0 n0 Qx X1 j w) (hm : ∀ E H, xag X1 E w0 H w → xag X2 E w0 H w2) : At yld q w0 E0 n0 Qx X2 j w2 := by
 obtain ⟨c, E, h1, h2, h3, h4⟩ := xo4 h
 obtain ⟨g1, g2⟩ := xzv h1
 exact xvz ⟨c, E, xzu (hm _ _ g1) g2, h2, h3, h4⟩
theorem xBI {E : Env} {c : Cfg} (hs : xaO E c.heap.next 1 [] (xas c.tmps) (xkb j)) {j' : Int} (h : (c.tmps 0).map AV.weak = some (.int .i64 j')) : j' = j := by
 cases ht : c.tmps 0 with
 | none => rw [ht] at h; cases h
 | some v =>
  rw [ht] at h
  simp only [Option.map_some, Option.some.injEq] at h
  have := hs.ok 0
  have e : xas c.tmps 0 = .is v := by simp [xas, ht]
  rw [e] at this
  have h1 : (xkb j).tmps.getD 0 undef = v.den E := this.1
  rw [← xg8, h] at h1
  have h2 : Value.int .i64 j = .int .i64 j' := h1
  injection h2 with _ h2
  exact h2.symm
theorem At.ends (h : At yld q w0 E0 n0 Qx X1 j w) (hj : ¬ j < (q.L.length : Int)) : Qx X1 (.exit 1) (xkb j) w := by
 obtain ⟨c, E, h1, h2, h3, h4⟩ := xo4 h
 obtain ⟨g1, g2⟩ := xzv h1
 have h5 := h4 X1
 unfold xmk xo3 at h5
 split at h5
 ·rename_i j' hj'
  have := xBI g2 hj'
  subst this
  exact (h5.2 (decide_eq_false hj)) E (xkb j') w (fun _ _ => rfl) h1 (Nat.le_refl _) (Old.refl _)
 ·exact h5.elim
theorem xag.later {E : Env} {H : Heap} {w1 : World} (h : xag X E w0 H w) (hb : Blw w.heap.size w w1) : xag X E w0 H w1 := by
 have hin : ∀ o' ∈ H.objs, ∀ g, Inn E w1 o'.key o'.body g → Inn E w o'.key o'.body g := fun o' ho' g hg => xjl (h.objs o' ho') rfl (fun g hg => hb.block g (xlt (h.objs o' ho') hg)) hg
 refine ⟨h.below.trans (hb.mono h.below.size), h.env, fun o' ho' => (h.objs o' ho').keep rfl (xsb E) (fun g hg => hb.block g (xlt (h.objs o' ho') hg)) hb.size (fun g hg => hb.block g (xod (h.objs o' ho') hg)), h.high, h.inj, h.uniq, h.lt, fun x hx => ⟨?_, (h.prot x hx).2⟩,
  fun o1 ho1 b hb => h.deep o1 ho1 b (hin o1 ho1 b hb), fun x hx o1 ho1 hb => h.protD x hx o1 ho1 (hin o1 ho1 _ hb), fun o1 ho1 b hb => h.fsh o1 ho1 b (hb.imp id fun h => ⟨h.1, hin o1 ho1 b h.2⟩)⟩
 rw [hb.block x.1 (Array.getElem?_eq_some_iff.1 (h.prot x hx).1).1]
 exact (h.prot x hx).1
theorem At.yield (hyld : xuD P yld) (hq : q.key < n0) (h : At yld q w0 E0 n0 Qx X1 j w) (hj : j < (q.L.length : Int)) {v : Value} {w1 : World} (hb : Blw w.heap.size w w1)
  (hrow : xbc w1 true q.e q.ks.length v (q.L.getD j.toNat []).length (rowV q.ks (q.L.getD j.toNat []))) (hv : ∀ b, blkO v = some b → w.heap.size ≤ b) (hone : v.oneCell' = true) :
  ∃ fn tmps assign body, (Instr.yield (blk (E0 q.key)) #[v]).run P w1 = .ok (.round (blk (E0 q.key)) fn tmps assign body) w1 ∧
   RoundIn (FR none) 0 P (blk (E0 q.key)) fn tmps assign body w1 fun e w2 => (e = .returned (.bool true) ∧ At yld q w0 E0 n0 Qx X1 (j + 1) w2) ∨ (e = .returned (.bool false) ∧ Qx X1 (.exit 0) (xkb j) w2) := by
 obtain ⟨c, E, h1, h2, h3, h4⟩ := xo4 h
 obtain ⟨g1, g2⟩ := xzv h1
 have h5 := h4 X1
 have h6 := g1.later hb
 unfold xmk xo3 at h5
 split at h5
 case h_2 => exact h5.elim
 rename_i j' hj'
 have := xBI g2 hj'
 subst this
 have h7 := xbz (h5.1 (decide_eq_true hj))
 let E' : Env := upd E c.heap.next v
 have hE' : ∀ k, k < c.heap.next → E' k = E k := fun k hk => xgz _ _ (by omega)
 have hEn : E' c.heap.next = v := xgl _ _ _
 have hkey : q.key < c.heap.next := Nat.lt_of_lt_of_le hq h3
 have hEk : E' q.key = E0 q.key := by rw [hE' _ hkey, h2 _ hq]
 have h8 : xag X1 E' w0 c.heap w1 := h6.envUp hE' (fun k => by
  by_cases hk : k = c.heap.next
  ·rw [hk, hEn]; exact hone
  ·show (upd E _ _ k).oneCell' = true
   rw [xgz _ _ hk]; exact h6.env k)
 have hlow : ∀ o ∈ c.heap.objs, ∀ b, blkO (E' o.key) = some b → b < w.heap.size := fun o ho b hb => by
  rw [hE' _ (g1.lt o ho).1] at hb
  exact xlt (g1.objs o ho) hb
 have hilow : ∀ o ∈ c.heap.objs, ∀ b, Inn E' w1 o.key o.body b → b < w.heap.size := fun o ho b hi =>
  xod (g1.objs o ho) (xjl (g1.objs o ho) (hE' _ (g1.lt o ho).1) (fun g hg => hb.block g (xlt (g1.objs o ho) hg)) hi)
 have h9 : xag X1 E' w0 ⟨⟨c.heap.next, c.heap.next, true, .row q.e q.ks (q.L.getD j'.toNat [])⟩ :: c.heap.objs, c.heap.next + 1⟩ w1 := by
  refine ⟨h8.below, h8.env, fun o ho => ?_, fun o ho hown b hb => ?_, fun o ho o' ho' hown hne b hb => ?_, fun o ho o' ho' he => ?_, fun o ho => ?_, fun x hx => ⟨(h8.prot x hx).1, fun o ho => ?_⟩, fun o ho b hi o' ho' hown hb' => ?_, fun x hx o ho hi => ?_, fun o ho b hi => ?_⟩
  ·rcases List.mem_cons.1 ho with rfl | ho
   ·show xbc w1 true q.e q.ks.length (E' c.heap.next) _ _
    rw [hEn]; exact hrow
   ·exact h8.objs o ho
  ·rcases List.mem_cons.1 ho with rfl | ho
   ·rw [hEn] at hb
    exact Nat.le_trans g1.below.size (hv b hb)
   ·exact h8.high o ho hown b hb
  ·rcases List.mem_cons.1 ho with rfl | ho
   ·rcases List.mem_cons.1 ho' with rfl | ho'
    ·exact absurd rfl hne
    ·rw [hEn] at hb
     intro hb'
     have := hv b hb
     have := hlow o' ho' b hb'
     omega
   ·rcases List.mem_cons.1 ho' with rfl | ho'
    ·show blkO (E' c.heap.next) ≠ some b
     rw [hEn]
     intro hb'
     have := hv b hb'
     have := hlow o ho b hb
     omega
    ·exact h8.inj o ho o' ho' hown hne b hb
  ·rcases List.mem_cons.1 ho with rfl | ho
   ·rcases List.mem_cons.1 ho' with rfl | ho'
    ·rfl
    ·have := (g1.lt o' ho').1
     have he : c.heap.next = o'.key := he
     omega
   ·rcases List.mem_cons.1 ho' with rfl | ho'
    ·have := (g1.lt o ho).1
     have he : o.key = c.heap.next := he
     omega
    ·exact h8.uniq o ho o' ho' he
  ·rcases List.mem_cons.1 ho with rfl | ho
   ·exact ⟨Nat.lt_succ_self _, trivial⟩
   ·exact ⟨Nat.lt_succ_of_lt (h8.lt o ho).1, xa3 (fun k hk => Nat.lt_succ_of_lt hk) (h8.lt o ho).2⟩
  ·rcases List.mem_cons.1 ho with rfl | ho
   ·show blkO (E' c.heap.next) ≠ some x.1
    rw [hEn]
    intro hb'
    have h10 := hv _ hb'
    have h11 : x.1 < w.heap.size := (Array.getElem?_eq_some_iff.1 (g1.prot x hx).1).1
    omega
   ·exact (h8.prot x hx).2 o ho
  ·rcases List.mem_cons.1 ho with rfl | ho
   ·exact xe9 rfl hi
   ·rcases List.mem_cons.1 ho' with rfl | ho'
    ·have hb' : blkO (E' c.heap.next) = some b := hb'
     rw [hEn] at hb'
     have := hv b hb'
     have := hilow o ho b hi
     omega
    ·exact h8.deep o ho b hi o' ho' hown hb'
  ·rcases List.mem_cons.1 ho with rfl | ho
   ·exact xe9 rfl hi
   ·exact h8.protD x hx o ho hi
  ·rcases List.mem_cons.1 ho with rfl | ho
   ·exact xm1 rfl hi
   ·exact h8.fsh o ho b hi
 suffices hs : (yld q.key [.sl c.heap.next] ⟨⟨c.heap.next, c.heap.next, true, .row q.e q.ks (q.L.getD j'.toNat [])⟩ :: c.heap.objs, c.heap.next + 1⟩).holds fun x => ∀ E2 w2, (∀ k, k < c.heap.next + 1 → E2 k = E' k) → xag X1 E2 w0 x.2 w2 → AV.lt x.2.next x.1 → c.heap.next + 1 ≤ x.2.next →
   Old ⟨⟨c.heap.next, c.heap.next, true, .row q.e q.ks (q.L.getD j'.toNat [])⟩ :: c.heap.objs, c.heap.next + 1⟩ x.2 → (Ending.returned (x.1.den E2) = .returned (.bool true) ∧ At yld q w0 E0 n0 Qx X1 (j' + 1) w2) ∨ (Ending.returned (x.1.den E2) = .returned (.bool false) ∧ Qx X1 (.exit 0) (xkb j') w2) by
  obtain ⟨fn, tmps, assign, body, r1, r2⟩ := hyld X1 w0 q.key [.sl c.heap.next] _ E' w1 (fun e w2 => (e = .returned (.bool true) ∧ At yld q w0 E0 n0 Qx X1 (j' + 1) w2) ∨ (e = .returned (.bool false) ∧ Qx X1 (.exit 0) (xkb j') w2)) h9 (Nat.lt_succ_of_lt hkey) ⟨Nat.lt_succ_self _, trivial⟩ hs
  rw [hEk] at r1 r2
  have hargs : (AV.denL E' [.sl c.heap.next]).toArray = #[v] := by
   show #[E' c.heap.next] = #[v]
   rw [hEn]
  rw [hargs] at r1
  exact ⟨fn, tmps, assign, body, r1, r2⟩
 refine xaT (fun y hy => ?_) h7
 obtain ⟨u, H2⟩ := y
 intro E2 w2 k1 k2 k3 k4 k5
 have k4 : c.heap.next + 1 ≤ H2.next := k4
 have ag : ∀ k, k < c.heap.next → E2 k = E k := fun k hk => by rw [k1 k (Nat.lt_succ_of_lt hk)]; exact hE' k hk
 have old : Old c.heap H2 := fun o ho hlt => by
  rcases List.mem_cons.1 (k5 o ho (Nat.lt_succ_of_lt hlt)) with rfl | h
  ·exact absurd hlt (Nat.lt_irrefl _)
  ·exact h
 have hs2 : xaO E2 H2.next 1 [] (xas c.tmps) (xkb j') := g2.env ag (Nat.le_trans (Nat.le_succ _) k4)
 simp only [] at hy
 split at hy
 ·-- on it goes
  have hs3 : xaO E2 H2.next 1 [] (xas (upd c.tmps 0 (some (.int .i64 (j' + 1))))) (xkb (j' + 1)) := by
   refine ⟨rfl, Nat.le_refl _, fun t => ?_⟩
   by_cases ht : t = 0
   ·subst ht
    have e : xas (upd c.tmps 0 (some (.int .i64 (j' + 1)))) 0 = .is (.int .i64 (j' + 1)) := by simp [xas, upd]
    rw [e]
    exact ⟨rfl, trivial⟩
   ·have e : xas (upd c.tmps 0 (some (.int .i64 (j' + 1)))) t = xas c.tmps t := by
     unfold xas; rw [xgz _ _ ht]
    rw [e]
    have := hs2.ok t
    have ea : ∀ i : Int, (xkb i).tmps.getD t undef = undef := fun i => by
     unfold xkb
     rw [Array.getD_eq_getD_getElem?, Array.getElem?_eq_none (by simp; omega)]
     rfl
    revert this
    unfold xas
    cases c.tmps t with
    | none => exact fun _ => trivial
    | some v =>
     intro h
     have h1 : (xkb j').tmps.getD t undef = v.den E2 ∧ AV.lt H2.next v := h
     rw [ea] at h1
     show (xkb (j' + 1)).tmps.getD t undef = v.den E2 ∧ AV.lt H2.next v
     rw [ea]
     exact h1
  exact .inl ⟨rfl, hy E2 (xkb (j' + 1)) w2 ag (xzu k2 hs3) (Nat.le_trans (Nat.le_succ _) k4) old⟩
 ·exact .inr ⟨rfl, hy E2 (xkb j') w2 ag (xzu k2 hs2) (Nat.le_trans (Nat.le_succ _) k4) old⟩
 ·exact hy.elim
theorem xzI (yld : Nat → List AV → Heap → Tree (AV × Heap)) (q : SeqQ) (c : Cfg) : (xmk yld q c).all (Wr c [0]) := by
 unfold xmk xo3
 split
 ·refine ⟨xdN ?_, fun _ t ht => rfl⟩
  generalize yld q.key _ _ = T
  rename_i j' _
  have any : ∀ T : Tree (AV × Heap), T.all fun y => (match y.1 with
    | .val (.bool true) => Tree.ret (xdI.normal, (⟨upd c.tmps 0 (some (.int .i64 (j' + 1))), y.2⟩ : Cfg))
    | .val (.bool false) => .ret (.exit 0, ⟨c.tmps, y.2⟩)
    | _ => .bad).all (Wr c [0]) := by
   intro T
   induction T with
   | ret y =>
    show Tree.all (match y.1 with | .val (.bool true) => _ | .val (.bool false) => _ | _ => _) _
    split
    ·exact fun _ t ht => xgz _ _ (fun e => ht (by simp [e]))
    ·exact fun _ t ht => rfl
    ·trivial
   | br _ _ _ h1 h2 => exact ⟨h1, h2⟩
   | need _ _ h => exact h
   | ask _ _ _ h1 h2 => exact ⟨h1, h2⟩
   | bad => trivial
  exact any T
 ·trivial
theorem xCB {H : Heap} {R : Ending → World → Prop} (hH : xag X E0 w0 H w)
  (h : (xAB P yld q H).holds fun x => ∀ E' w', (∀ k, k < H.next → E' k = E0 k) → xag X E' w0 x.2 w' → AV.lt x.2.next x.1 → H.next ≤ x.2.next → Old H x.2 → R (.returned (x.1.den E')) w') :
  q.p ∧ At yld q w0 E0 H.next (fun X2 e _ w' => ∀ Y, X2 = Y ++ X → match e with | .exit 0 => R (.returned (.bool false)) w' | .exit 1 => R (.returned (.bool true)) w' | _ => False) X 0 w := by
 have h : (Tree.need q.p ((xh1 P [] [0] (xmk yld q) ⟨xxX 0, H⟩).bind xCK)).holds _ := h
 generalize hG : xh1 P [] [0] (xmk yld q) ⟨xxX 0, H⟩ = G at h
 obtain ⟨hp, h⟩ := h
 refine ⟨hp, ?_⟩
 have h2 := xbz h
 have hs : xaO E0 H.next 1 [] (xas (xxX 0)) (xkb 0) := by
  refine ⟨rfl, Nat.le_refl _, fun t => ?_⟩
  cases t with
  | zero =>
   show (xkb 0).tmps.getD 0 undef = Value.int .i64 0 ∧ True
   exact ⟨rfl, trivial⟩
  | succ t => exact (trivial : True)
 have hc : xjs X E0 w0 1 ⟨xxX 0, H⟩ (xkb 0) w := xzu (c := ⟨xxX 0, H⟩) (E := E0) hH hs
 refine xyt (P := P) (res := []) (wr := [0]) (wrs := [0]) (N := 1) (c0 := ⟨xxX 0, H⟩) (E0 := E0) (body := xmk yld q) (fun X1 c E a w h1 h2 h3 h4 => xvz ⟨c, E, h1, h2, h3, h4⟩) (xzI yld q) (fun t ht => ht) hc fun X2 => ?_
 rw [hG]
 refine xaT (fun x hx => ?_) h2
 obtain ⟨x, c⟩ := x
 intro E' a' w' hE hc' hle hold Y hY
 subst hY
 obtain ⟨rs, _, _, _, hH'⟩ := hc'
 have hH2 : xag X E' w0 c.heap w' := hH'.dropXs.dropXs
 cases x with
 | normal => exact hx.elim
 | ret => exact hx.elim
 | exit id =>
  by_cases h0 : id = 0
  ·subst h0
   have hx : ∀ E' w', (∀ k, k < H.next → E' k = E0 k) → xag X E' w0 c.heap w' → True → H.next ≤ c.heap.next → Old H c.heap → R (.returned (.bool false)) w' := hx
   exact hx E' w' hE hH2 trivial hle hold
  ·by_cases h1 : id = 1
   ·subst h1
    have hx : ∀ E' w', (∀ k, k < H.next → E' k = E0 k) → xag X E' w0 c.heap w' → True → H.next ≤ c.heap.next → Old H c.heap → R (.returned (.bool true)) w' := hx
    exact hx E' w' hE hH2 trivial hle hold
   ·obtain ⟨n, rfl⟩ : ∃ n, id = n + 2 := ⟨id - 2, by omega⟩
    exact (show False from hx).elim
end
def xyQ (P : Program) (Ξ : xvf) : Prop := ∀ f args objs q, Ξ f args objs = some q → xe5 P f ∧ ∀ yld, xuD P yld → ∀ (X : List (Nat × Go.Obj)) (w0 : World) (H : Heap) (E : Env) (w : World) (R : Ending → World → Prop), H.objs = objs →
 xag X E w0 H w → AV.ltL H.next args →
 (xAB P yld q H).holds (fun x => ∀ E' w', (∀ k, k < H.next → E' k = E k) → xag X E' w0 x.2 w' → AV.lt x.2.next x.1 → H.next ≤ x.2.next → Old H x.2 → R (.returned (x.1.den E')) w') →
 Calls P f (AV.denL E args).toArray w R
theorem xaP {P : Program} : xyQ P xec := fun _ _ _ _ h => by cases h
end Go.Sy
