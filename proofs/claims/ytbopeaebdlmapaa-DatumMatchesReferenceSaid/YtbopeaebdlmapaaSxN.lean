/-
  From a contract to a law's row: arguments of plain data (integers, bools, structs of these).
-/
import Derived.Test.YtbopeaebdlmapaaSxH
import Derived.ProofKit
import Derived.OpenShut
import Derived.ReadAgain
import Derived.Carry
import Derived.JoinedTies
namespace Go.Sx
open Go.ChangeShapes Go.WideShapes Go.ChangeAt Go.RowKit

inductive CK where
  | int (k : IntKind)
  | bool

def FitsC : List CK → List Value → Prop
  | [], [] => True
  | .int k :: ks, v :: vs => (∃ n, v = .int k n ∧ (Lit.int k n).wf = true) ∧ FitsC ks vs
  | .bool :: ks, v :: vs => (∃ b, v = .bool b) ∧ FitsC ks vs
  | _, _ => False
theorem fitsC_append : ∀ {ks ks' : List CK} {l l' : List Value}, FitsC ks l → FitsC ks' l' → FitsC (ks ++ ks') (l ++ l')
  | [], _, [], _, _, h => h
  | .int _ :: _, _, _ :: _, _, h, h' => ⟨h.1, fitsC_append h.2 h'⟩
  | .bool :: _, _, _ :: _, _, h, h' => ⟨h.1, fitsC_append h.2 h'⟩
  | [], _, _ :: _, _, h, _ => h.elim
  | .int _ :: _, _, [], _, h, _ => h.elim
  | .bool :: _, _, [], _, h, _ => h.elim

section
variable (P : Program)
def kindsF (rec_ : TypeId → Option (List CK)) : List Field → Nat → Option (List CK)
  | [], _ => some []
  | f :: r, off =>
    if f.offset = off then
      match rec_ f.type with
      | some ks => if ks.length = P.cellsOf f.type then (match kindsF rec_ r (off + ks.length) with | some ks' => some (ks ++ ks') | none => none) else none
      | none => none
    else none
def kinds : Nat → TypeId → Option (List CK)
  | 0, _ => none
  | n + 1, t => match P.underlying t with
    | some .bool => some [.bool]
    | some (.int k) => some [.int k]
    | some (.struct fs) => match kindsF P (kinds n) fs.toList 0 with
      | some ks => if ks.length = P.cellsOf t then some ks else none
      | none => none
    | _ => none
/-- A struct, or one cell. -/
inductive VK where
  | one (k : CK)
  | agg (ks : List CK)
def valKind (n : Nat) (t : TypeId) : Option VK :=
  match P.underlying t with
  | some .bool => some (.one .bool)
  | some (.int k) => some (.one (.int k))
  | some (.struct _) => (kinds P n t).map .agg
  | _ => none
end
def FitsV : VK → Value → Prop
  | .one k, v => FitsC [k] [v]
  | .agg ks, v => ∃ cs, v = .agg cs.toArray ∧ FitsC ks cs
def FitsAll : List VK → List Value → Prop
  | [], [] => True
  | k :: ks, v :: vs => FitsV k v ∧ FitsAll ks vs
  | _, _ => False

section
variable {P : Program} {H : Type} {enc : TypeId × Value → H} {w : World} {base : Nat} {spare : Nat → Bool} {held : Bool}
theorem fits_fields {fuel : Nat} {rec_ : TypeId → Option (List CK)} (hrec : ∀ t ks cs x, rec_ t = some ks → DataW.trod enc P w base spare held fuel t cs = some x → FitsC ks cs) (cs : List Value) :
    ∀ (fs : List Field) (off : Nat) (ks : List CK) (xs : List (DataW H × List MemPlace)), kindsF P rec_ fs off = some ks →
      fs.mapM (fun f => DataW.trod enc P w base spare held fuel f.type ((cs.drop f.offset).take (P.cellsOf f.type))) = some xs → FitsC ks ((cs.drop off).take ks.length)
  | [], off, ks, xs, h, _ => by cases h; simp [FitsC]
  | f :: r, off, ks, xs, h, hm => by
    unfold kindsF at h
    split at h
    · rename_i hoff
      split at h
      · rename_i k1 hk1
        split at h
        · rename_i hlen
          split at h
          · rename_i k2 hk2
            cases h
            rw [List.mapM_cons] at hm
            simp only [bind, Option.bind_eq_some_iff, pure, Option.some.injEq] at hm
            obtain ⟨x, hx, xs', hxs, _⟩ := hm
            have h1 := hrec _ _ _ _ hk1 hx
            have h2 := fits_fields hrec cs r _ k2 xs' hk2 hxs
            have := fitsC_append h1 h2
            rw [hoff, ← hlen] at this
            rw [List.length_append, List.take_add, List.drop_drop]
            exact this
          · cases h
        · cases h
      · cases h
    · cases h
theorem fits_trod : ∀ (fuel n : Nat) (t : TypeId) (ks : List CK) (cs : List Value) (x : DataW H × List MemPlace), kinds P n t = some ks → DataW.trod enc P w base spare held fuel t cs = some x → FitsC ks cs
  | 0, _, _, _, _, _, _, h => by cases h
  | fuel + 1, 0, t, ks, cs, x, h, _ => by cases h
  | fuel + 1, n + 1, t, ks, cs, x, h, hx => by
    unfold kinds at h
    cases hu : P.underlying t with
    | none => rw [hu] at h; cases h
    | some d =>
      rw [hu] at h
      cases d with
      | bool =>
        cases h
        obtain ⟨b, hcs, _⟩ := DataW.trod_bool hu hx
        rw [hcs]
        exact ⟨⟨b, rfl⟩, trivial⟩
      | int k =>
        cases h
        obtain ⟨m, hcs, _, hwf⟩ := DataW.trod_int hu hx
        rw [hcs]
        exact ⟨⟨m, rfl, hwf⟩, trivial⟩
      | struct fs =>
        simp only [] at h
        split at h
        · rename_i ks' hks
          split at h
          · rename_i hlen
            cases h
            unfold DataW.trod at hx
            rw [hu] at hx
            simp only [] at hx
            split at hx
            · rename_i hl
              cases hm : fs.toList.mapM (fun f => DataW.trod enc P w base spare held fuel f.type ((cs.drop f.offset).take (P.cellsOf f.type))) with
              | none => rw [hm] at hx; cases hx
              | some xs =>
                have := fits_fields (fun t ks cs x h1 h2 => fits_trod fuel n t ks cs x h1 h2) cs fs.toList 0 ks xs hks hm
                rw [List.drop_zero, hlen, ← hl, List.take_length] at this
                exact this
            · cases hx
          · cases h
        · cases h
      | _ => cases h
theorem fits_val {n : Nat} {t : TypeId} {k : VK} {r : Reach} {b0 : Nat} {v : Value} {d : DataW H} {p : List MemPlace} (hk : valKind P n t = some k) (hv : Value.okWide P w r b0 t v) (h : DataW.Trod enc P w base spare held t v d p) : FitsV k v := by
  obtain ⟨fuel, hf⟩ := h
  unfold valKind at hk
  cases hu : P.underlying t with
  | none => rw [hu] at hk; cases hk
  | some dd =>
    rw [hu] at hk
    cases dd with
    | bool =>
      cases hk
      cases fuel with
      | zero => cases hf
      | succ fuel =>
        obtain ⟨b, hcs, _⟩ := DataW.trod_bool hu hf
        obtain ⟨x, hx⟩ : ∃ x, v = .bool x := okWide_bool hu hv
        exact ⟨⟨x, hx⟩, trivial⟩
    | int k =>
      cases hk
      cases fuel with
      | zero => cases hf
      | succ fuel =>
        obtain ⟨m, hcs, _, hwf⟩ := DataW.trod_int hu hf
        obtain ⟨x, rfl⟩ : ∃ x, v = .int k x := okWide_int hu hv
        simp [Value.cells] at hcs
        subst hcs
        exact ⟨⟨x, rfl, hwf⟩, trivial⟩
    | struct fs =>
      simp only [] at hk
      cases hks : kinds P n t with
      | none => rw [hks] at hk; cases hk
      | some ks =>
        rw [hks] at hk
        cases hk
        obtain ⟨cs, rfl, _⟩ := okWide_struct hu hv
        exact ⟨cs.toList, by simp, fits_trod fuel n t ks _ _ hks (by simpa [Value.cells] using hf)⟩
    | _ => cases hk
theorem fits_all {n : Nat} {r : Reach} {b0 : Nat} : ∀ (ts : List TypeId) (vs : List Value) (ds : List (DataW H)) (ps : List MemPlace) (ks : List VK), ts.mapM (valKind P n) = some ks →
    (∀ (j : Nat) t v, ts[j]? = some t → vs[j]? = some v → Value.okWide P w r b0 t v) → DataW.TrodAll enc P w base spare held ts vs ds ps → FitsAll ks vs
  | [], [], [], _, ks, h, _, _ => by simp at h; subst h; trivial
  | t :: ts, v :: vs, d :: ds, ps, ks, h, hv, ha => by
    rw [List.mapM_cons] at h
    simp only [bind, Option.bind_eq_some_iff, pure, Option.some.injEq] at h
    obtain ⟨k, hk, ks', hks, rfl⟩ := h
    obtain ⟨p, q, h1, h2, _⟩ := ha
    exact ⟨fits_val hk (hv 0 t v rfl rfl) h1, fits_all ts vs ds q ks' hks (fun j t v ht hv' => hv (j + 1) t v (by simpa using ht) (by simpa using hv')) h2⟩
  | [], [], _ :: _, _, _, _, _, h => h.elim
  | [], _ :: _, _, _, _, _, _, h => h.elim
  | _ :: _, [], _, _, _, _, _, h => h.elim
  | _ :: _, _ :: _, [], _, _, _, _, h => h.elim
theorem trodAll_below (hl : laidOutB P = true) {W W' : World} (hb : Below W.heap.size W W') : ∀ (ts : List TypeId) (vs : List Value) (ds : List (DataW H)) (ps : List MemPlace), (ts.all fun t => P.readableRec t && decide (t < P.types.size)) = true →
    (∀ x ∈ ps, x.block < W.heap.size) → DataW.TrodAll enc P W 0 (fun _ => true) true ts vs ds ps → DataW.TrodAll enc P W' 0 (fun b => decide (b < W.heap.size)) true ts vs ds ps
  | [], [], [], _, _, _, h => h
  | t :: ts, v :: vs, d :: ds, ps, ht, hp, h => by
    obtain ⟨p, q, h1, h2, rfl⟩ := h
    rw [List.all_cons, Bool.and_eq_true, Bool.and_eq_true] at ht
    exact ⟨p, q, Below.trod hl ht.1.1 (of_decide_eq_true ht.1.2) h1 hb (fun x hx => hp x (List.mem_append_left _ hx)), trodAll_below hl hb ts vs ds q ht.2 (fun x hx => hp x (List.mem_append_right _ hx)) h2, rfl⟩
  | [], [], _ :: _, _, _, _, h => h.elim
  | [], _ :: _, _, _, _, _, h => h.elim
  | _ :: _, [], _, _, _, _, h => h.elim
  | _ :: _, _ :: _, [], _, _, _, h => h.elim
theorem trodAll_lt {W : World} : ∀ (ts : List TypeId) (vs : List Value) (ds : List (DataW H)) (ps : List MemPlace), DataW.TrodAll enc P W 0 (fun _ => true) true ts vs ds ps → ∀ x ∈ ps, x.block < W.heap.size
  | [], [], [], ps, h, x, hx => by have h : ps = [] := h; rw [h] at hx; cases hx
  | t :: ts, v :: vs, d :: ds, ps, h, x, hx => by
    obtain ⟨p, q, ⟨m, hm⟩, h2, rfl⟩ := h
    rcases List.mem_append.1 hx with hx | hx
    · exact DataW.trod_lt m _ _ _ hm x hx
    · exact trodAll_lt ts vs ds q h2 x hx
  | [], [], _ :: _, _, h, _, _ => h.elim
  | [], _ :: _, _, _, h, _, _ => h.elim
  | _ :: _, [], _, _, h, _, _ => h.elim
  | _ :: _, _ :: _, [], _, h, _, _ => h.elim
end

/-- A LAW's ROW OUT OF ITS CONTRACT: arguments of any readable types; the law returns true and leaves all that was there alone. -/
theorem law_contract {C : Checked} {f : FuncId} {fn : Func} {spec : ChangeSpec} {conds : List PathCond} {T : TypeId} {k : Nat} {H : Type} {enc : TypeId × Value → H}
    (hl : laidOutB C.prog = true) (hts : (fn.params.toList.all fun t => C.prog.readableRec t && decide (t < C.prog.types.size)) = true) (hk : fn.params.toList.length = k) (hres : fn.resultTypes = #[T]) (hT : C.prog.underlying T = some .bool)
    (hvars : spec.vars = []) (hspec : ∀ (H : Type) (ds : List (DataW H)), ds.length = k → spec.fn H ds = { results := [.lit (.bool true)], args := ds })
    (hwalk : ∀ (W : World) (base : Nat) (args : Array Value) (ds : List (DataW H)) (p : List MemPlace), (∀ (j : Nat) t v, fn.params.toList[j]? = some t → args.toList[j]? = some v → Value.okWide C.prog W .any base t v) →
      DataW.TrodAll enc C.prog W 0 (fun _ => true) true fn.params.toList args.toList ds p → Calls C.prog f args W fun e w' => e = .returned (.bool true) ∧ Below W.heap.size W w') :
    ∀ (W : World) (base : Nat) (args : Array Value) (ds gs : List (DataW H)) (before : List MemPlace),
      (∀ (j : Nat) t v, fn.params[j]? = some t → args[j]? = some v → Value.okWide C.prog W .any base t v) →
      DataW.Whole enc C.prog fn.params.toList spec.vars false W args.toList ds gs before →
      conds.all (PathCond.test C.prog ⟨fn.params.toList, ds, spec.plain.varTypes C.prog, gs⟩) = true →
      ({} : Assume).holds C.prog (lone (Frame.enter C.prog f args .normal) [] W) →
      Calls C.prog f args W fun e W' => ∃ v, e = .returned v ∧ spec.post enc C.prog fn false true false false W args v W' := by
  intro W base args ds gs before hval hW _ _
  have hW' := hW
  rw [hvars] at hW
  obtain ⟨p, q, hA, hV, rfl, hfz, hnd⟩ := hW
  obtain ⟨rfl, rfl⟩ := trodVars_none hV
  have hlen : ∀ (ts : List TypeId) (vs : List Value) (ds : List (DataW H)) (p : List MemPlace), DataW.TrodAll enc C.prog W 0 (fun _ => true) true ts vs ds p → ds.length = ts.length := by
    intro ts
    induction ts with
    | nil => intro vs ds p h; cases vs <;> cases ds <;> first | rfl | exact h.elim
    | cons t ts ih =>
      intro vs ds p h
      cases vs with
      | nil => exact h.elim
      | cons v vs =>
        cases ds with
        | nil => exact h.elim
        | cons d ds =>
          obtain ⟨_, _, _, h2, _⟩ := h
          simp [ih vs ds _ h2]
  refine (hwalk W base args ds p (fun j t v ht hv => hval j t v (by simpa using ht) (by simpa using hv)) hA).mono fun e W' ⟨he, bel⟩ => ?_
  subst he
  have e1 : spec.fn H (ds ++ []) = { results := [.lit (.bool true)], args := ds } := by rw [List.append_nil]; exact hspec H ds (by rw [hlen _ _ _ _ hA, hk])
  refine ⟨_, rfl, ds, [], _, [], p, [], hW', ?_, ?_, ?_, bel.frame _, fun h => by cases h⟩
  · rw [e1, hres]
    exact trodAll_mk1 (shut_bool hT _)
  · rw [e1]
    exact trodAll_below hl bel _ _ _ _ hts (trodAll_lt _ _ _ _ hA) hA
  · rw [hvars, e1]
    rfl
/-- The same for arguments of plain data. -/
theorem law_plain {C : Checked} {f : FuncId} {fn : Func} {spec : ChangeSpec} {conds : List PathCond} {T : TypeId} {k : Nat} {H : Type} {enc : TypeId × Value → H} {ks : List VK}
    (hl : laidOutB C.prog = true) (hts : (fn.params.toList.all fun t => C.prog.readableRec t && decide (t < C.prog.types.size)) = true) (hk : fn.params.toList.length = k) (hres : fn.resultTypes = #[T]) (hT : C.prog.underlying T = some .bool)
    (hvars : spec.vars = []) (hspec : ∀ (H : Type) (ds : List (DataW H)), ds.length = k → spec.fn H ds = { results := [.lit (.bool true)], args := ds })
    (hks : fn.params.toList.mapM (valKind C.prog 9) = some ks)
    (hwalk : ∀ (W : World) (args : List Value), FitsAll ks args → Calls C.prog f args.toArray W fun e w' => e = .returned (.bool true) ∧ Below W.heap.size W w') :
    ∀ (W : World) (base : Nat) (args : Array Value) (ds gs : List (DataW H)) (before : List MemPlace),
      (∀ (j : Nat) t v, fn.params[j]? = some t → args[j]? = some v → Value.okWide C.prog W .any base t v) →
      DataW.Whole enc C.prog fn.params.toList spec.vars false W args.toList ds gs before →
      conds.all (PathCond.test C.prog ⟨fn.params.toList, ds, spec.plain.varTypes C.prog, gs⟩) = true →
      ({} : Assume).holds C.prog (lone (Frame.enter C.prog f args .normal) [] W) →
      Calls C.prog f args W fun e W' => ∃ v, e = .returned v ∧ spec.post enc C.prog fn false true false false W args v W' :=
  law_contract hl hts hk hres hT hvars hspec fun W _ args _ _ hval hA => by
    have := hwalk W args.toList (fits_all _ _ _ _ _ hks hval hA)
    simpa using this

/-! ### open arguments -/
theorem fitsC_int {k : IntKind} {ks : List CK} {cs : List Value} (h : FitsC (.int k :: ks) cs) : ∃ n cs', cs = .int k n :: cs' ∧ (Lit.int k n).wf = true ∧ FitsC ks cs' := by
  cases cs with
  | nil => exact h.elim
  | cons v vs => obtain ⟨⟨n, rfl, hw⟩, h'⟩ := h; exact ⟨n, vs, rfl, hw, h'⟩
theorem fitsC_bool {ks : List CK} {cs : List Value} (h : FitsC (.bool :: ks) cs) : ∃ b cs', cs = .bool b :: cs' ∧ FitsC ks cs' := by
  cases cs with
  | nil => exact h.elim
  | cons v vs => obtain ⟨⟨n, rfl⟩, h'⟩ := h; exact ⟨n, vs, rfl, h'⟩
theorem fitsC_nil {cs : List Value} (h : FitsC [] cs) : cs = [] := by
  cases cs with
  | nil => rfl
  | cons => exact h.elim
theorem fitsV_int {k : IntKind} {v : Value} (h : FitsV (.one (.int k)) v) : ∃ n, v = .int k n ∧ (Lit.int k n).wf = true := h.1
theorem fitsV_bool {v : Value} (h : FitsV (.one .bool) v) : ∃ b, v = .bool b := h.1
theorem fitsAll_0 {vs : List Value} (h : FitsAll [] vs) : vs = [] := by
  cases vs with
  | nil => rfl
  | cons => exact h.elim
theorem fitsAll_s {k : VK} {ks : List VK} {vs : List Value} (h : FitsAll (k :: ks) vs) : ∃ v vs', vs = v :: vs' ∧ FitsV k v ∧ FitsAll ks vs' := by
  cases vs with
  | nil => exact h.elim
  | cons v vs => exact ⟨v, vs, rfl, h.1, h.2⟩
theorem fitsAll_1 {k0 : VK} {vs : List Value} (h : FitsAll [k0] vs) : ∃ v0, vs = [v0] ∧ FitsV k0 v0 := by
  obtain ⟨v, vs', rfl, h0, h⟩ := fitsAll_s h
  obtain rfl := fitsAll_0 h
  exact ⟨v, rfl, h0⟩
theorem fitsAll_2 {k0 k1 : VK} {vs : List Value} (h : FitsAll [k0, k1] vs) : ∃ v0 v1, vs = [v0, v1] ∧ FitsV k0 v0 ∧ FitsV k1 v1 := by
  obtain ⟨v, vs', rfl, h0, h⟩ := fitsAll_s h
  obtain ⟨u0, rfl, g0⟩ := fitsAll_1 h
  exact ⟨v, u0, rfl, h0, g0⟩
theorem fitsAll_3 {k0 k1 k2 : VK} {vs : List Value} (h : FitsAll [k0, k1, k2] vs) : ∃ v0 v1 v2, vs = [v0, v1, v2] ∧ FitsV k0 v0 ∧ FitsV k1 v1 ∧ FitsV k2 v2 := by
  obtain ⟨v, vs', rfl, h0, h⟩ := fitsAll_s h
  obtain ⟨u0, u1, rfl, g0, g1⟩ := fitsAll_2 h
  exact ⟨v, u0, u1, rfl, h0, g0, g1⟩
theorem fitsAll_4 {k0 k1 k2 k3 : VK} {vs : List Value} (h : FitsAll [k0, k1, k2, k3] vs) : ∃ v0 v1 v2 v3, vs = [v0, v1, v2, v3] ∧ FitsV k0 v0 ∧ FitsV k1 v1 ∧ FitsV k2 v2 ∧ FitsV k3 v3 := by
  obtain ⟨v, vs', rfl, h0, h⟩ := fitsAll_s h
  obtain ⟨u0, u1, u2, rfl, g0, g1, g2⟩ := fitsAll_3 h
  exact ⟨v, u0, u1, u2, rfl, h0, g0, g1, g2⟩
theorem fitsAll_5 {k0 k1 k2 k3 k4 : VK} {vs : List Value} (h : FitsAll [k0, k1, k2, k3, k4] vs) : ∃ v0 v1 v2 v3 v4, vs = [v0, v1, v2, v3, v4] ∧ FitsV k0 v0 ∧ FitsV k1 v1 ∧ FitsV k2 v2 ∧ FitsV k3 v3 ∧ FitsV k4 v4 := by
  obtain ⟨v, vs', rfl, h0, h⟩ := fitsAll_s h
  obtain ⟨u0, u1, u2, u3, rfl, g0, g1, g2, g3⟩ := fitsAll_4 h
  exact ⟨v, u0, u1, u2, u3, rfl, h0, g0, g1, g2, g3⟩
theorem fitsAll_6 {k0 k1 k2 k3 k4 k5 : VK} {vs : List Value} (h : FitsAll [k0, k1, k2, k3, k4, k5] vs) : ∃ v0 v1 v2 v3 v4 v5, vs = [v0, v1, v2, v3, v4, v5] ∧ FitsV k0 v0 ∧ FitsV k1 v1 ∧ FitsV k2 v2 ∧ FitsV k3 v3 ∧ FitsV k4 v4 ∧ FitsV k5 v5 := by
  obtain ⟨v, vs', rfl, h0, h⟩ := fitsAll_s h
  obtain ⟨u0, u1, u2, u3, u4, rfl, g0, g1, g2, g3, g4⟩ := fitsAll_5 h
  exact ⟨v, u0, u1, u2, u3, u4, rfl, h0, g0, g1, g2, g3, g4⟩
theorem fitsAll_7 {k0 k1 k2 k3 k4 k5 k6 : VK} {vs : List Value} (h : FitsAll [k0, k1, k2, k3, k4, k5, k6] vs) : ∃ v0 v1 v2 v3 v4 v5 v6, vs = [v0, v1, v2, v3, v4, v5, v6] ∧ FitsV k0 v0 ∧ FitsV k1 v1 ∧ FitsV k2 v2 ∧ FitsV k3 v3 ∧ FitsV k4 v4 ∧ FitsV k5 v5 ∧ FitsV k6 v6 := by
  obtain ⟨v, vs', rfl, h0, h⟩ := fitsAll_s h
  obtain ⟨u0, u1, u2, u3, u4, u5, rfl, g0, g1, g2, g3, g4, g5⟩ := fitsAll_6 h
  exact ⟨v, u0, u1, u2, u3, u4, u5, rfl, h0, g0, g1, g2, g3, g4, g5⟩
theorem fitsAll_8 {k0 k1 k2 k3 k4 k5 k6 k7 : VK} {vs : List Value} (h : FitsAll [k0, k1, k2, k3, k4, k5, k6, k7] vs) : ∃ v0 v1 v2 v3 v4 v5 v6 v7, vs = [v0, v1, v2, v3, v4, v5, v6, v7] ∧ FitsV k0 v0 ∧ FitsV k1 v1 ∧ FitsV k2 v2 ∧ FitsV k3 v3 ∧ FitsV k4 v4 ∧ FitsV k5 v5 ∧ FitsV k6 v6 ∧ FitsV k7 v7 := by
  obtain ⟨v, vs', rfl, h0, h⟩ := fitsAll_s h
  obtain ⟨u0, u1, u2, u3, u4, u5, u6, rfl, g0, g1, g2, g3, g4, g5, g6⟩ := fitsAll_7 h
  exact ⟨v, u0, u1, u2, u3, u4, u5, u6, rfl, h0, g0, g1, g2, g3, g4, g5, g6⟩
theorem fitsAll_9 {k0 k1 k2 k3 k4 k5 k6 k7 k8 : VK} {vs : List Value} (h : FitsAll [k0, k1, k2, k3, k4, k5, k6, k7, k8] vs) : ∃ v0 v1 v2 v3 v4 v5 v6 v7 v8, vs = [v0, v1, v2, v3, v4, v5, v6, v7, v8] ∧ FitsV k0 v0 ∧ FitsV k1 v1 ∧ FitsV k2 v2 ∧ FitsV k3 v3 ∧ FitsV k4 v4 ∧ FitsV k5 v5 ∧ FitsV k6 v6 ∧ FitsV k7 v7 ∧ FitsV k8 v8 := by
  obtain ⟨v, vs', rfl, h0, h⟩ := fitsAll_s h
  obtain ⟨u0, u1, u2, u3, u4, u5, u6, u7, rfl, g0, g1, g2, g3, g4, g5, g6, g7⟩ := fitsAll_8 h
  exact ⟨v, u0, u1, u2, u3, u4, u5, u6, u7, rfl, h0, g0, g1, g2, g3, g4, g5, g6, g7⟩

/-! ### contracts by name -/
def Con.add (Γ : Con) (f : FuncId) (g : List AV → Option R) : Con := fun f' args => match Nat.beq f' f with | true => g args | false => Γ f' args
def Con.none : Con := fun _ _ => Option.none
theorem conOk_none (P : Program) : ConOk P Con.none := fun _ _ _ h => by cases h
def ConAt (P : Program) (f : FuncId) (args : List AV) (r : R) : Prop := CallFun P f ∧ match r with
  | .val v => ∀ (E : Env) (w : World), Calls P f (AV.denL E args).toArray w fun e w' => e = .returned (v.den E) ∧ Below w.heap.size w w'
  | .chk p v => p → ∀ (E : Env) (w : World), Calls P f (AV.denL E args).toArray w fun e w' => e = .returned (v.den E) ∧ Below w.heap.size w w'
  | _ => True
theorem con_add {P : Program} {Γ : Con} {f : FuncId} {g : List AV → Option R} (hΓ : ConOk P Γ) (h : ∀ args r, g args = some r → ConAt P f args r) : ConOk P (Γ.add f g) := by
  intro f' args r hr
  unfold Con.add at hr
  split at hr
  · rename_i hb
    have e : f' = f := Nat.eq_of_beq_eq_true hb
    subst e
    have := h args r hr
    unfold ConAt at this
    exact this
  · exact hΓ f' args r hr
/-- The executor's one result, its known values as any others. -/
def collapseW (t : Tree (AV × Heap)) : Option R := (collapse t).map R.weak
/-- A contract out of the executor's one result. -/
theorem conAt_of {P : Program} {Γ : Con} (hΓ : ConOk P Γ) {n : Nat} {f : FuncId} {args : List AV} {r : R} (h : collapseW (execFn P Γ n 0 f args ⟨[], 0⟩) = some r) (ha : AV.flatL args = true) (hr : (match r with | .val v => v.flat | .chk _ v => v.flat | _ => false) = true) : ConAt P f args r := by
  unfold collapseW at h
  cases hc : collapse (execFn P Γ n 0 f args ⟨[], 0⟩) with
  | none => rw [hc] at h; cases h
  | some r0 =>
    rw [hc] at h
    have h : r0.weak = r := Option.some.inj h
    refine ⟨callKnown_execFn n 0 f args ⟨[], 0⟩ (fun e => by rw [e] at hc; cases hc), ?_⟩
    have := collapse_holds hc
    have wk : ∀ {v : AV}, ((execFn P Γ n 0 f args ⟨[], 0⟩).holds fun x => x.1.weak = v.weak) → (execFn P Γ n 0 f args ⟨[], 0⟩).holds fun x => x.1.weak = v.weak.weak := fun h => holds_mono (fun x hx => by rw [hx, weak_weak]) h
    subst h
    cases r0 with
    | val v => exact fun E w => calls_of_exec hΓ ha hr (wk this) E w
    | chk p v => exact fun hp E w => calls_of_exec hΓ ha hr (wk (this hp)) E w
    | new _ => trivial
    | st _ _ _ => trivial
    | bad => trivial
theorem conAt_val {P : Program} {f : FuncId} {args : List AV} {p : Prop} {v : AV} (h : ConAt P f args (.chk p v)) (hp : p) : ConAt P f args (.val v) := ⟨h.1, h.2 hp⟩
end Go.Sx
