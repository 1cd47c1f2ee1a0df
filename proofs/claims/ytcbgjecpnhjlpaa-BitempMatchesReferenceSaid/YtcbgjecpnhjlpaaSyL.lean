/-
  The executor is sound: a tree of results as one result; calls by contract.
-/
import Derived.Test.YtcbgjecpnhjlpaaSyK
set_option linter.unusedVariables false
namespace Go.Sy
open Go.RowKit
section
variable {P : Program} {X : List (Nat × Go.Obj)} {E : Env} {w0 w : World} {objs : List Obj} {n K : Nat}

/-- One way's result is what the one result says. -/
def Fits (K : Nat) (x : Eff) (y : AV × Heap) : Prop :=
  ∀ (X : List (Nat × Go.Obj)) (E1 : Env) (w0 w' : World), HeapOk X E1 w0 y.2 w' → ∃ E' : Env, (∀ k, k < K → E' k = E1 k) ∧ (∀ k, (E' k).oneCell' = true) ∧ x.v.den E' = y.1.den E1 ∧
    (∀ o ∈ x.add, BodyOk E' w' o.key o.own o.body) ∧ (∀ o ∈ x.add, ∀ b, blkO (E' o.key) = some b → w0.heap.size ≤ b) ∧
    (∀ o ∈ x.add, ∀ o' ∈ x.add, o.key ≠ o'.key → ∀ b, blkO (E' o.key) = some b → blkO (E' o'.key) ≠ some b)

theorem packO_spec {E1 : Env} {H : Heap} {w' : World} (hH : HeapOk X E1 w0 H w') : ∀ (acc : List (Option Nat)) (i : Nat) (add : List Obj), packO P K H.objs i acc = some add →
    ∀ o ∈ add, ∃ j c, acc[j]? = some c ∧ o.key = K + (i + j) ∧ o.ver = K ∧ o.own = true ∧ flatBody o.body = true ∧
      (∀ E' : Env, E' o.key = packVal E1 c → BodyOk E' w' o.key o.own o.body) ∧ (∀ b, blkO (packVal E1 c) = some b → w0.heap.size ≤ b) ∧ (∀ k, c = some k → ∃ ob ∈ H.objs, ob.key = k ∧ ob.own = true)
  | [], i, add, h => by cases h; simp
  | none :: r, i, add, h => by
    unfold packO at h
    cases hr : packO P K H.objs (i + 1) r with
    | none => rw [hr] at h; cases h
    | some add' =>
      rw [hr] at h
      cases h
      intro o ho
      rcases List.mem_cons.1 ho with rfl | ho
      · exact ⟨0, none, rfl, rfl, rfl, rfl, rfl, fun E' hE => hE, fun b hb => (by cases hb), fun k hk => (by cases hk)⟩
      · obtain ⟨j, c, h1, h2, h3⟩ := packO_spec hH r (i + 1) add' hr o ho
        exact ⟨j + 1, c, by simpa using h1, by rw [h2]; omega, h3⟩
  | some k :: r, i, add, h => by
    unfold packO at h
    split at h
    · rename_i k0 ver b hf
      obtain ⟨hm, hk⟩ := findObj_mem hf
      have hk : k0 = k := hk
      subst hk
      have hb := hH.objs _ hm
      have hhigh := hH.high _ hm rfl
      split at h
      · cases hr : packO P K H.objs (i + 1) r with
        | none => rw [hr] at h; cases h
        | some add' =>
          rw [hr] at h
          cases h
          intro o ho
          rcases List.mem_cons.1 ho with rfl | ho
          · refine ⟨0, some k0, rfl, rfl, rfl, rfl, rfl, fun E' hE => ?_, hhigh, fun k hk => by cases hk; exact ⟨_, hm, rfl, rfl⟩⟩
            have hb : E1 k0 = .slice none 0 0 := hb
            exact hE.trans hb
          · obtain ⟨j, c, h1, h2, h3⟩ := packO_spec hH r (i + 1) add' hr o ho
            exact ⟨j + 1, c, by simpa using h1, by rw [h2]; omega, h3⟩
      · split at h
        · rename_i e ks l hrow
          cases hr : packO P K H.objs (i + 1) r with
          | none => rw [hr] at h; cases h
          | some add' =>
            rw [hr] at h
            cases h
            intro o ho
            rcases List.mem_cons.1 ho with rfl | ho
            · refine ⟨0, some k0, rfl, rfl, rfl, rfl, rfl, fun E' hE => ?_, hhigh, fun k hk => by cases hk; exact ⟨_, hm, rfl, rfl⟩⟩
              show RowOk w' true e ks.length (E' (K + i)) l.length (rowV ks l)
              rw [hE]
              exact rowOf_row hrow hb
            · obtain ⟨j, c, h1, h2, h3⟩ := packO_spec hH r (i + 1) add' hr o ho
              exact ⟨j + 1, c, by simpa using h1, by rw [h2]; omega, h3⟩
        · cases h
    · cases h
theorem packO_keys {objs : List Obj} : ∀ (acc : List (Option Nat)) (i : Nat) (add : List Obj), packO P K objs i acc = some add → add.map (fun o => o.key) = (List.range acc.length).map (fun j => K + (i + j)) ∧ ∀ o ∈ add, o.ver = K ∧ flatBody o.body = true
  | [], i, add, h => by cases h; simp
  | c :: r, i, add, h => by
    have key : ∀ b : Body, flatBody b = true → ((packO P K objs (i + 1) r).map ((⟨K + i, K, true, b⟩ : Obj) :: ·)) = some add → add.map (fun o => o.key) = (List.range (c :: r).length).map (fun j => K + (i + j)) ∧ ∀ o ∈ add, o.ver = K ∧ flatBody o.body = true := by
      intro b hb h
      cases hr : packO P K objs (i + 1) r with
      | none => rw [hr] at h; cases h
      | some add' =>
        rw [hr] at h
        cases h
        obtain ⟨h1, h2⟩ := packO_keys r (i + 1) add' hr
        refine ⟨?_, fun o ho => ?_⟩
        · rw [List.map_cons, h1, List.length_cons, List.range_succ_eq_map, List.map_cons, List.map_map, Nat.add_zero]
          congr 1
          apply List.map_congr_left
          intro y _
          simp only [Function.comp]
          omega
        · rcases List.mem_cons.1 ho with rfl | ho
          · exact ⟨rfl, hb⟩
          · exact h2 o ho
    cases c with
    | none => exact key .nil rfl h
    | some k =>
      unfold packO at h
      split at h
      · split at h
        · exact key .nil rfl h
        · split at h
          · exact key _ rfl h
          · cases h
      · cases h

theorem pack_sound {y : AV × Heap} {x : Eff} (h : pack P K y = some x) : GiveWf K x ∧ Fits K x y := by
  unfold pack at h
  split at h
  case h_2 => cases h
  rename_i v acc hv
  cases hadd : packO P K y.2.objs 0 acc with
  | none => rw [hadd] at h; cases h
  | some add =>
  rw [hadd] at h
  cases h
  obtain ⟨hk1, hk2⟩ := packO_keys acc 0 add hadd
  refine ⟨⟨rfl, fun o ho => ?_, ?_, fun o ho => (hk2 o ho).2, (packV_sound (E1 := fun _ => .nilFunc) y.1 [] v acc hv).2.1, fun o ho => by rw [(hk2 o ho).1]; exact Nat.le_refl _⟩, fun X E1 w0 w' hH => ?_⟩
  · have : o.key ∈ add.map fun o => o.key := List.mem_map.2 ⟨o, ho, rfl⟩
    rw [hk1] at this
    obtain ⟨j, hj, he⟩ := List.mem_map.1 this
    have := List.mem_range.1 hj
    simp only []
    omega
  · show (add.map fun o => o.key).Nodup
    rw [hk1]
    exact List.Pairwise.map _ (fun a b hab => by omega) List.nodup_range
  · obtain ⟨p1, p2, p3⟩ := packV_sound (E1 := E1) y.1 [] v acc hv
    let E' : Env := fun k => if k < K then E1 k else match acc[k - K]? with | some c => packVal E1 c | none => .nilFunc
    have hE1 : ∀ k, k < K → E' k = E1 k := fun k hk => if_pos hk
    have hE2 : ∀ (i : Nat) o, acc[i]? = some o → E' (K + i) = packVal E1 o := fun i o hi => by
      show (if K + i < K then _ else _) = _
      rw [if_neg (by omega), show K + i - K = i from by omega, hi]
    have spec := packO_spec (P := P) (K := K) hH acc 0 add hadd
    have hnd := p1.nodup (by simp)
    refine ⟨E', hE1, fun k => ?_, p3 E' hE1 hE2, fun o ho => ?_, fun o ho b hb => ?_, fun o ho o' ho' hne b hb hb' => ?_⟩
    · show (if k < K then E1 k else _).oneCell' = true
      split
      · exact hH.env k
      · split
        · rename_i c _
          cases c with
          | none => rfl
          | some k' => exact hH.env k'
        · rfl
    · obtain ⟨j, c, h1, h2, _, _, _, h3, _⟩ := spec o ho
      exact h3 E' (by rw [h2, Nat.zero_add]; exact hE2 j c h1)
    · obtain ⟨j, c, h1, h2, _, _, _, _, h3, _⟩ := spec o ho
      rw [h2, Nat.zero_add, hE2 j c h1] at hb
      exact h3 b hb
    · obtain ⟨j, c, h1, h2, _, _, _, _, _, h4⟩ := spec o ho
      obtain ⟨j', c', h1', h2', _, _, _, _, _, h4'⟩ := spec o' ho'
      rw [h2, Nat.zero_add, hE2 j c h1] at hb
      rw [h2', Nat.zero_add, hE2 j' c' h1'] at hb'
      cases c with
      | none => cases hb
      | some k =>
        cases c' with
        | none => cases hb'
        | some k' =>
          obtain ⟨ob, hob, rfl, hown⟩ := h4 k rfl
          obtain ⟨ob', hob', rfl, _⟩ := h4' k' rfl
          by_cases hkk : ob.key = ob'.key
          · rw [← hkk] at h1'
            have := hnd j j' _ h1 h1'
            exact hne (by rw [h2, h2', this])
          · exact hH.inj ob hob ob' hob' hown hkk b hb hb'

/-! ### two ways' results as one -/
mutual
theorem merge_eq {b : Bool} : ∀ {x y z : AV}, merge b x y = some z → (b = true → z = x) ∧ (b = false → z = y)
  | .bool x, .bool y, z, h => by cases h; cases b <;> simp
  | .int k x, .int k' y, z, h => by
    unfold merge at h
    split at h
    · rename_i hk; subst hk; cases h; cases b <;> simp
    · cases h
  | .agg xs, .agg ys, z, h => by
    unfold merge at h
    cases hm : mergeL b xs ys with
    | none => simp [hm] at h
    | some zs =>
      simp only [hm, Option.map_some, Option.some.injEq] at h
      subst h
      have := mergeL_eq hm
      exact ⟨fun hb => by rw [this.1 hb], fun hb => by rw [this.2 hb]⟩
  | .tup xs, .tup ys, z, h => by
    unfold merge at h
    cases hm : mergeL b xs ys with
    | none => simp [hm] at h
    | some zs =>
      simp only [hm, Option.map_some, Option.some.injEq] at h
      subst h
      have := mergeL_eq hm
      exact ⟨fun hb => by rw [this.1 hb], fun hb => by rw [this.2 hb]⟩
  | .sl x, .sl y, z, h => by
    unfold merge at h
    split at h
    · rename_i hk; subst hk; cases h; simp
    · cases h
  | .bool _, .int _ _, _, h | .bool _, .ptr _ _, _, h | .bool _, .val _, _, h | .bool _, .fn _ _ _, _, h | .bool _, .agg _, _, h | .bool _, .tup _, _, h | .bool _, .sl _, _, h | .bool _, .ix _ _ _ _ _, _, h | .bool _, .yl _, _, h | .bool _, .vw _ _ _ _, _, h => by simp [merge] at h
  | .int _ _, .bool _, _, h | .int _ _, .ptr _ _, _, h | .int _ _, .val _, _, h | .int _ _, .fn _ _ _, _, h | .int _ _, .agg _, _, h | .int _ _, .tup _, _, h | .int _ _, .sl _, _, h | .int _ _, .ix _ _ _ _ _, _, h | .int _ _, .yl _, _, h | .int _ _, .vw _ _ _ _, _, h => by simp [merge] at h
  | .ptr _ _, _, _, h | .val _, _, _, h | .fn _ _ _, _, _, h | .ix _ _ _ _ _, _, _, h | .yl _, _, _, h | .vw _ _ _ _, _, _, h => by simp [merge] at h
  | .agg _, .bool _, _, h | .agg _, .int _ _, _, h | .agg _, .ptr _ _, _, h | .agg _, .val _, _, h | .agg _, .fn _ _ _, _, h | .agg _, .tup _, _, h | .agg _, .sl _, _, h | .agg _, .ix _ _ _ _ _, _, h | .agg _, .yl _, _, h | .agg _, .vw _ _ _ _, _, h => by simp [merge] at h
  | .tup _, .bool _, _, h | .tup _, .int _ _, _, h | .tup _, .ptr _ _, _, h | .tup _, .val _, _, h | .tup _, .fn _ _ _, _, h | .tup _, .agg _, _, h | .tup _, .sl _, _, h | .tup _, .ix _ _ _ _ _, _, h | .tup _, .yl _, _, h | .tup _, .vw _ _ _ _, _, h => by simp [merge] at h
  | .sl _, .bool _, _, h | .sl _, .int _ _, _, h | .sl _, .ptr _ _, _, h | .sl _, .val _, _, h | .sl _, .fn _ _ _, _, h | .sl _, .tup _, _, h | .sl _, .agg _, _, h | .sl _, .ix _ _ _ _ _, _, h | .sl _, .yl _, _, h | .sl _, .vw _ _ _ _, _, h => by simp [merge] at h
theorem mergeL_eq {b : Bool} : ∀ {x y z : List AV}, mergeL b x y = some z → (b = true → z = x) ∧ (b = false → z = y)
  | [], [], z, h => by cases h; simp
  | x :: xs, y :: ys, z, h => by
    unfold mergeL at h
    split at h
    · rename_i u us h1 h2
      cases h
      have e1 := merge_eq h1
      have e2 := mergeL_eq h2
      exact ⟨fun hb => by rw [e1.1 hb, e2.1 hb], fun hb => by rw [e1.2 hb, e2.2 hb]⟩
    · cases h
  | [], _ :: _, _, h | _ :: _, [], _, h => by simp [mergeL] at h
end
/-- A body that says no more: nil as an empty row. -/
def BodyLe (x z : Body) : Prop := z = x ∨ (x = .nil ∧ ∃ e ks, z = .row e ks [])
theorem bodyOk_nilRow {E : Env} {w : World} {key : Nat} {own : Bool} {e : TypeId} {ks : List CK} (h : E key = .slice none 0 0) : BodyOk E w key own (.row e ks []) := by
  show RowOk w own e ks.length (E key) 0 []
  rw [h]
  exact ⟨⟨⟨none, 0, rfl, Nat.le_refl _, Nat.zero_le _⟩, by simp, fun b hb => by cases hb⟩, by simp, fun _ => .inl ⟨none, rfl, rfl⟩⟩
theorem BodyLe.ok {E : Env} {w : World} {key : Nat} {own : Bool} {x z : Body} (h : BodyLe x z) (hx : BodyOk E w key own x) : BodyOk E w key own z := by
  rcases h with rfl | ⟨rfl, e, ks, rfl⟩
  · exact hx
  · exact bodyOk_nilRow hx
theorem mergeB_le {b : Bool} {x y z : Body} (h : mergeB b x y = some z) : (b = true → BodyLe x z) ∧ (b = false → BodyLe y z) ∧ flatBody z = true := by
  unfold mergeB at h
  split at h
  · cases h; exact ⟨fun _ => .inl rfl, fun _ => .inl rfl, rfl⟩
  · cases h; exact ⟨fun hb => .inr ⟨rfl, _, _, by rw [hb]; rfl⟩, fun hb => .inl (by rw [hb]; rfl), rfl⟩
  · cases h; exact ⟨fun hb => .inl (by rw [hb]; rfl), fun hb => .inr ⟨rfl, _, _, by rw [hb]; rfl⟩, rfl⟩
  · split at h
    · rename_i hc
      obtain ⟨rfl, rfl⟩ := hc
      cases h
      exact ⟨fun hb => .inl (by rw [hb]; rfl), fun hb => .inl (by rw [hb]; rfl), rfl⟩
    · cases h
  · cases h
/-- Objects that say no more. -/
def ObjsLe (xs zs : List Obj) : Prop := ∀ z ∈ zs, ∃ x ∈ xs, x.key = z.key ∧ x.own = z.own ∧ BodyLe x.body z.body
theorem mergeO_le {b : Bool} : ∀ {xs ys zs : List Obj}, mergeO b xs ys = some zs → (b = true → ObjsLe xs zs) ∧ (b = false → ObjsLe ys zs) ∧ zs.map (fun o => (o.key, o.ver)) = xs.map (fun o => (o.key, o.ver)) ∧ (∀ o ∈ zs, flatBody o.body = true)
  | [], [], zs, h => by
    cases h
    refine ⟨fun _ z hz => ?_, fun _ z hz => ?_, rfl, fun z hz => ?_⟩ <;> cases hz
  | ⟨k, v, true, x⟩ :: xs, ⟨k', v', true, y⟩ :: ys, zs, h => by
    unfold mergeO at h
    split at h
    · rename_i hk
      subst hk
      split at h
      · rename_i z zs' h1 h2
        cases h
        obtain ⟨a1, a2, a3⟩ := mergeB_le h1
        obtain ⟨b1, b2, b3, b4⟩ := mergeO_le h2
        refine ⟨fun hb o ho => ?_, fun hb o ho => ?_, by simp [b3], fun o ho => ?_⟩
        · rcases List.mem_cons.1 ho with rfl | ho
          · exact ⟨_, List.mem_cons_self, rfl, rfl, a1 hb⟩
          · obtain ⟨p, q, r⟩ := b1 hb o ho; exact ⟨p, List.mem_cons_of_mem _ q, r⟩
        · rcases List.mem_cons.1 ho with rfl | ho
          · exact ⟨_, List.mem_cons_self, rfl, rfl, a2 hb⟩
          · obtain ⟨p, q, r⟩ := b2 hb o ho; exact ⟨p, List.mem_cons_of_mem _ q, r⟩
        · rcases List.mem_cons.1 ho with rfl | ho
          · exact a3
          · exact b4 o ho
      · cases h
    · cases h
  | [], _ :: _, _, h => by simp [mergeO] at h
  | ⟨_, _, true, _⟩ :: _, [], _, h => by simp [mergeO] at h
  | ⟨_, _, false, _⟩ :: _, [], _, h => by simp [mergeO] at h
  | ⟨_, _, false, _⟩ :: _, _ :: _, _, h => by simp [mergeO] at h
  | ⟨_, _, true, _⟩ :: _, ⟨_, _, false, _⟩ :: _, _, h => by simp [mergeO] at h
theorem Fits.le {x z : Eff} {y : AV × Heap} (h : Fits K x y) (hv : ∀ E, z.v.den E = x.v.den E) (ha : ObjsLe x.add z.add) : Fits K z y := by
  intro X E1 w0 w' hH
  obtain ⟨E', h1, h2, h3, h4, h5, h6⟩ := h X E1 w0 w' hH
  refine ⟨E', h1, h2, by rw [hv]; exact h3, fun o ho => ?_, fun o ho => ?_, fun o ho o' ho' hne => ?_⟩
  · obtain ⟨x, hx, e1, e2, e3⟩ := ha o ho
    have := h4 x hx
    rw [e1, e2] at this
    exact e3.ok this
  · obtain ⟨x, hx, e1, e2, e3⟩ := ha o ho
    rw [← e1]; exact h5 x hx
  · obtain ⟨x, hx, e1, e2, e3⟩ := ha o ho
    obtain ⟨x', hx', e1', e2', e3'⟩ := ha o' ho'
    rw [← e1, ← e1']
    exact h6 x hx x' hx' (by rw [e1, e1']; exact hne)

theorem mergeE_sound {b : Bool} {x y z : Eff} (hx : GiveWf K x) (hy : GiveWf K y) (h : mergeE b x y = some z) :
    GiveWf K z ∧ (z.holds → (b = true → x.holds) ∧ (b = false → y.holds)) ∧ (∀ u, b = true → Fits K x u → Fits K z u) ∧ (∀ u, b = false → Fits K y u → Fits K z u) := by
  unfold mergeE at h
  split at h
  case h_2 => cases h
  rename_i v add hv ha
  split at h
  case isFalse => cases h
  rename_i hc
  rw [Bool.and_eq_true, Bool.and_eq_true] at hc
  have hnk : x.nk = y.nk := Nat.eq_of_beq_eq_true hc.2
  cases h
  have hm := merge_eq hv
  obtain ⟨m1, m2, m3, m4⟩ := mergeO_le ha
  have hkeys : add.map (fun o => o.key) = x.add.map fun o => o.key := by
    have := congrArg (List.map (fun p : Nat × Nat => p.1)) m3
    simpa [List.map_map, Function.comp_def] using this
  have hvers : ∀ o ∈ add, ∃ o' ∈ x.add, o'.key = o.key ∧ o'.ver = o.ver := by
    intro o ho
    have : (o.key, o.ver) ∈ add.map fun o => (o.key, o.ver) := List.mem_map.2 ⟨o, ho, rfl⟩
    rw [m3] at this
    obtain ⟨o', ho', he⟩ := List.mem_map.1 this
    exact ⟨o', ho', (Prod.mk.inj he).1, (Prod.mk.inj he).2⟩
  refine ⟨⟨rfl, fun o ho => ?_, by show (add.map _).Nodup; rw [hkeys]; exact hx.uniq, m4, ?_, fun o ho => ?_⟩, fun hp => ?_, fun u hb hf => ?_, fun u hb hf => ?_⟩
  · obtain ⟨o', ho', e1, _⟩ := hvers o ho
    rw [← e1]; exact hx.key o' ho'
  · show AV.lt (K + x.nk) v
    cases b with
    | true => rw [hm.1 rfl]; exact all_weak _ hx.val
    | false => rw [hm.2 rfl, hnk]; exact all_weak _ hy.val
  · obtain ⟨o', ho', _, e2⟩ := hvers o ho
    rw [← e2]; exact hx.ver o' ho'
  · have hp : match mergeP b x.p y.p with | none => True | some p => p := hp
    cases hxp : x.p with
    | none => cases hyp : y.p with
      | none => simp [Eff.holds, hxp, hyp]
      | some q => rw [hxp, hyp] at hp; exact ⟨fun _ => by simp [Eff.holds, hxp], fun hb => by simp only [Eff.holds, hyp]; exact hp hb⟩
    | some p => cases hyp : y.p with
      | none => rw [hxp, hyp] at hp; exact ⟨fun hb => by simp only [Eff.holds, hxp]; exact hp hb, fun _ => by simp [Eff.holds, hyp]⟩
      | some q => rw [hxp, hyp] at hp; exact ⟨fun hb => by simp only [Eff.holds, hxp]; exact hp.1 hb, fun hb => by simp only [Eff.holds, hyp]; exact hp.2 hb⟩
  · exact hf.le (fun E => by show v.den E = x.v.den E; rw [hm.1 hb, den_weak]) (m1 hb)
  · exact hf.le (fun E => by show v.den E = y.v.den E; rw [hm.2 hb, den_weak]) (m2 hb)

theorem sameB_le {x y : Body} {q : Prop} (h : sameB x y = some q) (hq : q) : BodyLe x y := by
  unfold sameB at h
  split at h
  · exact .inl rfl
  · cases h; subst hq; exact .inr ⟨rfl, _, _, rfl⟩
  · split at h
    · rename_i hc
      obtain ⟨rfl, rfl⟩ := hc
      cases h; subst hq; exact .inl rfl
    · cases h
  · cases h
theorem sameO_le : ∀ {xs ys : List Obj} {q : Prop}, sameO xs ys = some q → q → ObjsLe xs ys
  | [], [], q, h, _ => fun z hz => by cases hz
  | ⟨k, v, true, x⟩ :: xs, ⟨k', v', true, y⟩ :: ys, q, h, hq => by
    unfold sameO at h
    split at h
    · rename_i hk
      subst hk
      split at h
      · rename_i p1 q1 h1 h2
        cases h
        intro o ho
        rcases List.mem_cons.1 ho with rfl | ho
        · exact ⟨_, List.mem_cons_self, rfl, rfl, sameB_le h1 hq.1⟩
        · obtain ⟨p, q, r⟩ := sameO_le h2 hq.2 o ho; exact ⟨p, List.mem_cons_of_mem _ q, r⟩
      · cases h
    · cases h
  | [], _ :: _, _, h, _ => by simp [sameO] at h
  | ⟨_, _, true, _⟩ :: _, [], _, h, _ => by simp [sameO] at h
  | ⟨_, _, false, _⟩ :: _, [], _, h, _ => by simp [sameO] at h
  | ⟨_, _, false, _⟩ :: _, _ :: _, _, h, _ => by simp [sameO] at h
  | ⟨_, _, true, _⟩ :: _, ⟨_, _, false, _⟩ :: _, _, h, _ => by simp [sameO] at h
theorem sameV_den {x y : AV} (h : sameV x y = true) (E : Env) : y.den E = x.den E := by
  unfold sameV at h
  split at h
  · rw [Nat.eq_of_beq_eq_true h]
  · cases h
theorem andP_holds {p : Prop} {x : Eff} (h : ({ x with p := andP p x.p } : Eff).holds) : p ∧ x.holds := by
  have hp : match andP p x.p with | none => True | some p => p := h
  cases hx : x.p with
  | none => rw [hx] at hp; exact ⟨hp, by simp [Eff.holds, hx]⟩
  | some q => rw [hx] at hp; exact ⟨hp.1, by simp only [Eff.holds, hx]; exact hp.2⟩
theorem collapse_sound : ∀ {t : Tree (AV × Heap)} {x : Eff}, collapse P K t = some x → GiveWf K x ∧ (x.holds → t.holds (Fits K x))
  | .ret y, x, h => by
    obtain ⟨h1, h2⟩ := pack_sound h
    exact ⟨h1, fun _ => h2⟩
  | .br b t e, x, h => by
    unfold collapse at h
    split at h
    · rename_i x1 x2 h1 h2
      obtain ⟨a1, a2⟩ := collapse_sound h1
      obtain ⟨b1, b2⟩ := collapse_sound h2
      obtain ⟨m1, m2, m3, m4⟩ := mergeE_sound a1 b1 h
      exact ⟨m1, fun hp => ⟨fun hb => holds_mono (fun u hu => m3 u hb hu) (a2 ((m2 hp).1 hb)), fun hb => holds_mono (fun u hu => m4 u hb hu) (b2 ((m2 hp).2 hb))⟩⟩
    · rename_i x1 h1 h2
      split at h
      · cases h
        obtain ⟨a1, a2⟩ := collapse_sound h1
        refine ⟨⟨a1.rm, a1.key, a1.uniq, a1.flat, a1.val, a1.ver⟩, fun hp => ?_⟩
        obtain ⟨q1, q2⟩ := andP_holds hp
        exact ⟨fun _ => a2 q2, fun hb => by rw [q1] at hb; cases hb⟩
      · cases h
    · rename_i y1 h1 h2
      split at h
      · cases h
        obtain ⟨a1, a2⟩ := collapse_sound h2
        refine ⟨⟨a1.rm, a1.key, a1.uniq, a1.flat, a1.val, a1.ver⟩, fun hp => ?_⟩
        obtain ⟨q1, q2⟩ := andP_holds hp
        exact ⟨fun hb => absurd (q1.symm.trans hb) (by simp), fun _ => a2 q2⟩
      · cases h
    · cases h
  | .need p t, x, h => by
    unfold collapse at h
    cases hc : collapse P K t with
    | none => rw [hc] at h; cases h
    | some x0 =>
      rw [hc] at h
      cases h
      obtain ⟨a1, a2⟩ := collapse_sound hc
      refine ⟨⟨a1.rm, a1.key, a1.uniq, a1.flat, a1.val, a1.ver⟩, fun hp => ?_⟩
      have hp : match andP p x0.p with | none => True | some p => p := hp
      cases hx : x0.p with
      | none => rw [hx] at hp; exact ⟨hp, a2 (by simp [Eff.holds, hx])⟩
      | some q => rw [hx] at hp; exact ⟨hp.1, a2 (by simp only [Eff.holds, hx]; exact hp.2)⟩
  | .ask p t e, x, h => by
    unfold collapse at h
    split at h
    · rename_i x1 y1 h1 h2
      obtain ⟨a1, a2⟩ := collapse_sound h1
      obtain ⟨b1, b2⟩ := collapse_sound h2
      unfold askE at h
      split at h
      · rename_i q hq
        split at h
        · rename_i hc
          rw [Bool.and_eq_true] at hc
          cases h
          refine ⟨⟨b1.rm, b1.key, b1.uniq, b1.flat, b1.val, b1.ver⟩, fun hp => ?_⟩
          obtain ⟨q1, q2⟩ := andP_holds hp
          refine ⟨fun hpp => ?_, b2 q2⟩
          obtain ⟨q3, q4⟩ := q1 hpp
          have hx : x1.holds := by
            unfold Eff.holds
            unfold holdsO at q3
            cases hxp : x1.p with
            | none => trivial
            | some r => rw [hxp] at q3; exact q3
          exact holds_mono (fun u hu => Fits.le hu (fun E => sameV_den hc.1 E) (sameO_le hq q4)) (a2 hx)
        · cases h
      · cases h
    · cases h
  | .bad, x, h => by cases h

theorem HeapOk.frozen {H : Heap} (h : HeapOk X E w0 H w) : HeapOk X E w ⟨frozen H.objs, H.next⟩ w := by
  have mem : ∀ o ∈ Sy.frozen H.objs, ∃ o' ∈ H.objs, o = { o' with own := false } := fun o ho => by
    obtain ⟨o', ho', rfl⟩ := List.mem_map.1 ho
    exact ⟨o', ho', rfl⟩
  refine ⟨Blw.refl _ _, h.env, ?_, ?_, ?_, ?_, ?_, ?_⟩
  · intro o ho
    obtain ⟨o', ho', rfl⟩ := mem o ho
    have := h.objs o' ho'
    obtain ⟨k, v, own, b⟩ := o'
    cases b with
    | cells => exact this
    | row e ks l => exact ⟨this.reads, this.len, fun h => by cases h⟩
    | arr e sz els => exact ⟨⟨this.1.reads, this.1.len, fun h => by cases h⟩, this.2⟩
    | nil => exact this
    | mp => exact this
    | fin => exact this
    | loop => exact this
  · intro o ho hown; obtain ⟨o', ho', rfl⟩ := mem o ho; cases hown
  · intro o ho o2 ho2 hown; obtain ⟨o', ho', rfl⟩ := mem o ho; cases hown
  · intro o ho o2 ho2 hk
    obtain ⟨o', ho', rfl⟩ := mem o ho
    obtain ⟨o2', ho2', rfl⟩ := mem o2 ho2
    have := h.uniq o' ho' o2' ho2' hk
    rw [this]
  · intro o ho; obtain ⟨o', ho', rfl⟩ := mem o ho; exact h.lt o' ho'
  · intro y hy
    refine ⟨(h.prot y hy).1, fun o ho => ?_⟩
    obtain ⟨o', ho', rfl⟩ := mem o ho; exact (h.prot y hy).2 o' ho'

/-- A call in place as one result. -/
theorem collapse_call {call : CallFn} (hcall : CallOk P call) {f : FuncId} {args : List AV} {H : Heap} {x : Eff} (h : collapse P H.next (call f args ⟨frozen H.objs, H.next⟩) = some x) (hH : HeapOk X E w0 H w) (hargs : AV.ltL H.next args) :
    GiveWf H.next x ∧ (x.holds → Calls P f (AV.denL E args).toArray w fun e w' => ∃ E', e = .returned (x.v.den E') ∧ Gives E w H.next x E' w') := by
  obtain ⟨h1, h2⟩ := collapse_sound h
  refine ⟨h1, fun hp => ?_⟩
  refine hcall X w f args ⟨frozen H.objs, H.next⟩ E w _ hH.frozen hargs (holds_mono (fun y hy => ?_) (h2 hp))
  intro E1 w' hE hH' _ _ _
  obtain ⟨E', e1, e2, e3, e4, e5, e6⟩ := hy X E1 w w' hH'
  exact ⟨E', by rw [e3], fun k hk => by rw [e1 k hk, hE k hk], e2, hH'.below, e4, e5, e6⟩
end
end Go.Sy
