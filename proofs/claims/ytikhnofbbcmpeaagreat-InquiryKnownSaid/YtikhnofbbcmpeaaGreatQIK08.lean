/- Several texts in one (wip/pack.py): XInqPj XInqPk XInqPl XInqPm XInqQ0 XInqQKnown. -/
import Derived.Test.YtikhnofbbcmpeaaGreatQIK05
import Derived.Test.YtikhnofbbcmpeaaGreatQIK07
set_option linter.unusedVariables false
set_option maxRecDepth 100000
namespace Go.Proofs.YtikhnofbbcmpeaaGreat
open Go Go.Sy
def riseF (cf : List Int → List Int → Int) : List (List Int) → Bool
  | x :: y :: r => decide (cf x y < 0) && riseF cf (y :: r)
  | _ => true
theorem riseF_iff (cf : List Int → List Int → Int) : ∀ l : List (List Int), riseF cf l = true ↔ ∀ i (h : i + 1 < l.length), cf l[i] l[i + 1] < 0
  | [] => ⟨fun _ i h => by simp at h, fun _ => rfl⟩
  | [x] => ⟨fun _ i h => by simp at h, fun _ => rfl⟩
  | x :: y :: r => by
    show (decide (cf x y < 0) && riseF cf (y :: r)) = true ↔ _
    rw [Bool.and_eq_true, decide_eq_true_eq, riseF_iff cf (y :: r)]
    constructor
    · rintro ⟨h1, h2⟩ i hi
      cases i with
      | zero => exact h1
      | succ i => exact h2 i (by simpa using hi)
    · intro h
      exact ⟨h 0 (by simp), fun i hi => h (i + 1) (by simpa using hi)⟩
theorem rise_loop {step : List U → Option (Nat × List U)} {l : List (List Int)} {cf : List Int → List Int → Int} (m : Nat) (hs : ∀ i (hi : i + 1 < l.length), step [.b false, .i ((i + 1 : Nat) : Int)] = bif decide (cf l[i] l[i + 1] ≥ 0) then some (1, []) else some (0, [.b false, .i ((i + 1 + 1 : Nat) : Int)]))
    (he : ∀ n : Nat, ¬ ((n : Int) < (l.length : Int)) → step [.b false, .i n] = some (m + 2, [.b false, .i n])) {init : List U} (hi : init = [.b false, .i ((0 + 1 : Nat) : Int)]) :
    loopOk step init ∧ (bif (loopGet step init).fst.beq 1 then false else true) = riseF cf l := by
  subst hi
  obtain ⟨h1, h2⟩ := loop_search (step := step) (l.length - 1) (fun i => decide (cf (l.getD i []) (l.getD (i + 1) []) ≥ 0)) (fun i => [.b false, .i ((i + 1 : Nat) : Int)]) (fun i => []) 0 (m + 1) [.b false, .i ((l.length - 1 + 1 : Nat) : Int)]
    (fun i hi => by rw [hs i (by omega), getD_at (by omega), getD_at (by omega)]) (he _ (by omega))
  refine ⟨h1, ?_⟩
  rcases h2 with ⟨i, hi, hp, _, hg⟩ | ⟨hn, hg⟩
  · rw [hg]
    rw [getD_at (by omega), getD_at (by omega)] at hp
    have : riseF cf l = false := by
      cases hr : riseF cf l with
      | false => rfl
      | true =>
        have := (riseF_iff cf l).1 hr i (by omega)
        have := of_decide_eq_true hp
        omega
    rw [this]; rfl
  · rw [hg]
    have : riseF cf l = true := (riseF_iff cf l).2 fun i hi => by
      have := hn i (by omega)
      rw [getD_at (by omega), getD_at hi] at this
      have := of_decide_eq_false this
      omega
    rw [this]; rfl
def canF (g o : List Int) : Bool :=
  bif col o 0 == 1 && (col o 1 == 0 && (col o 2 == col g 1 && true)) then col g 2 != 0 else bif col o 0 == 2 && (col o 1 == col g 0 && (col o 2 == 0 && true)) then col g 3 != 0 else col o 0 == 3 && (col o 1 == col g 0 && (col o 2 == col g 1 && true))
def keyB (g p : List Int) : Bool := col g 0 == col p 0 && (col g 1 == col p 1 && true)
def verL (om pr : List (List Int)) : List (List Int) → List (List Int) → Option (List (List Int))
  | named, [] => some named
  | named, g :: r => if (om.any (canF g)) = true then (if pr.any (keyB g) = true then (if named.any (fun h => !apF g h) = true then none else verL om pr (named ++ [g]) r) else verL om pr named r) else none
noncomputable def verF (gs om pr : List (List Int)) : Bool := om.length == pr.length && riseF cfO om && riseF cfG pr && (match verL om pr [] gs with | some named => named.length == pr.length | none => false)
section
variable {ow t delay : Int} {office ships list om pr : List (List Int)}
theorem ver_case : inquiry_Verify_l0_step ow t delay office ships list om pr = inquiry_Gaps_l0_step ow t delay office ships list ∧ inquiry_Verify_l0_init ow t delay office ships list om pr = inquiry_Gaps_l0_init ow t delay office ships list ∧ inquiry_Verify_l0 ow t delay office ships list om pr = inquiry_Gaps_l0 ow t delay office ships list ∧
    inquiry_Verify_l1_step ow t delay office ships list om pr = inquiry_Gaps_l1_step ow t delay office ships list ∧ inquiry_Verify_l1_init ow t delay office ships list om pr = inquiry_Gaps_l1_init ow t delay office ships list ∧ inquiry_Verify_l1 ow t delay office ships list om pr = inquiry_Gaps_l1 ow t delay office ships list := ⟨rfl, rfl, rfl, rfl, rfl, rfl⟩
theorem ver2_is (hom : om.length ≤ 9223372036854775807) : loopOk (inquiry_Verify_l2_step ow t delay office ships list om pr) (inquiry_Verify_l2_init ow t delay office ships list om pr) ∧ (bif (inquiry_Verify_l2 ow t delay office ships list om pr).fst.beq 1 then false else true) = riseF cfO om :=
  rise_loop (cf := cfO) 1 (fun i hi => by
      unfold inquiry_Verify_l2_step inquiry_Verify_s1
      have hw : IntKind.i64.wrap (((i + 1 : Nat) : Int) - 1) = ((i : Nat) : Int) := by rw [i64_wrap (by omega)]; omega
      simp only [gi_1, gi_z, gb_z, hw]
      rw [decide_eq_true (by omega), cond_true, guardP_true (inR_of (by omega)), guardP_true (inR_of (by omega)), guardP_true (inR_of hi), guardP_true (inR_of hi), guardP_true (compare_is _ _ _ _ _ _).1, getI_at hi, getI_at (show i < om.length by omega), wrapS (by omega)]
      rfl)
    (fun n hn => by
      unfold inquiry_Verify_l2_step
      simp only [gi_1, gi_z, gb_z]
      rw [decide_eq_false hn]; rfl) rfl
theorem ver3_is (hpr : pr.length ≤ 9223372036854775807) : loopOk (inquiry_Verify_l3_step ow t delay office ships list om pr) (inquiry_Verify_l3_init ow t delay office ships list om pr) ∧ (bif (inquiry_Verify_l3 ow t delay office ships list om pr).fst.beq 1 then false else true) = riseF cfG pr :=
  rise_loop (cf := cfG) 1 (fun i hi => by
      unfold inquiry_Verify_l3_step inquiry_Verify_s2
      have hw : IntKind.i64.wrap (((i + 1 : Nat) : Int) - 1) = ((i : Nat) : Int) := by rw [i64_wrap (by omega)]; omega
      simp only [gi_1, gi_z, gb_z, hw]
      rw [decide_eq_true (by omega), cond_true, guardP_true (inR_of (by omega)), guardP_true (inR_of (by omega)), guardP_true (inR_of hi), guardP_true (inR_of hi), guardP_true (order_is _ _ _ _).1, getI_at hi, getI_at (show i < pr.length by omega), wrapS (by omega)]
      rfl)
    (fun n hn => by
      unfold inquiry_Verify_l3_step
      simp only [gi_1, gi_z, gb_z]
      rw [decide_eq_false hn]; rfl) rfl
theorem ver4_is {gs : List (List Int)} (hg : inquest_gaps_0 ow t delay office (gr (inquiry_Verify_l0 ow t delay office ships list om pr).snd 3) list = gs) (hok : GapsOk gs) (hgs : gs.length ≤ 1000000) (hom : om.length ≤ 9223372036854775807) (hpr : pr.length ≤ 9223372036854775807) :
    loopOk (inquiry_Verify_l4_step ow t delay office ships list om pr) (inquiry_Verify_l4_init ow t delay office ships list om pr) ∧
    (bif (inquiry_Verify_l4 ow t delay office ships list om pr).fst.beq 1 then false else bif (inquiry_Verify_l4 ow t delay office ships list om pr).fst.beq 2 then false else (↑(gr (inquiry_Verify_l4 ow t delay office ships list om pr).snd 3).length : Int) == (↑pr.length : Int)) = (match verL om pr [] gs with | some named => named.length == pr.length | none => false) := by
  have inner : ∀ (i : Nat) (hi : i < gs.length) (named : List (List Int)), named.length ≤ 9223372036854775807 →
      (loopOk (inquiry_Verify_l5_step ow t delay office ships list om pr [.b false, .i 0, .i i, .r named]) (inquiry_Verify_l5_init ow t delay office ships list om pr [.b false, .i 0, .i i, .r named]) ∧ decide ((bif (inquiry_Verify_l5 ow t delay office ships list om pr [.b false, .i 0, .i i, .r named]).fst.beq 1 then gi (inquiry_Verify_l5 ow t delay office ships list om pr [.b false, .i 0, .i i, .r named]).snd 0 else (-1 : Int)) ≥ 0) = om.any (canF gs[i])) ∧
      (loopOk (inquiry_Verify_l6_step ow t delay office ships list om pr [.b false, .i 0, .i i, .r named]) (inquiry_Verify_l6_init ow t delay office ships list om pr [.b false, .i 0, .i i, .r named]) ∧ decide ((bif (inquiry_Verify_l6 ow t delay office ships list om pr [.b false, .i 0, .i i, .r named]).fst.beq 1 then gi (inquiry_Verify_l6 ow t delay office ships list om pr [.b false, .i 0, .i i, .r named]).snd 0 else (-1 : Int)) ≥ 0) = pr.any (keyB gs[i])) ∧
      (loopOk (inquiry_Verify_l7_step ow t delay office ships list om pr [.b false, .i 0, .i i, .r named]) (inquiry_Verify_l7_init ow t delay office ships list om pr [.b false, .i 0, .i i, .r named]) ∧ decide ((bif (inquiry_Verify_l7 ow t delay office ships list om pr [.b false, .i 0, .i i, .r named]).fst.beq 1 then gi (inquiry_Verify_l7 ow t delay office ships list om pr [.b false, .i 0, .i i, .r named]).snd 0 else (-1 : Int)) ≥ 0) = named.any fun h => !apF gs[i] h) := by
    intro i hi named hnm
    refine ⟨loop_any (l := om) (p := canF gs[i]) 1 (fun j hj => ?_) ?_ rfl, loop_any (l := pr) (p := keyB gs[i]) 1 (fun j hj => ?_) ?_ rfl, loop_any (l := named) (p := fun h => !apF gs[i] h) 1 (fun j hj => ?_) ?_ rfl⟩
    · unfold inquiry_Verify_l5_step
      simp only [gi_2, gi_1, gi_z]
      rw [hg, dlt hj, guardP_true (inR_of hj), guardP_true (inR_of hj), getI_at hj, getI_at hi, wrapS (by omega)]
      rfl
    · unfold inquiry_Verify_l5_step
      simp only [gi_1, gi_z, dnlt]
    · unfold inquiry_Verify_l6_step
      simp only [gi_2, gi_1, gi_z]
      rw [hg, dlt hj, guardP_true (inR_of hj), guardP_true (inR_of hj), getI_at hj, getI_at hi, wrapS (by omega)]
      rfl
    · unfold inquiry_Verify_l6_step
      simp only [gi_1, gi_z, dnlt]
    · unfold inquiry_Verify_l7_step
      simp only [gi_2, gi_1, gi_z, gr_3, gr_z]
      rw [hg, dlt hj, guardP_true (inR_of hj), guardP_true (inR_of hj), getI_at hj, getI_at hi, wrapS (by omega)]
      rfl
    · unfold inquiry_Verify_l7_step
      simp only [gi_1, gi_z, gr_3, gr_z, dnlt]
  let f : List (List Int) → List Int → List (List Int) ⊕ (Nat × List U) := fun named g => if (om.any (canF g)) = true then (if pr.any (keyB g) = true then (if named.any (fun h => !apF g h) = true then .inr (1, []) else .inl (named ++ [g])) else .inl named) else .inr (0, [])
  obtain ⟨h1, h2⟩ := loop_list (step := inquiry_Verify_l4_step ow t delay office ships list om pr) gs (fun i (s : List (List Int)) => [.b false, .i 0, .i i, .r s]) f (fun i s => s.length ≤ i) (fun s => (4, [.b false, .i 0, .i gs.length, .r s])) 0
    (fun i s hi _ hI => by
      obtain ⟨⟨a1, a2⟩, ⟨b1, b2⟩, ⟨c1, c2⟩⟩ := inner i hi s (by omega)
      refine ⟨?_, fun s' hs' => ?_⟩
      · have hn : [gs[i].getD 0 0, gs[i].getD 1 0, bif gs[i].getD 2 0 != 0 then 1 else 0, bif gs[i].getD 3 0 != 0 then 1 else 0] = gs[i] := hok _ (List.getElem_mem hi)
        have hn4 : inquiry_Verify_s4 ow t delay office ships list om pr [.b false, .i 0, .i i, .r s] = gs[i] := by
          unfold inquiry_Verify_s4 inquiry_Verify_s3
          simp only [gi_2, gi_1, gi_z]
          rw [hg, getI_at hi]
          exact hn
        unfold inquiry_Verify_l4_step
        simp only [gi_2, gi_1, gi_z, gb_z, gr_3, gr_z]
        rw [a2, b2, c2, hn4, hg, dlt hi, guardP_true (inR_of hi), guardP_true (inR_of hi), guardP_true a1, guardP_true b1, guardP_true c1, wrapS (by omega), guardP_true (by unfold fitsA maxLen; simp only [List.length_cons, List.length_nil]; omega)]
        show _ = goOn _ (if (om.any (canF gs[i])) = true then (if pr.any (keyB gs[i]) = true then (if s.any (fun h => !apF gs[i] h) = true then .inr (1, []) else .inl (s ++ [gs[i]])) else .inl s) else .inr (0, []))
        cases om.any (canF gs[i])
        · rw [if_neg (by decide)]; rfl
        · rw [if_pos rfl]
          cases pr.any (keyB gs[i])
          · rw [if_neg (by decide)]; rfl
          · rw [if_pos rfl]
            cases s.any fun h => !apF gs[i] h
            · rw [if_neg (by decide)]; rfl
            · rw [if_pos rfl]; rfl
      · have hs' : (if (om.any (canF gs[i])) = true then (if pr.any (keyB gs[i]) = true then (if s.any (fun h => !apF gs[i] h) = true then .inr (1, []) else .inl (s ++ [gs[i]])) else .inl s) else .inr (0, []) : List (List Int) ⊕ (Nat × List U)) = .inl s' := hs'
        split at hs'
        · split at hs'
          · split at hs'
            · cases hs'
            · cases hs'; simp; omega
          · cases hs'; omega
        · cases hs')
    (fun i s hi _ => by
      have : i = gs.length := by omega
      subst this
      unfold inquiry_Verify_l4_step
      simp only [gi_2, gi_1, gi_z, gb_z, gr_3, gr_z]
      rw [hg, dnlt]) (s := []) (Nat.zero_le _)
  refine ⟨h1, ?_⟩
  have el : inquiry_Verify_l4 ow t delay office ships list om pr = loopGet (inquiry_Verify_l4_step ow t delay office ships list om pr) [.b false, .i 0, .i ((0 : Nat) : Int), .r []] := rfl
  rw [el, h2, List.drop_zero]
  have run : ∀ (r : List (List Int)) (named : List (List Int)), (bif (endL (fun s : List (List Int) => (4, [.b false, .i 0, .i gs.length, .r s])) (runL f named r)).1.beq 1 then false else bif (endL (fun s : List (List Int) => (4, [.b false, .i 0, .i gs.length, .r s])) (runL f named r)).1.beq 2 then false else (↑(gr (endL (fun s : List (List Int) => (4, [.b false, .i 0, .i gs.length, .r s])) (runL f named r)).2 3).length : Int) == (↑pr.length : Int)) = (match verL om pr named r with | some named => named.length == pr.length | none => false) := by
    intro r
    induction r with
    | nil =>
      intro named
      show ((↑(gr [.b false, .i 0, .i gs.length, .r named] 3).length : Int) == (↑pr.length : Int)) = (named.length == pr.length)
      rw [gr_3, gr_z]
      by_cases h : named.length = pr.length
      · rw [h]; simp
      · have h1 : ¬ (named.length : Int) = (pr.length : Int) := by omega
        rw [bne h1]
        simpa using h
    | cons g r ih =>
      intro named
      have ef : f named g = if (om.any (canF g)) = true then (if pr.any (keyB g) = true then (if named.any (fun h => !apF g h) = true then .inr (1, []) else .inl (named ++ [g])) else .inl named) else .inr (0, []) := rfl
      unfold runL verL
      by_cases h1 : om.any (canF g) = true
      · rw [if_pos h1] at ef
        rw [if_pos h1]
        by_cases h2 : pr.any (keyB g) = true
        · rw [if_pos h2] at ef
          rw [if_pos h2]
          by_cases h3 : named.any (fun h => !apF g h) = true
          · rw [if_pos h3] at ef
            rw [if_pos h3, ef]; rfl
          · rw [if_neg h3] at ef
            rw [if_neg h3, ef]
            exact ih _
        · rw [if_neg h2] at ef
          rw [if_neg h2, ef]
          exact ih _
      · rw [if_neg h1] at ef
        rw [if_neg h1, ef]; rfl
  exact run gs []
theorem Verify_is (ho : office.length ≤ 9223372036854775807) (hs : ships.length ≤ 9223372036854775807) (hl : list.length ≤ 9223372036854775807) (hd : LenOk ships) (hom : om.length ≤ 9223372036854775807) (hpr : pr.length ≤ 9223372036854775807) :
    inquiry_Verify_pre ow t delay office ships list om pr ∧ inquiry_Verify_0 ow t delay office ships list om pr = (caseOk ow t delay office (logsOf ships) list && verF (gapsF office (logsOf ships) t delay list) om pr) ∧ inquiry_Verify_1 ow t delay office ships list om pr = if caseOk ow t delay office (logsOf ships) list = true then 0 else 1 := by
  have hv := valid_is ow office ho
  have hc := chances_is list hl
  obtain ⟨o1, o2, o3⟩ := op0_is (ow := ow) (t := t) (delay := delay) (office := office) (list := list) hs hd
  obtain ⟨es0, ei0, el0, es1, ei1, el1⟩ := ver_case (ow := ow) (t := t) (delay := delay) (office := office) (ships := ships) (list := list) (om := om) (pr := pr)
  obtain ⟨r1, r2⟩ := ver2_is (ow := ow) (t := t) (delay := delay) (office := office) (ships := ships) (list := list) (pr := pr) hom
  obtain ⟨s1, s2⟩ := ver3_is (ow := ow) (t := t) (delay := delay) (office := office) (ships := ships) (list := list) (om := om) hpr
  have elen : ((om.length : Int) != (pr.length : Int)) = !(om.length == pr.length) := by
    by_cases h : om.length = pr.length
    · rw [h]; simp
    · have h1 : ¬ (om.length : Int) = (pr.length : Int) := by omega
      show (!((om.length : Int) == (pr.length : Int))) = _
      rw [bne h1]
      simpa using h
  unfold inquiry_Verify_pre inquiry_Verify_0 inquiry_Verify_1 inquiry_Verify_s7 inquiry_Verify_s6 inquiry_Verify_s5
  rw [r2, s2, elen]
  rw [es0, ei0, el0, es1, ei1, el1, case1_is ho hl, case_eq]
  cases h1 : caseOk1 ow t delay office list with
  | false => exact ⟨⟨hv.1, fun _ => hc.1, fun h => by cases h⟩, rfl, rfl⟩
  | true =>
    cases h2 : risF 0 (logsOf ships) with
    | false =>
      have e := o3 h2
      rw [e]
      exact ⟨⟨hv.1, fun _ => hc.1, fun _ => ⟨o1, fun h => by cases h⟩⟩, rfl, rfl⟩
    | true =>
      obtain ⟨e, er⟩ := o2 h2
      obtain ⟨p1, p2⟩ := op1_is (ow := ow) (t := t) (delay := delay) (office := office) hl hs hd h2
      obtain ⟨g1, g2⟩ := gaps_is (t := t) ho h1 h2
      rw [e, not_not_decide, p2]
      have er' : gr (inquiry_Gaps_l0 ow t delay office ships list).snd 3 = ships.map rowO := er
      cases h3 : list.any (noShip (logsOf ships)) with
      | true => exact ⟨⟨hv.1, fun _ => hc.1, fun _ => ⟨o1, fun _ => ⟨p1, fun h => by cases h⟩⟩⟩, rfl, rfl⟩
      | false =>
        have hch : chF list = true := by
          unfold caseOk1 at h1
          simp only [Bool.and_eq_true] at h1
          exact h1.1.1.1.2
        obtain ⟨k1, k2, k3⟩ := gapsF_ok (office := office) (logs := logsOf ships) (tm := t) (dl := delay) hch
        have hl200 := (ch_len hch).1
        obtain ⟨v1, v2⟩ := ver4_is (ow := ow) (t := t) (delay := delay) (office := office) (ships := ships) (list := list) (om := om) (pr := pr) (gs := gapsF office (logsOf ships) t delay list) (by rw [el0, er', g2]) k2 (by omega) hom hpr
        rw [er']
        refine ⟨⟨hv.1, fun _ => hc.1, fun _ => ⟨o1, fun _ => ⟨p1, fun _ => ⟨fun _ => r1, fun _ => s1, fun _ => ⟨g1, v1⟩⟩⟩⟩⟩, ?_, ?_⟩
        · unfold verF
          rw [← v2]
          cases (om.length == pr.length) <;> cases riseF cfO om <;> cases riseF cfG pr <;> rfl
        · cases (om.length == pr.length) <;> cases riseF cfO om <;> cases riseF cfG pr <;> cases (inquiry_Verify_l4 ow t delay office ships list om pr).fst.beq 1 <;> cases (inquiry_Verify_l4 ow t delay office ships list om pr).fst.beq 2 <;> rfl
end
end Go.Proofs.YtikhnofbbcmpeaaGreat
set_option linter.unusedVariables false
set_option maxRecDepth 100000
namespace Go.Proofs.YtikhnofbbcmpeaaGreat
open Go Go.Sy
def sameB (eq : List Int → List Int → Bool) : List (List Int) → List (List Int) → Bool
  | [], [] => true
  | x :: r, y :: r' => eq x y && sameB eq r r'
  | _, _ => false
theorem sameB_len {eq : List Int → List Int → Bool} : ∀ {a b : List (List Int)}, a.length ≠ b.length → sameB eq a b = false
  | [], [], h => absurd rfl h
  | [], _ :: _, _ => rfl
  | _ :: _, [], _ => rfl
  | x :: r, y :: r', h => by
    unfold sameB
    rw [sameB_len (by simpa using h), Bool.and_false]
theorem sameB_iff {eq : List Int → List Int → Bool} : ∀ {a b : List (List Int)}, a.length = b.length → (sameB eq a b = true ↔ ∀ i (h : i < a.length) (h' : i < b.length), eq a[i] b[i] = true)
  | [], [], _ => ⟨(fun _ i h => by cases h), fun _ => rfl⟩
  | x :: r, y :: r', h => by
    show (eq x y && sameB eq r r') = true ↔ _
    rw [Bool.and_eq_true, sameB_iff (by simpa using h)]
    constructor
    · rintro ⟨h1, h2⟩ i hi hi'
      cases i with
      | zero => exact h1
      | succ i => exact h2 i (by simpa using hi) (by simpa using hi')
    · intro h
      exact ⟨h 0 (by simp) (by simp), fun i hi hi' => h (i + 1) (by simpa using hi) (by simpa using hi')⟩
theorem same_loop {step : List U → Option (Nat × List U)} {a b : List (List Int)} {eq : List Int → List Int → Bool} (m : Nat) (hlen : a.length = b.length)
    (hs : ∀ i (h : i < a.length) (h' : i < b.length), step [.b false, .i i] = bif eq a[i] b[i] then some (0, [.b false, .i ((i + 1 : Nat) : Int)]) else some (1, []))
    (he : step [.b false, .i a.length] = some (m + 2, [.b false, .i a.length])) {init : List U} (hi : init = [.b false, .i ((0 : Nat) : Int)]) :
    loopOk step init ∧ (bif (loopGet step init).fst.beq 1 then false else true) = sameB eq a b := by
  subst hi
  obtain ⟨h1, h2⟩ := loop_search (step := step) a.length (fun i => !eq (a.getD i []) (b.getD i [])) (fun i => [.b false, .i i]) (fun i => []) 0 (m + 1) [.b false, .i a.length]
    (fun i hi => by
      rw [hs i hi (by omega), getD_at hi, getD_at (by omega)]
      cases eq a[i] b[i] <;> rfl) he
  refine ⟨h1, ?_⟩
  rcases h2 with ⟨i, hi, hp, _, hg⟩ | ⟨hn, hg⟩
  · rw [hg]
    have : sameB eq a b = false := by
      cases hr : sameB eq a b with
      | false => rfl
      | true =>
        have h := (sameB_iff hlen).1 hr i hi (by omega)
        rw [getD_at hi, getD_at (by omega), h] at hp
        cases hp
    rw [this]; rfl
  · rw [hg]
    have : sameB eq a b = true := (sameB_iff hlen).2 fun i h h' => by
      have := hn i h
      rw [getD_at h, getD_at h'] at this
      simpa using this
    rw [this]; rfl
theorem lenI {a b : List (List Int)} : ((a.length : Int) != (b.length : Int)) = !decide (a.length = b.length) := by
  by_cases h : a.length = b.length
  · rw [h]; simp
  · have h1 : ¬ (a.length : Int) = (b.length : Int) := by omega
    show (!((a.length : Int) == (b.length : Int))) = _
    rw [bne h1, decide_eq_false h]
def eq1 (x y : List Int) : Bool := col x 0 == col y 0
def eq2 (x y : List Int) : Bool := col x 0 == col y 0 && (col x 1 == col y 1 && true)
def eq3 (x y : List Int) : Bool := col x 0 == col y 0 && (col x 1 == col y 1 && (col x 2 == col y 2 && true))
theorem Ints_is (a b : List (List Int)) (ha : a.length ≤ 9223372036854775807) : ref08_Ints_pre a b ∧ ref08_Ints_0 a b = sameB eq1 a b := by
  unfold ref08_Ints_pre ref08_Ints_0
  rw [lenI]
  by_cases hlen : a.length = b.length
  · obtain ⟨h1, h2⟩ := same_loop (step := ref08_Ints_l0_step a b) (a := a) (b := b) (eq := eq1) 1 hlen (fun i h h' => by
        unfold ref08_Ints_l0_step
        simp only [gi_1, gi_z, gb_z]
        rw [dlt h, guardP_true (inR_of h), guardP_true (inR_of h), guardP_true (inR_of h'), guardP_true (inR_of h'), getI_at h, getI_at h', wrapS (by omega)]
        show (bif !(eq1 a[i] b[i]) then _ else _) = _
        cases eq1 a[i] b[i] <;> rfl)
      (by
        unfold ref08_Ints_l0_step
        simp only [gi_1, gi_z, gb_z, dnlt]) (init := ref08_Ints_l0_init a b) rfl
    rw [decide_eq_true hlen]
    exact ⟨fun _ => h1, h2⟩
  · rw [decide_eq_false hlen, sameB_len hlen]
    exact ⟨(fun h => by cases h), rfl⟩
theorem SameGaps_is (a b : List (List Int)) (ha : a.length ≤ 9223372036854775807) : ref44_SameGaps_pre a b ∧ ref44_SameGaps_0 a b = sameB eq2 a b := by
  unfold ref44_SameGaps_pre ref44_SameGaps_0
  rw [lenI]
  by_cases hlen : a.length = b.length
  · obtain ⟨h1, h2⟩ := same_loop (step := ref44_SameGaps_l0_step a b) (a := a) (b := b) (eq := eq2) 1 hlen (fun i h h' => by
        unfold ref44_SameGaps_l0_step
        simp only [gi_1, gi_z, gb_z]
        rw [dlt h, guardP_true (inR_of h), guardP_true (inR_of h), guardP_true (inR_of h'), guardP_true (inR_of h'), getI_at h, getI_at h', wrapS (by omega)]
        show (bif !(eq2 a[i] b[i]) then _ else _) = _
        cases eq2 a[i] b[i] <;> rfl)
      (by
        unfold ref44_SameGaps_l0_step
        simp only [gi_1, gi_z, gb_z, dnlt]) (init := ref44_SameGaps_l0_init a b) rfl
    rw [decide_eq_true hlen]
    exact ⟨fun _ => h1, h2⟩
  · rw [decide_eq_false hlen, sameB_len hlen]
    exact ⟨(fun h => by cases h), rfl⟩
theorem SameOm_is (a b : List (List Int)) (ha : a.length ≤ 9223372036854775807) : ref44_SameOmissions_pre a b ∧ ref44_SameOmissions_0 a b = sameB eq3 a b := by
  unfold ref44_SameOmissions_pre ref44_SameOmissions_0
  rw [lenI]
  by_cases hlen : a.length = b.length
  · obtain ⟨h1, h2⟩ := same_loop (step := ref44_SameOmissions_l0_step a b) (a := a) (b := b) (eq := eq3) 1 hlen (fun i h h' => by
        unfold ref44_SameOmissions_l0_step
        simp only [gi_1, gi_z, gb_z]
        rw [dlt h, guardP_true (inR_of h), guardP_true (inR_of h), guardP_true (inR_of h'), guardP_true (inR_of h'), getI_at h, getI_at h', wrapS (by omega)]
        show (bif !(eq3 a[i] b[i]) then _ else _) = _
        cases eq3 a[i] b[i] <;> rfl)
      (by
        unfold ref44_SameOmissions_l0_step
        simp only [gi_1, gi_z, gb_z, dnlt]) (init := ref44_SameOmissions_l0_init a b) rfl
    rw [decide_eq_true hlen]
    exact ⟨fun _ => h1, h2⟩
  · rw [decide_eq_false hlen, sameB_len hlen]
    exact ⟨(fun h => by cases h), rfl⟩
def addE (o t k n : Int) (l : List (List Int)) : Int :=
  if (valF o l && lnF t k n) = false then 1 else if ownF o k = false then 12 else if 200 ≤ l.length then 2 else if t < lastF 0 (-1) l then 13 else if (k == 4 && !onF 10000000 true l) = true then 6 else if (k == 5 && onF 10000000 true l) = true then 6 else 0
def addL (o t k n : Int) (l : List (List Int)) : List (List Int) := if addE o t k n l = 0 then l ++ [[t, k, n, sumF o (lastF 3 0 l) t k n]] else []
theorem Add_is (o t k n : Int) (l : List (List Int)) (hl : l.length ≤ 9223372036854775807) : inquiry_Add_pre o t k n l ∧ inquiry_Add_0 o t k n l = addL o t k n l ∧ inquiry_Add_1 o t k n l = (if addE o t k n l = 0 then o else 0) ∧ inquiry_Add_2 o t k n l = addE o t k n l := by
  obtain ⟨v1, v2⟩ := valid_is o l hl
  obtain ⟨o1, o2⟩ := on_is o 10000000 l hl
  obtain ⟨l1, l2, l3⟩ := last_is o l hl
  have hQ : decide ((l.length : Int) ≥ (200 : Int)) = false → (inquiry_sum_pre o (inquiry_last_1 o l) t k n (0 : Int)) ∧ ((((l = []) → ((True) ∧ (([] ++ l = []) ∧ (True)))) ∧ (fitsA 32 (0 + l.length))) ∧ (fitsA 32 (([] ++ l).length + [[t, k, n, inquiry_sum_0 o (inquiry_last_1 o l) t k n (0 : Int)]].length))) := fun h => by
    have := of_decide_eq_false h
    refine ⟨(sum_is _ _ _ _ _ _).1, ⟨fun h => ⟨trivial, by rw [h]; rfl, trivial⟩, by unfold fitsA maxLen; omega⟩, ?_⟩
    unfold fitsA maxLen
    simp only [List.nil_append, List.length_cons, List.length_nil]
    omega
  refine ⟨⟨l1, o1, v1, fun h1 h2 => ?_, fun _ _ _ h4 _ => ⟨fun a b => ?_, fun _ _ => hQ h4⟩⟩, ?_⟩
  · rw [h1] at h2; cases h2
  · rw [a] at b; cases b
  · unfold inquiry_Add_0 inquiry_Add_s2 inquiry_Add_s1 inquiry_Add_s0 inquiry_Add_1 inquiry_Add_s5 inquiry_Add_s4 inquiry_Add_s3 inquiry_Add_2 inquiry_Add_s8 inquiry_Add_s7 inquiry_Add_s6 addL addE
    rw [v2, o2, l2, l3, line_is, own_is, (sum_is _ _ _ _ _ _).2]
    have e200 : decide ((l.length : Int) ≥ (200 : Int)) = decide (200 ≤ l.length) := decide_eq_decide.2 (by omega)
    rw [e200]
    cases hv : valF o l
    · simp
    · cases hln : lnF t k n
      · simp
      · cases hown : ownF o k
        · simp
        · by_cases h2 : 200 ≤ l.length
          · simp [h2]
          · by_cases h3 : t < lastF 0 (-1) l
            · simp [h2, h3]
            · cases h4 : (k == 4 && !onF 10000000 true l)
              · cases h5 : (k == 5 && onF 10000000 true l)
                · simp [h2, h3]
                · simp [h2, h3]
              · simp [h2, h3]
theorem addL_len (o t k n : Int) (l : List (List Int)) : (addL o t k n l).length ≤ l.length + 1 := by
  unfold addL
  by_cases h : addE o t k n l = 0
  · rw [if_pos h]; simp
  · rw [if_neg h]; simp
def logF : Int × List (List Int) → List (List Int) → Int × List (List Int)
  | s, [] => s
  | s, x :: r => if addE s.1 (col x 0) (col x 1) (col x 2) s.2 = 0 then logF (s.1, addL s.1 (col x 0) (col x 1) (col x 2) s.2) r else (0, [])
theorem log_is (o : Int) (lines : List (List Int)) (hl : lines.length ≤ 1000000) : law44_log_pre o lines ∧ (law44_log_1 o lines, law44_log_0 o lines) = logF (o, []) lines := by
  let f : Int × List (List Int) → List Int → (Int × List (List Int)) ⊕ (Nat × List U) := fun s x => if addE s.1 (col x 0) (col x 1) (col x 2) s.2 = 0 then .inl (s.1, addL s.1 (col x 0) (col x 1) (col x 2) s.2) else .inr (0, [.i s.1, .r s.2])
  obtain ⟨h1, h2⟩ := loop_list (step := law44_log_l0_step o lines) lines (fun i (s : Int × List (List Int)) => [.i i, .i s.1, .r s.2]) f (fun i s => s.2.length ≤ i) (fun s => (2, [.i lines.length, .i s.1, .r s.2])) 0
    (fun i s hi _ hI => by
      obtain ⟨a1, a2, a3, a4⟩ := Add_is s.1 (col lines[i] 0) (col lines[i] 1) (col lines[i] 2) s.2 (by omega)
      refine ⟨?_, fun s' hs' => ?_⟩
      · unfold law44_log_l0_step law44_log_s0 law44_log_s1 law44_log_s2
        simp only [gi_z, gi_1, gr_2, gr_1, gr_z, dlt hi, guardP_true (inR_of hi), getI_at hi, wrapS (show i < 9223372036854775807 by omega)]
        rw [guardP_true a1, a2, a3, a4]
        show _ = goOn _ (if addE s.1 (col lines[i] 0) (col lines[i] 1) (col lines[i] 2) s.2 = 0 then .inl (s.1, addL s.1 (col lines[i] 0) (col lines[i] 1) (col lines[i] 2) s.2) else .inr (0, [.i s.1, .r s.2]))
        by_cases h : addE s.1 (col lines[i] 0) (col lines[i] 1) (col lines[i] 2) s.2 = 0
        · rw [if_pos h, if_pos h, h]; rfl
        · rw [if_neg h, if_neg h]
          have : (addE s.1 (col lines[i] 0) (col lines[i] 1) (col lines[i] 2) s.2 != 0) = true := by simpa using h
          rw [this]; rfl
      · have hs' : (if addE s.1 (col lines[i] 0) (col lines[i] 1) (col lines[i] 2) s.2 = 0 then .inl (s.1, addL s.1 (col lines[i] 0) (col lines[i] 1) (col lines[i] 2) s.2) else .inr (0, [.i s.1, .r s.2]) : (Int × List (List Int)) ⊕ (Nat × List U)) = .inl s' := hs'
        split at hs'
        · cases hs'
          exact Nat.le_trans (addL_len _ _ _ _ _) (by omega)
        · cases hs')
    (fun i s hi _ => by
      have : i = lines.length := by omega
      subst this
      unfold law44_log_l0_step
      simp only [gi_z, gi_1, gr_2, gr_1, gr_z, dnlt]) (s := (o, [])) (Nat.zero_le _)
  refine ⟨h1, ?_⟩
  have el : law44_log_l0 o lines = loopGet (law44_log_l0_step o lines) [.i ((0 : Nat) : Int), .i o, .r []] := rfl
  unfold law44_log_1 law44_log_0
  rw [el, h2, List.drop_zero]
  have run : ∀ (r : List (List Int)) (s : Int × List (List Int)), ((bif (endL (fun s : Int × List (List Int) => (2, [.i lines.length, .i s.1, .r s.2])) (runL f s r)).1.beq 1 then (0 : Int) else gi (endL (fun s : Int × List (List Int) => (2, [.i lines.length, .i s.1, .r s.2])) (runL f s r)).2 1), (bif (endL (fun s : Int × List (List Int) => (2, [.i lines.length, .i s.1, .r s.2])) (runL f s r)).1.beq 1 then [] else gr (endL (fun s : Int × List (List Int) => (2, [.i lines.length, .i s.1, .r s.2])) (runL f s r)).2 2)) = logF s r := by
    intro r
    induction r with
    | nil => intro s; rfl
    | cons x r ih =>
      intro s
      have ef : f s x = if addE s.1 (col x 0) (col x 1) (col x 2) s.2 = 0 then .inl (s.1, addL s.1 (col x 0) (col x 1) (col x 2) s.2) else .inr (0, [.i s.1, .r s.2]) := rfl
      unfold runL logF
      by_cases h : addE s.1 (col x 0) (col x 1) (col x 2) s.2 = 0
      · rw [if_pos h] at ef
        rw [if_pos h, ef]
        exact ih _
      · rw [if_neg h] at ef
        rw [if_neg h, ef]; rfl
  exact run lines (o, [])
end Go.Proofs.YtikhnofbbcmpeaaGreat
set_option linter.unusedVariables false
set_option maxRecDepth 100000
namespace Go.Proofs.YtikhnofbbcmpeaaGreat
open Go Go.Sy
def cmp3 (x y : List Int) : Int := if col x 0 < col y 0 then -1 else if col y 0 < col x 0 then 1 else if col x 1 < col y 1 then -1 else if col y 1 < col x 1 then 1 else if col x 2 < col y 2 then -1 else if col y 2 < col x 2 then 1 else 0
def cmp2 (x y : List Int) : Int := if col x 0 < col y 0 then -1 else if col y 0 < col x 0 then 1 else if col x 1 < col y 1 then -1 else if col y 1 < col x 1 then 1 else 0
theorem or_step (a b : Int) (r : List Int) (e : Int) (h : orL r = e) : orL ((if a < b then -1 else if b < a then 1 else 0) :: r) = if a < b then -1 else if b < a then 1 else e := by
  unfold orL
  by_cases h1 : a < b
  · rw [if_pos h1, if_neg (by decide), if_pos h1]
  · rw [if_neg h1, if_neg h1]
    by_cases h2 : b < a
    · rw [if_pos h2, if_neg (by decide), if_pos h2]
    · rw [if_neg h2, if_pos rfl, if_neg h2, h]
theorem cfO_is : cfO = cmp3 := by
  funext x y
  unfold cfO cmp3
  rw [(compare_is _ _ _ _ _ _).2]
  simp only [cmpC]
  exact or_step _ _ _ _ (or_step _ _ _ _ (or_step _ _ _ _ rfl))
theorem cfG_is : cfG = cmp2 := by
  funext x y
  unfold cfG cmp2
  rw [(order_is _ _ _ _).2]
  simp only [cmpC]
  exact or_step _ _ _ _ (or_step _ _ _ _ rfl)
def cmpLC : List (List Int) → List (List Int) → Int
  | [], [] => 0
  | [], _ :: _ => -1
  | _ :: _, [] => 1
  | x :: r, y :: r' => if cmp3 x y = 0 then cmpLC r r' else cmp3 x y
theorem cmpL_is : ∀ x y, cmpL x y = cmpLC x y
  | [], [] => rfl
  | [], _ :: _ => rfl
  | _ :: _, [] => rfl
  | x :: r, y :: r' => by
    unfold cmpL cmpLC
    rw [cfO_is, cmpL_is r r']
def betterC (x b : List (List Int)) : Bool := decide (x.length < b.length) || (x.length == b.length && decide (cmpLC x b < 0))
theorem better_is : better = betterC := by funext x b; unfold better betterC; rw [cmpL_is]
def fewStepC (list : List (List Int)) (i : Nat) (b : List (List Int)) : List (List Int) := if subB i (allF list) = true then (if betterC (byF i list) b = true then byF i list else b) else b
def fewC (list : List (List Int)) : List (List Int) := upto (fewStepC list) (allF list + 1) (byF 0 list)
theorem fewF_is : fewF = fewC := by
  funext list
  unfold fewF fewC
  have : fewStep list = fewStepC list := by funext i b; unfold fewStep fewStepC; rw [better_is]
  rw [this]
def goC (k : Int → List (List Int) → List (List Int)) (n : Int) : List (List Int) → List (List Int)
  | [] => []
  | g :: r => if ((fewC (r.filter (apF g))).length : Int) = n - 1 then [col g 0, col g 1] :: k (n - 1) (r.filter (apF g)) else goC k n r
def prC : Nat → Int → List (List Int) → List (List Int)
  | 0, _, _ => []
  | m + 1, n, list => if n = 0 then [] else goC (prC m) n list
theorem goP_is (k : Int → List (List Int) → List (List Int)) (n : Int) : ∀ l, goP k n l = goC k n l
  | [] => rfl
  | g :: r => by unfold goP goC; rw [fewF_is, goP_is k n r]
theorem prF_is : ∀ m n l, prF m n l = prC m n l
  | 0, _, _ => rfl
  | m + 1, n, l => by
    unfold prF prC
    rw [goP_is, show prF m = prC m from by funext n l; exact prF_is m n l]
def verC (gs om pr : List (List Int)) : Bool := om.length == pr.length && riseF cmp3 om && riseF cmp2 pr && (match verL om pr [] gs with | some named => named.length == pr.length | none => false)
theorem verF_is (gs om pr : List (List Int)) : verF gs om pr = verC gs om pr := by unfold verF verC; rw [cfO_is, cfG_is] <;> rfl
def hA0 : List (List Int) := (logF (0, []) [[10, 1, 7]]).2
def hA1 : List (List Int) := (logF (1, []) [[12, 3, 7]]).2
def hA3 : List (List Int) := (logF (3, []) [[5, 4, 0], [20, 5, 0], [40, 2, 9]]).2
noncomputable def hships : List (List Int) := [[1, encL hA1], [2, encL []], [3, encL hA3]]
def hlogs : List ALog := [(1, hA1), (2, []), (3, hA3)]
def hch : List (List Int) := [[1, 7, 10], [2, 7, 10], [3, 7, 10], [2, 9, 30], [3, 9, 30]]
theorem hlog0 : law44_log_pre 0 [[10, 1, 7]] ∧ law44_log_1 0 [[10, 1, 7]] = 0 ∧ law44_log_0 0 [[10, 1, 7]] = hA0 := by
  obtain ⟨h1, h2⟩ := log_is 0 [[10, 1, 7]] (by decide)
  exact ⟨h1, (congrArg Prod.fst h2).trans (by decide +kernel), congrArg Prod.snd h2⟩
theorem hlog1 : law44_log_pre 1 [[12, 3, 7]] ∧ law44_log_1 1 [[12, 3, 7]] = 1 ∧ law44_log_0 1 [[12, 3, 7]] = hA1 := by
  obtain ⟨h1, h2⟩ := log_is 1 [[12, 3, 7]] (by decide)
  exact ⟨h1, (congrArg Prod.fst h2).trans (by decide +kernel), congrArg Prod.snd h2⟩
theorem hlog2 : law44_log_pre 2 [] ∧ law44_log_1 2 [] = 2 ∧ law44_log_0 2 [] = [] := by
  obtain ⟨h1, h2⟩ := log_is 2 [] (by decide)
  exact ⟨h1, congrArg Prod.fst h2, congrArg Prod.snd h2⟩
theorem hlog3 : law44_log_pre 3 law44_head_s0 ∧ law44_log_1 3 law44_head_s0 = 3 ∧ law44_log_0 3 law44_head_s0 = hA3 := by
  obtain ⟨h1, h2⟩ := log_is 3 [[5, 4, 0], [20, 5, 0], [40, 2, 9]] (by decide)
  exact ⟨h1, (congrArg Prod.fst h2).trans (by decide +kernel), congrArg Prod.snd h2⟩
theorem hs_is : [law44_head_s1, [law44_log_1 (2 : Int) [], encL (law44_log_0 (2 : Int) [])], [law44_log_1 (3 : Int) law44_head_s0, encL (law44_log_0 (3 : Int) law44_head_s0)]] = hships := by
  unfold law44_head_s1
  rw [hlog1.2.1, hlog1.2.2, hlog2.2.1, hlog2.2.2, hlog3.2.1, hlog3.2.2]
  rfl
theorem hlogs_is : logsOf hships = hlogs := by
  show [((1 : Int), decL (encL hA1)), (2, decL (encL [])), (3, decL (encL hA3))] = _
  rw [dec_enc, dec_enc, dec_enc]
  rfl
theorem hlen_ok : LenOk hships := by
  intro x hx
  have hx : x = [1, encL hA1] ∨ x = [2, encL []] ∨ x = [3, encL hA3] := by simpa [hships] using hx
  have l1 : hA1.length ≤ 9223372036854775807 := by decide +kernel
  have l3 : hA3.length ≤ 9223372036854775807 := by decide +kernel
  rcases hx with rfl | rfl | rfl
  · show (decL (encL hA1)).length ≤ _
    rw [dec_enc]; exact l1
  · show (decL (encL [])).length ≤ _
    rw [dec_enc]; decide
  · show (decL (encL hA3)).length ≤ _
    rw [dec_enc]; exact l3
theorem hcase : caseOk 0 50 5 hA0 hlogs hch = true := by decide +kernel
theorem hco1 : coOk 0 1 10 hA0 hA1 hch = true := by decide +kernel
theorem hco3 : coOk 0 3 10 hA0 hA3 hch = true := by decide +kernel
theorem hfew : fewC (gapsF hA0 hlogs 50 5 hch) = [[1, 0, 9], [2, 2, 0], [2, 3, 0]] := by decide +kernel
theorem hprv : prC 100 3 (gapsF hA0 hlogs 50 5 hch) = [[2, 7], [3, 7], [3, 9]] := by decide +kernel
theorem hgap : gapKeys (gapsF hA0 hlogs 50 5 hch) = [[2, 7], [2, 9], [3, 7], [3, 9]] := by decide +kernel
theorem hver : verC (gapsF hA0 hlogs 50 5 hch) [[1, 0, 9], [2, 2, 0], [2, 3, 0]] [[2, 7], [3, 7], [3, 9]] = true := by decide +kernel
theorem hcr1 : onceL (coRaw 1 10 hA0 hA1 hch) = [7] := by decide +kernel
theorem hcr3 : onceL (coRaw 3 10 hA0 hA3 hch) = [] := by decide +kernel
theorem hsh1 : (valF 1 hA1 && tmF 12) = true ∧ shownF 12 hA1 = [7] := by decide +kernel
theorem hva3 : valF 3 hA3 = true := by decide +kernel
theorem l0_lt : hA0.length ≤ 9223372036854775807 := by decide +kernel
theorem l1_lt : hA1.length ≤ 9223372036854775807 := by decide +kernel
theorem l3_lt : hA3.length ≤ 9223372036854775807 := by decide +kernel
theorem hs_lt : hships.length ≤ 9223372036854775807 := by show 3 ≤ 9223372036854775807; decide
theorem hc_lt : hch.length ≤ 9223372036854775807 := by decide
theorem hE : inquiry_Explain_pre 0 50 5 hA0 hships hch ∧ inquiry_Explain_0 0 50 5 hA0 hships hch = [[1, 0, 9], [2, 2, 0], [2, 3, 0]] ∧ inquiry_Explain_1 0 50 5 hA0 hships hch = [[2, 7], [3, 7], [3, 9]] ∧ inquiry_Explain_2 0 50 5 hA0 hships hch = 0 := by
  obtain ⟨h1, h2, h3, h4⟩ := Explain_is (ow := 0) (t := 50) (delay := 5) l0_lt hs_lt hc_lt hlen_ok (.inl (by decide))
  rw [hlogs_is, hcase, if_pos rfl, fewF_is, hfew] at h2
  rw [hlogs_is, hcase, if_pos rfl, fewF_is, hfew, prF_is] at h3
  rw [hlogs_is, hcase, if_pos rfl] at h4
  exact ⟨h1, h2, h3.trans hprv, h4⟩
theorem hG : inquiry_Gaps_pre 0 50 5 hA0 hships hch ∧ inquiry_Gaps_0 0 50 5 hA0 hships hch = [[2, 7], [2, 9], [3, 7], [3, 9]] ∧ inquiry_Gaps_1 0 50 5 hA0 hships hch = 0 := by
  obtain ⟨h1, h2, h3⟩ := Gaps_is (ow := 0) (t := 50) (delay := 5) l0_lt hs_lt hc_lt hlen_ok
  rw [hlogs_is, hcase, if_pos rfl, hgap] at h2
  rw [hlogs_is, hcase, if_pos rfl] at h3
  exact ⟨h1, h2, h3⟩
theorem hV : inquiry_Verify_pre 0 50 5 hA0 hships hch [[1, 0, 9], [2, 2, 0], [2, 3, 0]] [[2, 7], [3, 7], [3, 9]] ∧ inquiry_Verify_0 0 50 5 hA0 hships hch [[1, 0, 9], [2, 2, 0], [2, 3, 0]] [[2, 7], [3, 7], [3, 9]] = true ∧ inquiry_Verify_1 0 50 5 hA0 hships hch [[1, 0, 9], [2, 2, 0], [2, 3, 0]] [[2, 7], [3, 7], [3, 9]] = 0 := by
  obtain ⟨h1, h2, h3⟩ := Verify_is (ow := 0) (t := 50) (delay := 5) (office := hA0) (ships := hships) (list := hch) (om := [[1, 0, 9], [2, 2, 0], [2, 3, 0]]) (pr := [[2, 7], [3, 7], [3, 9]]) l0_lt hs_lt hc_lt hlen_ok (by decide) (by decide)
  rw [hlogs_is, hcase, verF_is, hver] at h2
  rw [hlogs_is, hcase, if_pos rfl] at h3
  exact ⟨h1, h2, h3⟩
theorem hC1 : inquiry_Could_pre 0 1 10 hA0 hA1 hch ∧ inquiry_Could_0 0 1 10 hA0 hA1 hch = [[7]] ∧ inquiry_Could_1 0 1 10 hA0 hA1 hch = 0 := by
  obtain ⟨h1, h2, h3⟩ := Could_is 0 1 10 hA0 hA1 hch l0_lt l1_lt hc_lt
  rw [hco1, if_pos rfl, hcr1] at h2
  rw [hco1, if_pos rfl] at h3
  exact ⟨h1, h2, h3⟩
theorem hC3 : inquiry_Could_pre 0 3 10 hA0 hA3 hch ∧ inquiry_Could_0 0 3 10 hA0 hA3 hch = [] ∧ inquiry_Could_1 0 3 10 hA0 hA3 hch = 0 := by
  obtain ⟨h1, h2, h3⟩ := Could_is 0 3 10 hA0 hA3 hch l0_lt l3_lt hc_lt
  rw [hco3, if_pos rfl, hcr3] at h2
  rw [hco3, if_pos rfl] at h3
  exact ⟨h1, h2, h3⟩
theorem hS1 : inquiry_Shown_pre 1 12 hA1 ∧ inquiry_Shown_0 1 12 hA1 = [[7]] ∧ inquiry_Shown_1 1 12 hA1 = 0 := by
  obtain ⟨h1, h2, h3⟩ := Shown_is 1 12 hA1 l1_lt
  rw [hsh1.1, if_pos rfl, hsh1.2] at h2
  rw [hsh1.1, if_pos rfl] at h3
  exact ⟨h1, h2, h3⟩
theorem hs2_is : law44_head_s2 = [1, encL hA1] := by unfold law44_head_s2; rw [hs_is]; rfl
theorem hs4_is : law44_head_s4 = [3, encL hA3] := by unfold law44_head_s4; rw [hs_is]; rfl
theorem hch_is : ([(1 : Int), (7 : Int), (10 : Int)] :: [(2 : Int), (7 : Int), (10 : Int)] :: law44_head_s3) = hch := rfl
theorem g20 : (law44_head_s2).getD 0 (0 : Int) = 1 := by rw [hs2_is]; rfl
theorem g21 : decL ((law44_head_s2).getD 1 (0 : Int)) = hA1 := by rw [hs2_is]; exact dec_enc _
theorem g40 : (law44_head_s4).getD 0 (0 : Int) = 3 := by rw [hs4_is]; rfl
theorem g41 : decL ((law44_head_s4).getD 1 (0 : Int)) = hA3 := by rw [hs4_is]; exact dec_enc _
theorem hd5 : law44_head_s5 = [[1, 0, 9], [2, 2, 0], [2, 3, 0]] := by
  unfold law44_head_s5
  rw [hlog0.2.1, hlog0.2.2, hs_is, hch_is, hE.2.1]
theorem hd6 : law44_head_s6 = [[2, 7], [3, 7], [3, 9]] := by
  unfold law44_head_s6
  rw [hlog0.2.1, hlog0.2.2, hs_is, hch_is, hE.2.2.1]
theorem hd7 : law44_head_s7 = 0 := by
  unfold law44_head_s7
  rw [hlog0.2.1, hlog0.2.2, g20, g21, hch_is, hC1.2.2]
theorem hd8 : law44_head_s8 = 0 := by
  unfold law44_head_s8
  rw [hlog0.2.1, hlog0.2.2, g40, g41, hch_is, hC3.2.2]
theorem hd9 : law44_head_s9 = 0 := by
  unfold law44_head_s9
  rw [hlog0.2.1, hlog0.2.2, hs_is, hch_is, hG.2.2]
theorem hd10 : law44_head_s10 = 0 := by
  unfold law44_head_s10
  rw [hlog0.2.1, hlog0.2.2, hs_is, hch_is, hE.2.2.2]
theorem hd11 : law44_head_s11 = 0 := by
  unfold law44_head_s11
  rw [hlog0.2.1, hlog0.2.2, hs_is, hch_is, hd5, hd6, hV.2.2]
theorem hd12 : law44_head_s12 = [[7]] := by
  unfold law44_head_s12
  rw [hlog0.2.1, hlog0.2.2, g20, g21, hch_is, hC1.2.1]
theorem hd13 : law44_head_s13 = [] := by
  unfold law44_head_s13
  rw [hlog0.2.1, hlog0.2.2, g40, g41, hch_is, hC3.2.1]
theorem hd14 : law44_head_s14 = [[2, 7], [2, 9], [3, 7], [3, 9]] := by
  unfold law44_head_s14
  rw [hlog0.2.1, hlog0.2.2, hs_is, hch_is, hG.2.1]
theorem head_true : law44_head_0 = true := by
  unfold law44_head_0
  rw [hs_is, hch_is, hlog0.2.1, hlog0.2.2, hd5, hd6, hd7, hd8, hd9, hd10, hd11, hd12, hd13, hd14, g20, g21, g40, g41, hS1.2.1, hS1.2.2, hV.2.1, (Ints_is _ _ (by decide)).2, (SameGaps_is _ _ (by decide)).2, (SameOm_is _ _ (by decide)).2, (SameGaps_is _ _ (by decide)).2, (valid_is 3 hA3 l3_lt).2, hva3]
  rfl
theorem head_pre : law44_head_pre := by
  unfold law44_head_pre
  rw [hs_is, hch_is, hlog0.2.1, hlog0.2.2, hd5, hd6, hd12, hd14, g20, g21, g40, g41, hS1.2.1]
  have r0 : inR (0 : Int) hships := ⟨by decide, by show (0 : Int) < 3; decide⟩
  have r2 : inR (2 : Int) hships := ⟨by decide, by show (2 : Int) < 3; decide⟩
  exact ⟨⟨hlog1.1, hlog2.1, hlog3.1, hlog0.1⟩, r0, r0, hC1.1, r2, r2, hC3.1, hG.1, hE.1, hV.1, r0, r0, hS1.1, fun _ => ⟨(Ints_is _ _ (by decide)).1, fun _ => ⟨(Ints_is _ _ (by decide)).1, fun _ => ⟨(SameGaps_is _ _ (by decide)).1, fun _ => ⟨(SameOm_is _ _ (by decide)).1, fun _ => ⟨(SameGaps_is _ _ (by decide)).1, fun _ => r2, fun _ => ⟨r2, (valid_is 3 hA3 l3_lt).1⟩⟩⟩⟩⟩⟩⟩
end Go.Proofs.YtikhnofbbcmpeaaGreat
set_option linter.unusedVariables false
set_option maxRecDepth 100000
namespace Go.Proofs.YtikhnofbbcmpeaaGreat
open Go Go.Sy
theorem loop_some {step : List U → Option (Nat × List U)} {l : List (List Int)} {p : List Int → Bool} (m : Nat) (hs : ∀ i (hi : i < l.length), step [.b false, .i i] = bif p l[i] then some (1, []) else some (0, [.b false, .i ((i + 1 : Nat) : Int)]))
    (he : step [.b false, .i l.length] = some (m + 2, [.b false, .i l.length])) {init : List U} (hi : init = [.b false, .i ((0 : Nat) : Int)]) :
    loopOk step init ∧ (bif (loopGet step init).fst.beq 1 then true else false) = l.any p := by
  subst hi
  obtain ⟨h1, h2⟩ := loop_search (step := step) l.length (fun i => p (l.getD i [])) (fun i => [.b false, .i i]) (fun i => []) 0 (m + 1) [.b false, .i l.length]
    (fun i hi => by rw [hs i hi, getD_at hi]) he
  refine ⟨h1, ?_⟩
  rcases h2 with ⟨i, hi, hp, _, hg⟩ | ⟨hn, hg⟩
  · rw [hg]
    have : l.any p = true := List.any_eq_true.2 ⟨l[i], List.getElem_mem hi, by rw [← getD_at hi]; exact hp⟩
    rw [this]; rfl
  · rw [hg]
    have : l.any p = false := List.any_eq_false.2 fun x hx => by
      obtain ⟨i, hi, rfl⟩ := List.getElem_of_mem hx
      have := hn i hi
      simp only [getD_at hi] at this
      simp [this]
    rw [this]; rfl
theorem loop_up {step : List U → Option (Nat × List U)} (n m : Nat) (p : Nat → Bool) (hs : ∀ i, i < n → step [.b true, .i i] = some (0, [.b (p i), .i ((i + 1 : Nat) : Int)])) (hp : ∀ i, i < n → p i = true)
    (he : step [.b true, .i n] = some (m + 1, [.b true, .i n])) {init : List U} (hi : init = [.b true, .i ((0 : Nat) : Int)]) : loopOk step init ∧ gb (loopGet step init).snd 0 = true := by
  subst hi
  obtain ⟨h1, h2, _⟩ := loop_fold (step := step) n (fun i (_ : Unit) => [.b true, .i i]) (fun _ s => s) (fun _ _ => True) m (fun _ => [.b true, .i n]) (fun _ _ _ _ => trivial) (fun i s hi _ => by rw [hs i hi, hp i hi]) (fun s _ => he) (s := ()) trivial
  refine ⟨h1, ?_⟩
  rw [h2]
  exact gb_z _ _
theorem loop_or {step : List U → Option (Nat × List U)} {l : List (List Int)} {p : List Int → Bool} (m : Nat) (hs : ∀ i b (hi : i < l.length), step [.b b, .i i] = some (0, [.b (b || p l[i]), .i ((i + 1 : Nat) : Int)]))
    (he : ∀ b, step [.b b, .i l.length] = some (m + 1, [.b b, .i l.length])) {init : List U} (hi : init = [.b false, .i ((0 : Nat) : Int)]) : loopOk step init ∧ gb (loopGet step init).snd 0 = l.any p := by
  subst hi
  obtain ⟨h1, h2⟩ := loop_list (step := step) l (fun i (s : Bool) => [.b s, .i i]) (fun s x => .inl (s || p x)) (fun _ _ => True) (fun s => (m, [.b s, .i l.length])) 0 (fun i s hi _ _ => ⟨hs i s hi, fun _ _ => trivial⟩)
    (fun i s hi _ => by
      have : i = l.length := by omega
      subst this
      exact he s) (s := false) trivial
  refine ⟨h1, ?_⟩
  rw [h2, List.drop_zero, run_fold]
  have : ∀ (l : List (List Int)) (b : Bool), l.foldl (fun s x => s || p x) b = (b || l.any p) := by
    intro l
    induction l with
    | nil => intro b; simp
    | cons x r ih => intro b; rw [List.foldl_cons, ih, List.any_cons, Bool.or_assoc]
  rw [this, Bool.false_or]
  exact gb_z _ _
def offR (t : Int) (l : List (List Int)) : Bool := l.foldl (fun off x => if (decide (col x 0 ≤ t) && (col x 1 == 4 || col x 1 == 5)) = true then col x 1 == 4 else off) false
theorem Off_is (o t : Int) (l : List (List Int)) (hl : l.length ≤ 9223372036854775807) : ref44_Off_pre o t l ∧ ref44_Off_0 o t l = offR t l := by
  obtain ⟨h1, h2⟩ := loop_list (step := ref44_Off_l0_step o t l) l (fun i (s : Bool) => [.b s, .i i]) (fun off x => .inl (if (decide (col x 0 ≤ t) && (col x 1 == 4 || col x 1 == 5)) = true then col x 1 == 4 else off)) (fun _ _ => True) (fun s => (2, [.b s, .i l.length])) 0
    (fun i s hi _ _ => ⟨by
      have hr := inR_of hi
      unfold ref44_Off_l0_step
      simp only [gi_1, gi_z, gb_z]
      rw [dlt hi, guardP_true hr, guardP_true hr, guardP_true hr, guardP_true (fun _ => hr), guardP_true (fun _ => hr), guardP_true (fun _ => hr), guardP_true (fun _ _ => hr), guardP_true (fun _ _ => hr), guardP_true (fun _ _ => hr), guardP_true hr, guardP_true hr, guardP_true hr, getI_at hi, wrapS (by omega)]
      show (bif (decide (col l[i] 0 ≤ t) && (col l[i] 1 == 4 || col l[i] 1 == 5)) then _ else _) = _
      cases (decide (col l[i] 0 ≤ t) && (col l[i] 1 == 4 || col l[i] 1 == 5))
      · rw [if_neg (by decide)]; rfl
      · rw [if_pos rfl]; rfl, fun _ _ => trivial⟩)
    (fun i s hi _ => by
      have : i = l.length := by omega
      subst this
      unfold ref44_Off_l0_step
      simp only [gi_1, gi_z, gb_z, dnlt]) (s := false) trivial
  refine ⟨h1, ?_⟩
  have : ref44_Off_0 o t l = gb (loopGet (ref44_Off_l0_step o t l) [.b false, .i ((0 : Nat) : Int)]).snd 0 := rfl
  rw [this, h2, List.drop_zero, run_fold]
  exact gb_z _ _
def hasR (k n a b : Int) (l : List (List Int)) : Bool := l.any fun x => col x 1 == k && col x 2 == n && decide (a ≤ col x 0) && decide (col x 0 ≤ b)
theorem Has_is (o k n a b : Int) (l : List (List Int)) (hl : l.length ≤ 9223372036854775807) : ref44_Has_pre o k n a b l ∧ ref44_Has_0 o k n a b l = hasR k n a b l :=
  loop_some (step := ref44_Has_l0_step o k n a b l) 1 (fun i hi => by
      unfold ref44_Has_l0_step
      simp only [gi_1, gi_z, gb_z]
      rw [dlt hi, guardP_true (inR_of hi), guardP_true (inR_of hi), getI_at hi, wrapS (by omega)])
    (by unfold ref44_Has_l0_step; simp only [gi_1, gi_z, gb_z, dnlt]) rfl
theorem has_is (n : Int) (l : List (List Int)) (hl : l.length ≤ 9223372036854775807) : law44_has_pre n l ∧ law44_has_0 n l = l.any fun x => col x 0 == n :=
  loop_some (step := law44_has_l0_step n l) 1 (fun i hi => by
      unfold law44_has_l0_step
      simp only [gi_1, gi_z, gb_z]
      rw [dlt hi, guardP_true (inR_of hi), guardP_true (inR_of hi), getI_at hi, wrapS (by omega)])
    (by unfold law44_has_l0_step; simp only [gi_1, gi_z, gb_z, dnlt]) rfl
theorem hasL (n : Int) (l : List Int) : ((ofNums l).any fun x => col x 0 == n) = decide (n ∈ l) := by
  unfold ofNums
  rw [List.any_map]
  by_cases h : n ∈ l
  · rw [decide_eq_true h, List.any_eq_true]
    exact ⟨n, h, by show (n == n) = true; simp⟩
  · rw [decide_eq_false h, List.any_eq_false]
    intro x hx
    show ¬ (x == n) = true
    intro e
    exact h (eq_of_beq e ▸ hx)
theorem ofNums_at {l : List Int} {i : Nat} (hi : i < l.length) : col ((ofNums l).getD i []) 0 = l[i] := by
  rw [getD_at (by simpa [ofNums] using hi)]
  simp [ofNums]
theorem vld_spec {o : Int} : ∀ {l : List (List Int)} {off : Bool} {last now : Int}, vldF o off last now l = true → (∀ x ∈ l, now ≤ col x 0 ∧ lnF (col x 0) (col x 1) (col x 2) = true ∧ ownF o (col x 1) = true) ∧ l.Pairwise (fun a b => col a 0 ≤ col b 0)
  | [], _, _, _, _ => ⟨(fun x hx => by cases hx), List.Pairwise.nil⟩
  | x :: r, off, last, now, h => by
    unfold vldF at h
    split at h
    · cases h
    · rename_i h1
      have h1' : (!lnF (col x 0) (col x 1) (col x 2) || !ownF o (col x 1) || decide (col x 0 < now) || col x 3 != sumF o last (col x 0) (col x 1) (col x 2)) = false := by simpa using h1
      rw [Bool.or_eq_false_iff, Bool.or_eq_false_iff, Bool.or_eq_false_iff] at h1'
      obtain ⟨⟨⟨a1, a2⟩, a3⟩, a4⟩ := h1'
      have a3 := of_decide_eq_false a3
      have hr : ∃ off', vldF o off' (col x 3) (col x 0) r = true := by
        split at h
        · split at h
          · cases h
          · exact ⟨_, h⟩
        · exact ⟨_, h⟩
      obtain ⟨off', hr⟩ := hr
      obtain ⟨b1, b2⟩ := vld_spec hr
      refine ⟨fun y hy => ?_, List.pairwise_cons.2 ⟨fun y hy => (b1 y hy).1, b2⟩⟩
      rcases List.mem_cons.1 hy with rfl | hy
      · exact ⟨by omega, by simpa using a1, by simpa using a2⟩
      · have := b1 y hy
        exact ⟨by omega, this.2⟩
theorem val_spec {o : Int} {l : List (List Int)} (h : valF o l = true) : (∀ x ∈ l, 0 ≤ col x 0 ∧ lnF (col x 0) (col x 1) (col x 2) = true ∧ ownF o (col x 1) = true) ∧ l.Pairwise (fun a b => col a 0 ≤ col b 0) := by
  unfold valF at h
  rw [Bool.and_eq_true] at h
  exact vld_spec h.2
theorem cls3 (k : Int) : clsF k = 3 ↔ (k = 4 ∨ k = 5) := by
  unfold clsF
  by_cases h1 : k = 1
  · rw [if_pos h1]; omega
  · rw [if_neg h1]
    by_cases h2 : k = 2 ∨ k = 3
    · rw [if_pos h2]; omega
    · rw [if_neg h2]
      by_cases h3 : k = 4 ∨ k = 5
      · rw [if_pos h3]; simp [h3]
      · rw [if_neg h3]; simp [h3]
theorem on_off (t : Int) : ∀ {l : List (List Int)} (b : Bool), l.Pairwise (fun a b => col a 0 ≤ col b 0) → onF t b l = !(l.foldl (fun off x => if (decide (col x 0 ≤ t) && (col x 1 == 4 || col x 1 == 5)) = true then col x 1 == 4 else off) (!b))
  | [], b, _ => by simp [onF]
  | x :: r, b, h => by
    obtain ⟨h1, h2⟩ := List.pairwise_cons.1 h
    unfold onF
    rw [List.foldl_cons]
    by_cases ht : col x 0 > t
    · rw [if_pos ht]
      have key : ∀ (l : List (List Int)) (c : Bool), (∀ y ∈ l, col y 0 > t) → l.foldl (fun off x => if (decide (col x 0 ≤ t) && (col x 1 == 4 || col x 1 == 5)) = true then col x 1 == 4 else off) c = c := by
        intro l
        induction l with
        | nil => intro c _; rfl
        | cons y r ih =>
          intro c hy
          rw [List.foldl_cons, decide_eq_false (show ¬ col y 0 ≤ t by have := hy y List.mem_cons_self; omega), Bool.false_and, if_neg (by decide)]
          exact ih c fun z hz => hy z (List.mem_cons_of_mem _ hz)
      rw [decide_eq_false (show ¬ col x 0 ≤ t by omega), Bool.false_and, if_neg (by decide), key r _ (fun y hy => by have := h1 y hy; omega), Bool.not_not]
    · rw [if_neg ht, decide_eq_true (show col x 0 ≤ t by omega), Bool.true_and]
      by_cases h3 : clsF (col x 1) = 3
      · rw [if_pos h3]
        have e : (col x 1 == 4 || col x 1 == 5) = true := by
          rcases (cls3 _).1 h3 with h | h <;> rw [h] <;> rfl
        rw [if_pos e, on_off t (col x 1 == 5) h2]
        have e2 : (!(col x 1 == 5)) = (col x 1 == 4) := by
          rcases (cls3 _).1 h3 with h | h <;> rw [h] <;> rfl
        rw [e2]
      · rw [if_neg h3]
        have e : (col x 1 == 4 || col x 1 == 5) = false := by
          rw [bne fun h => h3 ((cls3 _).2 (.inl h)), bne fun h => h3 ((cls3 _).2 (.inr h))]; rfl
        rw [e, if_neg (by decide), on_off t b h2]
theorem off_is {o : Int} {l : List (List Int)} (h : valF o l = true) (t : Int) : offR t l = !onF t true l := by
  rw [on_off t true (val_spec h).2, Bool.not_not]
  rfl
theorem office_kind {l : List (List Int)} (h : valF 0 l = true) : ∀ x ∈ l, col x 1 = 1 := by
  intro x hx
  have h3 := ((val_spec h).1 x hx).2.2
  unfold ownF clsF at h3
  by_cases h1 : col x 1 = 1
  · exact h1
  · rw [if_neg h1] at h3
    exfalso
    by_cases h2 : col x 1 = 2 ∨ col x 1 = 3
    · rw [if_pos h2] at h3; cases h3
    · rw [if_neg h2] at h3
      by_cases h4 : col x 1 = 4 ∨ col x 1 = 5
      · rw [if_pos h4] at h3; cases h3
      · rw [if_neg h4] at h3; cases h3
theorem any_congr' {l : List (List Int)} {p q : List Int → Bool} (h : ∀ x ∈ l, p x = q x) : l.any p = l.any q := by
  induction l with
  | nil => rfl
  | cons x r ih => rw [List.any_cons, List.any_cons, h x List.mem_cons_self, ih fun y hy => h y (List.mem_cons_of_mem _ hy)]
theorem sent_at {l : List (List Int)} (h : valF 0 l = true) {n t : Int} (ht : 0 ≤ t) : hasR 1 n t t l = sentF n t l := by
  refine any_congr' fun x hx => ?_
  rw [office_kind h x hx, decide_eq_false (show ¬ t < 0 by omega)]
  show (true && col x 2 == n && decide (t ≤ col x 0) && decide (col x 0 ≤ t)) = (col x 2 == n && (false || col x 0 == t))
  by_cases e : col x 0 = t
  · rw [e]; simp
  · have e1 : (decide (t ≤ col x 0) && decide (col x 0 ≤ t)) = false := by
      rw [Bool.and_eq_false_iff, decide_eq_false_iff_not, decide_eq_false_iff_not]; omega
    rw [Bool.and_assoc, e1, bne e]; simp
end Go.Proofs.YtikhnofbbcmpeaaGreat
set_option linter.unusedVariables false
namespace Go.Proofs.YtikhnofbbcmpeaaGreat
open Go Go.Sy
theorem rowLt {W : World} {own : Bool} {e : TypeId} {sz : Nat} {v : Value} {m : Nat} {vs : List Value} (h : RowOk W own e sz v m vs) : m ≤ 9223372036854775807 := by
  obtain ⟨a, c, _, h1, h2⟩ := h.reads.is
  unfold maxLen at h2
  omega
end Go.Proofs.YtikhnofbbcmpeaaGreat
set_option linter.unusedVariables false
set_option maxRecDepth 100000
namespace Go.Proofs.YtikhnofbbcmpeaaGreat
open Go Go.Sy
theorem shRaw_mono {t t' : Int} (h : t ≤ t') : ∀ {l : List (List Int)} {n : Int}, n ∈ shRaw t l → n ∈ shRaw t' l
  | [], n, hn => by cases hn
  | x :: r, n, hn => by
    unfold shRaw at hn ⊢
    by_cases h1 : col x 0 > t
    · rw [if_pos h1] at hn; cases hn
    · rw [if_neg h1] at hn
      rw [if_neg (show ¬ col x 0 > t' by omega)]
      by_cases h3 : col x 1 = 3
      · rw [if_pos h3] at hn ⊢
        rcases List.mem_cons.1 hn with rfl | hn
        · exact List.mem_cons_self
        · exact List.mem_cons_of_mem _ (shRaw_mono h hn)
      · rw [if_neg h3] at hn ⊢
        exact shRaw_mono h hn
theorem coRaw_mem {so t : Int} {office ship list : List (List Int)} {n : Int} : n ∈ coRaw so t office ship list ↔ ∃ c ∈ list, coP so t office ship c = true ∧ col c 1 = n := by
  unfold coRaw
  rw [List.mem_map]
  constructor
  · rintro ⟨c, hc, rfl⟩
    obtain ⟨h1, h2⟩ := List.mem_filter.1 hc
    exact ⟨c, h1, h2, rfl⟩
  · rintro ⟨c, h1, h2, rfl⟩
    exact ⟨c, List.mem_filter.2 ⟨h1, h2⟩, rfl⟩
theorem rise_at {l : List Int} (h : l.Pairwise (· < ·)) {i : Nat} (h0 : 0 < i) (hi : i < l.length) : l[i - 1] < l[i] := List.pairwise_iff_getElem.1 h (i - 1) i (by omega) hi (by omega)
theorem known_ok (oo so time later : Int) (office ship chances : List (List Int)) (h1 : office.length ≤ 9223372036854775807) (h2 : ship.length ≤ 9223372036854775807) (h3 : chances.length ≤ 9223372036854775807) :
    law44_InquiryKnown_0 oo so time later office ship chances = true ∧ law44_InquiryKnown_pre oo so time later office ship chances := by
  obtain ⟨a1, a2, a3⟩ := Could_is oo so time office ship chances h1 h2 h3
  obtain ⟨b1, b2, b3⟩ := Could_is oo so later office ship chances h1 h2 h3
  obtain ⟨c1, c2, c3⟩ := Shown_is so time ship h2
  obtain ⟨d1, d2, d3⟩ := Shown_is so later ship h2
  unfold law44_InquiryKnown_0 law44_InquiryKnown_pre
  rw [head_true]
  by_cases h16 : (chances.length : Int) > 16
  · rw [decide_eq_true h16]
    exact ⟨rfl, head_pre, fun h => by cases h⟩
  rw [decide_eq_false h16, cond_false, a3, b3, c3, d3]
  cases k1 : coOk oo so time office ship chances with
  | false =>
    rw [if_neg (by decide)]
    refine ⟨?_, head_pre, fun _ => ⟨a1, b1, c1, d1, fun h => ?_⟩⟩
    · simp
    · simp at h
  | true =>
  cases k2 : coOk oo so later office ship chances with
  | false =>
    rw [if_pos (rfl : true = true), if_neg (by decide : ¬ false = true)]
    refine ⟨?_, head_pre, fun _ => ⟨a1, b1, c1, d1, fun h => ?_⟩⟩
    · simp
    · simp at h
  | true =>
  rw [k1, if_pos rfl] at a2
  rw [k2, if_pos rfl] at b2
  have hv : valF so ship = true ∧ tmF time = true ∧ valF oo office = true ∧ oo = 0 ∧ chF chances = true := by
    unfold coOk at k1
    simp only [Bool.and_eq_true, beq_iff_eq] at k1
    exact ⟨k1.1.1.1.1.2, k1.1.1.2, k1.1.1.1.1.1, k1.1.2, k1.1.1.1.2⟩
  have hv2 : tmF later = true := by
    unfold coOk at k2
    simp only [Bool.and_eq_true, beq_iff_eq] at k2
    exact k2.1.1.2
  obtain ⟨v1, v2, v3, v4, v5⟩ := hv
  rw [v1, v2] at c2 c3
  rw [v1, hv2] at d2 d3
  rw [v1, v2, hv2]
  have c2 : inquiry_Shown_0 so time ship = ofNums (shownF time ship) := c2
  have d2 : inquiry_Shown_0 so later ship = ofNums (shownF later ship) := d2
  have hlc : chances.length ≤ 200 := (ch_len v5).1
  have lenA : (onceL (coRaw so time office ship chances)).length ≤ chances.length := Nat.le_trans (onceL_length _) (by unfold coRaw; rw [List.length_map]; exact List.length_filter_le _ _)
  have lenB : (onceL (coRaw so later office ship chances)).length ≤ chances.length := Nat.le_trans (onceL_length _) (by unfold coRaw; rw [List.length_map]; exact List.length_filter_le _ _)
  have lenS : ∀ t, (shownF t ship).length ≤ 200 := fun t => Nat.le_trans (onceL_length _) (Nat.le_trans (shRaw_length _ _) (val_len v1).1)
  have offv := fun t => off_is v1 t
  subst v4
  -- what could have been known
  have inner : ∀ (i : Nat) (hi : i < (onceL (coRaw so time office ship chances)).length), loopOk (law44_InquiryKnown_l1_step 0 so time later office ship chances [.b true, .i i]) (law44_InquiryKnown_l1_init 0 so time later office ship chances [.b true, .i i]) ∧ gb (law44_InquiryKnown_l1 0 so time later office ship chances [.b true, .i i]).snd 0 = true := by
    intro i hi
    have hr : inR (i : Int) (ofNums (onceL (coRaw so time office ship chances))) := inR_of (by simpa [ofNums] using hi)
    obtain ⟨g1, g2⟩ := loop_or (step := law44_InquiryKnown_l1_step 0 so time later office ship chances [.b true, .i i]) (l := chances) (p := fun x => col x 0 == so && col x 1 == (onceL (coRaw so time office ship chances))[i] && decide (col x 2 ≤ time) && !offR (col x 2) ship && hasR 1 (col x 1) (col x 2) (col x 2) office) 1
      (fun j b hj => by
        unfold law44_InquiryKnown_l1_step
        simp only [gi_1, gi_z, gb_z]
        rw [a2, dlt hj, guardP_true (inR_of hj), guardP_true (inR_of hj), guardP_true (fun _ _ => hr), guardP_true (fun _ _ => hr), guardP_true (fun _ _ => (Off_is _ _ _ h2).1), guardP_true (fun _ _ => (Has_is _ _ _ _ _ _ h1).1), (Off_is _ _ _ h2).2, (Has_is _ _ _ _ _ _ h1).2, getI_at hj, Int.toNat_natCast, wrapS (by omega)]
        rw [show ((ofNums (onceL (coRaw so time office ship chances))).getD i []).getD 0 0 = (onceL (coRaw so time office ship chances))[i] from ofNums_at hi])
      (fun b => by
        unfold law44_InquiryKnown_l1_step
        simp only [gi_1, gi_z, gb_z, dnlt]) (init := law44_InquiryKnown_l1_init 0 so time later office ship chances [.b true, .i i]) rfl
    refine ⟨g1, g2.trans ?_⟩
    have hm : (onceL (coRaw so time office ship chances))[i] ∈ coRaw so time office ship chances := (onceL_mem _ _).1 (List.getElem_mem hi)
    obtain ⟨c, hc, hp, he⟩ := coRaw_mem.1 hm
    rw [List.any_eq_true]
    refine ⟨c, hc, ?_⟩
    unfold coP at hp
    simp only [Bool.and_eq_true] at hp
    obtain ⟨⟨⟨p1, p2⟩, p3⟩, p4⟩ := hp
    have ht := ((ch_len v5).2 c hc).1
    simp only [Bool.and_eq_true]
    refine ⟨⟨⟨⟨p1, by rw [he]; simp⟩, p2⟩, by rw [offv, p4]; rfl⟩, by rw [sent_at v3 ht]; exact p3⟩
  obtain ⟨e1, e2⟩ := loop_up (step := law44_InquiryKnown_l0_step 0 so time later office ship chances) (onceL (coRaw so time office ship chances)).length 1
    (fun i => (decide (time > later) || decide ((onceL (coRaw so time office ship chances)).getD i 0 ∈ onceL (coRaw so later office ship chances))) && (((i : Int) == 0) || decide ((onceL (coRaw so time office ship chances)).getD (i - 1) 0 < (onceL (coRaw so time office ship chances)).getD i 0)) && true)
    (fun i hi => by
      have hln : (ofNums (onceL (coRaw so time office ship chances))).length = (onceL (coRaw so time office ship chances)).length := by simp [ofNums]
      have hr : inR (i : Int) (ofNums (onceL (coRaw so time office ship chances))) := inR_of (by rw [hln]; exact hi)
      have hr' : ((i : Int) == 0) = false → inR (IntKind.i64.wrap ((i : Int) - 1)) (ofNums (onceL (coRaw so time office ship chances))) := fun h => by
        have : ¬ (i : Int) = 0 := by simpa using h
        rw [i64_wrap (by omega)]
        unfold inR; rw [hln]; omega
      obtain ⟨q1, q2⟩ := inner i hi
      have eA : ((ofNums (onceL (coRaw so time office ship chances))).getD (i : Int).toNat []).getD 0 0 = (onceL (coRaw so time office ship chances)).getD i 0 := by
        rw [Int.toNat_natCast, List.getD_eq_getElem?_getD (l := onceL (coRaw so time office ship chances)), List.getElem?_eq_getElem hi]
        exact ofNums_at hi
      have eA' : ((i : Int) == 0 || decide (((ofNums (onceL (coRaw so time office ship chances))).getD (IntKind.i64.wrap ((i : Int) - 1)).toNat []).getD 0 0 < (onceL (coRaw so time office ship chances)).getD i 0)) = ((i : Int) == 0 || decide ((onceL (coRaw so time office ship chances)).getD (i - 1) 0 < (onceL (coRaw so time office ship chances)).getD i 0)) := by
        by_cases h0 : (i : Int) = 0
        · rw [h0]; simp
        · rw [i64_wrap (by omega), show ((i : Int) - 1).toNat = i - 1 by omega]
          have hi1 : i - 1 < (onceL (coRaw so time office ship chances)).length := by omega
          rw [show ((ofNums (onceL (coRaw so time office ship chances))).getD (i - 1) []).getD 0 0 = (onceL (coRaw so time office ship chances))[i - 1] from ofNums_at hi1, List.getD_eq_getElem?_getD (l := onceL (coRaw so time office ship chances)) (i := i - 1), List.getElem?_eq_getElem hi1]
          rfl
      have hB : (ofNums (onceL (coRaw so later office ship chances))).length ≤ 9223372036854775807 := by simp [ofNums]; omega
      unfold law44_InquiryKnown_l0_step
      simp only [gi_1, gi_z, gb_z]
      rw [a2, b2, hln, dlt hi, guardP_true (fun _ _ => hr), guardP_true (fun _ _ => hr), guardP_true (fun _ _ => (has_is _ _ hB).1), guardP_true (fun _ h => hr' h), guardP_true (fun _ h => hr' h), guardP_true (fun _ _ => hr), guardP_true (fun _ _ => hr), guardP_true q1, q2, (has_is _ _ hB).2, hasL, eA, wrapS (by omega), eA', Bool.true_and])
    (fun i hi => by
      have ei : ∀ j, j < (onceL (coRaw so time office ship chances)).length → (onceL (coRaw so time office ship chances)).getD j 0 = (onceL (coRaw so time office ship chances)).getD j 0 := fun _ _ => rfl
      have e0 : (onceL (coRaw so time office ship chances)).getD i 0 = (onceL (coRaw so time office ship chances))[i] := by rw [List.getD_eq_getElem?_getD, List.getElem?_eq_getElem hi]; rfl
      rw [Bool.and_true, Bool.and_eq_true]
      refine ⟨?_, ?_⟩
      · by_cases ht : time > later
        · rw [decide_eq_true ht]; rfl
        · rw [Bool.or_eq_true]; right
          apply decide_eq_true
          rw [e0, onceL_mem]
          obtain ⟨c, hc, hp, he⟩ := coRaw_mem.1 ((onceL_mem _ _).1 (List.getElem_mem hi))
          refine coRaw_mem.2 ⟨c, hc, ?_, he⟩
          unfold coP at hp ⊢
          simp only [Bool.and_eq_true, decide_eq_true_eq] at hp ⊢
          exact ⟨⟨⟨hp.1.1.1, by omega⟩, hp.1.2⟩, hp.2⟩
      · by_cases h0 : i = 0
        · rw [h0]; rfl
        · rw [Bool.or_eq_true]; right
          apply decide_eq_true
          have hi1 : i - 1 < (onceL (coRaw so time office ship chances)).length := by omega
          rw [e0, List.getD_eq_getElem?_getD, List.getElem?_eq_getElem hi1]
          exact rise_at (onceL_rise _) (by omega) hi)
    (by
      unfold law44_InquiryKnown_l0_step
      simp only [gi_1, gi_z, gb_z]
      have hln : (ofNums (onceL (coRaw so time office ship chances))).length = (onceL (coRaw so time office ship chances)).length := by simp [ofNums]
      rw [a2, hln, dnlt]) (init := law44_InquiryKnown_l0_init 0 so time later office ship chances) (by unfold law44_InquiryKnown_l0_init; rw [head_true]; rfl)
  -- what was shown
  obtain ⟨f1, f2⟩ := loop_up (step := law44_InquiryKnown_l2_step 0 so time later office ship chances) (shownF time ship).length 1
    (fun i => (decide (time > later) || decide ((shownF time ship).getD i 0 ∈ shownF later ship)) && (((i : Int) == 0) || decide ((shownF time ship).getD (i - 1) 0 < (shownF time ship).getD i 0)))
    (fun i hi => by
      have hlS := lenS time
      have hlS2 := lenS later
      have hln : (ofNums (shownF time ship)).length = (shownF time ship).length := by simp [ofNums]
      have hr : inR (i : Int) (ofNums (shownF time ship)) := inR_of (by rw [hln]; exact hi)
      have hr' : ((i : Int) == 0) = false → inR (IntKind.i64.wrap ((i : Int) - 1)) (ofNums (shownF time ship)) := fun h => by
        have : ¬ (i : Int) = 0 := by simpa using h
        rw [i64_wrap (by omega)]
        unfold inR; rw [hln]; omega
      have eA : ((ofNums (shownF time ship)).getD (i : Int).toNat []).getD 0 0 = (shownF time ship).getD i 0 := by
        rw [Int.toNat_natCast, List.getD_eq_getElem?_getD (l := shownF time ship), List.getElem?_eq_getElem hi]
        exact ofNums_at hi
      have eA' : ((i : Int) == 0 || decide (((ofNums (shownF time ship)).getD (IntKind.i64.wrap ((i : Int) - 1)).toNat []).getD 0 0 < (shownF time ship).getD i 0)) = ((i : Int) == 0 || decide ((shownF time ship).getD (i - 1) 0 < (shownF time ship).getD i 0)) := by
        by_cases h0 : (i : Int) = 0
        · rw [h0]; simp
        · rw [i64_wrap (by omega), show ((i : Int) - 1).toNat = i - 1 by omega]
          have hi1 : i - 1 < (shownF time ship).length := by omega
          rw [show ((ofNums (shownF time ship)).getD (i - 1) []).getD 0 0 = (shownF time ship)[i - 1] from ofNums_at hi1, List.getD_eq_getElem?_getD (l := shownF time ship) (i := i - 1), List.getElem?_eq_getElem hi1]
          rfl
      have hB : (ofNums (shownF later ship)).length ≤ 9223372036854775807 := by simp [ofNums]; omega
      unfold law44_InquiryKnown_l2_step
      simp only [gi_1, gi_z, gb_z]
      rw [c2, d2, hln, dlt hi, guardP_true (fun _ _ => hr), guardP_true (fun _ _ => hr), guardP_true (fun _ _ => (has_is _ _ hB).1), guardP_true (fun _ h => hr' h), guardP_true (fun _ h => hr' h), guardP_true (fun _ _ => hr), guardP_true (fun _ _ => hr), (has_is _ _ hB).2, hasL, eA, wrapS (by omega), eA', Bool.true_and])
    (fun i hi => by
      have e0 : (shownF time ship).getD i 0 = (shownF time ship)[i] := by rw [List.getD_eq_getElem?_getD, List.getElem?_eq_getElem hi]; rfl
      rw [Bool.and_eq_true]
      refine ⟨?_, ?_⟩
      · by_cases ht : time > later
        · rw [decide_eq_true ht]; rfl
        · rw [Bool.or_eq_true]; right
          apply decide_eq_true
          rw [e0]
          exact (onceL_mem _ _).2 (shRaw_mono (by omega) ((onceL_mem _ _).1 (List.getElem_mem hi)))
      · by_cases h0 : i = 0
        · rw [h0]; rfl
        · rw [Bool.or_eq_true]; right
          apply decide_eq_true
          have hi1 : i - 1 < (shownF time ship).length := by omega
          rw [e0, List.getD_eq_getElem?_getD, List.getElem?_eq_getElem hi1]
          exact rise_at (onceL_rise _) (by omega) hi)
    (by
      unfold law44_InquiryKnown_l2_step
      simp only [gi_1, gi_z, gb_z]
      have hln : (ofNums (shownF time ship)).length = (shownF time ship).length := by simp [ofNums]
      rw [c2, hln, dnlt]) (init := law44_InquiryKnown_l2_init 0 so time later office ship chances) (by unfold law44_InquiryKnown_l2_init; rw [show gb (law44_InquiryKnown_l0 0 so time later office ship chances).snd 0 = true from e2]; rfl)
  exact ⟨f2, head_pre, fun _ => ⟨a1, b1, c1, d1, fun _ => ⟨e1, f1⟩⟩⟩
end Go.Proofs.YtikhnofbbcmpeaaGreat
