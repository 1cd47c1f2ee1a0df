/- Several texts in one (wip/pack.py): XInqPj XInqPk XInqPl XKoen XInqPn XInqPo XInqPf2 XInqQ0 XInqQBetter. -/
import Derived.Test.YtikhnofbbcmpeaaGreatQIB05
import Derived.Test.YtikhnofbbcmpeaaGreatQIB07
set_option linter.unusedVariables false
set_option maxRecDepth 100000
namespace Go.Proofs.YtikhnofbbcmpeaaGreat
open Go Go.Sy
def riseF (cf : List Int → List Int → Int) : List (List Int) → Bool
  | x :: y :: r => decide (cf x y < 0) && riseF cf (y :: r)
  | _ => true
theorem riseF_iff (cf : List Int → List Int → Int) : ∀ l : List (List Int), riseF cf l = true ↔ ∀ i (h : i + 1 < l.length), cf l[i] l[i + 1] < 0
  | [] => ⟨fun _ i h => by simp at h, fun _ => rfl⟩
  | [x] => ⟨fun _ i h => by simp at h, fun _ => rfl⟩
  | x :: y :: r => by
    show (decide (cf x y < 0) && riseF cf (y :: r)) = true ↔ _
    rw [Bool.and_eq_true, decide_eq_true_eq, riseF_iff cf (y :: r)]
    constructor
    · rintro ⟨h1, h2⟩ i hi
      cases i with
      | zero => exact h1
      | succ i => exact h2 i (by simpa using hi)
    · intro h
      exact ⟨h 0 (by simp), fun i hi => h (i + 1) (by simpa using hi)⟩
theorem rise_loop {step : List U → Option (Nat × List U)} {l : List (List Int)} {cf : List Int → List Int → Int} (m : Nat) (hs : ∀ i (hi : i + 1 < l.length), step [.b false, .i ((i + 1 : Nat) : Int)] = bif decide (cf l[i] l[i + 1] ≥ 0) then some (1, []) else some (0, [.b false, .i ((i + 1 + 1 : Nat) : Int)]))
    (he : ∀ n : Nat, ¬ ((n : Int) < (l.length : Int)) → step [.b false, .i n] = some (m + 2, [.b false, .i n])) {init : List U} (hi : init = [.b false, .i ((0 + 1 : Nat) : Int)]) :
    loopOk step init ∧ (bif (loopGet step init).fst.beq 1 then false else true) = riseF cf l := by
  subst hi
  obtain ⟨h1, h2⟩ := loop_search (step := step) (l.length - 1) (fun i => decide (cf (l.getD i []) (l.getD (i + 1) []) ≥ 0)) (fun i => [.b false, .i ((i + 1 : Nat) : Int)]) (fun i => []) 0 (m + 1) [.b false, .i ((l.length - 1 + 1 : Nat) : Int)]
    (fun i hi => by rw [hs i (by omega), getD_at (by omega), getD_at (by omega)]) (he _ (by omega))
  refine ⟨h1, ?_⟩
  rcases h2 with ⟨i, hi, hp, _, hg⟩ | ⟨hn, hg⟩
  · rw [hg]
    rw [getD_at (by omega), getD_at (by omega)] at hp
    have : riseF cf l = false := by
      cases hr : riseF cf l with
      | false => rfl
      | true =>
        have := (riseF_iff cf l).1 hr i (by omega)
        have := of_decide_eq_true hp
        omega
    rw [this]; rfl
  · rw [hg]
    have : riseF cf l = true := (riseF_iff cf l).2 fun i hi => by
      have := hn i (by omega)
      rw [getD_at (by omega), getD_at hi] at this
      have := of_decide_eq_false this
      omega
    rw [this]; rfl
def canF (g o : List Int) : Bool :=
  bif col o 0 == 1 && (col o 1 == 0 && (col o 2 == col g 1 && true)) then col g 2 != 0 else bif col o 0 == 2 && (col o 1 == col g 0 && (col o 2 == 0 && true)) then col g 3 != 0 else col o 0 == 3 && (col o 1 == col g 0 && (col o 2 == col g 1 && true))
def keyB (g p : List Int) : Bool := col g 0 == col p 0 && (col g 1 == col p 1 && true)
def verL (om pr : List (List Int)) : List (List Int) → List (List Int) → Option (List (List Int))
  | named, [] => some named
  | named, g :: r => if (om.any (canF g)) = true then (if pr.any (keyB g) = true then (if named.any (fun h => !apF g h) = true then none else verL om pr (named ++ [g]) r) else verL om pr named r) else none
noncomputable def verF (gs om pr : List (List Int)) : Bool := om.length == pr.length && riseF cfO om && riseF cfG pr && (match verL om pr [] gs with | some named => named.length == pr.length | none => false)
section
variable {ow t delay : Int} {office ships list om pr : List (List Int)}
theorem ver_case : inquiry_Verify_l0_step ow t delay office ships list om pr = inquiry_Gaps_l0_step ow t delay office ships list ∧ inquiry_Verify_l0_init ow t delay office ships list om pr = inquiry_Gaps_l0_init ow t delay office ships list ∧ inquiry_Verify_l0 ow t delay office ships list om pr = inquiry_Gaps_l0 ow t delay office ships list ∧
    inquiry_Verify_l1_step ow t delay office ships list om pr = inquiry_Gaps_l1_step ow t delay office ships list ∧ inquiry_Verify_l1_init ow t delay office ships list om pr = inquiry_Gaps_l1_init ow t delay office ships list ∧ inquiry_Verify_l1 ow t delay office ships list om pr = inquiry_Gaps_l1 ow t delay office ships list := ⟨rfl, rfl, rfl, rfl, rfl, rfl⟩
theorem ver2_is (hom : om.length ≤ 9223372036854775807) : loopOk (inquiry_Verify_l2_step ow t delay office ships list om pr) (inquiry_Verify_l2_init ow t delay office ships list om pr) ∧ (bif (inquiry_Verify_l2 ow t delay office ships list om pr).fst.beq 1 then false else true) = riseF cfO om :=
  rise_loop (cf := cfO) 1 (fun i hi => by
      unfold inquiry_Verify_l2_step inquiry_Verify_s1
      have hw : IntKind.i64.wrap (((i + 1 : Nat) : Int) - 1) = ((i : Nat) : Int) := by rw [i64_wrap (by omega)]; omega
      simp only [gi_1, gi_z, gb_z, hw]
      rw [decide_eq_true (by omega), cond_true, guardP_true (inR_of (by omega)), guardP_true (inR_of (by omega)), guardP_true (inR_of hi), guardP_true (inR_of hi), guardP_true (compare_is _ _ _ _ _ _).1, getI_at hi, getI_at (show i < om.length by omega), wrapS (by omega)]
      rfl)
    (fun n hn => by
      unfold inquiry_Verify_l2_step
      simp only [gi_1, gi_z, gb_z]
      rw [decide_eq_false hn]; rfl) rfl
theorem ver3_is (hpr : pr.length ≤ 9223372036854775807) : loopOk (inquiry_Verify_l3_step ow t delay office ships list om pr) (inquiry_Verify_l3_init ow t delay office ships list om pr) ∧ (bif (inquiry_Verify_l3 ow t delay office ships list om pr).fst.beq 1 then false else true) = riseF cfG pr :=
  rise_loop (cf := cfG) 1 (fun i hi => by
      unfold inquiry_Verify_l3_step inquiry_Verify_s2
      have hw : IntKind.i64.wrap (((i + 1 : Nat) : Int) - 1) = ((i : Nat) : Int) := by rw [i64_wrap (by omega)]; omega
      simp only [gi_1, gi_z, gb_z, hw]
      rw [decide_eq_true (by omega), cond_true, guardP_true (inR_of (by omega)), guardP_true (inR_of (by omega)), guardP_true (inR_of hi), guardP_true (inR_of hi), guardP_true (order_is _ _ _ _).1, getI_at hi, getI_at (show i < pr.length by omega), wrapS (by omega)]
      rfl)
    (fun n hn => by
      unfold inquiry_Verify_l3_step
      simp only [gi_1, gi_z, gb_z]
      rw [decide_eq_false hn]; rfl) rfl
theorem ver4_is {gs : List (List Int)} (hg : inquest_gaps_0 ow t delay office (gr (inquiry_Verify_l0 ow t delay office ships list om pr).snd 3) list = gs) (hok : GapsOk gs) (hgs : gs.length ≤ 1000000) (hom : om.length ≤ 9223372036854775807) (hpr : pr.length ≤ 9223372036854775807) :
    loopOk (inquiry_Verify_l4_step ow t delay office ships list om pr) (inquiry_Verify_l4_init ow t delay office ships list om pr) ∧
    (bif (inquiry_Verify_l4 ow t delay office ships list om pr).fst.beq 1 then false else bif (inquiry_Verify_l4 ow t delay office ships list om pr).fst.beq 2 then false else (↑(gr (inquiry_Verify_l4 ow t delay office ships list om pr).snd 3).length : Int) == (↑pr.length : Int)) = (match verL om pr [] gs with | some named => named.length == pr.length | none => false) := by
  have inner : ∀ (i : Nat) (hi : i < gs.length) (named : List (List Int)), named.length ≤ 9223372036854775807 →
      (loopOk (inquiry_Verify_l5_step ow t delay office ships list om pr [.b false, .i 0, .i i, .r named]) (inquiry_Verify_l5_init ow t delay office ships list om pr [.b false, .i 0, .i i, .r named]) ∧ decide ((bif (inquiry_Verify_l5 ow t delay office ships list om pr [.b false, .i 0, .i i, .r named]).fst.beq 1 then gi (inquiry_Verify_l5 ow t delay office ships list om pr [.b false, .i 0, .i i, .r named]).snd 0 else (-1 : Int)) ≥ 0) = om.any (canF gs[i])) ∧
      (loopOk (inquiry_Verify_l6_step ow t delay office ships list om pr [.b false, .i 0, .i i, .r named]) (inquiry_Verify_l6_init ow t delay office ships list om pr [.b false, .i 0, .i i, .r named]) ∧ decide ((bif (inquiry_Verify_l6 ow t delay office ships list om pr [.b false, .i 0, .i i, .r named]).fst.beq 1 then gi (inquiry_Verify_l6 ow t delay office ships list om pr [.b false, .i 0, .i i, .r named]).snd 0 else (-1 : Int)) ≥ 0) = pr.any (keyB gs[i])) ∧
      (loopOk (inquiry_Verify_l7_step ow t delay office ships list om pr [.b false, .i 0, .i i, .r named]) (inquiry_Verify_l7_init ow t delay office ships list om pr [.b false, .i 0, .i i, .r named]) ∧ decide ((bif (inquiry_Verify_l7 ow t delay office ships list om pr [.b false, .i 0, .i i, .r named]).fst.beq 1 then gi (inquiry_Verify_l7 ow t delay office ships list om pr [.b false, .i 0, .i i, .r named]).snd 0 else (-1 : Int)) ≥ 0) = named.any fun h => !apF gs[i] h) := by
    intro i hi named hnm
    refine ⟨loop_any (l := om) (p := canF gs[i]) 1 (fun j hj => ?_) ?_ rfl, loop_any (l := pr) (p := keyB gs[i]) 1 (fun j hj => ?_) ?_ rfl, loop_any (l := named) (p := fun h => !apF gs[i] h) 1 (fun j hj => ?_) ?_ rfl⟩
    · unfold inquiry_Verify_l5_step
      simp only [gi_2, gi_1, gi_z]
      rw [hg, dlt hj, guardP_true (inR_of hj), guardP_true (inR_of hj), getI_at hj, getI_at hi, wrapS (by omega)]
      rfl
    · unfold inquiry_Verify_l5_step
      simp only [gi_1, gi_z, dnlt]
    · unfold inquiry_Verify_l6_step
      simp only [gi_2, gi_1, gi_z]
      rw [hg, dlt hj, guardP_true (inR_of hj), guardP_true (inR_of hj), getI_at hj, getI_at hi, wrapS (by omega)]
      rfl
    · unfold inquiry_Verify_l6_step
      simp only [gi_1, gi_z, dnlt]
    · unfold inquiry_Verify_l7_step
      simp only [gi_2, gi_1, gi_z, gr_3, gr_z]
      rw [hg, dlt hj, guardP_true (inR_of hj), guardP_true (inR_of hj), getI_at hj, getI_at hi, wrapS (by omega)]
      rfl
    · unfold inquiry_Verify_l7_step
      simp only [gi_1, gi_z, gr_3, gr_z, dnlt]
  let f : List (List Int) → List Int → List (List Int) ⊕ (Nat × List U) := fun named g => if (om.any (canF g)) = true then (if pr.any (keyB g) = true then (if named.any (fun h => !apF g h) = true then .inr (1, []) else .inl (named ++ [g])) else .inl named) else .inr (0, [])
  obtain ⟨h1, h2⟩ := loop_list (step := inquiry_Verify_l4_step ow t delay office ships list om pr) gs (fun i (s : List (List Int)) => [.b false, .i 0, .i i, .r s]) f (fun i s => s.length ≤ i) (fun s => (4, [.b false, .i 0, .i gs.length, .r s])) 0
    (fun i s hi _ hI => by
      obtain ⟨⟨a1, a2⟩, ⟨b1, b2⟩, ⟨c1, c2⟩⟩ := inner i hi s (by omega)
      refine ⟨?_, fun s' hs' => ?_⟩
      · have hn : [gs[i].getD 0 0, gs[i].getD 1 0, bif gs[i].getD 2 0 != 0 then 1 else 0, bif gs[i].getD 3 0 != 0 then 1 else 0] = gs[i] := hok _ (List.getElem_mem hi)
        have hn4 : inquiry_Verify_s4 ow t delay office ships list om pr [.b false, .i 0, .i i, .r s] = gs[i] := by
          unfold inquiry_Verify_s4 inquiry_Verify_s3
          simp only [gi_2, gi_1, gi_z]
          rw [hg, getI_at hi]
          exact hn
        unfold inquiry_Verify_l4_step
        simp only [gi_2, gi_1, gi_z, gb_z, gr_3, gr_z]
        rw [a2, b2, c2, hn4, hg, dlt hi, guardP_true (inR_of hi), guardP_true (inR_of hi), guardP_true a1, guardP_true b1, guardP_true c1, wrapS (by omega), guardP_true (by unfold fitsA maxLen; simp only [List.length_cons, List.length_nil]; omega)]
        show _ = goOn _ (if (om.any (canF gs[i])) = true then (if pr.any (keyB gs[i]) = true then (if s.any (fun h => !apF gs[i] h) = true then .inr (1, []) else .inl (s ++ [gs[i]])) else .inl s) else .inr (0, []))
        cases om.any (canF gs[i])
        · rw [if_neg (by decide)]; rfl
        · rw [if_pos rfl]
          cases pr.any (keyB gs[i])
          · rw [if_neg (by decide)]; rfl
          · rw [if_pos rfl]
            cases s.any fun h => !apF gs[i] h
            · rw [if_neg (by decide)]; rfl
            · rw [if_pos rfl]; rfl
      · have hs' : (if (om.any (canF gs[i])) = true then (if pr.any (keyB gs[i]) = true then (if s.any (fun h => !apF gs[i] h) = true then .inr (1, []) else .inl (s ++ [gs[i]])) else .inl s) else .inr (0, []) : List (List Int) ⊕ (Nat × List U)) = .inl s' := hs'
        split at hs'
        · split at hs'
          · split at hs'
            · cases hs'
            · cases hs'; simp; omega
          · cases hs'; omega
        · cases hs')
    (fun i s hi _ => by
      have : i = gs.length := by omega
      subst this
      unfold inquiry_Verify_l4_step
      simp only [gi_2, gi_1, gi_z, gb_z, gr_3, gr_z]
      rw [hg, dnlt]) (s := []) (Nat.zero_le _)
  refine ⟨h1, ?_⟩
  have el : inquiry_Verify_l4 ow t delay office ships list om pr = loopGet (inquiry_Verify_l4_step ow t delay office ships list om pr) [.b false, .i 0, .i ((0 : Nat) : Int), .r []] := rfl
  rw [el, h2, List.drop_zero]
  have run : ∀ (r : List (List Int)) (named : List (List Int)), (bif (endL (fun s : List (List Int) => (4, [.b false, .i 0, .i gs.length, .r s])) (runL f named r)).1.beq 1 then false else bif (endL (fun s : List (List Int) => (4, [.b false, .i 0, .i gs.length, .r s])) (runL f named r)).1.beq 2 then false else (↑(gr (endL (fun s : List (List Int) => (4, [.b false, .i 0, .i gs.length, .r s])) (runL f named r)).2 3).length : Int) == (↑pr.length : Int)) = (match verL om pr named r with | some named => named.length == pr.length | none => false) := by
    intro r
    induction r with
    | nil =>
      intro named
      show ((↑(gr [.b false, .i 0, .i gs.length, .r named] 3).length : Int) == (↑pr.length : Int)) = (named.length == pr.length)
      rw [gr_3, gr_z]
      by_cases h : named.length = pr.length
      · rw [h]; simp
      · have h1 : ¬ (named.length : Int) = (pr.length : Int) := by omega
        rw [bne h1]
        simpa using h
    | cons g r ih =>
      intro named
      have ef : f named g = if (om.any (canF g)) = true then (if pr.any (keyB g) = true then (if named.any (fun h => !apF g h) = true then .inr (1, []) else .inl (named ++ [g])) else .inl named) else .inr (0, []) := rfl
      unfold runL verL
      by_cases h1 : om.any (canF g) = true
      · rw [if_pos h1] at ef
        rw [if_pos h1]
        by_cases h2 : pr.any (keyB g) = true
        · rw [if_pos h2] at ef
          rw [if_pos h2]
          by_cases h3 : named.any (fun h => !apF g h) = true
          · rw [if_pos h3] at ef
            rw [if_pos h3, ef]; rfl
          · rw [if_neg h3] at ef
            rw [if_neg h3, ef]
            exact ih _
        · rw [if_neg h2] at ef
          rw [if_neg h2, ef]
          exact ih _
      · rw [if_neg h1] at ef
        rw [if_neg h1, ef]; rfl
  exact run gs []
theorem Verify_is (ho : office.length ≤ 9223372036854775807) (hs : ships.length ≤ 9223372036854775807) (hl : list.length ≤ 9223372036854775807) (hd : LenOk ships) (hom : om.length ≤ 9223372036854775807) (hpr : pr.length ≤ 9223372036854775807) :
    inquiry_Verify_pre ow t delay office ships list om pr ∧ inquiry_Verify_0 ow t delay office ships list om pr = (caseOk ow t delay office (logsOf ships) list && verF (gapsF office (logsOf ships) t delay list) om pr) ∧ inquiry_Verify_1 ow t delay office ships list om pr = if caseOk ow t delay office (logsOf ships) list = true then 0 else 1 := by
  have hv := valid_is ow office ho
  have hc := chances_is list hl
  obtain ⟨o1, o2, o3⟩ := op0_is (ow := ow) (t := t) (delay := delay) (office := office) (list := list) hs hd
  obtain ⟨es0, ei0, el0, es1, ei1, el1⟩ := ver_case (ow := ow) (t := t) (delay := delay) (office := office) (ships := ships) (list := list) (om := om) (pr := pr)
  obtain ⟨r1, r2⟩ := ver2_is (ow := ow) (t := t) (delay := delay) (office := office) (ships := ships) (list := list) (pr := pr) hom
  obtain ⟨s1, s2⟩ := ver3_is (ow := ow) (t := t) (delay := delay) (office := office) (ships := ships) (list := list) (om := om) hpr
  have elen : ((om.length : Int) != (pr.length : Int)) = !(om.length == pr.length) := by
    by_cases h : om.length = pr.length
    · rw [h]; simp
    · have h1 : ¬ (om.length : Int) = (pr.length : Int) := by omega
      show (!((om.length : Int) == (pr.length : Int))) = _
      rw [bne h1]
      simpa using h
  unfold inquiry_Verify_pre inquiry_Verify_0 inquiry_Verify_1 inquiry_Verify_s7 inquiry_Verify_s6 inquiry_Verify_s5
  rw [r2, s2, elen]
  rw [es0, ei0, el0, es1, ei1, el1, case1_is ho hl, case_eq]
  cases h1 : caseOk1 ow t delay office list with
  | false => exact ⟨⟨hv.1, fun _ => hc.1, fun h => by cases h⟩, rfl, rfl⟩
  | true =>
    cases h2 : risF 0 (logsOf ships) with
    | false =>
      have e := o3 h2
      rw [e]
      exact ⟨⟨hv.1, fun _ => hc.1, fun _ => ⟨o1, fun h => by cases h⟩⟩, rfl, rfl⟩
    | true =>
      obtain ⟨e, er⟩ := o2 h2
      obtain ⟨p1, p2⟩ := op1_is (ow := ow) (t := t) (delay := delay) (office := office) hl hs hd h2
      obtain ⟨g1, g2⟩ := gaps_is (t := t) ho h1 h2
      rw [e, not_not_decide, p2]
      have er' : gr (inquiry_Gaps_l0 ow t delay office ships list).snd 3 = ships.map rowO := er
      cases h3 : list.any (noShip (logsOf ships)) with
      | true => exact ⟨⟨hv.1, fun _ => hc.1, fun _ => ⟨o1, fun _ => ⟨p1, fun h => by cases h⟩⟩⟩, rfl, rfl⟩
      | false =>
        have hch : chF list = true := by
          unfold caseOk1 at h1
          simp only [Bool.and_eq_true] at h1
          exact h1.1.1.1.2
        obtain ⟨k1, k2, k3⟩ := gapsF_ok (office := office) (logs := logsOf ships) (tm := t) (dl := delay) hch
        have hl200 := (ch_len hch).1
        obtain ⟨v1, v2⟩ := ver4_is (ow := ow) (t := t) (delay := delay) (office := office) (ships := ships) (list := list) (om := om) (pr := pr) (gs := gapsF office (logsOf ships) t delay list) (by rw [el0, er', g2]) k2 (by omega) hom hpr
        rw [er']
        refine ⟨⟨hv.1, fun _ => hc.1, fun _ => ⟨o1, fun _ => ⟨p1, fun _ => ⟨fun _ => r1, fun _ => s1, fun _ => ⟨g1, v1⟩⟩⟩⟩⟩, ?_, ?_⟩
        · unfold verF
          rw [← v2]
          cases (om.length == pr.length) <;> cases riseF cfO om <;> cases riseF cfG pr <;> rfl
        · cases (om.length == pr.length) <;> cases riseF cfO om <;> cases riseF cfG pr <;> cases (inquiry_Verify_l4 ow t delay office ships list om pr).fst.beq 1 <;> cases (inquiry_Verify_l4 ow t delay office ships list om pr).fst.beq 2 <;> rfl
end
end Go.Proofs.YtikhnofbbcmpeaaGreat
set_option linter.unusedVariables false
set_option maxRecDepth 100000
namespace Go.Proofs.YtikhnofbbcmpeaaGreat
open Go Go.Sy
def sameB (eq : List Int → List Int → Bool) : List (List Int) → List (List Int) → Bool
  | [], [] => true
  | x :: r, y :: r' => eq x y && sameB eq r r'
  | _, _ => false
theorem sameB_len {eq : List Int → List Int → Bool} : ∀ {a b : List (List Int)}, a.length ≠ b.length → sameB eq a b = false
  | [], [], h => absurd rfl h
  | [], _ :: _, _ => rfl
  | _ :: _, [], _ => rfl
  | x :: r, y :: r', h => by
    unfold sameB
    rw [sameB_len (by simpa using h), Bool.and_false]
theorem sameB_iff {eq : List Int → List Int → Bool} : ∀ {a b : List (List Int)}, a.length = b.length → (sameB eq a b = true ↔ ∀ i (h : i < a.length) (h' : i < b.length), eq a[i] b[i] = true)
  | [], [], _ => ⟨(fun _ i h => by cases h), fun _ => rfl⟩
  | x :: r, y :: r', h => by
    show (eq x y && sameB eq r r') = true ↔ _
    rw [Bool.and_eq_true, sameB_iff (by simpa using h)]
    constructor
    · rintro ⟨h1, h2⟩ i hi hi'
      cases i with
      | zero => exact h1
      | succ i => exact h2 i (by simpa using hi) (by simpa using hi')
    · intro h
      exact ⟨h 0 (by simp) (by simp), fun i hi hi' => h (i + 1) (by simpa using hi) (by simpa using hi')⟩
theorem same_loop {step : List U → Option (Nat × List U)} {a b : List (List Int)} {eq : List Int → List Int → Bool} (m : Nat) (hlen : a.length = b.length)
    (hs : ∀ i (h : i < a.length) (h' : i < b.length), step [.b false, .i i] = bif eq a[i] b[i] then some (0, [.b false, .i ((i + 1 : Nat) : Int)]) else some (1, []))
    (he : step [.b false, .i a.length] = some (m + 2, [.b false, .i a.length])) {init : List U} (hi : init = [.b false, .i ((0 : Nat) : Int)]) :
    loopOk step init ∧ (bif (loopGet step init).fst.beq 1 then false else true) = sameB eq a b := by
  subst hi
  obtain ⟨h1, h2⟩ := loop_search (step := step) a.length (fun i => !eq (a.getD i []) (b.getD i [])) (fun i => [.b false, .i i]) (fun i => []) 0 (m + 1) [.b false, .i a.length]
    (fun i hi => by
      rw [hs i hi (by omega), getD_at hi, getD_at (by omega)]
      cases eq a[i] b[i] <;> rfl) he
  refine ⟨h1, ?_⟩
  rcases h2 with ⟨i, hi, hp, _, hg⟩ | ⟨hn, hg⟩
  · rw [hg]
    have : sameB eq a b = false := by
      cases hr : sameB eq a b with
      | false => rfl
      | true =>
        have h := (sameB_iff hlen).1 hr i hi (by omega)
        rw [getD_at hi, getD_at (by omega), h] at hp
        cases hp
    rw [this]; rfl
  · rw [hg]
    have : sameB eq a b = true := (sameB_iff hlen).2 fun i h h' => by
      have := hn i h
      rw [getD_at h, getD_at h'] at this
      simpa using this
    rw [this]; rfl
theorem lenI {a b : List (List Int)} : ((a.length : Int) != (b.length : Int)) = !decide (a.length = b.length) := by
  by_cases h : a.length = b.length
  · rw [h]; simp
  · have h1 : ¬ (a.length : Int) = (b.length : Int) := by omega
    show (!((a.length : Int) == (b.length : Int))) = _
    rw [bne h1, decide_eq_false h]
def eq1 (x y : List Int) : Bool := col x 0 == col y 0
def eq2 (x y : List Int) : Bool := col x 0 == col y 0 && (col x 1 == col y 1 && true)
def eq3 (x y : List Int) : Bool := col x 0 == col y 0 && (col x 1 == col y 1 && (col x 2 == col y 2 && true))
theorem Ints_is (a b : List (List Int)) (ha : a.length ≤ 9223372036854775807) : ref08_Ints_pre a b ∧ ref08_Ints_0 a b = sameB eq1 a b := by
  unfold ref08_Ints_pre ref08_Ints_0
  rw [lenI]
  by_cases hlen : a.length = b.length
  · obtain ⟨h1, h2⟩ := same_loop (step := ref08_Ints_l0_step a b) (a := a) (b := b) (eq := eq1) 1 hlen (fun i h h' => by
        unfold ref08_Ints_l0_step
        simp only [gi_1, gi_z, gb_z]
        rw [dlt h, guardP_true (inR_of h), guardP_true (inR_of h), guardP_true (inR_of h'), guardP_true (inR_of h'), getI_at h, getI_at h', wrapS (by omega)]
        show (bif !(eq1 a[i] b[i]) then _ else _) = _
        cases eq1 a[i] b[i] <;> rfl)
      (by
        unfold ref08_Ints_l0_step
        simp only [gi_1, gi_z, gb_z, dnlt]) (init := ref08_Ints_l0_init a b) rfl
    rw [decide_eq_true hlen]
    exact ⟨fun _ => h1, h2⟩
  · rw [decide_eq_false hlen, sameB_len hlen]
    exact ⟨(fun h => by cases h), rfl⟩
theorem SameGaps_is (a b : List (List Int)) (ha : a.length ≤ 9223372036854775807) : ref44_SameGaps_pre a b ∧ ref44_SameGaps_0 a b = sameB eq2 a b := by
  unfold ref44_SameGaps_pre ref44_SameGaps_0
  rw [lenI]
  by_cases hlen : a.length = b.length
  · obtain ⟨h1, h2⟩ := same_loop (step := ref44_SameGaps_l0_step a b) (a := a) (b := b) (eq := eq2) 1 hlen (fun i h h' => by
        unfold ref44_SameGaps_l0_step
        simp only [gi_1, gi_z, gb_z]
        rw [dlt h, guardP_true (inR_of h), guardP_true (inR_of h), guardP_true (inR_of h'), guardP_true (inR_of h'), getI_at h, getI_at h', wrapS (by omega)]
        show (bif !(eq2 a[i] b[i]) then _ else _) = _
        cases eq2 a[i] b[i] <;> rfl)
      (by
        unfold ref44_SameGaps_l0_step
        simp only [gi_1, gi_z, gb_z, dnlt]) (init := ref44_SameGaps_l0_init a b) rfl
    rw [decide_eq_true hlen]
    exact ⟨fun _ => h1, h2⟩
  · rw [decide_eq_false hlen, sameB_len hlen]
    exact ⟨(fun h => by cases h), rfl⟩
theorem SameOm_is (a b : List (List Int)) (ha : a.length ≤ 9223372036854775807) : ref44_SameOmissions_pre a b ∧ ref44_SameOmissions_0 a b = sameB eq3 a b := by
  unfold ref44_SameOmissions_pre ref44_SameOmissions_0
  rw [lenI]
  by_cases hlen : a.length = b.length
  · obtain ⟨h1, h2⟩ := same_loop (step := ref44_SameOmissions_l0_step a b) (a := a) (b := b) (eq := eq3) 1 hlen (fun i h h' => by
        unfold ref44_SameOmissions_l0_step
        simp only [gi_1, gi_z, gb_z]
        rw [dlt h, guardP_true (inR_of h), guardP_true (inR_of h), guardP_true (inR_of h'), guardP_true (inR_of h'), getI_at h, getI_at h', wrapS (by omega)]
        show (bif !(eq3 a[i] b[i]) then _ else _) = _
        cases eq3 a[i] b[i] <;> rfl)
      (by
        unfold ref44_SameOmissions_l0_step
        simp only [gi_1, gi_z, gb_z, dnlt]) (init := ref44_SameOmissions_l0_init a b) rfl
    rw [decide_eq_true hlen]
    exact ⟨fun _ => h1, h2⟩
  · rw [decide_eq_false hlen, sameB_len hlen]
    exact ⟨(fun h => by cases h), rfl⟩
def addE (o t k n : Int) (l : List (List Int)) : Int :=
  if (valF o l && lnF t k n) = false then 1 else if ownF o k = false then 12 else if 200 ≤ l.length then 2 else if t < lastF 0 (-1) l then 13 else if (k == 4 && !onF 10000000 true l) = true then 6 else if (k == 5 && onF 10000000 true l) = true then 6 else 0
def addL (o t k n : Int) (l : List (List Int)) : List (List Int) := if addE o t k n l = 0 then l ++ [[t, k, n, sumF o (lastF 3 0 l) t k n]] else []
theorem Add_is (o t k n : Int) (l : List (List Int)) (hl : l.length ≤ 9223372036854775807) : inquiry_Add_pre o t k n l ∧ inquiry_Add_0 o t k n l = addL o t k n l ∧ inquiry_Add_1 o t k n l = (if addE o t k n l = 0 then o else 0) ∧ inquiry_Add_2 o t k n l = addE o t k n l := by
  obtain ⟨v1, v2⟩ := valid_is o l hl
  obtain ⟨o1, o2⟩ := on_is o 10000000 l hl
  obtain ⟨l1, l2, l3⟩ := last_is o l hl
  have hQ : decide ((l.length : Int) ≥ (200 : Int)) = false → (inquiry_sum_pre o (inquiry_last_1 o l) t k n (0 : Int)) ∧ ((((l = []) → ((True) ∧ (([] ++ l = []) ∧ (True)))) ∧ (fitsA 32 (0 + l.length))) ∧ (fitsA 32 (([] ++ l).length + [[t, k, n, inquiry_sum_0 o (inquiry_last_1 o l) t k n (0 : Int)]].length))) := fun h => by
    have := of_decide_eq_false h
    refine ⟨(sum_is _ _ _ _ _ _).1, ⟨fun h => ⟨trivial, by rw [h]; rfl, trivial⟩, by unfold fitsA maxLen; omega⟩, ?_⟩
    unfold fitsA maxLen
    simp only [List.nil_append, List.length_cons, List.length_nil]
    omega
  refine ⟨⟨l1, o1, v1, fun h1 h2 => ?_, fun _ _ _ h4 _ => ⟨fun a b => ?_, fun _ _ => hQ h4⟩⟩, ?_⟩
  · rw [h1] at h2; cases h2
  · rw [a] at b; cases b
  · unfold inquiry_Add_0 inquiry_Add_s2 inquiry_Add_s1 inquiry_Add_s0 inquiry_Add_1 inquiry_Add_s5 inquiry_Add_s4 inquiry_Add_s3 inquiry_Add_2 inquiry_Add_s8 inquiry_Add_s7 inquiry_Add_s6 addL addE
    rw [v2, o2, l2, l3, line_is, own_is, (sum_is _ _ _ _ _ _).2]
    have e200 : decide ((l.length : Int) ≥ (200 : Int)) = decide (200 ≤ l.length) := decide_eq_decide.2 (by omega)
    rw [e200]
    cases hv : valF o l
    · simp
    · cases hln : lnF t k n
      · simp
      · cases hown : ownF o k
        · simp
        · by_cases h2 : 200 ≤ l.length
          · simp [h2]
          · by_cases h3 : t < lastF 0 (-1) l
            · simp [h2, h3]
            · cases h4 : (k == 4 && !onF 10000000 true l)
              · cases h5 : (k == 5 && onF 10000000 true l)
                · simp [h2, h3]
                · simp [h2, h3]
              · simp [h2, h3]
theorem addL_len (o t k n : Int) (l : List (List Int)) : (addL o t k n l).length ≤ l.length + 1 := by
  unfold addL
  by_cases h : addE o t k n l = 0
  · rw [if_pos h]; simp
  · rw [if_neg h]; simp
def logF : Int × List (List Int) → List (List Int) → Int × List (List Int)
  | s, [] => s
  | s, x :: r => if addE s.1 (col x 0) (col x 1) (col x 2) s.2 = 0 then logF (s.1, addL s.1 (col x 0) (col x 1) (col x 2) s.2) r else (0, [])
theorem log_is (o : Int) (lines : List (List Int)) (hl : lines.length ≤ 1000000) : law44_log_pre o lines ∧ (law44_log_1 o lines, law44_log_0 o lines) = logF (o, []) lines := by
  let f : Int × List (List Int) → List Int → (Int × List (List Int)) ⊕ (Nat × List U) := fun s x => if addE s.1 (col x 0) (col x 1) (col x 2) s.2 = 0 then .inl (s.1, addL s.1 (col x 0) (col x 1) (col x 2) s.2) else .inr (0, [.i s.1, .r s.2])
  obtain ⟨h1, h2⟩ := loop_list (step := law44_log_l0_step o lines) lines (fun i (s : Int × List (List Int)) => [.i i, .i s.1, .r s.2]) f (fun i s => s.2.length ≤ i) (fun s => (2, [.i lines.length, .i s.1, .r s.2])) 0
    (fun i s hi _ hI => by
      obtain ⟨a1, a2, a3, a4⟩ := Add_is s.1 (col lines[i] 0) (col lines[i] 1) (col lines[i] 2) s.2 (by omega)
      refine ⟨?_, fun s' hs' => ?_⟩
      · unfold law44_log_l0_step law44_log_s0 law44_log_s1 law44_log_s2
        simp only [gi_z, gi_1, gr_2, gr_1, gr_z, dlt hi, guardP_true (inR_of hi), getI_at hi, wrapS (show i < 9223372036854775807 by omega)]
        rw [guardP_true a1, a2, a3, a4]
        show _ = goOn _ (if addE s.1 (col lines[i] 0) (col lines[i] 1) (col lines[i] 2) s.2 = 0 then .inl (s.1, addL s.1 (col lines[i] 0) (col lines[i] 1) (col lines[i] 2) s.2) else .inr (0, [.i s.1, .r s.2]))
        by_cases h : addE s.1 (col lines[i] 0) (col lines[i] 1) (col lines[i] 2) s.2 = 0
        · rw [if_pos h, if_pos h, h]; rfl
        · rw [if_neg h, if_neg h]
          have : (addE s.1 (col lines[i] 0) (col lines[i] 1) (col lines[i] 2) s.2 != 0) = true := by simpa using h
          rw [this]; rfl
      · have hs' : (if addE s.1 (col lines[i] 0) (col lines[i] 1) (col lines[i] 2) s.2 = 0 then .inl (s.1, addL s.1 (col lines[i] 0) (col lines[i] 1) (col lines[i] 2) s.2) else .inr (0, [.i s.1, .r s.2]) : (Int × List (List Int)) ⊕ (Nat × List U)) = .inl s' := hs'
        split at hs'
        · cases hs'
          exact Nat.le_trans (addL_len _ _ _ _ _) (by omega)
        · cases hs')
    (fun i s hi _ => by
      have : i = lines.length := by omega
      subst this
      unfold law44_log_l0_step
      simp only [gi_z, gi_1, gr_2, gr_1, gr_z, dnlt]) (s := (o, [])) (Nat.zero_le _)
  refine ⟨h1, ?_⟩
  have el : law44_log_l0 o lines = loopGet (law44_log_l0_step o lines) [.i ((0 : Nat) : Int), .i o, .r []] := rfl
  unfold law44_log_1 law44_log_0
  rw [el, h2, List.drop_zero]
  have run : ∀ (r : List (List Int)) (s : Int × List (List Int)), ((bif (endL (fun s : Int × List (List Int) => (2, [.i lines.length, .i s.1, .r s.2])) (runL f s r)).1.beq 1 then (0 : Int) else gi (endL (fun s : Int × List (List Int) => (2, [.i lines.length, .i s.1, .r s.2])) (runL f s r)).2 1), (bif (endL (fun s : Int × List (List Int) => (2, [.i lines.length, .i s.1, .r s.2])) (runL f s r)).1.beq 1 then [] else gr (endL (fun s : Int × List (List Int) => (2, [.i lines.length, .i s.1, .r s.2])) (runL f s r)).2 2)) = logF s r := by
    intro r
    induction r with
    | nil => intro s; rfl
    | cons x r ih =>
      intro s
      have ef : f s x = if addE s.1 (col x 0) (col x 1) (col x 2) s.2 = 0 then .inl (s.1, addL s.1 (col x 0) (col x 1) (col x 2) s.2) else .inr (0, [.i s.1, .r s.2]) := rfl
      unfold runL logF
      by_cases h : addE s.1 (col x 0) (col x 1) (col x 2) s.2 = 0
      · rw [if_pos h] at ef
        rw [if_pos h, ef]
        exact ih _
      · rw [if_neg h] at ef
        rw [if_neg h, ef]; rfl
  exact run lines (o, [])
end Go.Proofs.YtikhnofbbcmpeaaGreat
set_option linter.unusedVariables false
set_option maxRecDepth 100000
namespace Go.Proofs.YtikhnofbbcmpeaaGreat
open Go Go.Sy
def cmp3 (x y : List Int) : Int := if col x 0 < col y 0 then -1 else if col y 0 < col x 0 then 1 else if col x 1 < col y 1 then -1 else if col y 1 < col x 1 then 1 else if col x 2 < col y 2 then -1 else if col y 2 < col x 2 then 1 else 0
def cmp2 (x y : List Int) : Int := if col x 0 < col y 0 then -1 else if col y 0 < col x 0 then 1 else if col x 1 < col y 1 then -1 else if col y 1 < col x 1 then 1 else 0
theorem or_step (a b : Int) (r : List Int) (e : Int) (h : orL r = e) : orL ((if a < b then -1 else if b < a then 1 else 0) :: r) = if a < b then -1 else if b < a then 1 else e := by
  unfold orL
  by_cases h1 : a < b
  · rw [if_pos h1, if_neg (by decide), if_pos h1]
  · rw [if_neg h1, if_neg h1]
    by_cases h2 : b < a
    · rw [if_pos h2, if_neg (by decide), if_pos h2]
    · rw [if_neg h2, if_pos rfl, if_neg h2, h]
theorem cfO_is : cfO = cmp3 := by
  funext x y
  unfold cfO cmp3
  rw [(compare_is _ _ _ _ _ _).2]
  simp only [cmpC]
  exact or_step _ _ _ _ (or_step _ _ _ _ (or_step _ _ _ _ rfl))
theorem cfG_is : cfG = cmp2 := by
  funext x y
  unfold cfG cmp2
  rw [(order_is _ _ _ _).2]
  simp only [cmpC]
  exact or_step _ _ _ _ (or_step _ _ _ _ rfl)
def cmpLC : List (List Int) → List (List Int) → Int
  | [], [] => 0
  | [], _ :: _ => -1
  | _ :: _, [] => 1
  | x :: r, y :: r' => if cmp3 x y = 0 then cmpLC r r' else cmp3 x y
theorem cmpL_is : ∀ x y, cmpL x y = cmpLC x y
  | [], [] => rfl
  | [], _ :: _ => rfl
  | _ :: _, [] => rfl
  | x :: r, y :: r' => by
    unfold cmpL cmpLC
    rw [cfO_is, cmpL_is r r']
def betterC (x b : List (List Int)) : Bool := decide (x.length < b.length) || (x.length == b.length && decide (cmpLC x b < 0))
theorem better_is : better = betterC := by funext x b; unfold better betterC; rw [cmpL_is]
def fewStepC (list : List (List Int)) (i : Nat) (b : List (List Int)) : List (List Int) := if subB i (allF list) = true then (if betterC (byF i list) b = true then byF i list else b) else b
def fewC (list : List (List Int)) : List (List Int) := upto (fewStepC list) (allF list + 1) (byF 0 list)
theorem fewF_is : fewF = fewC := by
  funext list
  unfold fewF fewC
  have : fewStep list = fewStepC list := by funext i b; unfold fewStep fewStepC; rw [better_is]
  rw [this]
def goC (k : Int → List (List Int) → List (List Int)) (n : Int) : List (List Int) → List (List Int)
  | [] => []
  | g :: r => if ((fewC (r.filter (apF g))).length : Int) = n - 1 then [col g 0, col g 1] :: k (n - 1) (r.filter (apF g)) else goC k n r
def prC : Nat → Int → List (List Int) → List (List Int)
  | 0, _, _ => []
  | m + 1, n, list => if n = 0 then [] else goC (prC m) n list
theorem goP_is (k : Int → List (List Int) → List (List Int)) (n : Int) : ∀ l, goP k n l = goC k n l
  | [] => rfl
  | g :: r => by unfold goP goC; rw [fewF_is, goP_is k n r]
theorem prF_is : ∀ m n l, prF m n l = prC m n l
  | 0, _, _ => rfl
  | m + 1, n, l => by
    unfold prF prC
    rw [goP_is, show prF m = prC m from by funext n l; exact prF_is m n l]
def verC (gs om pr : List (List Int)) : Bool := om.length == pr.length && riseF cmp3 om && riseF cmp2 pr && (match verL om pr [] gs with | some named => named.length == pr.length | none => false)
theorem verF_is (gs om pr : List (List Int)) : verF gs om pr = verC gs om pr := by unfold verF verC; rw [cfO_is, cfG_is] <;> rfl
def hA0 : List (List Int) := (logF (0, []) [[10, 1, 7]]).2
def hA1 : List (List Int) := (logF (1, []) [[12, 3, 7]]).2
def hA3 : List (List Int) := (logF (3, []) [[5, 4, 0], [20, 5, 0], [40, 2, 9]]).2
noncomputable def hships : List (List Int) := [[1, encL hA1], [2, encL []], [3, encL hA3]]
def hlogs : List ALog := [(1, hA1), (2, []), (3, hA3)]
def hch : List (List Int) := [[1, 7, 10], [2, 7, 10], [3, 7, 10], [2, 9, 30], [3, 9, 30]]
theorem hlog0 : law44_log_pre 0 [[10, 1, 7]] ∧ law44_log_1 0 [[10, 1, 7]] = 0 ∧ law44_log_0 0 [[10, 1, 7]] = hA0 := by
  obtain ⟨h1, h2⟩ := log_is 0 [[10, 1, 7]] (by decide)
  exact ⟨h1, (congrArg Prod.fst h2).trans (by decide +kernel), congrArg Prod.snd h2⟩
theorem hlog1 : law44_log_pre 1 [[12, 3, 7]] ∧ law44_log_1 1 [[12, 3, 7]] = 1 ∧ law44_log_0 1 [[12, 3, 7]] = hA1 := by
  obtain ⟨h1, h2⟩ := log_is 1 [[12, 3, 7]] (by decide)
  exact ⟨h1, (congrArg Prod.fst h2).trans (by decide +kernel), congrArg Prod.snd h2⟩
theorem hlog2 : law44_log_pre 2 [] ∧ law44_log_1 2 [] = 2 ∧ law44_log_0 2 [] = [] := by
  obtain ⟨h1, h2⟩ := log_is 2 [] (by decide)
  exact ⟨h1, congrArg Prod.fst h2, congrArg Prod.snd h2⟩
theorem hlog3 : law44_log_pre 3 law44_head_s0 ∧ law44_log_1 3 law44_head_s0 = 3 ∧ law44_log_0 3 law44_head_s0 = hA3 := by
  obtain ⟨h1, h2⟩ := log_is 3 [[5, 4, 0], [20, 5, 0], [40, 2, 9]] (by decide)
  exact ⟨h1, (congrArg Prod.fst h2).trans (by decide +kernel), congrArg Prod.snd h2⟩
theorem hs_is : [law44_head_s1, [law44_log_1 (2 : Int) [], encL (law44_log_0 (2 : Int) [])], [law44_log_1 (3 : Int) law44_head_s0, encL (law44_log_0 (3 : Int) law44_head_s0)]] = hships := by
  unfold law44_head_s1
  rw [hlog1.2.1, hlog1.2.2, hlog2.2.1, hlog2.2.2, hlog3.2.1, hlog3.2.2]
  rfl
theorem hlogs_is : logsOf hships = hlogs := by
  show [((1 : Int), decL (encL hA1)), (2, decL (encL [])), (3, decL (encL hA3))] = _
  rw [dec_enc, dec_enc, dec_enc]
  rfl
theorem hlen_ok : LenOk hships := by
  intro x hx
  have hx : x = [1, encL hA1] ∨ x = [2, encL []] ∨ x = [3, encL hA3] := by simpa [hships] using hx
  have l1 : hA1.length ≤ 9223372036854775807 := by decide +kernel
  have l3 : hA3.length ≤ 9223372036854775807 := by decide +kernel
  rcases hx with rfl | rfl | rfl
  · show (decL (encL hA1)).length ≤ _
    rw [dec_enc]; exact l1
  · show (decL (encL [])).length ≤ _
    rw [dec_enc]; decide
  · show (decL (encL hA3)).length ≤ _
    rw [dec_enc]; exact l3
theorem hcase : caseOk 0 50 5 hA0 hlogs hch = true := by decide +kernel
theorem hco1 : coOk 0 1 10 hA0 hA1 hch = true := by decide +kernel
theorem hco3 : coOk 0 3 10 hA0 hA3 hch = true := by decide +kernel
theorem hfew : fewC (gapsF hA0 hlogs 50 5 hch) = [[1, 0, 9], [2, 2, 0], [2, 3, 0]] := by decide +kernel
theorem hprv : prC 100 3 (gapsF hA0 hlogs 50 5 hch) = [[2, 7], [3, 7], [3, 9]] := by decide +kernel
theorem hgap : gapKeys (gapsF hA0 hlogs 50 5 hch) = [[2, 7], [2, 9], [3, 7], [3, 9]] := by decide +kernel
theorem hver : verC (gapsF hA0 hlogs 50 5 hch) [[1, 0, 9], [2, 2, 0], [2, 3, 0]] [[2, 7], [3, 7], [3, 9]] = true := by decide +kernel
theorem hcr1 : onceL (coRaw 1 10 hA0 hA1 hch) = [7] := by decide +kernel
theorem hcr3 : onceL (coRaw 3 10 hA0 hA3 hch) = [] := by decide +kernel
theorem hsh1 : (valF 1 hA1 && tmF 12) = true ∧ shownF 12 hA1 = [7] := by decide +kernel
theorem hva3 : valF 3 hA3 = true := by decide +kernel
theorem l0_lt : hA0.length ≤ 9223372036854775807 := by decide +kernel
theorem l1_lt : hA1.length ≤ 9223372036854775807 := by decide +kernel
theorem l3_lt : hA3.length ≤ 9223372036854775807 := by decide +kernel
theorem hs_lt : hships.length ≤ 9223372036854775807 := by show 3 ≤ 9223372036854775807; decide
theorem hc_lt : hch.length ≤ 9223372036854775807 := by decide
theorem hE : inquiry_Explain_pre 0 50 5 hA0 hships hch ∧ inquiry_Explain_0 0 50 5 hA0 hships hch = [[1, 0, 9], [2, 2, 0], [2, 3, 0]] ∧ inquiry_Explain_1 0 50 5 hA0 hships hch = [[2, 7], [3, 7], [3, 9]] ∧ inquiry_Explain_2 0 50 5 hA0 hships hch = 0 := by
  obtain ⟨h1, h2, h3, h4⟩ := Explain_is (ow := 0) (t := 50) (delay := 5) l0_lt hs_lt hc_lt hlen_ok (.inl (by decide))
  rw [hlogs_is, hcase, if_pos rfl, fewF_is, hfew] at h2
  rw [hlogs_is, hcase, if_pos rfl, fewF_is, hfew, prF_is] at h3
  rw [hlogs_is, hcase, if_pos rfl] at h4
  exact ⟨h1, h2, h3.trans hprv, h4⟩
theorem hG : inquiry_Gaps_pre 0 50 5 hA0 hships hch ∧ inquiry_Gaps_0 0 50 5 hA0 hships hch = [[2, 7], [2, 9], [3, 7], [3, 9]] ∧ inquiry_Gaps_1 0 50 5 hA0 hships hch = 0 := by
  obtain ⟨h1, h2, h3⟩ := Gaps_is (ow := 0) (t := 50) (delay := 5) l0_lt hs_lt hc_lt hlen_ok
  rw [hlogs_is, hcase, if_pos rfl, hgap] at h2
  rw [hlogs_is, hcase, if_pos rfl] at h3
  exact ⟨h1, h2, h3⟩
theorem hV : inquiry_Verify_pre 0 50 5 hA0 hships hch [[1, 0, 9], [2, 2, 0], [2, 3, 0]] [[2, 7], [3, 7], [3, 9]] ∧ inquiry_Verify_0 0 50 5 hA0 hships hch [[1, 0, 9], [2, 2, 0], [2, 3, 0]] [[2, 7], [3, 7], [3, 9]] = true ∧ inquiry_Verify_1 0 50 5 hA0 hships hch [[1, 0, 9], [2, 2, 0], [2, 3, 0]] [[2, 7], [3, 7], [3, 9]] = 0 := by
  obtain ⟨h1, h2, h3⟩ := Verify_is (ow := 0) (t := 50) (delay := 5) (office := hA0) (ships := hships) (list := hch) (om := [[1, 0, 9], [2, 2, 0], [2, 3, 0]]) (pr := [[2, 7], [3, 7], [3, 9]]) l0_lt hs_lt hc_lt hlen_ok (by decide) (by decide)
  rw [hlogs_is, hcase, verF_is, hver] at h2
  rw [hlogs_is, hcase, if_pos rfl] at h3
  exact ⟨h1, h2, h3⟩
theorem hC1 : inquiry_Could_pre 0 1 10 hA0 hA1 hch ∧ inquiry_Could_0 0 1 10 hA0 hA1 hch = [[7]] ∧ inquiry_Could_1 0 1 10 hA0 hA1 hch = 0 := by
  obtain ⟨h1, h2, h3⟩ := Could_is 0 1 10 hA0 hA1 hch l0_lt l1_lt hc_lt
  rw [hco1, if_pos rfl, hcr1] at h2
  rw [hco1, if_pos rfl] at h3
  exact ⟨h1, h2, h3⟩
theorem hC3 : inquiry_Could_pre 0 3 10 hA0 hA3 hch ∧ inquiry_Could_0 0 3 10 hA0 hA3 hch = [] ∧ inquiry_Could_1 0 3 10 hA0 hA3 hch = 0 := by
  obtain ⟨h1, h2, h3⟩ := Could_is 0 3 10 hA0 hA3 hch l0_lt l3_lt hc_lt
  rw [hco3, if_pos rfl, hcr3] at h2
  rw [hco3, if_pos rfl] at h3
  exact ⟨h1, h2, h3⟩
theorem hS1 : inquiry_Shown_pre 1 12 hA1 ∧ inquiry_Shown_0 1 12 hA1 = [[7]] ∧ inquiry_Shown_1 1 12 hA1 = 0 := by
  obtain ⟨h1, h2, h3⟩ := Shown_is 1 12 hA1 l1_lt
  rw [hsh1.1, if_pos rfl, hsh1.2] at h2
  rw [hsh1.1, if_pos rfl] at h3
  exact ⟨h1, h2, h3⟩
theorem hs2_is : law44_head_s2 = [1, encL hA1] := by unfold law44_head_s2; rw [hs_is]; rfl
theorem hs4_is : law44_head_s4 = [3, encL hA3] := by unfold law44_head_s4; rw [hs_is]; rfl
theorem hch_is : ([(1 : Int), (7 : Int), (10 : Int)] :: [(2 : Int), (7 : Int), (10 : Int)] :: law44_head_s3) = hch := rfl
theorem g20 : (law44_head_s2).getD 0 (0 : Int) = 1 := by rw [hs2_is]; rfl
theorem g21 : decL ((law44_head_s2).getD 1 (0 : Int)) = hA1 := by rw [hs2_is]; exact dec_enc _
theorem g40 : (law44_head_s4).getD 0 (0 : Int) = 3 := by rw [hs4_is]; rfl
theorem g41 : decL ((law44_head_s4).getD 1 (0 : Int)) = hA3 := by rw [hs4_is]; exact dec_enc _
theorem hd5 : law44_head_s5 = [[1, 0, 9], [2, 2, 0], [2, 3, 0]] := by
  unfold law44_head_s5
  rw [hlog0.2.1, hlog0.2.2, hs_is, hch_is, hE.2.1]
theorem hd6 : law44_head_s6 = [[2, 7], [3, 7], [3, 9]] := by
  unfold law44_head_s6
  rw [hlog0.2.1, hlog0.2.2, hs_is, hch_is, hE.2.2.1]
theorem hd7 : law44_head_s7 = 0 := by
  unfold law44_head_s7
  rw [hlog0.2.1, hlog0.2.2, g20, g21, hch_is, hC1.2.2]
theorem hd8 : law44_head_s8 = 0 := by
  unfold law44_head_s8
  rw [hlog0.2.1, hlog0.2.2, g40, g41, hch_is, hC3.2.2]
theorem hd9 : law44_head_s9 = 0 := by
  unfold law44_head_s9
  rw [hlog0.2.1, hlog0.2.2, hs_is, hch_is, hG.2.2]
theorem hd10 : law44_head_s10 = 0 := by
  unfold law44_head_s10
  rw [hlog0.2.1, hlog0.2.2, hs_is, hch_is, hE.2.2.2]
theorem hd11 : law44_head_s11 = 0 := by
  unfold law44_head_s11
  rw [hlog0.2.1, hlog0.2.2, hs_is, hch_is, hd5, hd6, hV.2.2]
theorem hd12 : law44_head_s12 = [[7]] := by
  unfold law44_head_s12
  rw [hlog0.2.1, hlog0.2.2, g20, g21, hch_is, hC1.2.1]
theorem hd13 : law44_head_s13 = [] := by
  unfold law44_head_s13
  rw [hlog0.2.1, hlog0.2.2, g40, g41, hch_is, hC3.2.1]
theorem hd14 : law44_head_s14 = [[2, 7], [2, 9], [3, 7], [3, 9]] := by
  unfold law44_head_s14
  rw [hlog0.2.1, hlog0.2.2, hs_is, hch_is, hG.2.1]
theorem head_true : law44_head_0 = true := by
  unfold law44_head_0
  rw [hs_is, hch_is, hlog0.2.1, hlog0.2.2, hd5, hd6, hd7, hd8, hd9, hd10, hd11, hd12, hd13, hd14, g20, g21, g40, g41, hS1.2.1, hS1.2.2, hV.2.1, (Ints_is _ _ (by decide)).2, (SameGaps_is _ _ (by decide)).2, (SameOm_is _ _ (by decide)).2, (SameGaps_is _ _ (by decide)).2, (valid_is 3 hA3 l3_lt).2, hva3]
  rfl
theorem head_pre : law44_head_pre := by
  unfold law44_head_pre
  rw [hs_is, hch_is, hlog0.2.1, hlog0.2.2, hd5, hd6, hd12, hd14, g20, g21, g40, g41, hS1.2.1]
  have r0 : inR (0 : Int) hships := ⟨by decide, by show (0 : Int) < 3; decide⟩
  have r2 : inR (2 : Int) hships := ⟨by decide, by show (2 : Int) < 3; decide⟩
  exact ⟨⟨hlog1.1, hlog2.1, hlog3.1, hlog0.1⟩, r0, r0, hC1.1, r2, r2, hC3.1, hG.1, hE.1, hV.1, r0, r0, hS1.1, fun _ => ⟨(Ints_is _ _ (by decide)).1, fun _ => ⟨(Ints_is _ _ (by decide)).1, fun _ => ⟨(SameGaps_is _ _ (by decide)).1, fun _ => ⟨(SameOm_is _ _ (by decide)).1, fun _ => ⟨(SameGaps_is _ _ (by decide)).1, fun _ => r2, fun _ => ⟨r2, (valid_is 3 hA3 l3_lt).1⟩⟩⟩⟩⟩⟩⟩
end Go.Proofs.YtikhnofbbcmpeaaGreat
set_option linter.unusedVariables false
namespace Go.Koen
section
variable {ε α β : Type} [DecidableEq α] [DecidableEq β] (l : ε → α) (r : ε → Option β)
def Cov (A : α → Bool) (B : β → Bool) (e : ε) : Prop := A (l e) = true ∨ ∃ b, r e = some b ∧ B b = true
def Apart (e f : ε) : Prop := l e ≠ l f ∧ ∀ b, r e = some b → r f ≠ some b
def size (UA : List α) (UB : List β) (A : α → Bool) (B : β → Bool) : Nat := UA.countP A + UB.countP B
theorem countP_mono {γ : Type} {p q : γ → Bool} (h : ∀ x, p x = true → q x = true) : ∀ l : List γ, l.countP p ≤ l.countP q
  | [] => Nat.le_refl _
  | x :: t => by
    have := countP_mono h t
    rw [List.countP_cons, List.countP_cons]
    have h1 := h x
    cases hp : p x <;> cases hq : q x <;> simp_all <;> omega
theorem countP_del {γ : Type} [DecidableEq γ] {p : γ → Bool} {v : γ} : ∀ {l : List γ}, v ∈ l → p v = true → l.countP (fun x => p x && decide (x ≠ v)) + 1 ≤ l.countP p
  | [], h, _ => by cases h
  | x :: t, h, hp => by
    rw [List.countP_cons, List.countP_cons]
    by_cases e : x = v
    · subst e
      have := countP_mono (p := fun y => p y && decide (y ≠ x)) (q := p) (fun y hy => by simp_all) t
      simp only [hp]
      simp
      simpa using this
    · have hm : v ∈ t := by
        rcases List.mem_cons.1 h with h | h
        · exact absurd h.symm e
        · exact h
      have := countP_del hm hp
      cases hx : p x <;> simp_all <;> omega
variable {l r}
theorem weak {UA : List α} {UB : List β} : ∀ {M : List ε} {A : α → Bool} {B : β → Bool}, M.Pairwise (Apart l r) → (∀ e ∈ M, Cov l r A B e) → (∀ e ∈ M, l e ∈ UA ∧ ∀ b, r e = some b → b ∈ UB) → M.length ≤ size UA UB A B
  | [], _, _, _, _, _ => Nat.zero_le _
  | e :: M, A, B, hM, hC, hU => by
    obtain ⟨h1, h2⟩ := List.pairwise_cons.1 hM
    have hU' : ∀ e ∈ M, l e ∈ UA ∧ ∀ b, r e = some b → b ∈ UB := fun f hf => hU f (List.mem_cons_of_mem _ hf)
    rcases hC e List.mem_cons_self with hA | ⟨b, hb, hB⟩
    · have := weak (A := fun x => A x && decide (x ≠ l e)) (B := B) h2 (fun f hf => by
        rcases hC f (List.mem_cons_of_mem _ hf) with h | h
        · exact .inl (by simp [h, Ne.symm (h1 f hf).1])
        · exact .inr h) hU'
      have hd := countP_del (p := A) (hU e List.mem_cons_self).1 hA
      simp only [List.length_cons]
      unfold size at *
      omega
    · have := weak (A := A) (B := fun x => B x && decide (x ≠ b)) h2 (fun f hf => by
        rcases hC f (List.mem_cons_of_mem _ hf) with h | ⟨b', hb', hB'⟩
        · exact .inl h
        · refine .inr ⟨b', hb', ?_⟩
          have : b' ≠ b := fun e' => (h1 f hf).2 b hb (by rw [hb', e'])
          simp [hB', this]) hU'
      have hd := countP_del (p := B) ((hU e List.mem_cons_self).2 b hb) hB
      simp only [List.length_cons]
      unfold size at *
      omega
end
end Go.Koen
set_option linter.unusedVariables false
set_option maxRecDepth 100000
namespace Go.Proofs.YtikhnofbbcmpeaaGreat
open Go Go.Sy Go.Koen
theorem nodup_sub_len {α : Type} [DecidableEq α] : ∀ {l l' : List α}, l.Nodup → (∀ x ∈ l, x ∈ l') → l.length ≤ l'.length
  | [], _, _, _ => Nat.zero_le _
  | x :: r, l', hn, hs => by
    obtain ⟨h1, h2⟩ := List.nodup_cons.1 hn
    have hx := hs x List.mem_cons_self
    have := nodup_sub_len (l := r) (l' := l'.erase x) h2 fun y hy => (List.mem_erase_of_ne (fun e : y = x => h1 (by rw [← e]; exact hy))).2 (hs y (List.mem_cons_of_mem _ hy))
    rw [List.length_erase_of_mem hx] at this
    have : 0 < l'.length := List.length_pos_of_mem hx
    simp only [List.length_cons]
    omega
theorem nodup_len_eq {α : Type} [DecidableEq α] {l l' : List α} (h : l.Nodup) (h' : l'.Nodup) (hm : ∀ x, x ∈ l ↔ x ∈ l') : l.length = l'.length :=
  Nat.le_antisymm (nodup_sub_len h fun x hx => (hm x).1 hx) (nodup_sub_len h' fun x hx => (hm x).2 hx)
theorem nodup_sub_lt {α : Type} [DecidableEq α] {l l' : List α} (h : l.Nodup) {y : α} (hy : y ∈ l') (hy' : y ∉ l) (hs : ∀ x ∈ l, x ∈ l') : l.length < l'.length := by
  have := nodup_sub_len (l := y :: l) (List.nodup_cons.2 ⟨hy', h⟩) (l' := l') fun x hx => by
    rcases List.mem_cons.1 hx with rfl | hx
    · exact hy
    · exact hs x hx
  rw [List.length_cons] at this
  omega
theorem byF_nodup (m : Nat) (list : List (List Int)) : (byF m list).Nodup := by
  refine List.nodup_iff_pairwise_ne.2 ((byF_spec m list).1.imp fun {a b} h e => ?_)
  subst e
  have := leL_total [0, 1, 2] a a
  rw [h] at this
  simp at this
theorem byRaw_mem (m : Nat) (list : List (List Int)) (x : List Int) : x ∈ byRaw m list ↔ (∃ k, k < 9 ∧ m.testBit k = true ∧ x = rOn k) ∨ ∃ g ∈ list, cov m g = false ∧ x = lft g := by
  unfold byRaw
  rw [List.mem_append, List.mem_map, List.mem_map]
  constructor
  · rintro (⟨k, hk, rfl⟩ | ⟨g, hg, rfl⟩)
    · obtain ⟨h1, h2⟩ := List.mem_filter.1 hk
      exact .inl ⟨k, List.mem_range.1 h1, h2, rfl⟩
    · obtain ⟨h1, h2⟩ := List.mem_filter.1 hg
      exact .inr ⟨g, h1, by simpa using h2, rfl⟩
  · rintro (⟨k, h1, h2, rfl⟩ | ⟨g, h1, h2, rfl⟩)
    · exact .inl ⟨k, List.mem_filter.2 ⟨List.mem_range.2 h1, h2⟩, rfl⟩
    · exact .inr ⟨g, List.mem_filter.2 ⟨h1, by rw [h2]; rfl⟩, rfl⟩
theorem byF_mem (m : Nat) (list : List (List Int)) (x : List Int) : x ∈ byF m list ↔ (∃ k, k < 9 ∧ m.testBit k = true ∧ x = rOn k) ∨ ∃ g ∈ list, cov m g = false ∧ x = lft g := by
  rw [(byF_spec m list).2, byRaw_mem]
theorem lft_ne (g : List Int) (k : Nat) : lft g ≠ rOn k := by
  unfold lft rOn
  split <;> simp
theorem few_fold (list : List (List Int)) : ∀ n, (∃ m, (m = 0 ∨ m < n) ∧ upto (fewStep list) n (byF 0 list) = byF m list) ∧ ∀ m, m < n → subB m (allF list) = true → better (byF m list) (upto (fewStep list) n (byF 0 list)) = false
  | 0 => ⟨⟨0, .inl rfl, rfl⟩, fun m h => by omega⟩
  | n + 1 => by
    obtain ⟨⟨m, hm, he⟩, h2⟩ := few_fold list n
    have e : upto (fewStep list) (n + 1) (byF 0 list) = fewStep list n (upto (fewStep list) n (byF 0 list)) := rfl
    rw [e]
    generalize upto (fewStep list) n (byF 0 list) = b at *
    unfold fewStep
    by_cases hs : subB n (allF list) = true
    · rw [if_pos hs]
      by_cases hb : better (byF n list) b = true
      · rw [if_pos hb]
        refine ⟨⟨n, .inr (by omega), rfl⟩, fun m' hm' hs' => ?_⟩
        by_cases e' : m' = n
        · rw [e']; exact better_irr _
        · cases hbb : better (byF m' list) (byF n list) with
          | false => rfl
          | true =>
            have := better_trans hbb hb
            rw [h2 m' (by omega) hs'] at this
            cases this
      · rw [if_neg hb]
        refine ⟨⟨m, hm.imp id fun h => by omega, he⟩, fun m' hm' hs' => ?_⟩
        by_cases e' : m' = n
        · rw [e']; simpa using hb
        · exact h2 m' (by omega) hs'
    · rw [if_neg hs]
      refine ⟨⟨m, hm.imp id fun h => by omega, he⟩, fun m' hm' hs' => ?_⟩
      by_cases e' : m' = n
      · rw [e'] at hs'; exact absurd hs' hs
      · exact h2 m' (by omega) hs'
theorem subB_le {m a : Nat} (hm : m < 512) (h : subB m a = true) : m ≤ a := by
  have e : m &&& a = m := by
    apply Nat.eq_of_testBit_eq
    intro i
    rw [Nat.testBit_and]
    by_cases h9 : i < 9
    · have := List.all_eq_true.1 h i (List.mem_range.2 h9)
      cases h1 : m.testBit i <;> cases h2 : a.testBit i <;> simp_all
    · rw [testBit_hi hm (by omega)]; rfl
  rw [← e]
  exact Nat.and_le_right
theorem fewF_spec {list : List (List Int)} (hs : ShipsOk list) : (∃ m, m < 512 ∧ fewF list = byF m list) ∧ ∀ m, m < 512 → better (byF m list) (fewF list) = false := by
  obtain ⟨hall, hbit⟩ := all_spec hs
  obtain ⟨⟨m0, hm0, he⟩, hmin⟩ := few_fold list (allF list + 1)
  have he : fewF list = byF m0 list := he
  have hmin : ∀ m, m < allF list + 1 → subB m (allF list) = true → better (byF m list) (fewF list) = false := hmin
  refine ⟨⟨m0, by omega, he⟩, fun m hm => ?_⟩
  by_cases hsub : subB m (allF list) = true
  · exact hmin m (by have := subB_le hm hsub; omega) hsub
  · have hlt : m &&& allF list < 512 := Nat.and_lt_two_pow (n := 9) _ hall
    have hsub' : subB (m &&& allF list) (allF list) = true := List.all_eq_true.2 fun k _ => by
      rw [Nat.testBit_and]
      cases m.testBit k <;> cases (allF list).testBit k <;> rfl
    have h1 := hmin (m &&& allF list) (by have := subB_le hlt hsub'; omega) hsub'
    obtain ⟨k, hk, hk'⟩ : ∃ k, k < 9 ∧ (!m.testBit k || (allF list).testBit k) = false := by
      refine Classical.byContradiction fun hn => hsub (List.all_eq_true.2 fun k hk => ?_)
      cases h : (!m.testBit k || (allF list).testBit k) with
      | true => rfl
      | false => exact absurd ⟨k, List.mem_range.1 hk, h⟩ hn
    have hk1 : m.testBit k = true ∧ (allF list).testBit k = false := by
      cases h1 : m.testBit k <;> cases h2 : (allF list).testBit k <;> simp_all
    have hcov : ∀ g ∈ list, cov (m &&& allF list) g = cov m g := fun g hg => by
      unfold cov
      cases h3 : (col g 3 != 0) with
      | false => rfl
      | true =>
        have : (allF list).testBit (col g 0).toNat = true := by
          rw [hbit, List.any_eq_true]
          exact ⟨g, hg, by rw [h3]; simp⟩
        rw [Nat.testBit_and, this, Bool.and_true]
    have hlen : (byF (m &&& allF list) list).length < (byF m list).length := by
      refine nodup_sub_lt (byF_nodup _ _) (y := rOn k) ((byF_mem _ _ _).2 (.inl ⟨k, hk, hk1.1, rfl⟩)) (fun h => ?_) fun x hx => ?_
      · rcases (byF_mem _ _ _).1 h with ⟨k', _, hb, e⟩ | ⟨g, _, _, e⟩
        · have : k = k' := by
            have e1 : ((k : Nat) : Int) = (k' : Int) := by
              unfold rOn at e
              simpa using e
            omega
          subst this
          rw [Nat.testBit_and, hk1.2, Bool.and_false] at hb
          cases hb
        · exact lft_ne g k e.symm
      · rcases (byF_mem _ _ _).1 hx with ⟨k', h1, hb, e⟩ | ⟨g, h1, h2, e⟩
        · rw [Nat.testBit_and, Bool.and_eq_true] at hb
          exact (byF_mem _ _ _).2 (.inl ⟨k', h1, hb.1, e⟩)
        · exact (byF_mem _ _ _).2 (.inr ⟨g, h1, by rw [← hcov g h1]; exact h2, e⟩)
    cases hb : better (byF m list) (fewF list) with
    | false => rfl
    | true =>
      have : better (byF (m &&& allF list) list) (byF m list) = true := by unfold better; rw [decide_eq_true hlen]; rfl
      have := better_trans this hb
      rw [h1] at this
      cases this
theorem fewF_le {list : List (List Int)} (hs : ShipsOk list) {m : Nat} (hm : m < 512) : (fewF list).length ≤ (byF m list).length := by
  have := (fewF_spec hs).2 m hm
  unfold better at this
  simp only [Bool.or_eq_false_iff, decide_eq_false_iff_not] at this
  omega
def rt (g : List Int) : Option Int := if col g 3 = 0 then none else some (col g 0)
def uB : List Int := [0, 1, 2, 3, 4, 5, 6, 7, 8]
theorem uB_mem (k : Int) : k ∈ uB ↔ 0 ≤ k ∧ k ≤ 8 := by
  unfold uB
  simp only [List.mem_cons, List.not_mem_nil, or_false]
  omega
theorem uB_nodup : uB.Nodup := by decide
theorem uA_mem (list : List (List Int)) (x : List Int) : x ∈ byF 0 list ↔ ∃ g ∈ list, x = lft g := by
  rw [byF_mem]
  constructor
  · rintro (⟨k, _, h, _⟩ | ⟨g, h, _, e⟩)
    · simp at h
    · exact ⟨g, h, e⟩
  · rintro ⟨g, h, e⟩
    exact .inr ⟨g, h, by unfold cov; simp, e⟩
def aOf (m : Nat) (list : List (List Int)) (x : List Int) : Bool := decide (∃ g ∈ list, cov m g = false ∧ x = lft g)
def bOf (m : Nat) (k : Int) : Bool := m.testBit k.toNat
theorem size_of (m : Nat) (list : List (List Int)) : size (byF 0 list) uB (aOf m list) (bOf m) = (byF m list).length := by
  have hr : (((List.range 9).filter m.testBit).map rOn).Nodup := by
    rw [List.nodup_iff_pairwise_ne, List.pairwise_map]
    refine ((List.nodup_iff_pairwise_ne.1 List.nodup_range).filter m.testBit).imp fun {a b} h e => h ?_
    have e1 : ((a : Nat) : Int) = (b : Int) := by
      unfold rOn at e
      simpa using e
    omega
  have h1 : (byF m list).length = ((byF 0 list).filter (aOf m list) ++ ((List.range 9).filter m.testBit).map rOn).length := by
    refine nodup_len_eq (byF_nodup m list) (List.nodup_append.2 ⟨(byF_nodup 0 list).filter _, hr, fun a ha b hb e => ?_⟩) fun x => ?_
    · obtain ⟨g, _, e1⟩ := (uA_mem _ _).1 (List.mem_filter.1 ha).1
      obtain ⟨k, _, e2⟩ := List.mem_map.1 hb
      exact lft_ne g k (by rw [← e1, e, e2])
    · rw [byF_mem, List.mem_append, List.mem_filter, List.mem_map]
      constructor
      · rintro (⟨k, h1, h2, h3⟩ | ⟨g, h1, h2, h3⟩)
        · exact .inr ⟨k, List.mem_filter.2 ⟨List.mem_range.2 h1, h2⟩, h3.symm⟩
        · exact .inl ⟨(uA_mem _ _).2 ⟨g, h1, h3⟩, decide_eq_true ⟨g, h1, h2, h3⟩⟩
      · rintro (⟨_, h⟩ | ⟨k, h1, h2⟩)
        · obtain ⟨g, h1, h2, h3⟩ := of_decide_eq_true h
          exact .inr ⟨g, h1, h2, h3⟩
        · obtain ⟨h3, h4⟩ := List.mem_filter.1 h1
          exact .inl ⟨k, List.mem_range.1 h3, h4, h2.symm⟩
  have h2 : uB.countP (bOf m) = ((List.range 9).filter m.testBit).length := by
    have e : uB = (List.range 9).map (fun k : Nat => (k : Int)) := by decide
    rw [e, List.countP_map, ← List.countP_eq_length_filter]
    exact List.countP_congr fun (k : Nat) _ => by show m.testBit (k : Int).toNat = true ↔ _; rw [Int.toNat_natCast]
  unfold size
  rw [h1, h2, List.length_append, List.length_map, List.countP_eq_length_filter]
def mask : List Bool → Nat
  | [] => 0
  | b :: r => b.toNat + 2 * mask r
theorem mask_bit : ∀ (l : List Bool) (k : Nat), (mask l).testBit k = l.getD k false
  | [], k => by simp [mask]
  | b :: r, 0 => by
    unfold mask
    cases b <;> simp [Nat.testBit_zero]
  | b :: r, k + 1 => by
    have ih := mask_bit r k
    unfold mask
    rw [Nat.testBit_succ]
    have : (b.toNat + 2 * mask r) / 2 = mask r := by cases b <;> simp <;> omega
    rw [this, ih]; rfl
theorem mask_lt : ∀ (l : List Bool), mask l < 2 ^ l.length
  | [] => by simp [mask]
  | b :: r => by
    have := mask_lt r
    unfold mask
    rw [List.length_cons, Nat.pow_succ]
    cases b <;> simp <;> omega
theorem cover_ge {list : List (List Int)} (hs : ShipsOk list) {A : List Int → Bool} {B : Int → Bool} (hc : ∀ e ∈ list, Cov lft rt A B e) : (fewF list).length ≤ size (byF 0 list) uB A B := by
  let m := mask ((List.range 9).map fun k : Nat => B (k : Int))
  have hm : m < 512 := by
    have := mask_lt ((List.range 9).map fun k : Nat => B (k : Int))
    simpa using this
  have hbit : ∀ k, k < 9 → m.testBit k = B (k : Int) := fun k hk => by
    show (mask _).testBit k = _
    rw [mask_bit, List.getD_eq_getElem?_getD, List.getElem?_map, List.getElem?_range hk]
    rfl
  refine Nat.le_trans (fewF_le hs hm) ?_
  rw [← size_of m list]
  have h1 : (byF 0 list).countP (aOf m list) ≤ (byF 0 list).countP A := by
    refine countP_mono (fun x hx => ?_) _
    obtain ⟨g, hg, hcv, rfl⟩ := of_decide_eq_true hx
    rcases hc g hg with h | ⟨b, hb, hB⟩
    · exact h
    · exfalso
      unfold rt at hb
      split at hb
      · cases hb
      · rename_i h3
        cases hb
        have hsh := hs g hg
        unfold cov at hcv
        rw [hbit _ (by omega), Int.toNat_of_nonneg hsh.1, hB] at hcv
        simp at hcv
        exact h3 hcv
  have h2 : uB.countP (bOf m) ≤ uB.countP B := by
    have : ∀ l : List Int, (∀ k ∈ l, 0 ≤ k ∧ k ≤ 8) → l.countP (bOf m) ≤ l.countP B := fun l hl => by
      refine Nat.le_of_eq (List.countP_congr fun k hk => ?_)
      have := hl k hk
      unfold bOf
      rw [hbit _ (by omega), Int.toNat_of_nonneg this.1]
    exact this uB fun k hk => (uB_mem k).1 hk
  unfold size
  omega
end Go.Proofs.YtikhnofbbcmpeaaGreat
set_option linter.unusedVariables false
set_option maxRecDepth 100000
namespace Go.Proofs.YtikhnofbbcmpeaaGreat
open Go Go.Sy Go.Koen
def KeysUp (gs : List (List Int)) : Prop := gs.Pairwise fun a b => ltK (kOf a) (kOf b)
theorem ltK_ne {a b : Key} (h : ltK a b) : a ≠ b := fun e => by subst e; unfold ltK at h; omega
theorem keyEq_iff (g h : List Int) : (col g 0 == col h 0 && (col g 1 == col h 1 && true)) = decide (kOf g = kOf h) := by
  by_cases e : kOf g = kOf h
  · obtain ⟨h1, h2⟩ := Prod.mk.inj e
    rw [decide_eq_true e, h1, h2]; simp
  · rw [decide_eq_false e]
    cases hb : (col g 0 == col h 0 && (col g 1 == col h 1 && true)) with
    | false => rfl
    | true =>
      simp only [Bool.and_eq_true, beq_iff_eq] at hb
      exact absurd (Prod.ext hb.1 hb.2.1) e
def imA (gs : List (List Int)) (o : List Int) : Option (List Int) := if col o 0 = 1 then some [1, 0, col o 2] else if col o 0 = 3 then (gs.find? fun g => decide (kOf g = (col o 1, col o 2))).map lft else none
def imB (o : List Int) : Option Int := if col o 0 = 2 then some (col o 1) else none
theorem im_len (gs : List (List Int)) : ∀ om : List (List Int), (om.filterMap (imA gs)).length + (om.filterMap imB).length ≤ om.length
  | [] => Nat.le_refl _
  | o :: r => by
    have ih := im_len gs r
    rw [List.filterMap_cons, List.filterMap_cons, List.length_cons]
    unfold imA imB
    by_cases h1 : col o 0 = 1
    · rw [if_pos h1, if_neg (by omega)]
      simp only [List.length_cons]
      unfold imA imB at ih
      omega
    · rw [if_neg h1]
      by_cases h2 : col o 0 = 2
      · rw [if_neg (by omega), if_pos h2]
        simp only [List.length_cons]
        unfold imA imB at ih
        omega
      · rw [if_neg h2]
        unfold imA imB at ih
        by_cases h3 : col o 0 = 3
        · rw [if_pos h3]
          cases (gs.find? fun g => decide (kOf g = (col o 1, col o 2))).map lft with
          | none => show (List.filterMap _ r).length + (List.filterMap _ r).length ≤ _; omega
          | some z => show (z :: List.filterMap _ r).length + (List.filterMap _ r).length ≤ _; rw [List.length_cons]; omega
        · rw [if_neg h3]
          show (List.filterMap _ r).length + (List.filterMap _ r).length ≤ _
          omega
theorem count_in {α : Type} [DecidableEq α] {U L : List α} {p : α → Bool} (h : U.Nodup) (hp : ∀ x, p x = true → x ∈ L) : U.countP p ≤ L.length := by
  rw [List.countP_eq_length_filter]
  exact nodup_sub_len (h.filter _) fun x hx => hp x (List.mem_filter.1 hx).2
theorem expl_ge {gs om : List (List Int)} (hs : ShipsOk gs) (hu : KeysUp gs) (h : ∀ g ∈ gs, ∃ o ∈ om, canF g o = true) : (fewF gs).length ≤ om.length := by
  have hc : ∀ e ∈ gs, Cov lft rt (fun x => decide (x ∈ om.filterMap (imA gs))) (fun b => decide (b ∈ om.filterMap imB)) e := by
    intro g hg
    obtain ⟨o, ho, hcan⟩ := h g hg
    unfold canF at hcan
    cases h1 : (col o 0 == 1 && (col o 1 == 0 && (col o 2 == col g 1 && true))) with
    | true =>
      rw [h1, cond_true] at hcan
      simp only [Bool.and_eq_true, beq_iff_eq] at h1
      refine .inl (decide_eq_true (List.mem_filterMap.2 ⟨o, ho, ?_⟩))
      unfold imA lft
      rw [if_pos h1.1, if_neg (by simpa using hcan), h1.2.2.1]
    | false =>
      rw [h1, cond_false] at hcan
      cases h2 : (col o 0 == 2 && (col o 1 == col g 0 && (col o 2 == 0 && true))) with
      | true =>
        rw [h2, cond_true] at hcan
        simp only [Bool.and_eq_true, beq_iff_eq] at h2
        refine .inr ⟨col g 0, ?_, decide_eq_true (List.mem_filterMap.2 ⟨o, ho, ?_⟩)⟩
        · unfold rt
          rw [if_neg (by simpa using hcan)]
        · unfold imB
          rw [if_pos h2.1, h2.2.1]
      | false =>
        rw [h2, cond_false] at hcan
        simp only [Bool.and_eq_true, beq_iff_eq] at hcan
        refine .inl (decide_eq_true (List.mem_filterMap.2 ⟨o, ho, ?_⟩))
        unfold imA
        rw [if_neg (by omega), if_pos hcan.1]
        have hkey : kOf g = (col o 1, col o 2) := Prod.ext hcan.2.1.symm hcan.2.2.1.symm
        cases hf : gs.find? fun g => decide (kOf g = (col o 1, col o 2)) with
        | none =>
          have := List.find?_eq_none.1 hf g hg
          exact absurd (decide_eq_true hkey) this
        | some g' =>
          have hk' : kOf g' = (col o 1, col o 2) := of_decide_eq_true (List.find?_some (p := fun g => decide (kOf g = (col o 1, col o 2))) hf)
          have hm := List.mem_of_find?_eq_some hf
          have : g' = g := by
            obtain ⟨i, hi⟩ := List.mem_iff_getElem?.1 hm
            obtain ⟨j, hj⟩ := List.mem_iff_getElem?.1 hg
            obtain ⟨hi1, hi2⟩ := List.getElem?_eq_some_iff.1 hi
            obtain ⟨hj1, hj2⟩ := List.getElem?_eq_some_iff.1 hj
            have hp := List.pairwise_iff_getElem.1 hu
            rcases Nat.lt_trichotomy i j with hlt | hlt | hlt
            · have := ltK_ne (hp i j hi1 hj1 hlt)
              rw [hi2, hj2, hk', hkey] at this
              exact absurd rfl this
            · subst hlt; rw [← hi2, ← hj2]
            · have := ltK_ne (hp j i hj1 hi1 hlt)
              rw [hi2, hj2, hk', hkey] at this
              exact absurd rfl this
          rw [this]; rfl
  have h0 := cover_ge hs hc
  unfold size at h0
  have h1 := count_in (U := byF 0 gs) (L := om.filterMap (imA gs)) (p := fun x => decide (x ∈ om.filterMap (imA gs))) (byF_nodup 0 gs) fun x hx => of_decide_eq_true hx
  have h2 := count_in (U := uB) (L := om.filterMap imB) (p := fun b => decide (b ∈ om.filterMap imB)) uB_nodup fun x hx => of_decide_eq_true hx
  have h3 := im_len gs om
  exact Nat.le_trans h0 (Nat.le_trans (Nat.add_le_add h1 h2) h3)
theorem few_expl {gs : List (List Int)} (hs : ShipsOk gs) : ∀ g ∈ gs, ∃ o ∈ fewF gs, canF g o = true := by
  intro g hg
  obtain ⟨m, hm, he⟩ := (fewF_spec hs).1
  rw [he]
  have hsh := hs g hg
  cases hc : cov m g with
  | true =>
    unfold cov at hc
    rw [Bool.and_eq_true] at hc
    refine ⟨rOn (col g 0).toNat, (byF_mem _ _ _).2 (.inl ⟨_, by omega, hc.2, rfl⟩), ?_⟩
    unfold canF
    have e : col (rOn (col g 0).toNat) 1 = col g 0 := Int.toNat_of_nonneg hsh.1
    rw [e]
    show (bif (2 == (1 : Int)) && _ then _ else bif (2 : Int) == 2 && (col g 0 == col g 0 && ((0 : Int) == 0 && true)) then col g 3 != 0 else _) = true
    simp only [beq_self_eq_true, Bool.and_self, cond_true]
    exact hc.1
  | false =>
    refine ⟨lft g, (byF_mem _ _ _).2 (.inr ⟨g, hg, hc, rfl⟩), ?_⟩
    unfold canF lft
    by_cases h2 : col g 2 = 0
    · rw [if_pos h2]
      show (bif (3 == (1 : Int)) && _ then _ else bif (3 : Int) == 2 && _ then _ else (3 : Int) == 3 && (col g 0 == col g 0 && (col g 1 == col g 1 && true))) = true
      simp
    · rw [if_neg h2]
      show (bif (1 : Int) == 1 && ((0 : Int) == 0 && (col g 1 == col g 1 && true)) then col g 2 != 0 else _) = true
      simpa using h2
theorem gaps_up (office : List (List Int)) (logs : List ALog) (tm dl : Int) (list : List (List Int)) : KeysUp (gapsF office logs tm dl list) := by
  obtain ⟨ks, h1, _, h3⟩ := gapsF_spec office logs tm dl list
  rw [h3]
  unfold KeysUp
  rw [List.pairwise_map]
  exact h1
end Go.Proofs.YtikhnofbbcmpeaaGreat
set_option linter.unusedVariables false
set_option maxRecDepth 100000
namespace Go.Proofs.YtikhnofbbcmpeaaGreat
open Go Go.Sy
theorem Few_is (o : Int) (office ships chances : List (List Int)) (hs : ships.length ≤ 9223372036854775807) : ref44_Few_pre o office ships chances ∧ (ref44_Few_0 o office ships chances = true → (chances.length ≤ 16 ∨ 200 < chances.length)) := by
  have hloop : loopOk (ref44_Few_l0_step o office ships chances) (ref44_Few_l0_init o office ships chances) := by
    refine (loop_search (step := ref44_Few_l0_step o office ships chances) ships.length (fun i => decide (((decL (col (ships.getD i []) 1)).length : Int) > 40) && decide (((decL (col (ships.getD i []) 1)).length : Int) ≤ 200)) (fun i => [.b false, .i i]) (fun i => []) 0 3 [.b false, .i ships.length] (fun i hi => ?_) ?_).1
    · have hr := inR_of hi
      unfold ref44_Few_l0_step
      simp only [gi_1, gi_z, gb_z]
      rw [dlt hi, guardP_true hr, guardP_true hr, guardP_true hr, guardP_true (fun _ => hr), guardP_true (fun _ => hr), guardP_true hr, wrapS (by omega), Int.toNat_natCast]
      show (bif decide (((decL (col (ships.getD i []) 1)).length : Int) > 40) == true then (bif decide (((decL (col (ships.getD i []) 1)).length : Int) ≤ 200) then _ else _) else _) = _
      cases decide (((decL (col (ships.getD i []) 1)).length : Int) > 40) <;> cases decide (((decL (col (ships.getD i []) 1)).length : Int) ≤ 200) <;> rfl
    · unfold ref44_Few_l0_step
      simp only [gi_1, gi_z, gb_z, dnlt]
  refine ⟨fun _ => hloop, fun h => ?_⟩
  unfold ref44_Few_0 at h
  by_cases h1 : chances.length ≤ 16
  · exact .inl h1
  · by_cases h2 : 200 < chances.length
    · exact .inr h2
    · have e1 : decide ((chances.length : Int) > 16) = true := decide_eq_true (by omega)
      have e2 : decide ((chances.length : Int) ≤ 200) = true := decide_eq_true (by omega)
      rw [e1, e2] at h
      cases h
end Go.Proofs.YtikhnofbbcmpeaaGreat
set_option linter.unusedVariables false
namespace Go.Proofs.YtikhnofbbcmpeaaGreat
open Go Go.Sy
theorem rowLt {W : World} {own : Bool} {e : TypeId} {sz : Nat} {v : Value} {m : Nat} {vs : List Value} (h : RowOk W own e sz v m vs) : m ≤ 9223372036854775807 := by
  obtain ⟨a, c, _, h1, h2⟩ := h.reads.is
  unfold maxLen at h2
  omega
theorem rowOne {W : World} {own : Bool} {e : TypeId} {sz : Nat} {v : Value} {m : Nat} {vs : List Value} (h : RowOk W own e sz v m vs) : v.oneCell' = true := by
  obtain ⟨a, c, rfl, _⟩ := h.reads.is
  rfl
theorem okRow {W : World} {e : TypeId} {ks : List CK} {v : Value} {l : List (List Int)} (r : RowOk W false e ks.length v l.length (rowV ks l)) (k : Nat) : v.oneCell' = true ∧ flatBody (.row e ks l) = true ∧ ∀ (E : Env), E k = v → BodyOk E W k false (.row e ks l) :=
  ⟨rowOne r, rfl, fun E he => by
    show RowOk W false e ks.length (E k) l.length (rowV ks l)
    rw [he]; exact r⟩
theorem okNst {W : World} {e : TypeId} {ks : List NK} {v : Value} {l : List (List Int)} {vs : List Value} (r : NstOk W false e ks v l vs) (k : Nat) : v.oneCell' = true ∧ flatBody (.nst e ks l) = true ∧ ∀ (E : Env), E k = v → BodyOk E W k false (.nst e ks l) :=
  ⟨rowOne r.row, rfl, fun E he => by
    show ∃ vs, NstOk W false e ks (E k) l vs
    rw [he]; exact ⟨vs, r⟩⟩
theorem lenNst {W : World} {e e' : TypeId} {k0 : NK} {ks : List CK} {v : Value} {l : List (List Int)} {vs : List Value} (r : NstOk W false e [k0, .s e' ks] v l vs) : ∀ x ∈ l, (decL (x.getD 1 0)).length ≤ 9223372036854775807 := by
  intro x hx
  obtain ⟨i, hi, rfl⟩ := List.getElem_of_mem hx
  obtain ⟨u, _, hu⟩ := r.cell i 1 _ hi rfl
  have e1 : l.getD i [] = l[i] := by rw [List.getD_eq_getElem?_getD, List.getElem?_eq_getElem hi]; rfl
  rw [e1] at hu
  exact rowLt hu.2
end Go.Proofs.YtikhnofbbcmpeaaGreat
set_option linter.unusedVariables false
set_option maxRecDepth 100000
namespace Go.Proofs.YtikhnofbbcmpeaaGreat
open Go Go.Sy
theorem lastF_cons (j : Nat) (d : Int) (x : List Int) (r : List (List Int)) : lastF j d (x :: r) = lastF j (col x j) r := by
  unfold lastF
  cases r with
  | nil => rfl
  | cons a b =>
    rw [List.getLast?_cons_cons]
    cases h : (a :: b).getLast? with
    | none => simp at h
    | some z => rfl
theorem vld_add {o : Int} {y : List Int} (h1 : lnF (col y 0) (col y 1) (col y 2) = true) (h2 : ownF o (col y 1) = true) (h3 : ¬ clsF (col y 1) = 3) (l : List (List Int)) : ∀ (off : Bool) (last now : Int), vldF o off last now l = true → lastF 0 now l ≤ col y 0 → col y 3 = sumF o (lastF 3 last l) (col y 0) (col y 1) (col y 2) → vldF o off last now (l ++ [y]) = true := by
  induction l with
  | nil =>
    intro off last now _ hle hs
    have hle : now ≤ col y 0 := hle
    have el : lastF 3 last [] = last := rfl
    rw [el] at hs
    have e : ¬ (!lnF (col y 0) (col y 1) (col y 2) || !ownF o (col y 1) || decide (col y 0 < now) || col y 3 != sumF o last (col y 0) (col y 1) (col y 2)) = true := by
      rw [h1, h2, decide_eq_false (show ¬ col y 0 < now by omega), hs]
      simp
    rw [List.nil_append, vldF, if_neg e, if_neg h3, vldF]
  | cons x r ih =>
    intro off last now h hle hs
    rw [List.cons_append]
    rw [lastF_cons] at hle hs
    unfold vldF at h ⊢
    split at h
    · cases h
    · rename_i q1
      rw [if_neg q1]
      split at h
      · rename_i q2
        rw [if_pos q2]
        split at h
        · cases h
        · rename_i q3
          rw [if_neg q3]
          exact ih _ _ _ h hle hs
      · rename_i q2
        rw [if_neg q2]
        exact ih _ _ _ h hle hs
theorem ln_pos {t k n : Int} (h : lnF t k n = true) : 0 ≤ t := by
  have h : tmF t = true := by
    unfold lnF at h
    split at h
    · cases h
    · split at h
      · exact (Bool.and_eq_true_iff.1 h).1
      · exact (Bool.and_eq_true_iff.1 h).1
  unfold tmF at h
  simp only [Bool.and_eq_true, decide_eq_true_eq] at h
  exact h.1
theorem add_val {o t n : Int} {l : List (List Int)} (h : addE o t 1 n l = 0) : valF o (addL o t 1 n l) = true ∧ addL o t 1 n l = l ++ [[t, 1, n, sumF o (lastF 3 0 l) t 1 n]] := by
  have e : addL o t 1 n l = l ++ [[t, 1, n, sumF o (lastF 3 0 l) t 1 n]] := by unfold addL; rw [if_pos h]
  refine ⟨?_, e⟩
  rw [e]
  unfold addE at h
  split at h
  · cases h
  · rename_i q1
    split at h
    · cases h
    · rename_i q2
      split at h
      · cases h
      · rename_i q3
        split at h
        · cases h
        · rename_i q4
          have q1 : (valF o l && lnF t 1 n) = true := by simpa using q1
          rw [Bool.and_eq_true] at q1
          have hown : ownF o 1 = true := by simpa using q2
          have hv := q1.1
          unfold valF at hv ⊢
          simp only [Bool.and_eq_true, decide_eq_true_eq] at hv ⊢
          refine ⟨⟨hv.1.1, by rw [List.length_append]; simp only [List.length_cons, List.length_nil]; omega⟩, vld_add (y := [t, 1, n, sumF o (lastF 3 0 l) t 1 n]) q1.2 hown (show ¬ clsF 1 = 3 by decide) l _ _ _ hv.2 ?_ (by generalize lastF 3 0 l = q; generalize hz : sumF o q t 1 n = z; exact hz.symm)⟩
          cases l with
          | nil =>
            show (0 : Int) ≤ t
            have := q1.2
            exact ln_pos this
          | cons x r =>
            rw [lastF_cons] at q4 ⊢
            show _ ≤ t
            omega
theorem sent_add (n m : Int) (l r : List (List Int)) : sentF n m l = true → sentF n m (l ++ r) = true := by
  unfold sentF
  intro h
  rw [List.any_append, h]; rfl
theorem canF_mono {g g' o : List Int} (h0 : col g 0 = col g' 0) (h1 : col g 1 = col g' 1) (h3 : col g 3 = col g' 3) (h2 : col g' 2 ≠ 0 → col g 2 ≠ 0) (h : canF g' o = true) : canF g o = true := by
  unfold canF at h ⊢
  rw [h0, h1, h3]
  cases hc : (col o 0 == 1 && (col o 1 == 0 && (col o 2 == col g' 1 && true))) with
  | true =>
    rw [hc, cond_true] at h
    have := h2 (by simpa using h)
    simpa using this
  | false => rw [hc] at h; exact h
theorem gaps_two (office more : List (List Int)) (logs : List ALog) (tm dl : Int) (list : List (List Int)) : ∃ ks : List Key, gapsF office logs tm dl list = ks.map (mkG office logs tm dl list) ∧ gapsF more logs tm dl list = ks.map (mkG more logs tm dl list) := by
  obtain ⟨k1, a1, a2, a3⟩ := gapsF_spec office logs tm dl list
  obtain ⟨k2, b1, b2, b3⟩ := gapsF_spec more logs tm dl list
  have : k1 = k2 := pw_unique (fun a h => ltK_ne h rfl) (fun a b h h' => by unfold ltK at h h'; omega) a1 b1 fun k => (a2 k).trans (b2 k).symm
  subst this
  exact ⟨k1, a3, b3⟩
theorem few_more {office more : List (List Int)} {logs : List ALog} {tm dl : Int} {list : List (List Int)} (hch : chF list = true) (hm : ∀ n, sentF n (-1) office = true → sentF n (-1) more = true) :
    (fewF (gapsF office logs tm dl list)).length ≤ (fewF (gapsF more logs tm dl list)).length ∧ gapKeys (gapsF office logs tm dl list) = gapKeys (gapsF more logs tm dl list) := by
  obtain ⟨ks, e1, e2⟩ := gaps_two office more logs tm dl list
  obtain ⟨s1, _, _⟩ := gapsF_ok (office := office) (logs := logs) (tm := tm) (dl := dl) hch
  obtain ⟨s2, _, _⟩ := gapsF_ok (office := more) (logs := logs) (tm := tm) (dl := dl) hch
  refine ⟨expl_ge s1 (gaps_up office logs tm dl list) fun g hg => ?_, ?_⟩
  · rw [e1] at hg
    obtain ⟨k, hk, rfl⟩ := List.mem_map.1 hg
    obtain ⟨o, ho, hc⟩ := few_expl s2 (mkG more logs tm dl list k) (by rw [e2]; exact List.mem_map.2 ⟨k, hk, rfl⟩)
    refine ⟨o, ho, canF_mono (g' := mkG more logs tm dl list k) rfl rfl rfl (fun h => ?_) hc⟩
    have h : b2 (!sentF k.2 (-1) more) ≠ 0 := h
    show b2 (!sentF k.2 (-1) office) ≠ 0
    cases hs : sentF k.2 (-1) office with
    | false => decide
    | true => rw [hm _ hs] at h; exact absurd rfl h
  · rw [e1, e2]
    unfold gapKeys
    rw [List.map_map, List.map_map]
    rfl
theorem sameB_refl {eq : List Int → List Int → Bool} (h : ∀ x, eq x x = true) : ∀ l, sameB eq l l = true
  | [] => rfl
  | x :: r => by unfold sameB; rw [h, sameB_refl h r]; rfl
theorem eq2_refl (x : List Int) : eq2 x x = true := by unfold eq2; simp
theorem caseB_ch {ow t delay : Int} {office list : List (List Int)} {logs : List ALog} (h : caseOk ow t delay office logs list = true) : chF list = true := by
  unfold caseOk at h
  simp only [Bool.and_eq_true] at h
  exact h.1.1.1.1.1.2
theorem better_ok (ow t delay at_ item : Int) (office ships chances : List (List Int)) (h1 : office.length ≤ 9223372036854775807) (h2 : ships.length ≤ 9223372036854775807) (h3 : chances.length ≤ 9223372036854775807) (hd : LenOk ships) :
    law44_InquiryBetter_0 ow t delay at_ item office ships chances = true ∧ law44_InquiryBetter_pre ow t delay at_ item office ships chances := by
  obtain ⟨f1, f2⟩ := Few_is ow office ships chances h2
  obtain ⟨a1, a2, a3, a4⟩ := Add_is ow at_ 1 item office h1
  unfold law44_InquiryBetter_0 law44_InquiryBetter_pre
  rw [head_true]
  cases hfew : ref44_Few_0 ow office ships chances with
  | false => exact ⟨rfl, head_pre, f1, fun h => by cases h⟩
  | true =>
    have h90 : chances.length ≤ 90 ∨ 200 < chances.length := (f2 hfew).imp (fun h => by omega) id
    obtain ⟨e1, e2, e3, e4⟩ := Explain_is (ow := ow) (t := t) (delay := delay) h1 h2 h3 hd h90
    rw [a2, a3, a4, e4]
    by_cases hadd : addE ow at_ 1 item office = 0
    · rw [if_pos hadd]
      cases hc : caseOk ow t delay office (logsOf ships) chances with
      | false =>
        rw [hadd]
        exact ⟨rfl, head_pre, f1, fun _ => ⟨a1, e1, fun h => by cases h⟩⟩
      | true =>
        obtain ⟨v1, v2⟩ := add_val hadd
        have hch := caseB_ch hc
        have hmc : caseOk ow t delay (addL ow at_ 1 item office) (logsOf ships) chances = true := by
          unfold caseOk at hc ⊢
          simp only [Bool.and_eq_true] at hc ⊢
          exact ⟨⟨⟨⟨⟨⟨⟨v1, hc.1.1.1.1.1.1.2⟩, hc.1.1.1.1.1.2⟩, hc.1.1.1.1.2⟩, hc.1.1.1.2⟩, hc.1.1.2⟩, hc.1.2⟩, hc.2⟩
        have hml : (addL ow at_ 1 item office).length ≤ 9223372036854775807 := by
          have := (val_len v1).1
          omega
        obtain ⟨m1, m2, m3, m4⟩ := Explain_is (ow := ow) (t := t) (delay := delay) hml h2 h3 hd h90
        obtain ⟨g1, g2, g3⟩ := Gaps_is (ow := ow) (t := t) (delay := delay) h1 h2 h3 hd
        obtain ⟨n1, n2, n3⟩ := Gaps_is (ow := ow) (t := t) (delay := delay) hml h2 h3 hd
        obtain ⟨q1, q2⟩ := few_more (office := office) (more := addL ow at_ 1 item office) (logs := logsOf ships) (tm := t) (dl := delay) hch (fun n h => by rw [v2]; exact sent_add n _ _ _ h)
        rw [hmc] at m2 m4 n2 n3
        rw [hc] at e2 g2 g3
        rw [if_pos rfl] at m2 m4 n2 n3 e2 g2 g3
        have hgl : (gapKeys (gapsF office (logsOf ships) t delay chances)).length ≤ 9223372036854775807 := by
          unfold gapKeys
          rw [List.length_map]
          have := (gapsF_ok (office := office) (logs := logsOf ships) (tm := t) (dl := delay) hch).2.2
          omega
        obtain ⟨s1, s2⟩ := SameGaps_is (gapKeys (gapsF office (logsOf ships) t delay chances)) (gapKeys (gapsF (addL ow at_ 1 item office) (logsOf ships) t delay chances)) hgl
        rw [m2, m4, n2, n3, e2, g2, g3, s2, hadd, ← q2, sameB_refl eq2_refl, decide_eq_true (by omega)]
        rw [← q2] at s1
        refine ⟨by simp, head_pre, f1, fun _ => ⟨a1, e1, fun _ => ⟨m1, g1, n1, fun _ => s1⟩⟩⟩
    · have : (addE ow at_ 1 item office != 0) = true := by simpa using hadd
      rw [this]
      refine ⟨rfl, head_pre, f1, fun _ => ⟨a1, e1, fun h => by cases h⟩⟩
end Go.Proofs.YtikhnofbbcmpeaaGreat
