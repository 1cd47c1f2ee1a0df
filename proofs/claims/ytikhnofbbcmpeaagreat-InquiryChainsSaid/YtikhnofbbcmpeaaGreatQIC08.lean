/- Several texts in one (wip/pack.py): XInqPi XInqPj XInqPk XInqPl XInqPm XInqPq XInqPr XInqQ0 XInqQChains. -/
import Derived.Test.YtikhnofbbcmpeaaGreatQIC05
import Derived.Test.YtikhnofbbcmpeaaGreatQIC07
set_option linter.unusedVariables false
set_option maxRecDepth 100000
namespace Go.Proofs.YtikhnofbbcmpeaaGreat
open Go Go.Sy
def apF (g h : List Int) : Bool := !(col g 0 == col h 0 && (col g 1 == col h 1 && true)) && !((col g 2 != 0) && (col h 2 != 0) && col g 1 == col h 1) && !((col g 3 != 0) && (col h 3 != 0) && col g 0 == col h 0)
noncomputable def goP (k : Int → List (List Int) → List (List Int)) (n : Int) : List (List Int) → List (List Int)
  | [] => []
  | g :: r => if ((fewF (r.filter (apF g))).length : Int) = n - 1 then [col g 0, col g 1] :: k (n - 1) (r.filter (apF g)) else goP k n r
noncomputable def prF : Nat → Int → List (List Int) → List (List Int)
  | 0, _, _ => []
  | m + 1, n, list => if n = 0 then [] else goP (prF m) n list
theorem goP_length {k : Int → List (List Int) → List (List Int)} (hk : ∀ n l, (k n l).length ≤ l.length) (n : Int) : ∀ l, (goP k n l).length ≤ l.length
  | [] => Nat.le_refl _
  | g :: r => by
    unfold goP
    split
    · have h1 := hk (n - 1) (r.filter (apF g))
      have h2 := List.length_filter_le (apF g) r
      simp only [List.length_cons]
      omega
    · have := goP_length hk n r
      simp only [List.length_cons]
      omega
theorem prF_length : ∀ (m : Nat) (n : Int) (l : List (List Int)), (prF m n l).length ≤ l.length
  | 0, _, _ => Nat.zero_le _
  | m + 1, n, l => by
    unfold prF
    split
    · exact Nat.zero_le _
    · exact goP_length (prF_length m) n l
theorem prv1_is {pr : Int → List (List Int) → Prop} {g : Int → List (List Int) → List (List Int)} {n : Int} {list : List (List Int)} (hok : GapsOk list) (hl : list.length ≤ 1000000) {i : Nat} (hi : i < list.length) :
    loopOk (prv_l1_step pr g n list [.i i]) (prv_l1_init pr g n list [.i i]) ∧ gr (prv_l1 pr g n list [.i i]).snd 1 = (list.drop (i + 1)).filter (apF list[i]) := by
  have hw : IntKind.i64.wrap ((i : Int) + 1) = ((i + 1 : Nat) : Int) := wrapS (by omega)
  have hld : (list.drop (i + 1)).length = list.length - (i + 1) := List.length_drop
  obtain ⟨h1, h2⟩ := loop_list (step := prv_l1_step pr g n list [.i i]) (list.drop (i + 1)) (fun j (s : List (List Int)) => [.i j, .r s]) (fun s x => .inl (if apF list[i] x = true then s ++ [x] else s)) (fun j s => s.length ≤ j) (fun s => (2, [.i ((list.drop (i + 1)).length : Nat), .r s])) 0
    (fun j s hj _ hI => by
      have hj' : i + 1 + j < list.length := by omega
      have he : (list.drop (i + 1))[j] = list[i + 1 + j] := List.getElem_drop
      have hfit : ∀ x : List Int, fitsA 24 (s.length + [x].length) := fun x => by unfold fitsA maxLen; simp only [List.length_cons, List.length_nil]; omega
      refine ⟨?_, fun s' hs' => by cases hs'; exact Nat.le_trans (len_if _ _ _) (by omega)⟩
      rw [he]
      have hn := hok _ (List.getElem_mem hj')
      unfold prv_l1_step prv_s0 prv_s4 prv_s3 prv_s1 prv_s2
      simp only [gi_z, gr_1, gr_z, hw, boundsA, loN, shI, Int.toNat_natCast, wrapS (show j < 9223372036854775807 by omega)]
      rw [decide_eq_true (by omega), cond_true, guardP_true (by omega), guardP_true (by unfold inR; omega), show (((i + 1 : Nat) : Int) + (j : Int)).toNat = i + 1 + j by omega, getD_at hj', getD_at hi, guardP_true (hfit _)]
      have hn' : [list[i + 1 + j].getD 0 0, list[i + 1 + j].getD 1 0, bif list[i + 1 + j].getD 2 0 != 0 then 1 else 0, bif list[i + 1 + j].getD 3 0 != 0 then 1 else 0] = list[i + 1 + j] := hn
      rw [hn']
      show (bif apF list[i] list[i + 1 + j] then _ else _) = _
      cases apF list[i] list[i + 1 + j]
      · rw [if_neg (by decide)]; rfl
      · rw [if_pos rfl]; rfl)
    (fun j s hj _ => by
      have : j = (list.drop (i + 1)).length := by omega
      subst this
      unfold prv_l1_step prv_s0
      simp only [gi_z, gr_1, gr_z, hw, boundsA, loN, Int.toNat_natCast, hld]
      rw [decide_eq_false (by omega)]; rfl) (s := []) (Nat.zero_le _)
  refine ⟨h1, ?_⟩
  have : prv_l1 pr g n list [.i i] = loopGet (prv_l1_step pr g n list [.i i]) [.i ((0 : Nat) : Int), .r []] := rfl
  rw [this, h2, List.drop_zero, run_fold, foldl_filter, List.nil_append]
  show gr [.i _, .r (((list.drop (i + 1)).filter (apF list[i])).map fun x => x)] 1 = _
  rw [gr_1, gr_z, List.map_id']
theorem prx_is : ∀ (k n : Nat) (list : List (List Int)), n < k → n ≤ 1000000 → ShipsOk list → GapsOk list → list.length ≤ 1000000 → (prx k).1 n list ∧ (prx k).2 n list = prF k n list
  | 0, n, list, hn, _, _, _, _ => by omega
  | k + 1, n, list, hn, hnb, hs, hok, hl => by
    show prv_pre (prx k).1 (prx k).2 n list ∧ prv_0 (prx k).1 (prx k).2 n list = prF (k + 1) n list
    by_cases h0 : n = 0
    · subst h0
      exact ⟨(fun h => by cases h), rfl⟩
    · have hn0 : ((n : Int) == 0) = false := by simpa using h0
      have key : ∀ m i, i + m = list.length → ∃ q r, iterO (prv_l0_step (prx k).1 (prx k).2 n list) q [.i i] = some r ∧ (bif r.1.beq 1 then gr r.2 0 else []) = goP (prF k) n (list.drop i) := by
        intro m
        induction m with
        | zero =>
          intro i hi
          have hi : i = list.length := by omega
          subst hi
          refine ⟨1, (3, [.i list.length]), iter_out ?_, ?_⟩
          · unfold prv_l0_step
            simp only [gi_z, dnlt]
          · rw [List.drop_length]; rfl
        | succ m ih =>
          intro i hi
          have hi' : i < list.length := by omega
          have hw : IntKind.i64.wrap ((i : Int) + 1) = ((i + 1 : Nat) : Int) := wrapS (by omega)
          have hwn : IntKind.i64.wrap ((n : Int) - 1) = ((n - 1 : Nat) : Int) := by rw [i64_wrap (by omega)]; omega
          obtain ⟨q1, q2⟩ := prv1_is (pr := (prx k).1) (g := (prx k).2) (n := (n : Int)) hok hl hi'
          have hsub : ∀ x ∈ (list.drop (i + 1)).filter (apF list[i]), x ∈ list := fun x hx => List.mem_of_mem_drop (List.mem_filter.1 hx).1
          have hlr : ((list.drop (i + 1)).filter (apF list[i])).length ≤ 1000000 := Nat.le_trans (List.length_filter_le _ _) (by rw [List.length_drop]; omega)
          have hs' : ShipsOk ((list.drop (i + 1)).filter (apF list[i])) := fun x hx => hs x (hsub x hx)
          have hok' : GapsOk ((list.drop (i + 1)).filter (apF list[i])) := fun x hx => hok x (hsub x hx)
          obtain ⟨f1, f2⟩ := fewest_is hs' hlr
          obtain ⟨p1, p2⟩ := prx_is k (n - 1) _ (by omega) (by omega) hs' hok' hlr
          have hplen := prF_length k ((n - 1 : Nat) : Int) ((list.drop (i + 1)).filter (apF list[i]))
          have hstep : prv_l0_step (prx k).1 (prx k).2 n list [.i i] = if ((fewF ((list.drop (i + 1)).filter (apF list[i]))).length : Int) = n - 1 then some (1, [.r ([col list[i] 0, col list[i] 1] :: prF k (n - 1) ((list.drop (i + 1)).filter (apF list[i])))]) else some (0, [.i ((i + 1 : Nat) : Int)]) := by
            unfold prv_l0_step prv_s5
            simp only [gi_z, hw, hwn]
            rw [q2, f2, p2, dlt hi', guardP_true (inR_of hi'), guardP_true (inR_of hi'), guardP_true (by omega), guardP_true q1, guardP_true f1, guardP_true p1, getI_at hi',
              guardP_true (by unfold fitsA maxLen; simp only [List.length_cons, List.length_nil]; omega)]
            have en : ((n - 1 : Nat) : Int) = (n : Int) - 1 := by omega
            rw [en]
            by_cases h : ((fewF ((list.drop (i + 1)).filter (apF list[i]))).length : Int) = n - 1
            · rw [if_pos h, h, beq_self_eq_true, cond_true]; rfl
            · rw [if_neg h, bne h]; rfl
          rw [List.drop_eq_getElem_cons hi']
          unfold goP
          by_cases h : ((fewF ((list.drop (i + 1)).filter (apF list[i]))).length : Int) = n - 1
          · rw [if_pos h] at hstep
            rw [if_pos h]
            refine ⟨1, _, iter_out hstep, ?_⟩
            exact gr_z _ []
          · rw [if_neg h] at hstep
            rw [if_neg h]
            obtain ⟨q, r, h1, h2⟩ := ih (i + 1) (by omega)
            exact ⟨q + 1, r, iter_next hstep h1, h2⟩
      obtain ⟨q, r, h1, h2⟩ := key list.length 0 (by omega)
      have hinit : prv_l0_init (prx k).1 (prx k).2 n list = [.i ((0 : Nat) : Int)] := rfl
      obtain ⟨g1, g2⟩ := loop_is h1
      refine ⟨fun _ => by rw [hinit]; exact g1, ?_⟩
      unfold prv_0 prv_l0
      rw [hn0, cond_false, hinit, g2]
      show _ = if (n : Int) = 0 then [] else goP (prF k) n list
      rw [if_neg (by omega)]
      exact h2
theorem not_not_decide (b : Bool) : (!!b) = b := by cases b <;> rfl
def gapKeys (gs : List (List Int)) : List (List Int) := gs.map fun g => [col g 0, col g 1]
theorem Gaps_is {ow t delay : Int} {office ships list : List (List Int)} (ho : office.length ≤ 9223372036854775807) (hs : ships.length ≤ 9223372036854775807) (hl : list.length ≤ 9223372036854775807) (hd : LenOk ships) :
    inquiry_Gaps_pre ow t delay office ships list ∧ inquiry_Gaps_0 ow t delay office ships list = (if caseOk ow t delay office (logsOf ships) list = true then gapKeys (gapsF office (logsOf ships) t delay list) else []) ∧ inquiry_Gaps_1 ow t delay office ships list = if caseOk ow t delay office (logsOf ships) list = true then 0 else 1 := by
  have hv := valid_is ow office ho
  have hc := chances_is list hl
  obtain ⟨o1, o2, o3⟩ := op0_is (ow := ow) (t := t) (delay := delay) (office := office) (list := list) hs hd
  unfold inquiry_Gaps_pre inquiry_Gaps_0 inquiry_Gaps_s3 inquiry_Gaps_s2 inquiry_Gaps_1 inquiry_Gaps_s5 inquiry_Gaps_s4
  rw [case1_is ho hl, case_eq]
  cases h1 : caseOk1 ow t delay office list with
  | false => exact ⟨⟨hv.1, fun _ => hc.1, fun h => by cases h⟩, rfl, rfl⟩
  | true =>
    cases h2 : risF 0 (logsOf ships) with
    | false =>
      have e := o3 h2
      rw [e]
      exact ⟨⟨hv.1, fun _ => hc.1, fun _ => ⟨o1, fun h => by cases h⟩⟩, rfl, rfl⟩
    | true =>
      obtain ⟨e, er⟩ := o2 h2
      obtain ⟨p1, p2⟩ := op1_is (ow := ow) (t := t) (delay := delay) (office := office) hl hs hd h2
      obtain ⟨g1, g2⟩ := gaps_is (t := t) ho h1 h2
      rw [e, not_not_decide, p2]
      rw [show (inquiry_Gaps_l0 ow t delay office ships list).snd = (inquiry_Gaps_l0 ow t delay office ships list).2 from rfl, er]
      cases h3 : list.any (noShip (logsOf ships)) with
      | true => exact ⟨⟨hv.1, fun _ => hc.1, fun _ => ⟨o1, fun _ => ⟨p1, fun h => by cases h⟩⟩⟩, rfl, rfl⟩
      | false =>
        have hch : chF list = true := by
          unfold caseOk1 at h1
          simp only [Bool.and_eq_true] at h1
          exact h1.1.1.1.2
        obtain ⟨k1, k2, k3⟩ := gapsF_ok (office := office) (logs := logsOf ships) (tm := t) (dl := delay) hch
        have hl200 := (ch_len hch).1
        obtain ⟨q1, q2⟩ := loop_list (step := inquiry_Gaps_l2_step ow t delay office ships list) (gapsF office (logsOf ships) t delay list) (fun i (s : List (List Int)) => [.i i, .r s]) (fun s x => .inl (s ++ [[col x 0, col x 1]])) (fun i s => s.length ≤ i) (fun s => (1, [.i ((gapsF office (logsOf ships) t delay list).length : Nat), .r s])) 0
          (fun i s hi _ hI => by
            refine ⟨?_, fun s' hs' => by cases hs'; simp; exact hI⟩
            unfold inquiry_Gaps_l2_step inquiry_Gaps_s1
            simp only [gi_z, gr_1, gr_z]
            rw [show (inquiry_Gaps_l0 ow t delay office ships list).snd = (inquiry_Gaps_l0 ow t delay office ships list).2 from rfl, er, g2, dlt hi, guardP_true (inR_of hi), guardP_true (inR_of hi), getI_at hi, wrapS (by omega), guardP_true (by unfold fitsA maxLen; simp only [List.length_cons, List.length_nil]; omega)]
            rfl)
          (fun i s hi _ => by
            have : i = (gapsF office (logsOf ships) t delay list).length := by omega
            subst this
            unfold inquiry_Gaps_l2_step
            simp only [gi_z, gr_1, gr_z]
            rw [show (inquiry_Gaps_l0 ow t delay office ships list).snd = (inquiry_Gaps_l0 ow t delay office ships list).2 from rfl, er, g2, dnlt]) (s := []) (Nat.zero_le _)
        refine ⟨⟨hv.1, fun _ => hc.1, fun _ => ⟨o1, fun _ => ⟨p1, fun _ => ⟨g1, q1⟩⟩⟩⟩, ?_, rfl⟩
        have el : inquiry_Gaps_l2 ow t delay office ships list = loopGet (inquiry_Gaps_l2_step ow t delay office ships list) [.i ((0 : Nat) : Int), .r []] := rfl
        have ef : ∀ (l s : List (List Int)), l.foldl (fun s x => s ++ [[col x 0, col x 1]]) s = s ++ gapKeys l := by
          intro l
          induction l with
          | nil => intro s; simp [gapKeys]
          | cons x r ih => intro s; rw [List.foldl_cons, ih]; simp [gapKeys]
        rw [el, q2, List.drop_zero, run_fold, ef, List.nil_append]
        show gr [U.i ((gapsF office (logsOf ships) t delay list).length : Nat), U.r (gapKeys (gapsF office (logsOf ships) t delay list))] 1 = gapKeys (gapsF office (logsOf ships) t delay list)
        rw [gr_1, gr_z]
theorem fewF_length (list : List (List Int)) : (fewF list).length ≤ (byF 0 list).length := by
  have : ∀ n, (upto (fewStep list) n (byF 0 list)).length ≤ (byF 0 list).length := by
    intro n
    induction n with
    | zero => exact Nat.le_refl _
    | succ n ih =>
      have e : upto (fewStep list) (n + 1) (byF 0 list) = fewStep list n (upto (fewStep list) n (byF 0 list)) := rfl
      rw [e]
      generalize upto (fewStep list) n (byF 0 list) = b at *
      unfold fewStep
      split
      · split
        · rename_i hb
          unfold better at hb
          simp only [Bool.or_eq_true, Bool.and_eq_true, decide_eq_true_eq, beq_iff_eq] at hb
          rcases hb with hb | hb
          · omega
          · have := hb.1; omega
        · exact ih
      · exact ih
  exact this _
theorem Explain_is {ow t delay : Int} {office ships list : List (List Int)} (ho : office.length ≤ 9223372036854775807) (hs : ships.length ≤ 9223372036854775807) (hl : list.length ≤ 9223372036854775807) (hd : LenOk ships) (h90 : list.length ≤ 90 ∨ 200 < list.length) :
    inquiry_Explain_pre ow t delay office ships list ∧ inquiry_Explain_0 ow t delay office ships list = (if caseOk ow t delay office (logsOf ships) list = true then fewF (gapsF office (logsOf ships) t delay list) else []) ∧
    inquiry_Explain_1 ow t delay office ships list = (if caseOk ow t delay office (logsOf ships) list = true then prF 100 ((fewF (gapsF office (logsOf ships) t delay list)).length : Nat) (gapsF office (logsOf ships) t delay list) else []) ∧
    inquiry_Explain_2 ow t delay office ships list = if caseOk ow t delay office (logsOf ships) list = true then 0 else 1 := by
  have hv := valid_is ow office ho
  have hc := chances_is list hl
  obtain ⟨o1, o2, o3⟩ := op0_is (ow := ow) (t := t) (delay := delay) (office := office) (list := list) hs hd
  have es0 : inquiry_Explain_l0_step ow t delay office ships list = inquiry_Gaps_l0_step ow t delay office ships list := rfl
  have ei0 : inquiry_Explain_l0_init ow t delay office ships list = inquiry_Gaps_l0_init ow t delay office ships list := rfl
  have el0 : inquiry_Explain_l0 ow t delay office ships list = inquiry_Gaps_l0 ow t delay office ships list := rfl
  have es1 : inquiry_Explain_l1_step ow t delay office ships list = inquiry_Gaps_l1_step ow t delay office ships list := rfl
  have ei1 : inquiry_Explain_l1_init ow t delay office ships list = inquiry_Gaps_l1_init ow t delay office ships list := rfl
  have el1 : inquiry_Explain_l1 ow t delay office ships list = inquiry_Gaps_l1 ow t delay office ships list := rfl
  unfold inquiry_Explain_pre inquiry_Explain_0 inquiry_Explain_s2 inquiry_Explain_s1 inquiry_Explain_1 inquiry_Explain_s4 inquiry_Explain_s3 inquiry_Explain_2 inquiry_Explain_s6 inquiry_Explain_s5
  rw [es0, ei0, el0, es1, ei1, el1, case1_is ho hl, case_eq]
  cases h1 : caseOk1 ow t delay office list with
  | false => exact ⟨⟨hv.1, fun _ => hc.1, fun h => by cases h⟩, rfl, rfl, rfl⟩
  | true =>
    cases h2 : risF 0 (logsOf ships) with
    | false =>
      have e := o3 h2
      rw [e]
      exact ⟨⟨hv.1, fun _ => hc.1, fun _ => ⟨o1, fun h => by cases h⟩⟩, rfl, rfl, rfl⟩
    | true =>
      obtain ⟨e, er⟩ := o2 h2
      obtain ⟨p1, p2⟩ := op1_is (ow := ow) (t := t) (delay := delay) (office := office) hl hs hd h2
      obtain ⟨g1, g2⟩ := gaps_is (t := t) ho h1 h2
      rw [e, not_not_decide, p2]
      rw [show (inquiry_Gaps_l0 ow t delay office ships list).snd = (inquiry_Gaps_l0 ow t delay office ships list).2 from rfl, er]
      cases h3 : list.any (noShip (logsOf ships)) with
      | true => exact ⟨⟨hv.1, fun _ => hc.1, fun _ => ⟨o1, fun _ => ⟨p1, fun h => by cases h⟩⟩⟩, rfl, rfl, rfl⟩
      | false =>
        have hch : chF list = true := by
          unfold caseOk1 at h1
          simp only [Bool.and_eq_true] at h1
          exact h1.1.1.1.2
        obtain ⟨k1, k2, k3⟩ := gapsF_ok (office := office) (logs := logsOf ships) (tm := t) (dl := delay) hch
        have hl200 := (ch_len hch).1
        have hl90 : list.length ≤ 90 := by omega
        obtain ⟨f1, f2⟩ := fewest_is k1 (by omega)
        have hfl : (fewF (gapsF office (logsOf ships) t delay list)).length < 100 := by
          have h0 := fewF_length (gapsF office (logsOf ships) t delay list)
          have := byF_length_le 0 (gapsF office (logsOf ships) t delay list)
          omega
        obtain ⟨x1, x2⟩ := prx_is 100 (fewF (gapsF office (logsOf ships) t delay list)).length _ hfl (by omega) k1 k2 (by omega)
        rw [g2, f2]
        exact ⟨⟨hv.1, fun _ => hc.1, fun _ => ⟨o1, fun _ => ⟨p1, fun _ => ⟨g1, f1, x1⟩⟩⟩⟩, rfl, x2, rfl⟩
end Go.Proofs.YtikhnofbbcmpeaaGreat
set_option linter.unusedVariables false
set_option maxRecDepth 100000
namespace Go.Proofs.YtikhnofbbcmpeaaGreat
open Go Go.Sy
def riseF (cf : List Int → List Int → Int) : List (List Int) → Bool
  | x :: y :: r => decide (cf x y < 0) && riseF cf (y :: r)
  | _ => true
theorem riseF_iff (cf : List Int → List Int → Int) : ∀ l : List (List Int), riseF cf l = true ↔ ∀ i (h : i + 1 < l.length), cf l[i] l[i + 1] < 0
  | [] => ⟨fun _ i h => by simp at h, fun _ => rfl⟩
  | [x] => ⟨fun _ i h => by simp at h, fun _ => rfl⟩
  | x :: y :: r => by
    show (decide (cf x y < 0) && riseF cf (y :: r)) = true ↔ _
    rw [Bool.and_eq_true, decide_eq_true_eq, riseF_iff cf (y :: r)]
    constructor
    · rintro ⟨h1, h2⟩ i hi
      cases i with
      | zero => exact h1
      | succ i => exact h2 i (by simpa using hi)
    · intro h
      exact ⟨h 0 (by simp), fun i hi => h (i + 1) (by simpa using hi)⟩
theorem rise_loop {step : List U → Option (Nat × List U)} {l : List (List Int)} {cf : List Int → List Int → Int} (m : Nat) (hs : ∀ i (hi : i + 1 < l.length), step [.b false, .i ((i + 1 : Nat) : Int)] = bif decide (cf l[i] l[i + 1] ≥ 0) then some (1, []) else some (0, [.b false, .i ((i + 1 + 1 : Nat) : Int)]))
    (he : ∀ n : Nat, ¬ ((n : Int) < (l.length : Int)) → step [.b false, .i n] = some (m + 2, [.b false, .i n])) {init : List U} (hi : init = [.b false, .i ((0 + 1 : Nat) : Int)]) :
    loopOk step init ∧ (bif (loopGet step init).fst.beq 1 then false else true) = riseF cf l := by
  subst hi
  obtain ⟨h1, h2⟩ := loop_search (step := step) (l.length - 1) (fun i => decide (cf (l.getD i []) (l.getD (i + 1) []) ≥ 0)) (fun i => [.b false, .i ((i + 1 : Nat) : Int)]) (fun i => []) 0 (m + 1) [.b false, .i ((l.length - 1 + 1 : Nat) : Int)]
    (fun i hi => by rw [hs i (by omega), getD_at (by omega), getD_at (by omega)]) (he _ (by omega))
  refine ⟨h1, ?_⟩
  rcases h2 with ⟨i, hi, hp, _, hg⟩ | ⟨hn, hg⟩
  · rw [hg]
    rw [getD_at (by omega), getD_at (by omega)] at hp
    have : riseF cf l = false := by
      cases hr : riseF cf l with
      | false => rfl
      | true =>
        have := (riseF_iff cf l).1 hr i (by omega)
        have := of_decide_eq_true hp
        omega
    rw [this]; rfl
  · rw [hg]
    have : riseF cf l = true := (riseF_iff cf l).2 fun i hi => by
      have := hn i (by omega)
      rw [getD_at (by omega), getD_at hi] at this
      have := of_decide_eq_false this
      omega
    rw [this]; rfl
def canF (g o : List Int) : Bool :=
  bif col o 0 == 1 && (col o 1 == 0 && (col o 2 == col g 1 && true)) then col g 2 != 0 else bif col o 0 == 2 && (col o 1 == col g 0 && (col o 2 == 0 && true)) then col g 3 != 0 else col o 0 == 3 && (col o 1 == col g 0 && (col o 2 == col g 1 && true))
def keyB (g p : List Int) : Bool := col g 0 == col p 0 && (col g 1 == col p 1 && true)
def verL (om pr : List (List Int)) : List (List Int) → List (List Int) → Option (List (List Int))
  | named, [] => some named
  | named, g :: r => if (om.any (canF g)) = true then (if pr.any (keyB g) = true then (if named.any (fun h => !apF g h) = true then none else verL om pr (named ++ [g]) r) else verL om pr named r) else none
noncomputable def verF (gs om pr : List (List Int)) : Bool := om.length == pr.length && riseF cfO om && riseF cfG pr && (match verL om pr [] gs with | some named => named.length == pr.length | none => false)
section
variable {ow t delay : Int} {office ships list om pr : List (List Int)}
theorem ver_case : inquiry_Verify_l0_step ow t delay office ships list om pr = inquiry_Gaps_l0_step ow t delay office ships list ∧ inquiry_Verify_l0_init ow t delay office ships list om pr = inquiry_Gaps_l0_init ow t delay office ships list ∧ inquiry_Verify_l0 ow t delay office ships list om pr = inquiry_Gaps_l0 ow t delay office ships list ∧
    inquiry_Verify_l1_step ow t delay office ships list om pr = inquiry_Gaps_l1_step ow t delay office ships list ∧ inquiry_Verify_l1_init ow t delay office ships list om pr = inquiry_Gaps_l1_init ow t delay office ships list ∧ inquiry_Verify_l1 ow t delay office ships list om pr = inquiry_Gaps_l1 ow t delay office ships list := ⟨rfl, rfl, rfl, rfl, rfl, rfl⟩
theorem ver2_is (hom : om.length ≤ 9223372036854775807) : loopOk (inquiry_Verify_l2_step ow t delay office ships list om pr) (inquiry_Verify_l2_init ow t delay office ships list om pr) ∧ (bif (inquiry_Verify_l2 ow t delay office ships list om pr).fst.beq 1 then false else true) = riseF cfO om :=
  rise_loop (cf := cfO) 1 (fun i hi => by
      unfold inquiry_Verify_l2_step inquiry_Verify_s1
      have hw : IntKind.i64.wrap (((i + 1 : Nat) : Int) - 1) = ((i : Nat) : Int) := by rw [i64_wrap (by omega)]; omega
      simp only [gi_1, gi_z, gb_z, hw]
      rw [decide_eq_true (by omega), cond_true, guardP_true (inR_of (by omega)), guardP_true (inR_of (by omega)), guardP_true (inR_of hi), guardP_true (inR_of hi), guardP_true (compare_is _ _ _ _ _ _).1, getI_at hi, getI_at (show i < om.length by omega), wrapS (by omega)]
      rfl)
    (fun n hn => by
      unfold inquiry_Verify_l2_step
      simp only [gi_1, gi_z, gb_z]
      rw [decide_eq_false hn]; rfl) rfl
theorem ver3_is (hpr : pr.length ≤ 9223372036854775807) : loopOk (inquiry_Verify_l3_step ow t delay office ships list om pr) (inquiry_Verify_l3_init ow t delay office ships list om pr) ∧ (bif (inquiry_Verify_l3 ow t delay office ships list om pr).fst.beq 1 then false else true) = riseF cfG pr :=
  rise_loop (cf := cfG) 1 (fun i hi => by
      unfold inquiry_Verify_l3_step inquiry_Verify_s2
      have hw : IntKind.i64.wrap (((i + 1 : Nat) : Int) - 1) = ((i : Nat) : Int) := by rw [i64_wrap (by omega)]; omega
      simp only [gi_1, gi_z, gb_z, hw]
      rw [decide_eq_true (by omega), cond_true, guardP_true (inR_of (by omega)), guardP_true (inR_of (by omega)), guardP_true (inR_of hi), guardP_true (inR_of hi), guardP_true (order_is _ _ _ _).1, getI_at hi, getI_at (show i < pr.length by omega), wrapS (by omega)]
      rfl)
    (fun n hn => by
      unfold inquiry_Verify_l3_step
      simp only [gi_1, gi_z, gb_z]
      rw [decide_eq_false hn]; rfl) rfl
theorem ver4_is {gs : List (List Int)} (hg : inquest_gaps_0 ow t delay office (gr (inquiry_Verify_l0 ow t delay office ships list om pr).snd 3) list = gs) (hok : GapsOk gs) (hgs : gs.length ≤ 1000000) (hom : om.length ≤ 9223372036854775807) (hpr : pr.length ≤ 9223372036854775807) :
    loopOk (inquiry_Verify_l4_step ow t delay office ships list om pr) (inquiry_Verify_l4_init ow t delay office ships list om pr) ∧
    (bif (inquiry_Verify_l4 ow t delay office ships list om pr).fst.beq 1 then false else bif (inquiry_Verify_l4 ow t delay office ships list om pr).fst.beq 2 then false else (↑(gr (inquiry_Verify_l4 ow t delay office ships list om pr).snd 3).length : Int) == (↑pr.length : Int)) = (match verL om pr [] gs with | some named => named.length == pr.length | none => false) := by
  have inner : ∀ (i : Nat) (hi : i < gs.length) (named : List (List Int)), named.length ≤ 9223372036854775807 →
      (loopOk (inquiry_Verify_l5_step ow t delay office ships list om pr [.b false, .i 0, .i i, .r named]) (inquiry_Verify_l5_init ow t delay office ships list om pr [.b false, .i 0, .i i, .r named]) ∧ decide ((bif (inquiry_Verify_l5 ow t delay office ships list om pr [.b false, .i 0, .i i, .r named]).fst.beq 1 then gi (inquiry_Verify_l5 ow t delay office ships list om pr [.b false, .i 0, .i i, .r named]).snd 0 else (-1 : Int)) ≥ 0) = om.any (canF gs[i])) ∧
      (loopOk (inquiry_Verify_l6_step ow t delay office ships list om pr [.b false, .i 0, .i i, .r named]) (inquiry_Verify_l6_init ow t delay office ships list om pr [.b false, .i 0, .i i, .r named]) ∧ decide ((bif (inquiry_Verify_l6 ow t delay office ships list om pr [.b false, .i 0, .i i, .r named]).fst.beq 1 then gi (inquiry_Verify_l6 ow t delay office ships list om pr [.b false, .i 0, .i i, .r named]).snd 0 else (-1 : Int)) ≥ 0) = pr.any (keyB gs[i])) ∧
      (loopOk (inquiry_Verify_l7_step ow t delay office ships list om pr [.b false, .i 0, .i i, .r named]) (inquiry_Verify_l7_init ow t delay office ships list om pr [.b false, .i 0, .i i, .r named]) ∧ decide ((bif (inquiry_Verify_l7 ow t delay office ships list om pr [.b false, .i 0, .i i, .r named]).fst.beq 1 then gi (inquiry_Verify_l7 ow t delay office ships list om pr [.b false, .i 0, .i i, .r named]).snd 0 else (-1 : Int)) ≥ 0) = named.any fun h => !apF gs[i] h) := by
    intro i hi named hnm
    refine ⟨loop_any (l := om) (p := canF gs[i]) 1 (fun j hj => ?_) ?_ rfl, loop_any (l := pr) (p := keyB gs[i]) 1 (fun j hj => ?_) ?_ rfl, loop_any (l := named) (p := fun h => !apF gs[i] h) 1 (fun j hj => ?_) ?_ rfl⟩
    · unfold inquiry_Verify_l5_step
      simp only [gi_2, gi_1, gi_z]
      rw [hg, dlt hj, guardP_true (inR_of hj), guardP_true (inR_of hj), getI_at hj, getI_at hi, wrapS (by omega)]
      rfl
    · unfold inquiry_Verify_l5_step
      simp only [gi_1, gi_z, dnlt]
    · unfold inquiry_Verify_l6_step
      simp only [gi_2, gi_1, gi_z]
      rw [hg, dlt hj, guardP_true (inR_of hj), guardP_true (inR_of hj), getI_at hj, getI_at hi, wrapS (by omega)]
      rfl
    · unfold inquiry_Verify_l6_step
      simp only [gi_1, gi_z, dnlt]
    · unfold inquiry_Verify_l7_step
      simp only [gi_2, gi_1, gi_z, gr_3, gr_z]
      rw [hg, dlt hj, guardP_true (inR_of hj), guardP_true (inR_of hj), getI_at hj, getI_at hi, wrapS (by omega)]
      rfl
    · unfold inquiry_Verify_l7_step
      simp only [gi_1, gi_z, gr_3, gr_z, dnlt]
  let f : List (List Int) → List Int → List (List Int) ⊕ (Nat × List U) := fun named g => if (om.any (canF g)) = true then (if pr.any (keyB g) = true then (if named.any (fun h => !apF g h) = true then .inr (1, []) else .inl (named ++ [g])) else .inl named) else .inr (0, [])
  obtain ⟨h1, h2⟩ := loop_list (step := inquiry_Verify_l4_step ow t delay office ships list om pr) gs (fun i (s : List (List Int)) => [.b false, .i 0, .i i, .r s]) f (fun i s => s.length ≤ i) (fun s => (4, [.b false, .i 0, .i gs.length, .r s])) 0
    (fun i s hi _ hI => by
      obtain ⟨⟨a1, a2⟩, ⟨b1, b2⟩, ⟨c1, c2⟩⟩ := inner i hi s (by omega)
      refine ⟨?_, fun s' hs' => ?_⟩
      · have hn : [gs[i].getD 0 0, gs[i].getD 1 0, bif gs[i].getD 2 0 != 0 then 1 else 0, bif gs[i].getD 3 0 != 0 then 1 else 0] = gs[i] := hok _ (List.getElem_mem hi)
        have hn4 : inquiry_Verify_s4 ow t delay office ships list om pr [.b false, .i 0, .i i, .r s] = gs[i] := by
          unfold inquiry_Verify_s4 inquiry_Verify_s3
          simp only [gi_2, gi_1, gi_z]
          rw [hg, getI_at hi]
          exact hn
        unfold inquiry_Verify_l4_step
        simp only [gi_2, gi_1, gi_z, gb_z, gr_3, gr_z]
        rw [a2, b2, c2, hn4, hg, dlt hi, guardP_true (inR_of hi), guardP_true (inR_of hi), guardP_true a1, guardP_true b1, guardP_true c1, wrapS (by omega), guardP_true (by unfold fitsA maxLen; simp only [List.length_cons, List.length_nil]; omega)]
        show _ = goOn _ (if (om.any (canF gs[i])) = true then (if pr.any (keyB gs[i]) = true then (if s.any (fun h => !apF gs[i] h) = true then .inr (1, []) else .inl (s ++ [gs[i]])) else .inl s) else .inr (0, []))
        cases om.any (canF gs[i])
        · rw [if_neg (by decide)]; rfl
        · rw [if_pos rfl]
          cases pr.any (keyB gs[i])
          · rw [if_neg (by decide)]; rfl
          · rw [if_pos rfl]
            cases s.any fun h => !apF gs[i] h
            · rw [if_neg (by decide)]; rfl
            · rw [if_pos rfl]; rfl
      · have hs' : (if (om.any (canF gs[i])) = true then (if pr.any (keyB gs[i]) = true then (if s.any (fun h => !apF gs[i] h) = true then .inr (1, []) else .inl (s ++ [gs[i]])) else .inl s) else .inr (0, []) : List (List Int) ⊕ (Nat × List U)) = .inl s' := hs'
        split at hs'
        · split at hs'
          · split at hs'
            · cases hs'
            · cases hs'; simp; omega
          · cases hs'; omega
        · cases hs')
    (fun i s hi _ => by
      have : i = gs.length := by omega
      subst this
      unfold inquiry_Verify_l4_step
      simp only [gi_2, gi_1, gi_z, gb_z, gr_3, gr_z]
      rw [hg, dnlt]) (s := []) (Nat.zero_le _)
  refine ⟨h1, ?_⟩
  have el : inquiry_Verify_l4 ow t delay office ships list om pr = loopGet (inquiry_Verify_l4_step ow t delay office ships list om pr) [.b false, .i 0, .i ((0 : Nat) : Int), .r []] := rfl
  rw [el, h2, List.drop_zero]
  have run : ∀ (r : List (List Int)) (named : List (List Int)), (bif (endL (fun s : List (List Int) => (4, [.b false, .i 0, .i gs.length, .r s])) (runL f named r)).1.beq 1 then false else bif (endL (fun s : List (List Int) => (4, [.b false, .i 0, .i gs.length, .r s])) (runL f named r)).1.beq 2 then false else (↑(gr (endL (fun s : List (List Int) => (4, [.b false, .i 0, .i gs.length, .r s])) (runL f named r)).2 3).length : Int) == (↑pr.length : Int)) = (match verL om pr named r with | some named => named.length == pr.length | none => false) := by
    intro r
    induction r with
    | nil =>
      intro named
      show ((↑(gr [.b false, .i 0, .i gs.length, .r named] 3).length : Int) == (↑pr.length : Int)) = (named.length == pr.length)
      rw [gr_3, gr_z]
      by_cases h : named.length = pr.length
      · rw [h]; simp
      · have h1 : ¬ (named.length : Int) = (pr.length : Int) := by omega
        rw [bne h1]
        simpa using h
    | cons g r ih =>
      intro named
      have ef : f named g = if (om.any (canF g)) = true then (if pr.any (keyB g) = true then (if named.any (fun h => !apF g h) = true then .inr (1, []) else .inl (named ++ [g])) else .inl named) else .inr (0, []) := rfl
      unfold runL verL
      by_cases h1 : om.any (canF g) = true
      · rw [if_pos h1] at ef
        rw [if_pos h1]
        by_cases h2 : pr.any (keyB g) = true
        · rw [if_pos h2] at ef
          rw [if_pos h2]
          by_cases h3 : named.any (fun h => !apF g h) = true
          · rw [if_pos h3] at ef
            rw [if_pos h3, ef]; rfl
          · rw [if_neg h3] at ef
            rw [if_neg h3, ef]
            exact ih _
        · rw [if_neg h2] at ef
          rw [if_neg h2, ef]
          exact ih _
      · rw [if_neg h1] at ef
        rw [if_neg h1, ef]; rfl
  exact run gs []
theorem Verify_is (ho : office.length ≤ 9223372036854775807) (hs : ships.length ≤ 9223372036854775807) (hl : list.length ≤ 9223372036854775807) (hd : LenOk ships) (hom : om.length ≤ 9223372036854775807) (hpr : pr.length ≤ 9223372036854775807) :
    inquiry_Verify_pre ow t delay office ships list om pr ∧ inquiry_Verify_0 ow t delay office ships list om pr = (caseOk ow t delay office (logsOf ships) list && verF (gapsF office (logsOf ships) t delay list) om pr) ∧ inquiry_Verify_1 ow t delay office ships list om pr = if caseOk ow t delay office (logsOf ships) list = true then 0 else 1 := by
  have hv := valid_is ow office ho
  have hc := chances_is list hl
  obtain ⟨o1, o2, o3⟩ := op0_is (ow := ow) (t := t) (delay := delay) (office := office) (list := list) hs hd
  obtain ⟨es0, ei0, el0, es1, ei1, el1⟩ := ver_case (ow := ow) (t := t) (delay := delay) (office := office) (ships := ships) (list := list) (om := om) (pr := pr)
  obtain ⟨r1, r2⟩ := ver2_is (ow := ow) (t := t) (delay := delay) (office := office) (ships := ships) (list := list) (pr := pr) hom
  obtain ⟨s1, s2⟩ := ver3_is (ow := ow) (t := t) (delay := delay) (office := office) (ships := ships) (list := list) (om := om) hpr
  have elen : ((om.length : Int) != (pr.length : Int)) = !(om.length == pr.length) := by
    by_cases h : om.length = pr.length
    · rw [h]; simp
    · have h1 : ¬ (om.length : Int) = (pr.length : Int) := by omega
      show (!((om.length : Int) == (pr.length : Int))) = _
      rw [bne h1]
      simpa using h
  unfold inquiry_Verify_pre inquiry_Verify_0 inquiry_Verify_1 inquiry_Verify_s7 inquiry_Verify_s6 inquiry_Verify_s5
  rw [r2, s2, elen]
  rw [es0, ei0, el0, es1, ei1, el1, case1_is ho hl, case_eq]
  cases h1 : caseOk1 ow t delay office list with
  | false => exact ⟨⟨hv.1, fun _ => hc.1, fun h => by cases h⟩, rfl, rfl⟩
  | true =>
    cases h2 : risF 0 (logsOf ships) with
    | false =>
      have e := o3 h2
      rw [e]
      exact ⟨⟨hv.1, fun _ => hc.1, fun _ => ⟨o1, fun h => by cases h⟩⟩, rfl, rfl⟩
    | true =>
      obtain ⟨e, er⟩ := o2 h2
      obtain ⟨p1, p2⟩ := op1_is (ow := ow) (t := t) (delay := delay) (office := office) hl hs hd h2
      obtain ⟨g1, g2⟩ := gaps_is (t := t) ho h1 h2
      rw [e, not_not_decide, p2]
      have er' : gr (inquiry_Gaps_l0 ow t delay office ships list).snd 3 = ships.map rowO := er
      cases h3 : list.any (noShip (logsOf ships)) with
      | true => exact ⟨⟨hv.1, fun _ => hc.1, fun _ => ⟨o1, fun _ => ⟨p1, fun h => by cases h⟩⟩⟩, rfl, rfl⟩
      | false =>
        have hch : chF list = true := by
          unfold caseOk1 at h1
          simp only [Bool.and_eq_true] at h1
          exact h1.1.1.1.2
        obtain ⟨k1, k2, k3⟩ := gapsF_ok (office := office) (logs := logsOf ships) (tm := t) (dl := delay) hch
        have hl200 := (ch_len hch).1
        obtain ⟨v1, v2⟩ := ver4_is (ow := ow) (t := t) (delay := delay) (office := office) (ships := ships) (list := list) (om := om) (pr := pr) (gs := gapsF office (logsOf ships) t delay list) (by rw [el0, er', g2]) k2 (by omega) hom hpr
        rw [er']
        refine ⟨⟨hv.1, fun _ => hc.1, fun _ => ⟨o1, fun _ => ⟨p1, fun _ => ⟨fun _ => r1, fun _ => s1, fun _ => ⟨g1, v1⟩⟩⟩⟩⟩, ?_, ?_⟩
        · unfold verF
          rw [← v2]
          cases (om.length == pr.length) <;> cases riseF cfO om <;> cases riseF cfG pr <;> rfl
        · cases (om.length == pr.length) <;> cases riseF cfO om <;> cases riseF cfG pr <;> cases (inquiry_Verify_l4 ow t delay office ships list om pr).fst.beq 1 <;> cases (inquiry_Verify_l4 ow t delay office ships list om pr).fst.beq 2 <;> rfl
end
end Go.Proofs.YtikhnofbbcmpeaaGreat
set_option linter.unusedVariables false
set_option maxRecDepth 100000
namespace Go.Proofs.YtikhnofbbcmpeaaGreat
open Go Go.Sy
def sameB (eq : List Int → List Int → Bool) : List (List Int) → List (List Int) → Bool
  | [], [] => true
  | x :: r, y :: r' => eq x y && sameB eq r r'
  | _, _ => false
theorem sameB_len {eq : List Int → List Int → Bool} : ∀ {a b : List (List Int)}, a.length ≠ b.length → sameB eq a b = false
  | [], [], h => absurd rfl h
  | [], _ :: _, _ => rfl
  | _ :: _, [], _ => rfl
  | x :: r, y :: r', h => by
    unfold sameB
    rw [sameB_len (by simpa using h), Bool.and_false]
theorem sameB_iff {eq : List Int → List Int → Bool} : ∀ {a b : List (List Int)}, a.length = b.length → (sameB eq a b = true ↔ ∀ i (h : i < a.length) (h' : i < b.length), eq a[i] b[i] = true)
  | [], [], _ => ⟨(fun _ i h => by cases h), fun _ => rfl⟩
  | x :: r, y :: r', h => by
    show (eq x y && sameB eq r r') = true ↔ _
    rw [Bool.and_eq_true, sameB_iff (by simpa using h)]
    constructor
    · rintro ⟨h1, h2⟩ i hi hi'
      cases i with
      | zero => exact h1
      | succ i => exact h2 i (by simpa using hi) (by simpa using hi')
    · intro h
      exact ⟨h 0 (by simp) (by simp), fun i hi hi' => h (i + 1) (by simpa using hi) (by simpa using hi')⟩
theorem same_loop {step : List U → Option (Nat × List U)} {a b : List (List Int)} {eq : List Int → List Int → Bool} (m : Nat) (hlen : a.length = b.length)
    (hs : ∀ i (h : i < a.length) (h' : i < b.length), step [.b false, .i i] = bif eq a[i] b[i] then some (0, [.b false, .i ((i + 1 : Nat) : Int)]) else some (1, []))
    (he : step [.b false, .i a.length] = some (m + 2, [.b false, .i a.length])) {init : List U} (hi : init = [.b false, .i ((0 : Nat) : Int)]) :
    loopOk step init ∧ (bif (loopGet step init).fst.beq 1 then false else true) = sameB eq a b := by
  subst hi
  obtain ⟨h1, h2⟩ := loop_search (step := step) a.length (fun i => !eq (a.getD i []) (b.getD i [])) (fun i => [.b false, .i i]) (fun i => []) 0 (m + 1) [.b false, .i a.length]
    (fun i hi => by
      rw [hs i hi (by omega), getD_at hi, getD_at (by omega)]
      cases eq a[i] b[i] <;> rfl) he
  refine ⟨h1, ?_⟩
  rcases h2 with ⟨i, hi, hp, _, hg⟩ | ⟨hn, hg⟩
  · rw [hg]
    have : sameB eq a b = false := by
      cases hr : sameB eq a b with
      | false => rfl
      | true =>
        have h := (sameB_iff hlen).1 hr i hi (by omega)
        rw [getD_at hi, getD_at (by omega), h] at hp
        cases hp
    rw [this]; rfl
  · rw [hg]
    have : sameB eq a b = true := (sameB_iff hlen).2 fun i h h' => by
      have := hn i h
      rw [getD_at h, getD_at h'] at this
      simpa using this
    rw [this]; rfl
theorem lenI {a b : List (List Int)} : ((a.length : Int) != (b.length : Int)) = !decide (a.length = b.length) := by
  by_cases h : a.length = b.length
  · rw [h]; simp
  · have h1 : ¬ (a.length : Int) = (b.length : Int) := by omega
    show (!((a.length : Int) == (b.length : Int))) = _
    rw [bne h1, decide_eq_false h]
def eq1 (x y : List Int) : Bool := col x 0 == col y 0
def eq2 (x y : List Int) : Bool := col x 0 == col y 0 && (col x 1 == col y 1 && true)
def eq3 (x y : List Int) : Bool := col x 0 == col y 0 && (col x 1 == col y 1 && (col x 2 == col y 2 && true))
theorem Ints_is (a b : List (List Int)) (ha : a.length ≤ 9223372036854775807) : ref08_Ints_pre a b ∧ ref08_Ints_0 a b = sameB eq1 a b := by
  unfold ref08_Ints_pre ref08_Ints_0
  rw [lenI]
  by_cases hlen : a.length = b.length
  · obtain ⟨h1, h2⟩ := same_loop (step := ref08_Ints_l0_step a b) (a := a) (b := b) (eq := eq1) 1 hlen (fun i h h' => by
        unfold ref08_Ints_l0_step
        simp only [gi_1, gi_z, gb_z]
        rw [dlt h, guardP_true (inR_of h), guardP_true (inR_of h), guardP_true (inR_of h'), guardP_true (inR_of h'), getI_at h, getI_at h', wrapS (by omega)]
        show (bif !(eq1 a[i] b[i]) then _ else _) = _
        cases eq1 a[i] b[i] <;> rfl)
      (by
        unfold ref08_Ints_l0_step
        simp only [gi_1, gi_z, gb_z, dnlt]) (init := ref08_Ints_l0_init a b) rfl
    rw [decide_eq_true hlen]
    exact ⟨fun _ => h1, h2⟩
  · rw [decide_eq_false hlen, sameB_len hlen]
    exact ⟨(fun h => by cases h), rfl⟩
theorem SameGaps_is (a b : List (List Int)) (ha : a.length ≤ 9223372036854775807) : ref44_SameGaps_pre a b ∧ ref44_SameGaps_0 a b = sameB eq2 a b := by
  unfold ref44_SameGaps_pre ref44_SameGaps_0
  rw [lenI]
  by_cases hlen : a.length = b.length
  · obtain ⟨h1, h2⟩ := same_loop (step := ref44_SameGaps_l0_step a b) (a := a) (b := b) (eq := eq2) 1 hlen (fun i h h' => by
        unfold ref44_SameGaps_l0_step
        simp only [gi_1, gi_z, gb_z]
        rw [dlt h, guardP_true (inR_of h), guardP_true (inR_of h), guardP_true (inR_of h'), guardP_true (inR_of h'), getI_at h, getI_at h', wrapS (by omega)]
        show (bif !(eq2 a[i] b[i]) then _ else _) = _
        cases eq2 a[i] b[i] <;> rfl)
      (by
        unfold ref44_SameGaps_l0_step
        simp only [gi_1, gi_z, gb_z, dnlt]) (init := ref44_SameGaps_l0_init a b) rfl
    rw [decide_eq_true hlen]
    exact ⟨fun _ => h1, h2⟩
  · rw [decide_eq_false hlen, sameB_len hlen]
    exact ⟨(fun h => by cases h), rfl⟩
theorem SameOm_is (a b : List (List Int)) (ha : a.length ≤ 9223372036854775807) : ref44_SameOmissions_pre a b ∧ ref44_SameOmissions_0 a b = sameB eq3 a b := by
  unfold ref44_SameOmissions_pre ref44_SameOmissions_0
  rw [lenI]
  by_cases hlen : a.length = b.length
  · obtain ⟨h1, h2⟩ := same_loop (step := ref44_SameOmissions_l0_step a b) (a := a) (b := b) (eq := eq3) 1 hlen (fun i h h' => by
        unfold ref44_SameOmissions_l0_step
        simp only [gi_1, gi_z, gb_z]
        rw [dlt h, guardP_true (inR_of h), guardP_true (inR_of h), guardP_true (inR_of h'), guardP_true (inR_of h'), getI_at h, getI_at h', wrapS (by omega)]
        show (bif !(eq3 a[i] b[i]) then _ else _) = _
        cases eq3 a[i] b[i] <;> rfl)
      (by
        unfold ref44_SameOmissions_l0_step
        simp only [gi_1, gi_z, gb_z, dnlt]) (init := ref44_SameOmissions_l0_init a b) rfl
    rw [decide_eq_true hlen]
    exact ⟨fun _ => h1, h2⟩
  · rw [decide_eq_false hlen, sameB_len hlen]
    exact ⟨(fun h => by cases h), rfl⟩
def addE (o t k n : Int) (l : List (List Int)) : Int :=
  if (valF o l && lnF t k n) = false then 1 else if ownF o k = false then 12 else if 200 ≤ l.length then 2 else if t < lastF 0 (-1) l then 13 else if (k == 4 && !onF 10000000 true l) = true then 6 else if (k == 5 && onF 10000000 true l) = true then 6 else 0
def addL (o t k n : Int) (l : List (List Int)) : List (List Int) := if addE o t k n l = 0 then l ++ [[t, k, n, sumF o (lastF 3 0 l) t k n]] else []
theorem Add_is (o t k n : Int) (l : List (List Int)) (hl : l.length ≤ 9223372036854775807) : inquiry_Add_pre o t k n l ∧ inquiry_Add_0 o t k n l = addL o t k n l ∧ inquiry_Add_1 o t k n l = (if addE o t k n l = 0 then o else 0) ∧ inquiry_Add_2 o t k n l = addE o t k n l := by
  obtain ⟨v1, v2⟩ := valid_is o l hl
  obtain ⟨o1, o2⟩ := on_is o 10000000 l hl
  obtain ⟨l1, l2, l3⟩ := last_is o l hl
  have hQ : decide ((l.length : Int) ≥ (200 : Int)) = false → (inquiry_sum_pre o (inquiry_last_1 o l) t k n (0 : Int)) ∧ ((((l = []) → ((True) ∧ (([] ++ l = []) ∧ (True)))) ∧ (fitsA 32 (0 + l.length))) ∧ (fitsA 32 (([] ++ l).length + [[t, k, n, inquiry_sum_0 o (inquiry_last_1 o l) t k n (0 : Int)]].length))) := fun h => by
    have := of_decide_eq_false h
    refine ⟨(sum_is _ _ _ _ _ _).1, ⟨fun h => ⟨trivial, by rw [h]; rfl, trivial⟩, by unfold fitsA maxLen; omega⟩, ?_⟩
    unfold fitsA maxLen
    simp only [List.nil_append, List.length_cons, List.length_nil]
    omega
  refine ⟨⟨l1, o1, v1, fun h1 h2 => ?_, fun _ _ _ h4 _ => ⟨fun a b => ?_, fun _ _ => hQ h4⟩⟩, ?_⟩
  · rw [h1] at h2; cases h2
  · rw [a] at b; cases b
  · unfold inquiry_Add_0 inquiry_Add_s2 inquiry_Add_s1 inquiry_Add_s0 inquiry_Add_1 inquiry_Add_s5 inquiry_Add_s4 inquiry_Add_s3 inquiry_Add_2 inquiry_Add_s8 inquiry_Add_s7 inquiry_Add_s6 addL addE
    rw [v2, o2, l2, l3, line_is, own_is, (sum_is _ _ _ _ _ _).2]
    have e200 : decide ((l.length : Int) ≥ (200 : Int)) = decide (200 ≤ l.length) := decide_eq_decide.2 (by omega)
    rw [e200]
    cases hv : valF o l
    · simp
    · cases hln : lnF t k n
      · simp
      · cases hown : ownF o k
        · simp
        · by_cases h2 : 200 ≤ l.length
          · simp [h2]
          · by_cases h3 : t < lastF 0 (-1) l
            · simp [h2, h3]
            · cases h4 : (k == 4 && !onF 10000000 true l)
              · cases h5 : (k == 5 && onF 10000000 true l)
                · simp [h2, h3]
                · simp [h2, h3]
              · simp [h2, h3]
theorem addL_len (o t k n : Int) (l : List (List Int)) : (addL o t k n l).length ≤ l.length + 1 := by
  unfold addL
  by_cases h : addE o t k n l = 0
  · rw [if_pos h]; simp
  · rw [if_neg h]; simp
def logF : Int × List (List Int) → List (List Int) → Int × List (List Int)
  | s, [] => s
  | s, x :: r => if addE s.1 (col x 0) (col x 1) (col x 2) s.2 = 0 then logF (s.1, addL s.1 (col x 0) (col x 1) (col x 2) s.2) r else (0, [])
theorem log_is (o : Int) (lines : List (List Int)) (hl : lines.length ≤ 1000000) : law44_log_pre o lines ∧ (law44_log_1 o lines, law44_log_0 o lines) = logF (o, []) lines := by
  let f : Int × List (List Int) → List Int → (Int × List (List Int)) ⊕ (Nat × List U) := fun s x => if addE s.1 (col x 0) (col x 1) (col x 2) s.2 = 0 then .inl (s.1, addL s.1 (col x 0) (col x 1) (col x 2) s.2) else .inr (0, [.i s.1, .r s.2])
  obtain ⟨h1, h2⟩ := loop_list (step := law44_log_l0_step o lines) lines (fun i (s : Int × List (List Int)) => [.i i, .i s.1, .r s.2]) f (fun i s => s.2.length ≤ i) (fun s => (2, [.i lines.length, .i s.1, .r s.2])) 0
    (fun i s hi _ hI => by
      obtain ⟨a1, a2, a3, a4⟩ := Add_is s.1 (col lines[i] 0) (col lines[i] 1) (col lines[i] 2) s.2 (by omega)
      refine ⟨?_, fun s' hs' => ?_⟩
      · unfold law44_log_l0_step law44_log_s0 law44_log_s1 law44_log_s2
        simp only [gi_z, gi_1, gr_2, gr_1, gr_z, dlt hi, guardP_true (inR_of hi), getI_at hi, wrapS (show i < 9223372036854775807 by omega)]
        rw [guardP_true a1, a2, a3, a4]
        show _ = goOn _ (if addE s.1 (col lines[i] 0) (col lines[i] 1) (col lines[i] 2) s.2 = 0 then .inl (s.1, addL s.1 (col lines[i] 0) (col lines[i] 1) (col lines[i] 2) s.2) else .inr (0, [.i s.1, .r s.2]))
        by_cases h : addE s.1 (col lines[i] 0) (col lines[i] 1) (col lines[i] 2) s.2 = 0
        · rw [if_pos h, if_pos h, h]; rfl
        · rw [if_neg h, if_neg h]
          have : (addE s.1 (col lines[i] 0) (col lines[i] 1) (col lines[i] 2) s.2 != 0) = true := by simpa using h
          rw [this]; rfl
      · have hs' : (if addE s.1 (col lines[i] 0) (col lines[i] 1) (col lines[i] 2) s.2 = 0 then .inl (s.1, addL s.1 (col lines[i] 0) (col lines[i] 1) (col lines[i] 2) s.2) else .inr (0, [.i s.1, .r s.2]) : (Int × List (List Int)) ⊕ (Nat × List U)) = .inl s' := hs'
        split at hs'
        · cases hs'
          exact Nat.le_trans (addL_len _ _ _ _ _) (by omega)
        · cases hs')
    (fun i s hi _ => by
      have : i = lines.length := by omega
      subst this
      unfold law44_log_l0_step
      simp only [gi_z, gi_1, gr_2, gr_1, gr_z, dnlt]) (s := (o, [])) (Nat.zero_le _)
  refine ⟨h1, ?_⟩
  have el : law44_log_l0 o lines = loopGet (law44_log_l0_step o lines) [.i ((0 : Nat) : Int), .i o, .r []] := rfl
  unfold law44_log_1 law44_log_0
  rw [el, h2, List.drop_zero]
  have run : ∀ (r : List (List Int)) (s : Int × List (List Int)), ((bif (endL (fun s : Int × List (List Int) => (2, [.i lines.length, .i s.1, .r s.2])) (runL f s r)).1.beq 1 then (0 : Int) else gi (endL (fun s : Int × List (List Int) => (2, [.i lines.length, .i s.1, .r s.2])) (runL f s r)).2 1), (bif (endL (fun s : Int × List (List Int) => (2, [.i lines.length, .i s.1, .r s.2])) (runL f s r)).1.beq 1 then [] else gr (endL (fun s : Int × List (List Int) => (2, [.i lines.length, .i s.1, .r s.2])) (runL f s r)).2 2)) = logF s r := by
    intro r
    induction r with
    | nil => intro s; rfl
    | cons x r ih =>
      intro s
      have ef : f s x = if addE s.1 (col x 0) (col x 1) (col x 2) s.2 = 0 then .inl (s.1, addL s.1 (col x 0) (col x 1) (col x 2) s.2) else .inr (0, [.i s.1, .r s.2]) := rfl
      unfold runL logF
      by_cases h : addE s.1 (col x 0) (col x 1) (col x 2) s.2 = 0
      · rw [if_pos h] at ef
        rw [if_pos h, ef]
        exact ih _
      · rw [if_neg h] at ef
        rw [if_neg h, ef]; rfl
  exact run lines (o, [])
end Go.Proofs.YtikhnofbbcmpeaaGreat
set_option linter.unusedVariables false
set_option maxRecDepth 100000
namespace Go.Proofs.YtikhnofbbcmpeaaGreat
open Go Go.Sy
def cmp3 (x y : List Int) : Int := if col x 0 < col y 0 then -1 else if col y 0 < col x 0 then 1 else if col x 1 < col y 1 then -1 else if col y 1 < col x 1 then 1 else if col x 2 < col y 2 then -1 else if col y 2 < col x 2 then 1 else 0
def cmp2 (x y : List Int) : Int := if col x 0 < col y 0 then -1 else if col y 0 < col x 0 then 1 else if col x 1 < col y 1 then -1 else if col y 1 < col x 1 then 1 else 0
theorem or_step (a b : Int) (r : List Int) (e : Int) (h : orL r = e) : orL ((if a < b then -1 else if b < a then 1 else 0) :: r) = if a < b then -1 else if b < a then 1 else e := by
  unfold orL
  by_cases h1 : a < b
  · rw [if_pos h1, if_neg (by decide), if_pos h1]
  · rw [if_neg h1, if_neg h1]
    by_cases h2 : b < a
    · rw [if_pos h2, if_neg (by decide), if_pos h2]
    · rw [if_neg h2, if_pos rfl, if_neg h2, h]
theorem cfO_is : cfO = cmp3 := by
  funext x y
  unfold cfO cmp3
  rw [(compare_is _ _ _ _ _ _).2]
  simp only [cmpC]
  exact or_step _ _ _ _ (or_step _ _ _ _ (or_step _ _ _ _ rfl))
theorem cfG_is : cfG = cmp2 := by
  funext x y
  unfold cfG cmp2
  rw [(order_is _ _ _ _).2]
  simp only [cmpC]
  exact or_step _ _ _ _ (or_step _ _ _ _ rfl)
def cmpLC : List (List Int) → List (List Int) → Int
  | [], [] => 0
  | [], _ :: _ => -1
  | _ :: _, [] => 1
  | x :: r, y :: r' => if cmp3 x y = 0 then cmpLC r r' else cmp3 x y
theorem cmpL_is : ∀ x y, cmpL x y = cmpLC x y
  | [], [] => rfl
  | [], _ :: _ => rfl
  | _ :: _, [] => rfl
  | x :: r, y :: r' => by
    unfold cmpL cmpLC
    rw [cfO_is, cmpL_is r r']
def betterC (x b : List (List Int)) : Bool := decide (x.length < b.length) || (x.length == b.length && decide (cmpLC x b < 0))
theorem better_is : better = betterC := by funext x b; unfold better betterC; rw [cmpL_is]
def fewStepC (list : List (List Int)) (i : Nat) (b : List (List Int)) : List (List Int) := if subB i (allF list) = true then (if betterC (byF i list) b = true then byF i list else b) else b
def fewC (list : List (List Int)) : List (List Int) := upto (fewStepC list) (allF list + 1) (byF 0 list)
theorem fewF_is : fewF = fewC := by
  funext list
  unfold fewF fewC
  have : fewStep list = fewStepC list := by funext i b; unfold fewStep fewStepC; rw [better_is]
  rw [this]
def goC (k : Int → List (List Int) → List (List Int)) (n : Int) : List (List Int) → List (List Int)
  | [] => []
  | g :: r => if ((fewC (r.filter (apF g))).length : Int) = n - 1 then [col g 0, col g 1] :: k (n - 1) (r.filter (apF g)) else goC k n r
def prC : Nat → Int → List (List Int) → List (List Int)
  | 0, _, _ => []
  | m + 1, n, list => if n = 0 then [] else goC (prC m) n list
theorem goP_is (k : Int → List (List Int) → List (List Int)) (n : Int) : ∀ l, goP k n l = goC k n l
  | [] => rfl
  | g :: r => by unfold goP goC; rw [fewF_is, goP_is k n r]
theorem prF_is : ∀ m n l, prF m n l = prC m n l
  | 0, _, _ => rfl
  | m + 1, n, l => by
    unfold prF prC
    rw [goP_is, show prF m = prC m from by funext n l; exact prF_is m n l]
def verC (gs om pr : List (List Int)) : Bool := om.length == pr.length && riseF cmp3 om && riseF cmp2 pr && (match verL om pr [] gs with | some named => named.length == pr.length | none => false)
theorem verF_is (gs om pr : List (List Int)) : verF gs om pr = verC gs om pr := by unfold verF verC; rw [cfO_is, cfG_is] <;> rfl
def hA0 : List (List Int) := (logF (0, []) [[10, 1, 7]]).2
def hA1 : List (List Int) := (logF (1, []) [[12, 3, 7]]).2
def hA3 : List (List Int) := (logF (3, []) [[5, 4, 0], [20, 5, 0], [40, 2, 9]]).2
noncomputable def hships : List (List Int) := [[1, encL hA1], [2, encL []], [3, encL hA3]]
def hlogs : List ALog := [(1, hA1), (2, []), (3, hA3)]
def hch : List (List Int) := [[1, 7, 10], [2, 7, 10], [3, 7, 10], [2, 9, 30], [3, 9, 30]]
theorem hlog0 : law44_log_pre 0 [[10, 1, 7]] ∧ law44_log_1 0 [[10, 1, 7]] = 0 ∧ law44_log_0 0 [[10, 1, 7]] = hA0 := by
  obtain ⟨h1, h2⟩ := log_is 0 [[10, 1, 7]] (by decide)
  exact ⟨h1, (congrArg Prod.fst h2).trans (by decide +kernel), congrArg Prod.snd h2⟩
theorem hlog1 : law44_log_pre 1 [[12, 3, 7]] ∧ law44_log_1 1 [[12, 3, 7]] = 1 ∧ law44_log_0 1 [[12, 3, 7]] = hA1 := by
  obtain ⟨h1, h2⟩ := log_is 1 [[12, 3, 7]] (by decide)
  exact ⟨h1, (congrArg Prod.fst h2).trans (by decide +kernel), congrArg Prod.snd h2⟩
theorem hlog2 : law44_log_pre 2 [] ∧ law44_log_1 2 [] = 2 ∧ law44_log_0 2 [] = [] := by
  obtain ⟨h1, h2⟩ := log_is 2 [] (by decide)
  exact ⟨h1, congrArg Prod.fst h2, congrArg Prod.snd h2⟩
theorem hlog3 : law44_log_pre 3 law44_head_s0 ∧ law44_log_1 3 law44_head_s0 = 3 ∧ law44_log_0 3 law44_head_s0 = hA3 := by
  obtain ⟨h1, h2⟩ := log_is 3 [[5, 4, 0], [20, 5, 0], [40, 2, 9]] (by decide)
  exact ⟨h1, (congrArg Prod.fst h2).trans (by decide +kernel), congrArg Prod.snd h2⟩
theorem hs_is : [law44_head_s1, [law44_log_1 (2 : Int) [], encL (law44_log_0 (2 : Int) [])], [law44_log_1 (3 : Int) law44_head_s0, encL (law44_log_0 (3 : Int) law44_head_s0)]] = hships := by
  unfold law44_head_s1
  rw [hlog1.2.1, hlog1.2.2, hlog2.2.1, hlog2.2.2, hlog3.2.1, hlog3.2.2]
  rfl
theorem hlogs_is : logsOf hships = hlogs := by
  show [((1 : Int), decL (encL hA1)), (2, decL (encL [])), (3, decL (encL hA3))] = _
  rw [dec_enc, dec_enc, dec_enc]
  rfl
theorem hlen_ok : LenOk hships := by
  intro x hx
  have hx : x = [1, encL hA1] ∨ x = [2, encL []] ∨ x = [3, encL hA3] := by simpa [hships] using hx
  have l1 : hA1.length ≤ 9223372036854775807 := by decide +kernel
  have l3 : hA3.length ≤ 9223372036854775807 := by decide +kernel
  rcases hx with rfl | rfl | rfl
  · show (decL (encL hA1)).length ≤ _
    rw [dec_enc]; exact l1
  · show (decL (encL [])).length ≤ _
    rw [dec_enc]; decide
  · show (decL (encL hA3)).length ≤ _
    rw [dec_enc]; exact l3
theorem hcase : caseOk 0 50 5 hA0 hlogs hch = true := by decide +kernel
theorem hco1 : coOk 0 1 10 hA0 hA1 hch = true := by decide +kernel
theorem hco3 : coOk 0 3 10 hA0 hA3 hch = true := by decide +kernel
theorem hfew : fewC (gapsF hA0 hlogs 50 5 hch) = [[1, 0, 9], [2, 2, 0], [2, 3, 0]] := by decide +kernel
theorem hprv : prC 100 3 (gapsF hA0 hlogs 50 5 hch) = [[2, 7], [3, 7], [3, 9]] := by decide +kernel
theorem hgap : gapKeys (gapsF hA0 hlogs 50 5 hch) = [[2, 7], [2, 9], [3, 7], [3, 9]] := by decide +kernel
theorem hver : verC (gapsF hA0 hlogs 50 5 hch) [[1, 0, 9], [2, 2, 0], [2, 3, 0]] [[2, 7], [3, 7], [3, 9]] = true := by decide +kernel
theorem hcr1 : onceL (coRaw 1 10 hA0 hA1 hch) = [7] := by decide +kernel
theorem hcr3 : onceL (coRaw 3 10 hA0 hA3 hch) = [] := by decide +kernel
theorem hsh1 : (valF 1 hA1 && tmF 12) = true ∧ shownF 12 hA1 = [7] := by decide +kernel
theorem hva3 : valF 3 hA3 = true := by decide +kernel
theorem l0_lt : hA0.length ≤ 9223372036854775807 := by decide +kernel
theorem l1_lt : hA1.length ≤ 9223372036854775807 := by decide +kernel
theorem l3_lt : hA3.length ≤ 9223372036854775807 := by decide +kernel
theorem hs_lt : hships.length ≤ 9223372036854775807 := by show 3 ≤ 9223372036854775807; decide
theorem hc_lt : hch.length ≤ 9223372036854775807 := by decide
theorem hE : inquiry_Explain_pre 0 50 5 hA0 hships hch ∧ inquiry_Explain_0 0 50 5 hA0 hships hch = [[1, 0, 9], [2, 2, 0], [2, 3, 0]] ∧ inquiry_Explain_1 0 50 5 hA0 hships hch = [[2, 7], [3, 7], [3, 9]] ∧ inquiry_Explain_2 0 50 5 hA0 hships hch = 0 := by
  obtain ⟨h1, h2, h3, h4⟩ := Explain_is (ow := 0) (t := 50) (delay := 5) l0_lt hs_lt hc_lt hlen_ok (.inl (by decide))
  rw [hlogs_is, hcase, if_pos rfl, fewF_is, hfew] at h2
  rw [hlogs_is, hcase, if_pos rfl, fewF_is, hfew, prF_is] at h3
  rw [hlogs_is, hcase, if_pos rfl] at h4
  exact ⟨h1, h2, h3.trans hprv, h4⟩
theorem hG : inquiry_Gaps_pre 0 50 5 hA0 hships hch ∧ inquiry_Gaps_0 0 50 5 hA0 hships hch = [[2, 7], [2, 9], [3, 7], [3, 9]] ∧ inquiry_Gaps_1 0 50 5 hA0 hships hch = 0 := by
  obtain ⟨h1, h2, h3⟩ := Gaps_is (ow := 0) (t := 50) (delay := 5) l0_lt hs_lt hc_lt hlen_ok
  rw [hlogs_is, hcase, if_pos rfl, hgap] at h2
  rw [hlogs_is, hcase, if_pos rfl] at h3
  exact ⟨h1, h2, h3⟩
theorem hV : inquiry_Verify_pre 0 50 5 hA0 hships hch [[1, 0, 9], [2, 2, 0], [2, 3, 0]] [[2, 7], [3, 7], [3, 9]] ∧ inquiry_Verify_0 0 50 5 hA0 hships hch [[1, 0, 9], [2, 2, 0], [2, 3, 0]] [[2, 7], [3, 7], [3, 9]] = true ∧ inquiry_Verify_1 0 50 5 hA0 hships hch [[1, 0, 9], [2, 2, 0], [2, 3, 0]] [[2, 7], [3, 7], [3, 9]] = 0 := by
  obtain ⟨h1, h2, h3⟩ := Verify_is (ow := 0) (t := 50) (delay := 5) (office := hA0) (ships := hships) (list := hch) (om := [[1, 0, 9], [2, 2, 0], [2, 3, 0]]) (pr := [[2, 7], [3, 7], [3, 9]]) l0_lt hs_lt hc_lt hlen_ok (by decide) (by decide)
  rw [hlogs_is, hcase, verF_is, hver] at h2
  rw [hlogs_is, hcase, if_pos rfl] at h3
  exact ⟨h1, h2, h3⟩
theorem hC1 : inquiry_Could_pre 0 1 10 hA0 hA1 hch ∧ inquiry_Could_0 0 1 10 hA0 hA1 hch = [[7]] ∧ inquiry_Could_1 0 1 10 hA0 hA1 hch = 0 := by
  obtain ⟨h1, h2, h3⟩ := Could_is 0 1 10 hA0 hA1 hch l0_lt l1_lt hc_lt
  rw [hco1, if_pos rfl, hcr1] at h2
  rw [hco1, if_pos rfl] at h3
  exact ⟨h1, h2, h3⟩
theorem hC3 : inquiry_Could_pre 0 3 10 hA0 hA3 hch ∧ inquiry_Could_0 0 3 10 hA0 hA3 hch = [] ∧ inquiry_Could_1 0 3 10 hA0 hA3 hch = 0 := by
  obtain ⟨h1, h2, h3⟩ := Could_is 0 3 10 hA0 hA3 hch l0_lt l3_lt hc_lt
  rw [hco3, if_pos rfl, hcr3] at h2
  rw [hco3, if_pos rfl] at h3
  exact ⟨h1, h2, h3⟩
theorem hS1 : inquiry_Shown_pre 1 12 hA1 ∧ inquiry_Shown_0 1 12 hA1 = [[7]] ∧ inquiry_Shown_1 1 12 hA1 = 0 := by
  obtain ⟨h1, h2, h3⟩ := Shown_is 1 12 hA1 l1_lt
  rw [hsh1.1, if_pos rfl, hsh1.2] at h2
  rw [hsh1.1, if_pos rfl] at h3
  exact ⟨h1, h2, h3⟩
theorem hs2_is : law44_head_s2 = [1, encL hA1] := by unfold law44_head_s2; rw [hs_is]; rfl
theorem hs4_is : law44_head_s4 = [3, encL hA3] := by unfold law44_head_s4; rw [hs_is]; rfl
theorem hch_is : ([(1 : Int), (7 : Int), (10 : Int)] :: [(2 : Int), (7 : Int), (10 : Int)] :: law44_head_s3) = hch := rfl
theorem g20 : (law44_head_s2).getD 0 (0 : Int) = 1 := by rw [hs2_is]; rfl
theorem g21 : decL ((law44_head_s2).getD 1 (0 : Int)) = hA1 := by rw [hs2_is]; exact dec_enc _
theorem g40 : (law44_head_s4).getD 0 (0 : Int) = 3 := by rw [hs4_is]; rfl
theorem g41 : decL ((law44_head_s4).getD 1 (0 : Int)) = hA3 := by rw [hs4_is]; exact dec_enc _
theorem hd5 : law44_head_s5 = [[1, 0, 9], [2, 2, 0], [2, 3, 0]] := by
  unfold law44_head_s5
  rw [hlog0.2.1, hlog0.2.2, hs_is, hch_is, hE.2.1]
theorem hd6 : law44_head_s6 = [[2, 7], [3, 7], [3, 9]] := by
  unfold law44_head_s6
  rw [hlog0.2.1, hlog0.2.2, hs_is, hch_is, hE.2.2.1]
theorem hd7 : law44_head_s7 = 0 := by
  unfold law44_head_s7
  rw [hlog0.2.1, hlog0.2.2, g20, g21, hch_is, hC1.2.2]
theorem hd8 : law44_head_s8 = 0 := by
  unfold law44_head_s8
  rw [hlog0.2.1, hlog0.2.2, g40, g41, hch_is, hC3.2.2]
theorem hd9 : law44_head_s9 = 0 := by
  unfold law44_head_s9
  rw [hlog0.2.1, hlog0.2.2, hs_is, hch_is, hG.2.2]
theorem hd10 : law44_head_s10 = 0 := by
  unfold law44_head_s10
  rw [hlog0.2.1, hlog0.2.2, hs_is, hch_is, hE.2.2.2]
theorem hd11 : law44_head_s11 = 0 := by
  unfold law44_head_s11
  rw [hlog0.2.1, hlog0.2.2, hs_is, hch_is, hd5, hd6, hV.2.2]
theorem hd12 : law44_head_s12 = [[7]] := by
  unfold law44_head_s12
  rw [hlog0.2.1, hlog0.2.2, g20, g21, hch_is, hC1.2.1]
theorem hd13 : law44_head_s13 = [] := by
  unfold law44_head_s13
  rw [hlog0.2.1, hlog0.2.2, g40, g41, hch_is, hC3.2.1]
theorem hd14 : law44_head_s14 = [[2, 7], [2, 9], [3, 7], [3, 9]] := by
  unfold law44_head_s14
  rw [hlog0.2.1, hlog0.2.2, hs_is, hch_is, hG.2.1]
theorem head_true : law44_head_0 = true := by
  unfold law44_head_0
  rw [hs_is, hch_is, hlog0.2.1, hlog0.2.2, hd5, hd6, hd7, hd8, hd9, hd10, hd11, hd12, hd13, hd14, g20, g21, g40, g41, hS1.2.1, hS1.2.2, hV.2.1, (Ints_is _ _ (by decide)).2, (SameGaps_is _ _ (by decide)).2, (SameOm_is _ _ (by decide)).2, (SameGaps_is _ _ (by decide)).2, (valid_is 3 hA3 l3_lt).2, hva3]
  rfl
theorem head_pre : law44_head_pre := by
  unfold law44_head_pre
  rw [hs_is, hch_is, hlog0.2.1, hlog0.2.2, hd5, hd6, hd12, hd14, g20, g21, g40, g41, hS1.2.1]
  have r0 : inR (0 : Int) hships := ⟨by decide, by show (0 : Int) < 3; decide⟩
  have r2 : inR (2 : Int) hships := ⟨by decide, by show (2 : Int) < 3; decide⟩
  exact ⟨⟨hlog1.1, hlog2.1, hlog3.1, hlog0.1⟩, r0, r0, hC1.1, r2, r2, hC3.1, hG.1, hE.1, hV.1, r0, r0, hS1.1, fun _ => ⟨(Ints_is _ _ (by decide)).1, fun _ => ⟨(Ints_is _ _ (by decide)).1, fun _ => ⟨(SameGaps_is _ _ (by decide)).1, fun _ => ⟨(SameOm_is _ _ (by decide)).1, fun _ => ⟨(SameGaps_is _ _ (by decide)).1, fun _ => r2, fun _ => ⟨r2, (valid_is 3 hA3 l3_lt).1⟩⟩⟩⟩⟩⟩⟩
end Go.Proofs.YtikhnofbbcmpeaaGreat
set_option linter.unusedVariables false
set_option maxRecDepth 100000
namespace Go.Proofs.YtikhnofbbcmpeaaGreat
open Go Go.Sy
theorem vld_spec {o : Int} : ∀ {l : List (List Int)} {off : Bool} {last now : Int}, vldF o off last now l = true → (∀ x ∈ l, now ≤ col x 0 ∧ lnF (col x 0) (col x 1) (col x 2) = true ∧ ownF o (col x 1) = true) ∧ l.Pairwise (fun a b => col a 0 ≤ col b 0)
  | [], _, _, _, _ => ⟨(fun x hx => by cases hx), List.Pairwise.nil⟩
  | x :: r, off, last, now, h => by
    unfold vldF at h
    split at h
    · cases h
    · rename_i h1
      have h1' : (!lnF (col x 0) (col x 1) (col x 2) || !ownF o (col x 1) || decide (col x 0 < now) || col x 3 != sumF o last (col x 0) (col x 1) (col x 2)) = false := by simpa using h1
      rw [Bool.or_eq_false_iff, Bool.or_eq_false_iff, Bool.or_eq_false_iff] at h1'
      obtain ⟨⟨⟨a1, a2⟩, a3⟩, a4⟩ := h1'
      have a3 := of_decide_eq_false a3
      have hr : ∃ off', vldF o off' (col x 3) (col x 0) r = true := by
        split at h
        · split at h
          · cases h
          · exact ⟨_, h⟩
        · exact ⟨_, h⟩
      obtain ⟨off', hr⟩ := hr
      obtain ⟨b1, b2⟩ := vld_spec hr
      refine ⟨fun y hy => ?_, List.pairwise_cons.2 ⟨fun y hy => (b1 y hy).1, b2⟩⟩
      rcases List.mem_cons.1 hy with rfl | hy
      · exact ⟨by omega, by simpa using a1, by simpa using a2⟩
      · have := b1 y hy
        exact ⟨by omega, this.2⟩
theorem val_spec {o : Int} {l : List (List Int)} (h : valF o l = true) : (∀ x ∈ l, 0 ≤ col x 0 ∧ lnF (col x 0) (col x 1) (col x 2) = true ∧ ownF o (col x 1) = true) ∧ l.Pairwise (fun a b => col a 0 ≤ col b 0) := by
  unfold valF at h
  rw [Bool.and_eq_true] at h
  exact vld_spec h.2
end Go.Proofs.YtikhnofbbcmpeaaGreat
set_option linter.unusedVariables false
set_option maxRecDepth 100000
namespace Go.Proofs.YtikhnofbbcmpeaaGreat
open Go Go.Sy
def cD : BitVec 64 := 11507291218515648293#64
def shD (p : BitVec 64) : BitVec 64 := p ^^^ (p >>> 32)
def mixB (h x : BitVec 64) : BitVec 64 := shD ((h ^^^ x) * cD)
theorem shD_inv (p : BitVec 64) : shD (shD p) = p := by
  unfold shD
  apply BitVec.eq_of_getLsbD_eq
  intro i hi
  simp only [BitVec.getLsbD_xor, BitVec.getLsbD_ushiftRight]
  have : p.getLsbD (32 + (32 + i)) = false := BitVec.getLsbD_of_ge _ _ (by omega)
  rw [this]
  cases p.getLsbD i <;> cases p.getLsbD (32 + i) <;> rfl
theorem mulD_inv (p : BitVec 64) : p * cD * 192419422752744621#64 = p := by
  rw [BitVec.mul_assoc]
  have : cD * 192419422752744621#64 = 1#64 := by decide
  rw [this, BitVec.mul_one]
theorem mixB_inj {h x h' x' : BitVec 64} (e : mixB h x = mixB h' x') : h ^^^ x = h' ^^^ x' := by
  unfold mixB at e
  have e1 := congrArg shD e
  rw [shD_inv, shD_inv] at e1
  have e2 := congrArg (fun p => p * 192419422752744621#64) e1
  simp only [mulD_inv] at e2
  exact e2
theorem xor_left {a b c : BitVec 64} (e : a ^^^ b = a ^^^ c) : b = c := by
  have := congrArg (fun p => a ^^^ p) e
  simpa [← BitVec.xor_assoc] using this
theorem mixB_r {h x x' : BitVec 64} (e : mixB h x = mixB h x') : x = x' := xor_left (mixB_inj e)
theorem mixB_l {h h' x : BitVec 64} (e : mixB h x = mixB h' x) : h = h' := by
  have := mixB_inj e
  rw [BitVec.xor_comm h, BitVec.xor_comm h'] at this
  exact xor_left this
theorem u64_wrap (z : Int) : IntKind.u64.wrap z = ((BitVec.ofInt 64 z).toNat : Int) := by
  rw [BitVec.toNat_ofInt]
  simp only [IntKind.wrap, IntKind.bits, IntKind.signed]
  simp
  omega
theorem ofInt_toNat (b : BitVec 64) : BitVec.ofInt 64 ((b.toNat : Nat) : Int) = b := by
  apply BitVec.eq_of_toNat_eq
  simp
theorem ofInt_u64 (z : Int) : BitVec.ofInt 64 (IntKind.u64.wrap z) = BitVec.ofInt 64 z := by rw [u64_wrap, ofInt_toNat]
theorem ofInt_i64 (z : Int) : BitVec.ofInt 64 (IntKind.i64.wrap z) = BitVec.ofInt 64 z := by
  apply BitVec.eq_of_toInt_eq
  rw [BitVec.toInt_ofInt, BitVec.toInt_ofInt]
  simp only [IntKind.wrap, IntKind.bits, IntKind.signed]
  simp only [Int.bmod]
  simp
  split <;> omega
theorem xor_u64 (a b : Int) : bXor IntKind.u64 a b = ((BitVec.ofInt 64 a ^^^ BitVec.ofInt 64 b).toNat : Int) := by
  show IntKind.u64.wrap _ = _
  rw [u64_wrap]
  congr 2
  exact ofInt_toNat _
theorem mixD_is (h x : Int) : mixD h x = ((mixB (BitVec.ofInt 64 h) (BitVec.ofInt 64 x)).toNat : Int) := by
  have e1 : IntKind.u64.wrap (bXor IntKind.u64 h (IntKind.u64.wrap x) * 11507291218515648293) = (((BitVec.ofInt 64 h ^^^ BitVec.ofInt 64 x) * cD).toNat : Int) := by
    rw [u64_wrap, xor_u64, ofInt_u64]
    have : BitVec.ofInt 64 (((BitVec.ofInt 64 h ^^^ BitVec.ofInt 64 x).toNat : Int) * 11507291218515648293) = (BitVec.ofInt 64 h ^^^ BitVec.ofInt 64 x) * cD := by
      rw [BitVec.ofInt_mul, ofInt_toNat] <;> rfl
    rw [this]
  unfold mixD
  rw [e1, xor_u64, ofInt_toNat]
  have e2 : ((((BitVec.ofInt 64 h ^^^ BitVec.ofInt 64 x) * cD).toNat : Int)).fdiv ((2 : Int) ^ min (Int.toNat (32 : Int)) IntKind.u64.bits) = ((((BitVec.ofInt 64 h ^^^ BitVec.ofInt 64 x) * cD) >>> 32).toNat : Int) := by
    generalize (BitVec.ofInt 64 h ^^^ BitVec.ofInt 64 x) * cD = p
    have : (2 : Int) ^ min (Int.toNat (32 : Int)) IntKind.u64.bits = ((4294967296 : Nat) : Int) := by decide
    rw [this, BitVec.toNat_ushiftRight, Nat.shiftRight_eq_div_pow]
    rw [Int.fdiv_eq_ediv_of_nonneg _ (by omega)]
    rfl
  rw [e2, ofInt_toNat]
  rfl
def sumB (o last t k n : Int) : BitVec 64 := mixB (mixB (mixB (mixB (mixB (BitVec.ofInt 64 (IntKind.u64.wrap (11400714819323198485 + IntKind.u64.wrap (5 : Nat)))) (BitVec.ofInt 64 o)) (BitVec.ofInt 64 last)) (BitVec.ofInt 64 t)) (BitVec.ofInt 64 k)) (BitVec.ofInt 64 n)
theorem sumF_is (o last t k n : Int) : sumF o last t k n = ((sumB o last t k n).toNat : Int) := by
  unfold sumF digF sumB
  simp only [List.foldl_cons, List.foldl_nil, List.length_cons, List.length_nil]
  simp only [mixD_is, ofInt_toNat, ofInt_i64]
theorem sumF_inj {o last t k n last' t' k' n' : Int} (h : sumF o last t k n = sumF o last' t' k' n') : sumB o last t k n = sumB o last' t' k' n' := by
  rw [sumF_is, sumF_is] at h
  apply BitVec.eq_of_toNat_eq
  omega
theorem ofInt_in {a b : Int} (ha : -9223372036854775808 ≤ a ∧ a ≤ 9223372036854775807) (hb : -9223372036854775808 ≤ b ∧ b ≤ 9223372036854775807) (h : BitVec.ofInt 64 a = BitVec.ofInt 64 b) : a = b := by
  have := congrArg BitVec.toInt h
  rw [BitVec.toInt_ofInt, BitVec.toInt_ofInt] at this
  simp only [Int.bmod] at this
  split at this <;> split at this <;> omega
theorem ofInt_u {a b : Int} (ha : 0 ≤ a ∧ a < 18446744073709551616) (hb : 0 ≤ b ∧ b < 18446744073709551616) (h : BitVec.ofInt 64 a = BitVec.ofInt 64 b) : a = b := by
  have := congrArg BitVec.toNat h
  rw [BitVec.toNat_ofInt, BitVec.toNat_ofInt] at this
  omega
theorem sumF_last {o a b t k n : Int} (ha : 0 ≤ a ∧ a < 18446744073709551616) (hb : 0 ≤ b ∧ b < 18446744073709551616) (h : sumF o a t k n = sumF o b t k n) : a = b := ofInt_u ha hb (mixB_r (mixB_l (mixB_l (mixB_l (sumF_inj h)))))
theorem sumF_t {o l a b k n : Int} (ha : -9223372036854775808 ≤ a ∧ a ≤ 9223372036854775807) (hb : -9223372036854775808 ≤ b ∧ b ≤ 9223372036854775807) (h : sumF o l a k n = sumF o l b k n) : a = b := ofInt_in ha hb (mixB_r (mixB_l (mixB_l (sumF_inj h))))
theorem sumF_k {o l t a b n : Int} (ha : -9223372036854775808 ≤ a ∧ a ≤ 9223372036854775807) (hb : -9223372036854775808 ≤ b ∧ b ≤ 9223372036854775807) (h : sumF o l t a n = sumF o l t b n) : a = b := ofInt_in ha hb (mixB_r (mixB_l (sumF_inj h)))
theorem sumF_n {o l t k a b : Int} (ha : -9223372036854775808 ≤ a ∧ a ≤ 9223372036854775807) (hb : -9223372036854775808 ≤ b ∧ b ≤ 9223372036854775807) (h : sumF o l t k a = sumF o l t k b) : a = b := ofInt_in ha hb (mixB_r (sumF_inj h))
theorem sumF_rng (o l t k n : Int) : 0 ≤ sumF o l t k n ∧ sumF o l t k n < 18446744073709551616 := by
  rw [sumF_is]
  have := (sumB o l t k n).isLt
  omega
theorem vld_sum {o : Int} : ∀ {l : List (List Int)} {off : Bool} {last now : Int}, vldF o off last now l = true → ∀ i (hi : i < l.length), col l[i] 3 = sumF o (if i = 0 then last else col (l.getD (i - 1) []) 3) (col l[i] 0) (col l[i] 1) (col l[i] 2)
  | [], _, _, _, _, i, hi => by simp at hi
  | x :: r, off, last, now, h, i, hi => by
    unfold vldF at h
    split at h
    · cases h
    · rename_i q1
      have hx : col x 3 = sumF o last (col x 0) (col x 1) (col x 2) := by
        have q1 : (!lnF (col x 0) (col x 1) (col x 2) || !ownF o (col x 1) || decide (col x 0 < now) || col x 3 != sumF o last (col x 0) (col x 1) (col x 2)) = false := by simpa using q1
        rw [Bool.or_eq_false_iff] at q1
        have := q1.2
        simpa using this
      cases i with
      | zero => exact hx
      | succ i =>
        have hr : ∃ off', vldF o off' (col x 3) (col x 0) r = true := by
          split at h
          · split at h
            · cases h
            · exact ⟨_, h⟩
          · exact ⟨_, h⟩
        obtain ⟨off', hr⟩ := hr
        have hi' : i < r.length := by simpa using hi
        have := vld_sum hr i hi'
        rw [if_neg (by omega)]
        show col r[i] 3 = sumF o (col ((x :: r).getD i []) 3) _ _ _
        rw [this]
        cases i with
        | zero => rfl
        | succ i => rw [if_neg (by omega)]; rfl
def prevS (l : List (List Int)) (i : Nat) : Int := if i = 0 then 0 else col (l.getD (i - 1) []) 3
theorem val_sum {o : Int} {l : List (List Int)} (h : valF o l = true) (i : Nat) (hi : i < l.length) : col l[i] 3 = sumF o (prevS l i) (col l[i] 0) (col l[i] 1) (col l[i] 2) := by
  unfold valF at h
  rw [Bool.and_eq_true] at h
  exact vld_sum h.2 i hi
end Go.Proofs.YtikhnofbbcmpeaaGreat
set_option linter.unusedVariables false
set_option maxRecDepth 100000
namespace Go.Proofs.YtikhnofbbcmpeaaGreat
open Go Go.Sy
def I64 (a : Int) : Prop := -9223372036854775808 ≤ a ∧ a ≤ 9223372036854775807
theorem i64_of {n : Int} (h : (Lit.int .i64 n).wf = true) : I64 n := by
  have e1 : IntKind.i64.min = -9223372036854775808 := by decide
  have e2 : IntKind.i64.max = 9223372036854775807 := by decide
  unfold Lit.wf at h
  simp only [e1, e2, Bool.and_eq_true, decide_eq_true_eq] at h
  exact h
theorem u8_of {n : Int} (h : (Lit.int .u8 n).wf = true) : 0 ≤ n ∧ n ≤ 255 := by
  have e1 : IntKind.u8.min = 0 := by decide
  have e2 : IntKind.u8.max = 255 := by decide
  unfold Lit.wf at h
  simp only [e1, e2, Bool.and_eq_true, decide_eq_true_eq] at h
  exact h
theorem ln_rng {t k n : Int} (h : lnF t k n = true) : I64 t ∧ I64 k ∧ I64 n := by
  unfold lnF at h
  split at h
  · cases h
  · rename_i h0
    have hk : I64 k := by
      have : k = 1 ∨ k = 2 ∨ k = 3 ∨ k = 4 ∨ k = 5 := by
        unfold clsF at h0
        by_cases h1 : k = 1
        · exact .inl h1
        · rw [if_neg h1] at h0
          by_cases h2 : k = 2 ∨ k = 3
          · omega
          · rw [if_neg h2] at h0
            by_cases h3 : k = 4 ∨ k = 5
            · omega
            · rw [if_neg h3] at h0; exact absurd rfl h0
      unfold I64; omega
    have ht : tmF t = true → I64 t := fun h => by
      unfold tmF at h
      simp only [Bool.and_eq_true, decide_eq_true_eq] at h
      unfold I64; omega
    split at h
    · simp only [Bool.and_eq_true, beq_iff_eq] at h
      exact ⟨ht h.1, hk, by unfold I64; omega⟩
    · rw [Bool.and_eq_true] at h
      have := h.2
      unfold itF at this
      simp only [Bool.and_eq_true, decide_eq_true_eq] at this
      exact ⟨ht h.1, hk, by unfold I64; omega⟩
theorem field_ne {o last t k i s which n : Int} (ht : I64 t) (hk : I64 k) (hi : I64 i) (hn : I64 n)
    (h : (law44_field_0 t k i s which n == t && (law44_field_1 t k i s which n == k && (law44_field_2 t k i s which n == i && (law44_field_3 t k i s which n == s && true)))) = false) :
    sumF o last (law44_field_0 t k i s which n) (law44_field_1 t k i s which n) (law44_field_2 t k i s which n) ≠ sumF o last t k i := by
  intro e
  unfold law44_field_0 law44_field_1 law44_field_2 at e
  unfold law44_field_0 law44_field_1 law44_field_2 law44_field_3 at h
  cases h0 : (which.tmod 3 == 0) with
  | true =>
    rw [h0] at e h
    simp only [cond_true] at e h
    rw [sumF_t hn ht e] at h
    simp at h
  | false =>
    rw [h0] at e h
    simp only [cond_false] at e h
    cases h1 : (which.tmod 3 == 1) with
    | true =>
      rw [h1] at e h
      simp only [cond_true] at e h
      rw [sumF_k hn hk e] at h
      simp at h
    | false =>
      rw [h1] at e h
      simp only [cond_false] at e h
      rw [sumF_n hn hi e] at h
      simp at h
theorem field_3 (t k i s which n : Int) : law44_field_3 t k i s which n = s := by
  unfold law44_field_3
  cases (which.tmod 3 == 0) <;> cases (which.tmod 3 == 1) <;> rfl
theorem getD_set (s : List (List Int)) (m j : Nat) (v : List Int) (hm : m < s.length) : (s.set m v).getD j [] = if j = m then v else s.getD j [] := by
  rw [List.getD_eq_getElem?_getD, List.getD_eq_getElem?_getD]
  by_cases h : j = m
  · subst h
    rw [if_pos rfl, List.getElem?_set_self hm]; rfl
  · rw [if_neg h, List.getElem?_set_ne (by omega)]
theorem prevS_congr {s s' : List (List Int)} {j : Nat} (h : 0 < j → s.getD (j - 1) [] = s'.getD (j - 1) []) : prevS s j = prevS s' j := by
  unfold prevS
  by_cases h0 : j = 0
  · rw [if_pos h0, if_pos h0]
  · rw [if_neg h0, if_neg h0, h (by omega)]
theorem digS (o a b c d : Int) : codec_Digest_pre ([o] :: [IntKind.i64.wrap a] :: [b] :: [[c], [d]]) ∧ codec_Digest_0 ([o] :: [IntKind.i64.wrap a] :: [b] :: [[c], [d]]) = sumF o a b c d := digest_is _ (by simp)
attribute [local irreducible] sumF
def rowS (o : Int) (s : List (List Int)) (j : Nat) : List Int := [col (s.getD j []) 0, col (s.getD j []) 1, col (s.getD j []) 2, sumF o (prevS s j) (col (s.getD j []) 0) (col (s.getD j []) 1) (col (s.getD j []) 2)]
def Anew (o : Int) (k : Nat) (L R : List (List Int)) : Prop := R.length = L.length ∧ (∀ j, j < k → R.getD j [] = L.getD j []) ∧
  ∀ j, k ≤ j → j < L.length → col (R.getD j []) 0 = col (L.getD j []) 0 ∧ col (R.getD j []) 1 = col (L.getD j []) 1 ∧ col (R.getD j []) 2 = col (L.getD j []) 2 ∧ col (R.getD j []) 3 = sumF o (prevS R j) (col (L.getD j []) 0) (col (L.getD j []) 1) (col (L.getD j []) 2)
theorem chained_is (o : Int) (k : Nat) (x0 x1 x2 x3 : Int) (L : List (List Int)) (hk : k < L.length) (hl : L.length ≤ 200) : law44_chained_pre o k x0 x1 x2 x3 L ∧ law44_chained_1 o k x0 x1 x2 x3 L = o ∧ Anew o k (L.set k [x0, x1, x2, x3]) (law44_chained_0 o k x0 x1 x2 x3 L) := by
  let L' := L.set k [x0, x1, x2, x3]
  have hL' : L'.length = L.length := List.length_set
  let I : Nat → List (List Int) → Prop := fun i s => s.length = L.length ∧ (∀ j, k + i ≤ j → s.getD j [] = L'.getD j []) ∧ (∀ j, j < k → s.getD j [] = L'.getD j []) ∧
    ∀ j, k ≤ j → j < k + i → col (s.getD j []) 0 = col (L'.getD j []) 0 ∧ col (s.getD j []) 1 = col (L'.getD j []) 1 ∧ col (s.getD j []) 2 = col (L'.getD j []) 2 ∧ col (s.getD j []) 3 = sumF o (prevS s j) (col (L'.getD j []) 0) (col (L'.getD j []) 1) (col (L'.getD j []) 2)
  have hI : ∀ i s, i < L.length - k → I i s → I (i + 1) (s.set (k + i) (rowS o s (k + i))) := by
    rintro i s hi ⟨a1, a2, a3, a4⟩
    have hm : k + i < s.length := by omega
    refine ⟨by rw [List.length_set]; exact a1, fun j hj => ?_, fun j hj => ?_, fun j h1 h2 => ?_⟩
    · rw [getD_set _ _ _ _ hm, if_neg (by omega)]; exact a2 j (by omega)
    · rw [getD_set _ _ _ _ hm, if_neg (by omega)]; exact a3 j hj
    · have hp : prevS (s.set (k + i) (rowS o s (k + i))) j = prevS s j := prevS_congr fun h0 => by rw [getD_set _ _ _ _ hm, if_neg (by omega)]
      rw [hp, getD_set _ _ _ _ hm]
      by_cases e : j = k + i
      · subst e
        rw [if_pos rfl]
        have := a2 (k + i) (Nat.le_refl _)
        unfold rowS
        rw [this]
        exact ⟨rfl, rfl, rfl, rfl⟩
      · rw [if_neg e]
        exact a4 j h1 (by omega)
  obtain ⟨g1, g2, g3⟩ := loop_fold (step := law44_chained_l0_step o k x0 x1 x2 x3 L) (L.length - k) (fun i (s : List (List Int)) => [.i ((k + i : Nat) : Int), .r s]) (fun i s => s.set (k + i) (rowS o s (k + i))) I 2 (fun s => [.i (L.length : Int), .r s]) hI
    (fun i s hi hIs => by
      have hm : k + i < s.length := by have := hIs.1; omega
      have hlen : s.length ≤ 200 := by have := hIs.1; omega
      unfold law44_chained_l0_step law44_chained_s1 law44_chained_s2 law44_chained_s3 law44_chained_s1
      simp only [gi_z, gr_1, gr_z]
      rw [dlt hm]
      by_cases h0 : k + i = 0
      · have hz : decide (((k + i : Nat) : Int) > 0) = false := decide_eq_false (by omega)
        rw [hz, cond_false, guardP_true (inR_of hm), guardP_true (inR_of hm), guardP_true (digS _ _ _ _ _).1, guardP_true (inR_of hm), guardP_true (inR_of hm), guardP_true (inR_of hm), (digS _ _ _ _ _).2, Int.toNat_natCast, wrapS (by omega)]
        have : prevS s (k + i) = 0 := by unfold prevS; rw [if_pos h0]
        unfold rowS
        rw [this]
        rfl
      · have hz : decide (((k + i : Nat) : Int) > 0) = true := decide_eq_true (by omega)
        have hw : IntKind.i64.wrap (((k + i : Nat) : Int) - 1) = ((k + i - 1 : Nat) : Int) := by rw [i64_wrap (by omega)]; omega
        have hr : inR (IntKind.i64.wrap (((k + i : Nat) : Int) - 1)) s := by rw [hw]; exact inR_of (by omega)
        rw [hz, cond_true, guardP_true hr, guardP_true hr, guardP_true hr, guardP_true (inR_of hm), guardP_true (inR_of hm), guardP_true (digS _ _ _ _ _).1, guardP_true (inR_of hm), guardP_true (inR_of hm), guardP_true (inR_of hm), (digS _ _ _ _ _).2, hw, Int.toNat_natCast, Int.toNat_natCast, wrapS (by omega)]
        have : prevS s (k + i) = col (s.getD (k + i - 1) []) 3 := by unfold prevS; rw [if_neg h0]
        unfold rowS
        rw [this]
        rfl)
    (fun s hIs => by
      have e : ((k + (L.length - k) : Nat) : Int) = (s.length : Int) := by have := hIs.1; omega
      have e' : (L.length : Int) = (s.length : Int) := by have := hIs.1; omega
      unfold law44_chained_l0_step
      simp only [gi_z, gr_1, gr_z]
      rw [e, dnlt, e']) (s := L') ⟨hL', fun _ _ => rfl, fun _ _ => rfl, fun j h1 h2 => by omega⟩
  have ei : law44_chained_l0_init o k x0 x1 x2 x3 L = [.i ((k + 0 : Nat) : Int), .r L'] := by
    unfold law44_chained_l0_init law44_chained_s0
    rw [Int.toNat_natCast]
    rfl
  refine ⟨⟨by unfold fitsA maxLen; omega, inR_of hk, inR_of hk, by rw [ei]; exact g1⟩, rfl, ?_⟩
  have e0 : law44_chained_0 o k x0 x1 x2 x3 L = upto (fun i s => s.set (k + i) (rowS o s (k + i))) (L.length - k) L' := by
    unfold law44_chained_0 law44_chained_l0
    rw [ei, g2]
    show gr [.i (L.length : Int), .r _] 1 = _
    rw [gr_1, gr_z]
  rw [e0]
  obtain ⟨b1, b2, b3, b4⟩ := g3
  exact ⟨b1.trans hL'.symm, b3, fun j h1 h2 => b4 j h1 (by rw [List.length_set] at h2; omega)⟩
theorem anew_ne {o : Int} {k : Nat} {x0 x1 x2 x3 : Int} {L R : List (List Int)} (hk : k < L.length) (hv : valF o L = true) (hR : Anew o k (L.set k [x0, x1, x2, x3]) R)
    (hx : sumF o (prevS L k) x0 x1 x2 ≠ sumF o (prevS L k) (col (L.getD k []) 0) (col (L.getD k []) 1) (col (L.getD k []) 2)) : ∀ i, k + i < L.length → col (R.getD (k + i) []) 3 ≠ col (L.getD (k + i) []) 3 := by
  obtain ⟨a1, a2, a3⟩ := hR
  have hlen : (L.set k [x0, x1, x2, x3]).length = L.length := List.length_set
  intro i
  induction i with
  | zero =>
    intro h
    obtain ⟨_, _, _, b⟩ := a3 k (Nat.le_refl _) (by omega)
    have hp : prevS R k = prevS L k := prevS_congr fun h0 => by rw [a2 _ (by omega), getD_set _ _ _ _ hk, if_neg (by omega)]
    rw [hp, getD_set _ _ _ _ hk, if_pos rfl] at b
    have hs := val_sum hv k hk
    rw [← getD_at hk] at hs
    rw [Nat.add_zero, b, hs]
    exact hx
  | succ i ih =>
    intro h e
    obtain ⟨_, _, _, b⟩ := a3 (k + (i + 1)) (by omega) (by omega)
    obtain ⟨_, _, _, b'⟩ := a3 (k + i) (by omega) (by omega)
    have hs := val_sum hv (k + (i + 1)) h
    have hs' := val_sum hv (k + i) (by omega)
    rw [← getD_at h] at hs
    rw [← getD_at (show k + i < L.length by omega)] at hs'
    rw [getD_set _ _ _ _ hk, if_neg (by omega)] at b
    have p1 : prevS R (k + (i + 1)) = col (R.getD (k + i) []) 3 := by unfold prevS; rw [if_neg (by omega)]; rfl
    have p2 : prevS L (k + (i + 1)) = col (L.getD (k + i) []) 3 := by unfold prevS; rw [if_neg (by omega)]; rfl
    rw [b, hs, p1, p2] at e
    refine ih (by omega) (sumF_last ?_ ?_ e)
    · rw [b']; exact sumF_rng _ _ _ _ _
    · rw [hs']; exact sumF_rng _ _ _ _ _
end Go.Proofs.YtikhnofbbcmpeaaGreat
set_option linter.unusedVariables false
namespace Go.Proofs.YtikhnofbbcmpeaaGreat
open Go Go.Sy
theorem rowLt {W : World} {own : Bool} {e : TypeId} {sz : Nat} {v : Value} {m : Nat} {vs : List Value} (h : RowOk W own e sz v m vs) : m ≤ 9223372036854775807 := by
  obtain ⟨a, c, _, h1, h2⟩ := h.reads.is
  unfold maxLen at h2
  omega
theorem rowOne {W : World} {own : Bool} {e : TypeId} {sz : Nat} {v : Value} {m : Nat} {vs : List Value} (h : RowOk W own e sz v m vs) : v.oneCell' = true := by
  obtain ⟨a, c, rfl, _⟩ := h.reads.is
  rfl
theorem okRow {W : World} {e : TypeId} {ks : List CK} {v : Value} {l : List (List Int)} (r : RowOk W false e ks.length v l.length (rowV ks l)) (k : Nat) : v.oneCell' = true ∧ flatBody (.row e ks l) = true ∧ ∀ (E : Env), E k = v → BodyOk E W k false (.row e ks l) :=
  ⟨rowOne r, rfl, fun E he => by
    show RowOk W false e ks.length (E k) l.length (rowV ks l)
    rw [he]; exact r⟩
end Go.Proofs.YtikhnofbbcmpeaaGreat
set_option linter.unusedVariables false
set_option maxRecDepth 100000
namespace Go.Proofs.YtikhnofbbcmpeaaGreat
open Go Go.Sy
attribute [local irreducible] sumF
theorem at_is {at_ : Int} {n : Nat} (h : 0 ≤ at_ ∧ at_ ≤ 255) : (IntKind.i64.wrap at_).tmod (n : Int) = ((at_.toNat % n : Nat) : Int) := by
  rw [i64_wrap (by omega)]
  obtain ⟨a, rfl⟩ := Int.eq_ofNat_of_zero_le h.1
  rw [Int.toNat_natCast]
  exact (Int.ofNat_tmod a n).symm
theorem forged_bad {o : Int} {L : List (List Int)} {k : Nat} (sum : Int) (hv : valF o L = true) (hk : k < L.length) : (sum == col (L.getD k []) 3 || !valF o (L.set k (setEl 4 (L.getD k []) 3 [sum]))) = true := by
  cases hf : valF o (L.set k (setEl 4 (L.getD k []) 3 [sum])) with
  | false => simp
  | true =>
    have hk' : k < (L.set k (setEl 4 (L.getD k []) 3 [sum])).length := by rw [List.length_set]; exact hk
    have h1 := val_sum hf k hk'
    have h2 := val_sum hv k hk
    rw [← getD_at hk'] at h1
    rw [← getD_at hk] at h2
    have hp : prevS (L.set k (setEl 4 (L.getD k []) 3 [sum])) k = prevS L k := prevS_congr fun h0 => by rw [getD_set _ _ _ _ hk, if_neg (by omega)]
    rw [hp, getD_set _ _ _ _ hk, if_pos rfl] at h1
    generalize L.getD k [] = y at h1 h2 ⊢
    have h1 : sum = sumF o (prevS L k) (col y 0) (col y 1) (col y 2) := h1
    rw [h1, h2]
    simp
theorem row_rng {o : Int} {L : List (List Int)} (hv : valF o L = true) {k : Nat} (hk : k < L.length) : I64 (col (L.getD k []) 0) ∧ I64 (col (L.getD k []) 1) ∧ I64 (col (L.getD k []) 2) := by
  rw [getD_at hk]
  exact ln_rng ((val_spec hv).1 _ (List.getElem_mem hk)).2.1
theorem changed_bad {o : Int} {L : List (List Int)} {k : Nat} {which n f0 f1 f2 f3 : Int} (hv : valF o L = true) (hk : k < L.length) (hn : I64 n)
    (h0 : law44_field_0 (col (L.getD k []) 0) (col (L.getD k []) 1) (col (L.getD k []) 2) (col (L.getD k []) 3) which n = f0) (h1 : law44_field_1 (col (L.getD k []) 0) (col (L.getD k []) 1) (col (L.getD k []) 2) (col (L.getD k []) 3) which n = f1)
    (h2 : law44_field_2 (col (L.getD k []) 0) (col (L.getD k []) 1) (col (L.getD k []) 2) (col (L.getD k []) 3) which n = f2) (h3 : law44_field_3 (col (L.getD k []) 0) (col (L.getD k []) 1) (col (L.getD k []) 2) (col (L.getD k []) 3) which n = f3)
    (hs : (f0 == col (L.getD k []) 0 && (f1 == col (L.getD k []) 1 && (f2 == col (L.getD k []) 2 && (f3 == col (L.getD k []) 3 && true)))) = false) :
    sumF o (prevS L k) f0 f1 f2 ≠ sumF o (prevS L k) (col (L.getD k []) 0) (col (L.getD k []) 1) (col (L.getD k []) 2) ∧ valF o (L.set k [f0, f1, f2, f3]) = false := by
  obtain ⟨r0, r1, r2⟩ := row_rng hv hk
  have hne : sumF o (prevS L k) f0 f1 f2 ≠ sumF o (prevS L k) (col (L.getD k []) 0) (col (L.getD k []) 1) (col (L.getD k []) 2) := by
    subst h0 h1 h2 h3
    exact field_ne r0 r1 r2 hn hs
  refine ⟨hne, ?_⟩
  cases hf : valF o (L.set k [f0, f1, f2, f3]) with
  | false => rfl
  | true =>
    exfalso
    have hk' : k < (L.set k [f0, f1, f2, f3]).length := by rw [List.length_set]; exact hk
    have e1 := val_sum hf k hk'
    have e2 := val_sum hv k hk
    rw [← getD_at hk'] at e1
    rw [← getD_at hk] at e2
    have hp : prevS (L.set k [f0, f1, f2, f3]) k = prevS L k := prevS_congr fun h0 => by rw [getD_set _ _ _ _ hk, if_neg (by omega)]
    rw [hp, getD_set _ _ _ _ hk, if_pos rfl] at e1
    rw [field_3] at h3
    have e1 : f3 = sumF o (prevS L k) f0 f1 f2 := e1
    rw [← e1, ← e2] at hne
    exact hne h3.symm
theorem chains_ok (o at_ which n sum : Int) (L : List (List Int)) (h1 : L.length ≤ 9223372036854775807) (hat : 0 ≤ at_ ∧ at_ ≤ 255) (hn : I64 n) :
    law44_InquiryChains_0 o at_ which n sum L = true ∧ law44_InquiryChains_pre o at_ which n sum L := by
  obtain ⟨v1, v2⟩ := valid_is o L h1
  unfold law44_InquiryChains_0 law44_InquiryChains_pre
  rw [head_true, v2]
  cases hg : ((L.length : Int) == 0 || !valF o L) with
  | true => exact ⟨rfl, head_pre, fun _ => v1, fun h => by cases h⟩
  | false =>
    rw [cond_false]
    rw [Bool.or_eq_false_iff] at hg
    have hv : valF o L = true := by simpa using hg.2
    have hne : ¬ (L.length : Int) = 0 := by simpa using hg.1
    have hlen := (val_len hv).1
    have hK : at_.toNat % L.length < L.length := Nat.mod_lt _ (by omega)
    have eK := at_is (n := L.length) hat
    generalize hkk : at_.toNat % L.length = k at hK eK
    have q0 : law44_InquiryChains_s0 o at_ which n sum L = law44_field_0 (col (L.getD k []) 0) (col (L.getD k []) 1) (col (L.getD k []) 2) (col (L.getD k []) 3) which n := by unfold law44_InquiryChains_s0; rw [eK, Int.toNat_natCast]
    have q1 : law44_InquiryChains_s1 o at_ which n sum L = law44_field_1 (col (L.getD k []) 0) (col (L.getD k []) 1) (col (L.getD k []) 2) (col (L.getD k []) 3) which n := by unfold law44_InquiryChains_s1; rw [eK, Int.toNat_natCast]
    have q2 : law44_InquiryChains_s2 o at_ which n sum L = law44_field_2 (col (L.getD k []) 0) (col (L.getD k []) 1) (col (L.getD k []) 2) (col (L.getD k []) 3) which n := by unfold law44_InquiryChains_s2; rw [eK, Int.toNat_natCast]
    have q3 : law44_InquiryChains_s3 o at_ which n sum L = law44_field_3 (col (L.getD k []) 0) (col (L.getD k []) 1) (col (L.getD k []) 2) (col (L.getD k []) 3) which n := by unfold law44_InquiryChains_s3; rw [eK, Int.toNat_natCast]
    have q4 : law44_InquiryChains_s4 o at_ which n sum L = [law44_InquiryChains_s0 o at_ which n sum L, law44_InquiryChains_s1 o at_ which n sum L, law44_InquiryChains_s2 o at_ which n sum L, law44_InquiryChains_s3 o at_ which n sum L] := rfl
    have q5 : law44_InquiryChains_s5 o at_ which n sum L = L.set k (setEl 4 (L.getD k []) 3 [sum]) := by unfold law44_InquiryChains_s5; rw [eK, Int.toNat_natCast, List.nil_append]
    have hinit : law44_InquiryChains_l0_init o at_ which n sum L = [.b (true && ((law44_InquiryChains_s0 o at_ which n sum L == col (L.getD k []) 0 && (law44_InquiryChains_s1 o at_ which n sum L == col (L.getD k []) 1 && (law44_InquiryChains_s2 o at_ which n sum L == col (L.getD k []) 2 && (law44_InquiryChains_s3 o at_ which n sum L == col (L.getD k []) 3 && true)))) || !inquiry_Valid_0 o (L.set k (law44_InquiryChains_s4 o at_ which n sum L))) && (sum == col (L.getD k []) 3 || !inquiry_Valid_0 o (law44_InquiryChains_s5 o at_ which n sum L))), .i (k : Int)] := by
      unfold law44_InquiryChains_l0_init
      rw [eK, Int.toNat_natCast, head_true, List.nil_append]
    rw [eK, Int.toNat_natCast]
    generalize hf0 : law44_InquiryChains_s0 o at_ which n sum L = f0 at *
    generalize hf1 : law44_InquiryChains_s1 o at_ which n sum L = f1 at *
    generalize hf2 : law44_InquiryChains_s2 o at_ which n sum L = f2 at *
    generalize hf3 : law44_InquiryChains_s3 o at_ which n sum L = f3 at *
    rw [q4, q5] at hinit
    rw [q4, q5, List.nil_append]
    obtain ⟨c1, c2⟩ := valid_is o (L.set k [f0, f1, f2, f3]) (by rw [List.length_set]; exact h1)
    obtain ⟨d1, d2⟩ := valid_is o (L.set k (setEl 4 (L.getD k []) 3 [sum])) (by rw [List.length_set]; exact h1)
    have hF := forged_bad sum hv hK
    have hfit : fitsA 32 (0 + L.length) := by unfold fitsA maxLen; omega
    have hr : inR (k : Int) L := inR_of hK
    obtain ⟨n1, n2, n3⟩ := chained_is o k f0 f1 f2 f3 L hK hlen
    rw [c2, d2] at hinit
    rw [c2, d2]
    have hloop : (f0 == col (L.getD k []) 0 && (f1 == col (L.getD k []) 1 && (f2 == col (L.getD k []) 2 && (f3 == col (L.getD k []) 3 && true)))) = false → loopOk (law44_InquiryChains_l0_step o at_ which n sum L) (law44_InquiryChains_l0_init o at_ which n sum L) ∧ gb (law44_InquiryChains_l0 o at_ which n sum L).snd 0 = true := fun hs => by
      obtain ⟨w1, w2⟩ := changed_bad hv hK hn q0.symm q1.symm q2.symm q3.symm hs
      have hi : law44_InquiryChains_l0_init o at_ which n sum L = [.b true, .i ((k + 0 : Nat) : Int)] := by
        rw [hinit, w2, hF]
        simp
      have hA := anew_ne hK hv n3 w1
      have hRl : (law44_chained_0 o k f0 f1 f2 f3 L).length = L.length := by rw [n3.1, List.length_set]
      generalize hR : law44_chained_0 o k f0 f1 f2 f3 L = R at hA hRl
      obtain ⟨g1, g2, _⟩ := loop_fold (step := law44_InquiryChains_l0_step o at_ which n sum L) (L.length - k) (fun i (_ : Unit) => [.b true, .i ((k + i : Nat) : Int)]) (fun _ s => s) (fun _ _ => True) 1 (fun _ => [.b true, .i (L.length : Int)]) (fun _ _ _ _ => trivial)
        (fun i s hi _ => by
          have hm : k + i < R.length := by omega
          have hm' : k + i < L.length := by omega
          unfold law44_InquiryChains_l0_step
          simp only [gi_1, gi_z, gb_z]
          rw [eK, hf0, hf1, hf2, hf3, hR, dlt hm, guardP_true (fun _ => inR_of hm), guardP_true (fun _ => inR_of hm), guardP_true (fun _ => inR_of hm), guardP_true (fun _ => inR_of hm'), guardP_true (fun _ => inR_of hm'), guardP_true (fun _ => inR_of hm'), Int.toNat_natCast, wrapS (by omega)]
          have := hA i hm'
          have hb : ((R.getD (k + i) []).getD 3 0 != (L.getD (k + i) []).getD 3 0) = true := by simpa using this
          rw [hb]; rfl)
        (fun s _ => by
          have e : ((k + (L.length - k) : Nat) : Int) = (R.length : Int) := by omega
          have e' : (L.length : Int) = (R.length : Int) := by omega
          unfold law44_InquiryChains_l0_step
          simp only [gi_1, gi_z, gb_z]
          rw [eK, hf0, hf1, hf2, hf3, hR, e, dnlt, e']) (s := ()) trivial
      unfold law44_InquiryChains_l0
      rw [hi]
      refine ⟨g1, ?_⟩
      rw [g2]
      exact gb_z _ _
    refine ⟨?_, head_pre, fun _ => v1, fun _ => ?_⟩
    · cases hs : (f0 == col (L.getD k []) 0 && (f1 == col (L.getD k []) 1 && (f2 == col (L.getD k []) 2 && (f3 == col (L.getD k []) 3 && true)))) with
      | true =>
        have hF' : (sum == (L.getD k []).getD 3 0 || !valF o (L.set k (setEl 4 (L.getD k []) 3 [sum]))) = true := hF
        rw [cond_true, hF']
        rfl
      | false => rw [cond_false]; exact (hloop hs).2
    · repeat' first | exact hr | exact hfit | exact fun _ => hr | exact hne | exact fun _ _ => c1 | exact fun _ _ => d1 | exact fun h => ⟨n1, (hloop h).1⟩ | refine And.intro ?_ ?_
end Go.Proofs.YtikhnofbbcmpeaaGreat
