/-
  The law of greater sets.
-/
import Derived.Test.YtddfnokjnafdpaaDriftQ
set_option linter.unusedVariables false
set_option maxRecDepth 100000
namespace Go.Proofs.Ytddfnokjnafdpaa
open Go Go.Sy

theorem cut_one {l : List (List Int)} {i : Nat} (h : i < l.length) : (l.take (i + 1)).drop i = [l.getD i []] := by
  rw [take_succ' h, List.drop_append_of_le_length (by rw [List.length_take]; omega), List.drop_of_length_le (by rw [List.length_take]; omega)]
  rfl
theorem within_one (p q : List Int) : law23_within_pre [p] [q] ∧ law23_within_0 [p] [q] = decide (WB p q) := by
  obtain ⟨h1, h2⟩ := within_is [p] [q] (by simp)
  refine ⟨h1, ?_⟩
  rw [Bool.eq_iff_iff, h2, decide_eq_true_eq]
  constructor
  · rintro ⟨_, h⟩; exact h 0 (by simp)
  · intro h
    refine ⟨rfl, fun i hi => ?_⟩
    have : i = 0 := by simpa using hi
    subst this
    exact h
theorem wb_mono {f u : Int} {c : List (List Int)} {p q : List Int} (h : WB p q) : WB (mvF f u c p) (mvF f u c q) := by
  have g1 := mvF_get f u c p
  have g2 := mvF_get f u c q
  unfold lo hi at g1 g2
  unfold WB at *
  omega
/-- A box, moved to the east. -/
def shB (by_ : Int) (b : List Int) : List Int := [b.getD 0 0 + by_, b.getD 1 0 + by_, b.getD 2 0, b.getD 3 0]
theorem mv_sh {f u : Int} {c : List (List Int)} (by_ : Int) (b : List Int) : mvF f u c (shB by_ b) = shB by_ (mvF f u c b) := by
  have g1 := mvF_get f u c b
  unfold shB
  rw [g1.1, g1.2.1, g1.2.2.1, g1.2.2.2]
  unfold mvF mvB lo hi
  simp only [List.getD_cons_zero, List.getD_cons_succ]
  congr 1
  · omega
  · congr 1
    omega
section
variable {f u by_ : Int} {a b c : List (List Int)} (hx : drift_Move_0 f u a c = a.map (mvF f u c)) (hal : a.length ≤ 16)
include hx hal in
theorem gr_l1 (hy : drift_Move_0 f u b c = b.map (mvF f u c)) (hbl : b.length ≤ 16) (i : Nat) (hi : i < a.length) :
    loopOk (law23_DriftGreater_l1_step f u by_ a b c [.b false, .b true, .i i]) (law23_DriftGreater_l1_init f u by_ a b c [.b false, .b true, .i i]) ∧ law23_DriftGreater_l1 f u by_ a b c [.b false, .b true, .i i] = (4, [.b false, .b true, .i b.length]) := by
  have hi' : i < (a.map (mvF f u c)).length := by simpa using hi
  have key := loop_fold (σ := Unit) (step := law23_DriftGreater_l1_step f u by_ a b c [.b false, .b true, .i i]) b.length (fun k _ => [.b false, .b true, .i k]) (fun _ s => s) (fun _ _ => True) 3 (fun _ => [.b false, .b true, .i b.length])
    (fun _ _ _ _ => trivial)
    (fun k s hk _ => by
      have hk' : k < (b.map (mvF f u c)).length := by simpa using hk
      have w1 := within_one (a.getD i []) (b.getD k [])
      have w2 := within_one ((a.map (mvF f u c)).getD i []) ((b.map (mvF f u c)).getD k [])
      have hm : WB (a.getD i []) (b.getD k []) → WB ((a.map (mvF f u c)).getD i []) ((b.map (mvF f u c)).getD k []) := fun h => by
        rw [getD_map hi, getD_map hk]; exact wb_mono h
      have e0 : law23_DriftGreater_s0 f u by_ a b c [.b false, .b true, .i i] = [a.getD i []] := by
        unfold law23_DriftGreater_s0
        simp only [gi_2, gi_z, boundsA, cutV, loN, wrap_succ (show i < 4611686018427387904 by omega), Int.toNat_natCast]
        exact cut_one hi
      have e1 : law23_DriftGreater_s1 f u by_ a b c [.b false, .b true, .i k] = [b.getD k []] := by
        unfold law23_DriftGreater_s1
        simp only [gi_2, gi_z, boundsA, cutV, loN, wrap_succ (show k < 4611686018427387904 by omega), Int.toNat_natCast]
        exact cut_one hk
      have e2 : law23_DriftGreater_s2 f u by_ a b c [.b false, .b true, .i i] = [(a.map (mvF f u c)).getD i []] := by
        unfold law23_DriftGreater_s2
        rw [hx]
        simp only [gi_2, gi_z, boundsA, cutV, loN, wrap_succ (show i < 4611686018427387904 by omega), Int.toNat_natCast]
        exact cut_one hi'
      have e3 : law23_DriftGreater_s3 f u by_ a b c [.b false, .b true, .i k] = [(b.map (mvF f u c)).getD k []] := by
        unfold law23_DriftGreater_s3
        rw [hy]
        simp only [gi_2, gi_z, boundsA, cutV, loN, wrap_succ (show k < 4611686018427387904 by omega), Int.toNat_natCast]
        exact cut_one hk'
      unfold law23_DriftGreater_l1_step
      rw [e0, e1, e2, e3, hx, hy, w1.2, w2.2]
      simp only [gi_2, gi_z, gb_z, gb_1, boundsA, loN, dlt hk, wrap_succ (show i < 4611686018427387904 by omega), wrap_succ (show k < 4611686018427387904 by omega), Int.toNat_natCast, List.length_map]
      rw [guardP_pos ⟨by omega, by omega, by omega⟩, guardP_pos ⟨by omega, by omega, by omega⟩, guardP_pos ⟨⟨⟨by omega, by omega⟩, by omega, by omega⟩, w1.1⟩]
      rw [guardP_pos (p := True → 0 ≤ (i : Int) ∧ _) (fun _ => ⟨by omega, by omega, by omega⟩), guardP_pos (p := True → 0 ≤ (k : Int) ∧ _) (fun _ => ⟨by omega, by omega, by omega⟩), guardP_pos (fun _ => ⟨⟨⟨by omega, by omega⟩, by omega, by omega⟩, w2.1⟩)]
      have hne : ((a.length : Int) != (a.length : Int) || (b.length : Int) != (b.length : Int)) = false := by simp
      rw [hne]
      by_cases hw : WB (a.getD i []) (b.getD k [])
      · rw [decide_eq_true hw, decide_eq_true (hm hw)]
        rfl
      · rw [decide_eq_false hw]
        rfl)
    (fun s _ => by
      unfold law23_DriftGreater_l1_step
      simp only [gi_2, gi_z, gb_z, gb_1, dnlt]) (s := ()) trivial
  exact ⟨key.1, key.2.1⟩
include hx hal in
theorem gr_l0 (hb : drift_Move_1 f u b c = 0 → drift_Move_0 f u b c = b.map (mvF f u c) ∧ b.length ≤ 16) :
    loopOk (law23_DriftGreater_l0_step f u by_ a b c) (law23_DriftGreater_l0_init f u by_ a b c) ∧ ∃ n, law23_DriftGreater_l0 f u by_ a b c = (3, [.b false, .b true, .i n]) := by
  have e0 : law23_DriftGreater_l0_init f u by_ a b c = [.b false, .b true, .i ((0 : Nat) : Int)] := by
    unfold law23_DriftGreater_l0_init
    rw [head_ok.1]; rfl
  unfold law23_DriftGreater_l0
  rw [e0]
  by_cases hz : drift_Move_1 f u b c = 0
  · obtain ⟨hy, hbl⟩ := hb hz
    have key := loop_fold (σ := Unit) (step := law23_DriftGreater_l0_step f u by_ a b c) a.length (fun i _ => [.b false, .b true, .i i]) (fun _ s => s) (fun _ _ => True) 2 (fun _ => [.b false, .b true, .i a.length])
      (fun _ _ _ _ => trivial)
      (fun i s hi _ => by
        obtain ⟨k1, k2⟩ := gr_l1 (by_ := by_) hx hal hy hbl i hi
        unfold law23_DriftGreater_l0_step
        rw [hz, guardP_pos k1, k2]
        simp only [gi_2, gi_z, wrap_succ (show i < 4611686018427387904 by omega)]
        rw [decide_eq_true (show (i : Int) < (a.length : Int) by omega)]
        rfl)
      (fun s _ => by
        unfold law23_DriftGreater_l0_step
        rw [hz]
        simp only [gi_2, gi_z]
        rw [decide_eq_false (show ¬ (a.length : Int) < (a.length : Int) by omega)]
        rfl) (s := ()) trivial
    exact ⟨key.1, _, key.2.1⟩
  · have hz' : (drift_Move_1 f u b c == 0) = false := by simpa using hz
    have : law23_DriftGreater_l0_step f u by_ a b c [.b false, .b true, .i ((0 : Nat) : Int)] = some (2 + 1, [.b false, .b true, .i ((0 : Nat) : Int)]) := by
      unfold law23_DriftGreater_l0_step
      rw [hz', Bool.and_false]
      rfl
    obtain ⟨k1, k2⟩ := loop_is (iter_out this)
    exact ⟨k1, _, k2⟩
end
theorem sh_wrap {by_ x : Int} (h : 0 ≤ by_ ∧ by_ ≤ 3000000) (hx : -1000000 ≤ x ∧ x ≤ 1000000) : IntKind.i64.wrap (x + by_) = x + by_ := i64_wrap (by omega)
theorem gr_l2 {f u by_ : Int} {a b c : List (List Int)} (hv : VL a) (h : 0 ≤ by_ ∧ by_ ≤ 3000000) : loopOk (law23_DriftGreater_l2_step f u by_ a b c) (law23_DriftGreater_l2_init f u by_ a b c) ∧ gr (law23_DriftGreater_l2 f u by_ a b c).snd 1 = a.map (shB by_) := by
  have hl := hv.2.1
  have key := loop_fold (σ := Unit) (step := law23_DriftGreater_l2_step f u by_ a b c) a.length (fun i _ => [.i i, .r ((a.take i).map (shB by_))]) (fun _ s => s) (fun _ _ => True) 1 (fun _ => [.i a.length, .r (a.map (shB by_))])
    (fun _ _ _ _ => trivial)
    (fun i s hi _ => by
      have hb := hv.2.2 _ (getD_mem hi)
      unfold VB at hb
      have e5 : law23_DriftGreater_s5 f u by_ a b c [.i i, .r ((a.take i).map (shB by_))] = shB by_ (a.getD i []) := by
        unfold law23_DriftGreater_s5 law23_DriftGreater_s4 law23_of_0 law23_of_1
        simp only [gi_z, Int.toNat_natCast]
        rw [sh_wrap h (by omega), sh_wrap h (by omega)]
        rfl
      unfold law23_DriftGreater_l2_step
      rw [e5]
      simp only [gi_z, gr_1, gr_z, dlt hi, guardP_pos (inR_of hi), wrap_succ (show i < 4611686018427387904 by omega)]
      rw [guardP_pos (fits_le (by decide) (by simp only [List.length_map, List.length_take, List.length_cons, List.length_nil]; omega)), take_succ' hi, List.map_append]
      rfl)
    (fun s _ => by
      unfold law23_DriftGreater_l2_step
      simp only [gi_z, gr_1, gr_z, dnlt, List.take_length]) (s := ()) trivial
  refine ⟨key.1, ?_⟩
  have e : law23_DriftGreater_l2 f u by_ a b c = _ := key.2.1
  rw [e]
  simp only [gr_1, gr_z]
theorem gr_l3 {f u by_ : Int} {a b c x : List (List Int)} (hx : drift_Move_0 f u a c = x) (hv : VL x) (h : 0 ≤ by_ ∧ by_ ≤ 3000000) : loopOk (law23_DriftGreater_l3_step f u by_ a b c) (law23_DriftGreater_l3_init f u by_ a b c) ∧ gr (law23_DriftGreater_l3 f u by_ a b c).snd 1 = x.map (shB by_) := by
  have hl := hv.2.1
  have key := loop_fold (σ := Unit) (step := law23_DriftGreater_l3_step f u by_ a b c) x.length (fun i _ => [.i i, .r ((x.take i).map (shB by_))]) (fun _ s => s) (fun _ _ => True) 1 (fun _ => [.i x.length, .r (x.map (shB by_))])
    (fun _ _ _ _ => trivial)
    (fun i s hi _ => by
      have hb := hv.2.2 _ (getD_mem hi)
      unfold VB at hb
      have e5 : law23_DriftGreater_s8 f u by_ a b c [.i i, .r ((x.take i).map (shB by_))] = shB by_ (x.getD i []) := by
        unfold law23_DriftGreater_s8 law23_DriftGreater_s7 law23_DriftGreater_s6 law23_of_0 law23_of_1
        rw [hx]
        simp only [gi_z, Int.toNat_natCast]
        rw [sh_wrap h (by omega), sh_wrap h (by omega)]
        rfl
      unfold law23_DriftGreater_l3_step
      rw [e5, hx]
      simp only [gi_z, gr_1, gr_z, dlt hi, guardP_pos (inR_of hi), wrap_succ (show i < 4611686018427387904 by omega)]
      rw [guardP_pos (fits_le (by decide) (by simp only [List.length_map, List.length_take, List.length_cons, List.length_nil]; omega)), take_succ' hi, List.map_append]
      rfl)
    (fun s _ => by
      unfold law23_DriftGreater_l3_step
      rw [hx]
      simp only [gi_z, gr_1, gr_z, dnlt, List.take_length]) (s := ()) trivial
  refine ⟨key.1, ?_⟩
  have e : law23_DriftGreater_l3 f u by_ a b c = _ := key.2.1
  rw [e]
  simp only [gr_1, gr_z]
theorem driftGreater_ok (f u by_ : Int) (a b c : List (List Int)) (hc : c.length ≤ 9223372036854775807) : law23_DriftGreater_0 f u by_ a b c = true ∧ law23_DriftGreater_pre f u by_ a b c := by
  obtain ⟨hh, hp⟩ := head_ok
  obtain ⟨p1, m1, m0⟩ := move_is f u a c hc
  obtain ⟨p2, n1, n0⟩ := move_is f u b c hc
  by_cases hm : moveE f u a c = 0
  · obtain ⟨vl, hs, hb, hL⟩ := moveE_ok hm
    have hx : drift_Move_0 f u a c = a.map (mvF f u c) := m0.trans hL
    have hbb : drift_Move_1 f u b c = 0 → drift_Move_0 f u b c = b.map (mvF f u c) ∧ b.length ≤ 16 := fun h => by
      rw [n1] at h
      obtain ⟨v2, _, _, hL2⟩ := moveE_ok h
      exact ⟨n0.trans hL2, v2.2.1⟩
    obtain ⟨k1, n, k2⟩ := gr_l0 (by_ := by_) hx vl.2.1 hbb
    have vx : VL (a.map (mvF f u c)) := VL_map vl hb
    by_cases hby : 0 ≤ by_ ∧ by_ ≤ 3000000
    · obtain ⟨q1, q2⟩ := gr_l2 (f := f) (u := u) (b := b) (c := c) vl hby
      obtain ⟨q3, q4⟩ := gr_l3 (b := b) hx vx hby
      obtain ⟨p3, z1, z0⟩ := move_is f u (a.map (shB by_)) c hc
      have pv := valid_is (a.map (shB by_))
      have hlen : (moveL f u (a.map (shB by_)) c).length < 4611686018427387904 := by have := moveL_len f u (a.map (shB by_)) c; omega
      have ps := (same_is (moveL f u (a.map (shB by_)) c) ((a.map (mvF f u c)).map (shB by_)) hlen).1
      constructor
      · unfold law23_DriftGreater_0
        rw [k2, q2, q4, z1, z0, m1, hm, pv.2]
        have d1 : (decide (by_ < 0) || decide (by_ > 3000000)) = false := by
          rw [Bool.or_eq_false_iff]; exact ⟨decide_eq_false (by omega), decide_eq_false (by omega)⟩
        rw [d1]
        have g1 : gb [.b false, .b true, .i n] 1 = true := rfl
        rw [g1]
        rcases moveE_cases f u (a.map (shB by_)) c with ⟨e, h⟩ | ⟨e, _, h⟩ | ⟨e, _⟩ | ⟨e, _⟩
        · have : ¬ VL (a.map (shB by_)) := fun v => (h.resolve_left (fun k => k v)).elim (fun k => k (sumE_ok hs).1) (fun k => k (sumE_ok hs).2.1)
          rw [e, decide_eq_false this]; rfl
        · rw [hs] at h; cases h
        · rw [e]; rfl
        · have e2 : moveL f u (a.map (shB by_)) c = (a.map (mvF f u c)).map (shB by_) := by
            rw [(moveE_ok e).2.2.2, List.map_map, List.map_map]
            exact List.map_congr_left fun x _ => mv_sh by_ x
          have h4 : ∀ r ∈ (a.map (mvF f u c)).map (shB by_), r.length = 4 := fun r hr => by
            obtain ⟨x, _, rfl⟩ := List.mem_map.1 hr
            rfl
          rw [e, e2, same_eq (by rw [← e2]; exact hlen) h4 h4]
          simp [Nat.beq]
      · refine ⟨hp, p1, p2, fun _ => ⟨k1, fun _ _ => ?_⟩⟩
        rw [q2, q4, z0]
        exact ⟨q1, p3, fun _ _ _ _ => pv.1, fun _ => ⟨q3, fun _ => ps⟩⟩
    · have d1 : (decide (by_ < 0) || decide (by_ > 3000000)) = true := by
        rw [Bool.or_eq_true, decide_eq_true_eq, decide_eq_true_eq]; omega
      constructor
      · unfold law23_DriftGreater_0
        rw [k2, m1, hm, d1]
        rfl
      · refine ⟨hp, p1, p2, fun _ => ⟨k1, fun _ h => ?_⟩⟩
        rw [d1] at h; cases h
  · have hne : (moveE f u a c != 0) = true := by simpa using hm
    constructor
    · unfold law23_DriftGreater_0
      rw [m1, m0, hne, hh, moveE_ne hm]
      rfl
    · refine ⟨hp, p1, p2, fun h => ?_⟩
      rw [m1, hne] at h
      cases h
end Go.Proofs.Ytddfnokjnafdpaa
