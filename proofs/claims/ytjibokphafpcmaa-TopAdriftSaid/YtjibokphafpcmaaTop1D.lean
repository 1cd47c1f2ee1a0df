/- Several texts in one (wip/merge.py): XTop1D XTop2D. -/
import Derived.Test.YtjibokphafpcmaaSyD
import Derived.Test.YtjibokphafpcmaaDesk2D
/-! Written by program (wip/sygen.py): what the Go functions compute, as the executor reads it off their code. -/
set_option maxRecDepth 100000
set_option linter.unusedVariables false
namespace Go.Proofs.Ytjibokphafpcmaa
open Go Go.Sy
noncomputable def mooring_within_0 (s_Lo s_Hi lo hi : Int) : Bool :=
  span_Valid_0 s_Lo s_Hi && decide (s_Lo ≥ lo) && decide (s_Hi ≤ hi)
noncomputable def mooring_isHeights_0 (s_Lo s_Hi : Int) : Bool :=
  mooring_within_0 s_Lo s_Hi (-100000 : Int) (100000 : Int)
noncomputable def mooring_isDepths_0 (s_Lo s_Hi : Int) : Bool :=
  mooring_within_0 s_Lo s_Hi (0 : Int) (100000 : Int)
noncomputable def mooring_Valid_0 (m_At_X m_At_Y m_Depth_Lo m_Depth_Hi m_Chain : Int) : Bool :=
  plane_Valid_0 m_At_X m_At_Y && mooring_isDepths_0 m_Depth_Lo m_Depth_Hi && decide (m_Chain ≥ (0 : Int)) && decide (m_Chain ≤ (1000000 : Int))
noncomputable def mooring_in_0 (m_At_X m_At_Y m_Depth_Lo m_Depth_Hi m_Chain tide_Lo tide_Hi : Int) : Int :=
  m_At_X
noncomputable def mooring_in_1 (m_At_X m_At_Y m_Depth_Lo m_Depth_Hi m_Chain tide_Lo tide_Hi : Int) : Int :=
  m_At_Y
noncomputable def mooring_in_2 (m_At_X m_At_Y m_Depth_Lo m_Depth_Hi m_Chain tide_Lo tide_Hi : Int) : Int :=
  m_Depth_Lo
noncomputable def mooring_in_3 (m_At_X m_At_Y m_Depth_Lo m_Depth_Hi m_Chain tide_Lo tide_Hi : Int) : Int :=
  m_Depth_Hi
noncomputable def mooring_in_4 (m_At_X m_At_Y m_Depth_Lo m_Depth_Hi m_Chain tide_Lo tide_Hi : Int) : Int :=
  m_Chain
noncomputable def mooring_in_5 (m_At_X m_At_Y m_Depth_Lo m_Depth_Hi m_Chain tide_Lo tide_Hi : Int) : Int :=
  imax (0 : Int) (IntKind.i64.wrap (m_Depth_Lo + tide_Lo))
noncomputable def mooring_in_6 (m_At_X m_At_Y m_Depth_Lo m_Depth_Hi m_Chain tide_Lo tide_Hi : Int) : Int :=
  imax (0 : Int) (IntKind.i64.wrap (m_Depth_Hi + tide_Hi))
noncomputable def mooring_afloat_has_0 (a_Mooring_At_X a_Mooring_At_Y a_Mooring_Depth_Lo a_Mooring_Depth_Hi a_Mooring_Chain a_water_0 a_water_1 x y : Int) : Bool :=
  decide
  (IntKind.i64.wrap (IntKind.i64.wrap ((100 : Int) * IntKind.i64.wrap (IntKind.i64.wrap (x * x) + IntKind.i64.wrap (y * y))) + IntKind.i64.wrap (a_water_0 * a_water_0)) ≤
    IntKind.i64.wrap (a_Mooring_Chain * a_Mooring_Chain))
noncomputable def mooring_afloat_radius_s0 (a_Mooring_At_X a_Mooring_At_Y a_Mooring_Depth_Lo a_Mooring_Depth_Hi a_Mooring_Chain a_water_0 a_water_1 : Int) (y0 : List U) : Int :=
  IntKind.i64.wrap ((100 : Int) * IntKind.i64.wrap ((IntKind.u64.wrap (IntKind.i64.wrap (gi y0 0 + gi y0 1))).fdiv ((2 : Int) ^ min (Int.toNat (1 : Int)) IntKind.u64.bits))) *
  IntKind.i64.wrap ((IntKind.u64.wrap (IntKind.i64.wrap (gi y0 0 + gi y0 1))).fdiv ((2 : Int) ^ min (Int.toNat (1 : Int)) IntKind.u64.bits))
noncomputable def mooring_afloat_radius_l0_init (a_Mooring_At_X a_Mooring_At_Y a_Mooring_Depth_Lo a_Mooring_Depth_Hi a_Mooring_Chain a_water_0 a_water_1 : Int) : List U :=
  [.i ((0 : Int)), .i ((100000 : Int))]
noncomputable def mooring_afloat_radius_l0_step (a_Mooring_At_X a_Mooring_At_Y a_Mooring_Depth_Lo a_Mooring_Depth_Hi a_Mooring_Chain a_water_0 a_water_1 : Int) (y0 : List U) : Option (Nat × List U) :=
  (bif decide (gi y0 0 < gi y0 1) then guardP ((0 : Int) ≤ (1 : Int)) ((bif !decide (IntKind.i64.wrap ((mooring_afloat_radius_s0 a_Mooring_At_X a_Mooring_At_Y a_Mooring_Depth_Lo a_Mooring_Depth_Hi a_Mooring_Chain a_water_0 a_water_1 y0)) ≥ IntKind.i64.wrap (IntKind.i64.wrap (a_Mooring_Chain * a_Mooring_Chain) - IntKind.i64.wrap (a_water_0 * a_water_0))) then some (0, [.i (IntKind.i64.wrap (IntKind.i64.wrap ((IntKind.u64.wrap (IntKind.i64.wrap (gi y0 0 + gi y0 1))).fdiv ((2 : Int) ^ min (Int.toNat (1 : Int)) IntKind.u64.bits)) + (1 : Int))), .i (gi y0 1)]) else some (0, [.i (gi y0 0), .i (IntKind.i64.wrap ((IntKind.u64.wrap (IntKind.i64.wrap (gi y0 0 + gi y0 1))).fdiv ((2 : Int) ^ min (Int.toNat (1 : Int)) IntKind.u64.bits)))]))) else some (3, [.i (gi y0 0), .i (gi y0 1)]))
noncomputable def mooring_afloat_radius_l0 (a_Mooring_At_X a_Mooring_At_Y a_Mooring_Depth_Lo a_Mooring_Depth_Hi a_Mooring_Chain a_water_0 a_water_1 : Int) : Nat × List U := loopGet (mooring_afloat_radius_l0_step a_Mooring_At_X a_Mooring_At_Y a_Mooring_Depth_Lo a_Mooring_Depth_Hi a_Mooring_Chain a_water_0 a_water_1) (mooring_afloat_radius_l0_init a_Mooring_At_X a_Mooring_At_Y a_Mooring_Depth_Lo a_Mooring_Depth_Hi a_Mooring_Chain a_water_0 a_water_1)
noncomputable def mooring_afloat_radius_0 (a_Mooring_At_X a_Mooring_At_Y a_Mooring_Depth_Lo a_Mooring_Depth_Hi a_Mooring_Chain a_water_0 a_water_1 : Int) : Int :=
  gi (mooring_afloat_radius_l0 a_Mooring_At_X a_Mooring_At_Y a_Mooring_Depth_Lo a_Mooring_Depth_Hi a_Mooring_Chain a_water_0 a_water_1).snd 0
def mooring_afloat_radius_pre (a_Mooring_At_X a_Mooring_At_Y a_Mooring_Depth_Lo a_Mooring_Depth_Hi a_Mooring_Chain a_water_0 a_water_1 : Int) : Prop :=
  ((loopOk (mooring_afloat_radius_l0_step a_Mooring_At_X a_Mooring_At_Y a_Mooring_Depth_Lo a_Mooring_Depth_Hi a_Mooring_Chain a_water_0 a_water_1) (mooring_afloat_radius_l0_init a_Mooring_At_X a_Mooring_At_Y a_Mooring_Depth_Lo a_Mooring_Depth_Hi a_Mooring_Chain a_water_0 a_water_1)))
noncomputable def mooring_Radius_s0 (m_At_X m_At_Y m_Depth_Lo m_Depth_Hi m_Chain tide_Lo tide_Hi : Int) : Int :=
  bif decide (mooring_in_4 m_At_X m_At_Y m_Depth_Lo m_Depth_Hi m_Chain tide_Lo tide_Hi < mooring_in_6 m_At_X m_At_Y m_Depth_Lo m_Depth_Hi m_Chain tide_Lo tide_Hi) then (0 : Int)
else
  mooring_afloat_radius_0 (mooring_in_0 m_At_X m_At_Y m_Depth_Lo m_Depth_Hi m_Chain tide_Lo tide_Hi) (mooring_in_1 m_At_X m_At_Y m_Depth_Lo m_Depth_Hi m_Chain tide_Lo tide_Hi)
    (mooring_in_2 m_At_X m_At_Y m_Depth_Lo m_Depth_Hi m_Chain tide_Lo tide_Hi) (mooring_in_3 m_At_X m_At_Y m_Depth_Lo m_Depth_Hi m_Chain tide_Lo tide_Hi)
    (mooring_in_4 m_At_X m_At_Y m_Depth_Lo m_Depth_Hi m_Chain tide_Lo tide_Hi) (mooring_in_5 m_At_X m_At_Y m_Depth_Lo m_Depth_Hi m_Chain tide_Lo tide_Hi)
    (mooring_in_6 m_At_X m_At_Y m_Depth_Lo m_Depth_Hi m_Chain tide_Lo tide_Hi)
noncomputable def mooring_Radius_0 (m_At_X m_At_Y m_Depth_Lo m_Depth_Hi m_Chain tide_Lo tide_Hi : Int) : Int :=
  bif !mooring_Valid_0 m_At_X m_At_Y m_Depth_Lo m_Depth_Hi m_Chain || !mooring_isHeights_0 tide_Lo tide_Hi then (0 : Int) else (mooring_Radius_s0 m_At_X m_At_Y m_Depth_Lo m_Depth_Hi m_Chain tide_Lo tide_Hi)
noncomputable def mooring_Radius_1 (m_At_X m_At_Y m_Depth_Lo m_Depth_Hi m_Chain tide_Lo tide_Hi : Int) : Int :=
  bif !mooring_Valid_0 m_At_X m_At_Y m_Depth_Lo m_Depth_Hi m_Chain || !mooring_isHeights_0 tide_Lo tide_Hi then (1 : Int)
else bif decide (mooring_in_4 m_At_X m_At_Y m_Depth_Lo m_Depth_Hi m_Chain tide_Lo tide_Hi < mooring_in_6 m_At_X m_At_Y m_Depth_Lo m_Depth_Hi m_Chain tide_Lo tide_Hi) then (6 : Int) else (0 : Int)
def mooring_Radius_pre (m_At_X m_At_Y m_Depth_Lo m_Depth_Hi m_Chain tide_Lo tide_Hi : Int) : Prop :=
  (((!mooring_Valid_0 m_At_X m_At_Y m_Depth_Lo m_Depth_Hi m_Chain || !mooring_isHeights_0 tide_Lo tide_Hi) = false) → ((decide (mooring_in_4 m_At_X m_At_Y m_Depth_Lo m_Depth_Hi m_Chain tide_Lo tide_Hi < mooring_in_6 m_At_X m_At_Y m_Depth_Lo m_Depth_Hi m_Chain tide_Lo tide_Hi) = false) → (mooring_afloat_radius_pre (mooring_in_0 m_At_X m_At_Y m_Depth_Lo m_Depth_Hi m_Chain tide_Lo tide_Hi) (mooring_in_1 m_At_X m_At_Y m_Depth_Lo m_Depth_Hi m_Chain tide_Lo tide_Hi)
  (mooring_in_2 m_At_X m_At_Y m_Depth_Lo m_Depth_Hi m_Chain tide_Lo tide_Hi) (mooring_in_3 m_At_X m_At_Y m_Depth_Lo m_Depth_Hi m_Chain tide_Lo tide_Hi)
  (mooring_in_4 m_At_X m_At_Y m_Depth_Lo m_Depth_Hi m_Chain tide_Lo tide_Hi) (mooring_in_5 m_At_X m_At_Y m_Depth_Lo m_Depth_Hi m_Chain tide_Lo tide_Hi)
  (mooring_in_6 m_At_X m_At_Y m_Depth_Lo m_Depth_Hi m_Chain tide_Lo tide_Hi))))
noncomputable def span_GrowBox_s0 (b_X_Lo b_X_Hi b_Y_Lo b_Y_Hi n : Int) : Int :=
  bif !span_ValidBox_0 b_X_Lo b_X_Hi b_Y_Lo b_Y_Hi || decide (n < (0 : Int)) || decide (n > (3000000 : Int)) then (0 : Int)
else
  bif !span_ValidBox_0 (IntKind.i64.wrap (b_X_Lo - n)) (IntKind.i64.wrap (b_X_Hi + n)) (IntKind.i64.wrap (b_Y_Lo - n)) (IntKind.i64.wrap (b_Y_Hi + n)) then (0 : Int) else IntKind.i64.wrap (b_X_Lo - n)
noncomputable def span_GrowBox_0 (b_X_Lo b_X_Hi b_Y_Lo b_Y_Hi n : Int) : Int :=
  (span_GrowBox_s0 b_X_Lo b_X_Hi b_Y_Lo b_Y_Hi n)
noncomputable def span_GrowBox_s1 (b_X_Lo b_X_Hi b_Y_Lo b_Y_Hi n : Int) : Int :=
  bif !span_ValidBox_0 b_X_Lo b_X_Hi b_Y_Lo b_Y_Hi || decide (n < (0 : Int)) || decide (n > (3000000 : Int)) then (0 : Int)
else
  bif !span_ValidBox_0 (IntKind.i64.wrap (b_X_Lo - n)) (IntKind.i64.wrap (b_X_Hi + n)) (IntKind.i64.wrap (b_Y_Lo - n)) (IntKind.i64.wrap (b_Y_Hi + n)) then (0 : Int) else IntKind.i64.wrap (b_X_Hi + n)
noncomputable def span_GrowBox_1 (b_X_Lo b_X_Hi b_Y_Lo b_Y_Hi n : Int) : Int :=
  (span_GrowBox_s1 b_X_Lo b_X_Hi b_Y_Lo b_Y_Hi n)
noncomputable def span_GrowBox_s2 (b_X_Lo b_X_Hi b_Y_Lo b_Y_Hi n : Int) : Int :=
  bif !span_ValidBox_0 b_X_Lo b_X_Hi b_Y_Lo b_Y_Hi || decide (n < (0 : Int)) || decide (n > (3000000 : Int)) then (0 : Int)
else
  bif !span_ValidBox_0 (IntKind.i64.wrap (b_X_Lo - n)) (IntKind.i64.wrap (b_X_Hi + n)) (IntKind.i64.wrap (b_Y_Lo - n)) (IntKind.i64.wrap (b_Y_Hi + n)) then (0 : Int) else IntKind.i64.wrap (b_Y_Lo - n)
noncomputable def span_GrowBox_2 (b_X_Lo b_X_Hi b_Y_Lo b_Y_Hi n : Int) : Int :=
  (span_GrowBox_s2 b_X_Lo b_X_Hi b_Y_Lo b_Y_Hi n)
noncomputable def span_GrowBox_s3 (b_X_Lo b_X_Hi b_Y_Lo b_Y_Hi n : Int) : Int :=
  bif !span_ValidBox_0 b_X_Lo b_X_Hi b_Y_Lo b_Y_Hi || decide (n < (0 : Int)) || decide (n > (3000000 : Int)) then (0 : Int)
else
  bif !span_ValidBox_0 (IntKind.i64.wrap (b_X_Lo - n)) (IntKind.i64.wrap (b_X_Hi + n)) (IntKind.i64.wrap (b_Y_Lo - n)) (IntKind.i64.wrap (b_Y_Hi + n)) then (0 : Int) else IntKind.i64.wrap (b_Y_Hi + n)
noncomputable def span_GrowBox_3 (b_X_Lo b_X_Hi b_Y_Lo b_Y_Hi n : Int) : Int :=
  (span_GrowBox_s3 b_X_Lo b_X_Hi b_Y_Lo b_Y_Hi n)
noncomputable def span_GrowBox_s4 (b_X_Lo b_X_Hi b_Y_Lo b_Y_Hi n : Int) : Int :=
  bif !span_ValidBox_0 b_X_Lo b_X_Hi b_Y_Lo b_Y_Hi || decide (n < (0 : Int)) || decide (n > (3000000 : Int)) then (1 : Int)
else bif !span_ValidBox_0 (IntKind.i64.wrap (b_X_Lo - n)) (IntKind.i64.wrap (b_X_Hi + n)) (IntKind.i64.wrap (b_Y_Lo - n)) (IntKind.i64.wrap (b_Y_Hi + n)) then (3 : Int) else (0 : Int)
noncomputable def span_GrowBox_4 (b_X_Lo b_X_Hi b_Y_Lo b_Y_Hi n : Int) : Int :=
  (span_GrowBox_s4 b_X_Lo b_X_Hi b_Y_Lo b_Y_Hi n)
noncomputable def mooring_Box_0 (m_At_X m_At_Y m_Depth_Lo m_Depth_Hi m_Chain tide_Lo tide_Hi : Int) : Int :=
  bif mooring_Radius_1 m_At_X m_At_Y m_Depth_Lo m_Depth_Hi m_Chain tide_Lo tide_Hi != (0 : Int) then (0 : Int)
else span_GrowBox_0 m_At_X m_At_X m_At_Y m_At_Y (mooring_Radius_0 m_At_X m_At_Y m_Depth_Lo m_Depth_Hi m_Chain tide_Lo tide_Hi)
noncomputable def mooring_Box_1 (m_At_X m_At_Y m_Depth_Lo m_Depth_Hi m_Chain tide_Lo tide_Hi : Int) : Int :=
  bif mooring_Radius_1 m_At_X m_At_Y m_Depth_Lo m_Depth_Hi m_Chain tide_Lo tide_Hi != (0 : Int) then (0 : Int)
else span_GrowBox_1 m_At_X m_At_X m_At_Y m_At_Y (mooring_Radius_0 m_At_X m_At_Y m_Depth_Lo m_Depth_Hi m_Chain tide_Lo tide_Hi)
noncomputable def mooring_Box_2 (m_At_X m_At_Y m_Depth_Lo m_Depth_Hi m_Chain tide_Lo tide_Hi : Int) : Int :=
  bif mooring_Radius_1 m_At_X m_At_Y m_Depth_Lo m_Depth_Hi m_Chain tide_Lo tide_Hi != (0 : Int) then (0 : Int)
else span_GrowBox_2 m_At_X m_At_X m_At_Y m_At_Y (mooring_Radius_0 m_At_X m_At_Y m_Depth_Lo m_Depth_Hi m_Chain tide_Lo tide_Hi)
noncomputable def mooring_Box_3 (m_At_X m_At_Y m_Depth_Lo m_Depth_Hi m_Chain tide_Lo tide_Hi : Int) : Int :=
  bif mooring_Radius_1 m_At_X m_At_Y m_Depth_Lo m_Depth_Hi m_Chain tide_Lo tide_Hi != (0 : Int) then (0 : Int)
else span_GrowBox_3 m_At_X m_At_X m_At_Y m_At_Y (mooring_Radius_0 m_At_X m_At_Y m_Depth_Lo m_Depth_Hi m_Chain tide_Lo tide_Hi)
noncomputable def mooring_Box_4 (m_At_X m_At_Y m_Depth_Lo m_Depth_Hi m_Chain tide_Lo tide_Hi : Int) : Int :=
  bif mooring_Radius_1 m_At_X m_At_Y m_Depth_Lo m_Depth_Hi m_Chain tide_Lo tide_Hi != (0 : Int) then mooring_Radius_1 m_At_X m_At_Y m_Depth_Lo m_Depth_Hi m_Chain tide_Lo tide_Hi
else span_GrowBox_4 m_At_X m_At_X m_At_Y m_At_Y (mooring_Radius_0 m_At_X m_At_Y m_Depth_Lo m_Depth_Hi m_Chain tide_Lo tide_Hi)
def mooring_Box_pre (m_At_X m_At_Y m_Depth_Lo m_Depth_Hi m_Chain tide_Lo tide_Hi : Int) : Prop :=
  (mooring_Radius_pre m_At_X m_At_Y m_Depth_Lo m_Depth_Hi m_Chain tide_Lo tide_Hi)
noncomputable def mooring_Holds_0 (m_At_X m_At_Y m_Depth_Lo m_Depth_Hi m_Chain tide p_X p_Y : Int) : Bool :=
  bif !mooring_Valid_0 m_At_X m_At_Y m_Depth_Lo m_Depth_Hi m_Chain || !mooring_isHeights_0 tide tide || !plane_Valid_0 p_X p_Y then false
else
  mooring_afloat_has_0 (mooring_in_0 m_At_X m_At_Y m_Depth_Lo m_Depth_Hi m_Chain tide tide) (mooring_in_1 m_At_X m_At_Y m_Depth_Lo m_Depth_Hi m_Chain tide tide)
    (mooring_in_2 m_At_X m_At_Y m_Depth_Lo m_Depth_Hi m_Chain tide tide) (mooring_in_3 m_At_X m_At_Y m_Depth_Lo m_Depth_Hi m_Chain tide tide)
    (mooring_in_4 m_At_X m_At_Y m_Depth_Lo m_Depth_Hi m_Chain tide tide) (mooring_in_5 m_At_X m_At_Y m_Depth_Lo m_Depth_Hi m_Chain tide tide)
    (mooring_in_6 m_At_X m_At_Y m_Depth_Lo m_Depth_Hi m_Chain tide tide) (IntKind.i64.wrap (p_X - m_At_X)) (IntKind.i64.wrap (p_Y - m_At_Y))
noncomputable def mooring_Holds_1 (m_At_X m_At_Y m_Depth_Lo m_Depth_Hi m_Chain tide p_X p_Y : Int) : Int :=
  bif !mooring_Valid_0 m_At_X m_At_Y m_Depth_Lo m_Depth_Hi m_Chain || !mooring_isHeights_0 tide tide || !plane_Valid_0 p_X p_Y then (1 : Int) else (0 : Int)
noncomputable def top_told25r14_l1_init (m_At_X m_At_Y m_Depth_Lo m_Depth_Hi m_Chain height from_ : Int) (forecast reports wrong track : List (List Int)) (y0 : List U) : List U :=
  [.b (false), .i ((0 : Int))]
noncomputable def top_told25r14_l1_step (m_At_X m_At_Y m_Depth_Lo m_Depth_Hi m_Chain height from_ : Int) (forecast reports wrong track : List (List Int)) (y0 : List U) (y1 : List U) : Option (Nat × List U) :=
  (bif decide (gi y1 1 < (↑wrong.length : Int)) then guardP (inR (gi y1 1) wrong) (guardP (inR (gi y1 1) wrong) (some (0, [.b (gb y1 0 || (wrong.getD (gi y1 1).toNat []).getD 0 (0 : Int) == gi y0 2), .i (IntKind.i64.wrap (gi y1 1 + (1 : Int)))]))) else some (2, [.b (gb y1 0), .i (gi y1 1)]))
noncomputable def top_told25r14_l1 (m_At_X m_At_Y m_Depth_Lo m_Depth_Hi m_Chain height from_ : Int) (forecast reports wrong track : List (List Int)) (y0 : List U) : Nat × List U := loopGet (top_told25r14_l1_step m_At_X m_At_Y m_Depth_Lo m_Depth_Hi m_Chain height from_ forecast reports wrong track y0) (top_told25r14_l1_init m_At_X m_At_Y m_Depth_Lo m_Depth_Hi m_Chain height from_ forecast reports wrong track y0)
noncomputable def top_told25r14_s0 (m_At_X m_At_Y m_Depth_Lo m_Depth_Hi m_Chain height from_ : Int) (forecast reports wrong track : List (List Int)) (y0 : List U) : Int :=
  drift_Allows_1 (gi y0 1) ((reports.getD (gi y0 2).toNat []).getD 2 (0 : Int)) ((track.getD (gi y0 2).toNat []).getD 0 (0 : Int))
  ((track.getD (gi y0 2).toNat []).getD 1 (0 : Int)) ((track.getD (IntKind.i64.wrap (gi y0 2 + (1 : Int))).toNat []).getD 0 (0 : Int))
  ((track.getD (IntKind.i64.wrap (gi y0 2 + (1 : Int))).toNat []).getD 1 (0 : Int)) forecast
noncomputable def top_told25r14_s1 (m_At_X m_At_Y m_Depth_Lo m_Depth_Hi m_Chain height from_ : Int) (forecast reports wrong track : List (List Int)) (y0 : List U) : Int :=
  sighting_Allows_1 ((reports.getD (gi y0 2).toNat []).getD 0 (0 : Int)) ((reports.getD (gi y0 2).toNat []).getD 1 (0 : Int))
  ((reports.getD (gi y0 2).toNat []).getD 2 (0 : Int)) ((reports.getD (gi y0 2).toNat []).getD 3 (0 : Int))
  ((reports.getD (gi y0 2).toNat []).getD 4 (0 : Int)) ((reports.getD (gi y0 2).toNat []).getD 5 (0 : Int))
  ((reports.getD (gi y0 2).toNat []).getD 6 (0 : Int)) ((reports.getD (gi y0 2).toNat []).getD 7 (0 : Int))
  ((reports.getD (gi y0 2).toNat []).getD 8 (0 : Int)) ((reports.getD (gi y0 2).toNat []).getD 9 (0 : Int))
  ((reports.getD (gi y0 2).toNat []).getD 10 (0 : Int)) ((reports.getD (gi y0 2).toNat []).getD 11 (0 : Int))
  ((reports.getD (gi y0 2).toNat []).getD 12 (0 : Int)) ((track.getD (IntKind.i64.wrap (gi y0 2 + (1 : Int))).toNat []).getD 0 (0 : Int))
  ((track.getD (IntKind.i64.wrap (gi y0 2 + (1 : Int))).toNat []).getD 1 (0 : Int))
noncomputable def top_told25r14_l0_init (m_At_X m_At_Y m_Depth_Lo m_Depth_Hi m_Chain height from_ : Int) (forecast reports wrong track : List (List Int)) : List U :=
  [.b (mooring_Holds_1 m_At_X m_At_Y m_Depth_Lo m_Depth_Hi m_Chain height ((track.getD (Int.toNat (0 : Int)) []).getD 0 (0 : Int)) ((track.getD (Int.toNat (0 : Int)) []).getD 1 (0 : Int)) ==
    (0 : Int) &&
  mooring_Holds_0 m_At_X m_At_Y m_Depth_Lo m_Depth_Hi m_Chain height ((track.getD (Int.toNat (0 : Int)) []).getD 0 (0 : Int)) ((track.getD (Int.toNat (0 : Int)) []).getD 1 (0 : Int))), .i (from_), .i ((0 : Int))]
noncomputable def top_told25r14_l0_step (m_At_X m_At_Y m_Depth_Lo m_Depth_Hi m_Chain height from_ : Int) (forecast reports wrong track : List (List Int)) (y0 : List U) : Option (Nat × List U) :=
  (bif decide (gi y0 2 < (↑reports.length : Int)) then guardP (inR (gi y0 2) reports) (guardP (inR (gi y0 2) reports) (guardP (inR (gi y0 2) track) (guardP (inR (gi y0 2) track) (guardP (inR (IntKind.i64.wrap (gi y0 2 + (1 : Int))) track) (guardP (inR (IntKind.i64.wrap (gi y0 2 + (1 : Int))) track) (guardP (drift_Allows_pre (gi y0 1) ((reports.getD (gi y0 2).toNat []).getD 2 (0 : Int)) ((track.getD (gi y0 2).toNat []).getD 0 (0 : Int))
  ((track.getD (gi y0 2).toNat []).getD 1 (0 : Int)) ((track.getD (IntKind.i64.wrap (gi y0 2 + (1 : Int))).toNat []).getD 0 (0 : Int))
  ((track.getD (IntKind.i64.wrap (gi y0 2 + (1 : Int))).toNat []).getD 1 (0 : Int)) forecast) (guardP (inR (IntKind.i64.wrap (gi y0 2 + (1 : Int))) track) (guardP (inR (IntKind.i64.wrap (gi y0 2 + (1 : Int))) track) (guardP ((loopOk (top_told25r14_l1_step m_At_X m_At_Y m_Depth_Lo m_Depth_Hi m_Chain height from_ forecast reports wrong track y0) (top_told25r14_l1_init m_At_X m_At_Y m_Depth_Lo m_Depth_Hi m_Chain height from_ forecast reports wrong track y0))) (some (0, [.b (gb y0 0 && (top_told25r14_s0 m_At_X m_At_Y m_Depth_Lo m_Depth_Hi m_Chain height from_ forecast reports wrong track y0) == (0 : Int) &&
      drift_Allows_0 (gi y0 1) ((reports.getD (gi y0 2).toNat []).getD 2 (0 : Int)) ((track.getD (gi y0 2).toNat []).getD 0 (0 : Int))
        ((track.getD (gi y0 2).toNat []).getD 1 (0 : Int)) ((track.getD (IntKind.i64.wrap (gi y0 2 + (1 : Int))).toNat []).getD 0 (0 : Int))
        ((track.getD (IntKind.i64.wrap (gi y0 2 + (1 : Int))).toNat []).getD 1 (0 : Int)) forecast &&
    (top_told25r14_s1 m_At_X m_At_Y m_Depth_Lo m_Depth_Hi m_Chain height from_ forecast reports wrong track y0) == (0 : Int) &&
  (sighting_Allows_0 ((reports.getD (gi y0 2).toNat []).getD 0 (0 : Int)) ((reports.getD (gi y0 2).toNat []).getD 1 (0 : Int))
      ((reports.getD (gi y0 2).toNat []).getD 2 (0 : Int)) ((reports.getD (gi y0 2).toNat []).getD 3 (0 : Int))
      ((reports.getD (gi y0 2).toNat []).getD 4 (0 : Int)) ((reports.getD (gi y0 2).toNat []).getD 5 (0 : Int))
      ((reports.getD (gi y0 2).toNat []).getD 6 (0 : Int)) ((reports.getD (gi y0 2).toNat []).getD 7 (0 : Int))
      ((reports.getD (gi y0 2).toNat []).getD 8 (0 : Int)) ((reports.getD (gi y0 2).toNat []).getD 9 (0 : Int))
      ((reports.getD (gi y0 2).toNat []).getD 10 (0 : Int)) ((reports.getD (gi y0 2).toNat []).getD 11 (0 : Int))
      ((reports.getD (gi y0 2).toNat []).getD 12 (0 : Int)) ((track.getD (IntKind.i64.wrap (gi y0 2 + (1 : Int))).toNat []).getD 0 (0 : Int))
      ((track.getD (IntKind.i64.wrap (gi y0 2 + (1 : Int))).toNat []).getD 1 (0 : Int)) ||
    gb (top_told25r14_l1 m_At_X m_At_Y m_Depth_Lo m_Depth_Hi m_Chain height from_ forecast reports wrong track y0).snd 0)), .i ((reports.getD (gi y0 2).toNat []).getD 2 (0 : Int)), .i (IntKind.i64.wrap (gi y0 2 + (1 : Int)))]))))))))))) else some (2, [.b (gb y0 0), .i (gi y0 1), .i (gi y0 2)]))
noncomputable def top_told25r14_l0 (m_At_X m_At_Y m_Depth_Lo m_Depth_Hi m_Chain height from_ : Int) (forecast reports wrong track : List (List Int)) : Nat × List U := loopGet (top_told25r14_l0_step m_At_X m_At_Y m_Depth_Lo m_Depth_Hi m_Chain height from_ forecast reports wrong track) (top_told25r14_l0_init m_At_X m_At_Y m_Depth_Lo m_Depth_Hi m_Chain height from_ forecast reports wrong track)
noncomputable def top_told25r14_0 (m_At_X m_At_Y m_Depth_Lo m_Depth_Hi m_Chain height from_ : Int) (forecast reports wrong track : List (List Int)) : Bool :=
  bif (↑track.length : Int) != IntKind.i64.wrap ((↑reports.length : Int) + (1 : Int)) then false else gb (top_told25r14_l0 m_At_X m_At_Y m_Depth_Lo m_Depth_Hi m_Chain height from_ forecast reports wrong track).snd 0
def top_told25r14_pre (m_At_X m_At_Y m_Depth_Lo m_Depth_Hi m_Chain height from_ : Int) (forecast reports wrong track : List (List Int)) : Prop :=
  ((((↑track.length : Int) != IntKind.i64.wrap ((↑reports.length : Int) + (1 : Int))) = false) → ((inR (0 : Int) track) ∧ ((inR (0 : Int) track) ∧ ((loopOk (top_told25r14_l0_step m_At_X m_At_Y m_Depth_Lo m_Depth_Hi m_Chain height from_ forecast reports wrong track) (top_told25r14_l0_init m_At_X m_At_Y m_Depth_Lo m_Depth_Hi m_Chain height from_ forecast reports wrong track))))))
end Go.Proofs.Ytjibokphafpcmaa

/-! Written by program (wip/sygen.py): what the Go functions compute, as the executor reads it off their code. -/
set_option maxRecDepth 100000
set_option linter.unusedVariables false
namespace Go.Proofs.Ytjibokphafpcmaa
open Go Go.Sy
noncomputable def top_head25r14_s0  : List Int :=
  [mooring_Box_2 (0 : Int) (0 : Int) (30 : Int) (40 : Int) (50 : Int) (0 : Int) (0 : Int), mooring_Box_3 (0 : Int) (0 : Int) (30 : Int) (40 : Int) (50 : Int) (0 : Int) (0 : Int)]
noncomputable def top_head25r14_s1  : List Int :=
  mooring_Box_0 (0 : Int) (0 : Int) (30 : Int) (40 : Int) (50 : Int) (0 : Int) (0 : Int) :: mooring_Box_1 (0 : Int) (0 : Int) (30 : Int) (40 : Int) (50 : Int) (0 : Int) (0 : Int) :: (top_head25r14_s0)
noncomputable def top_head25r14_s2  : List Int :=
  [(1 : Int), (70 : Int), (70 : Int), (0 : Int), (0 : Int), (-1 : Int), (1 : Int), (-1 : Int), (-1 : Int), (20 : Int)]
noncomputable def top_head25r14_s3  : Int :=
  desk_Follow_1 (0 : Int) [(top_head25r14_s1)] [[(0 : Int), (100 : Int), (100 : Int), (200 : Int), (0 : Int), (0 : Int)]] [(1 : Int) :: (1 : Int) :: (50 : Int) :: (top_head25r14_s2)] []
noncomputable def top_head25r14_s4  : Int :=
  desk_Check_1 (0 : Int) [(top_head25r14_s1)] [[(0 : Int), (100 : Int), (100 : Int), (200 : Int), (0 : Int), (0 : Int)]] [(1 : Int) :: (1 : Int) :: (50 : Int) :: (top_head25r14_s2)] []
  [[(4 : Int), (0 : Int)], [(60 : Int), (0 : Int)]]
noncomputable def top_head25r14_s5  : List (List Int) :=
  desk_Follow_0 (0 : Int) [(top_head25r14_s1)] [[(0 : Int), (100 : Int), (100 : Int), (200 : Int), (0 : Int), (0 : Int)]] [(1 : Int) :: (1 : Int) :: (50 : Int) :: (top_head25r14_s2)] []
noncomputable def top_head25r14_0  : Bool :=
  bif
    mooring_Box_4 (0 : Int) (0 : Int) (30 : Int) (40 : Int) (50 : Int) (0 : Int) (0 : Int) != (0 : Int) || (top_head25r14_s3) != (0 : Int) || (top_head25r14_s4) != (0 : Int) ||
      (↑((top_head25r14_s5)).length : Int) != (1 : Int) then
  false
else
  desk_Check_0 (0 : Int) [(top_head25r14_s1)] [[(0 : Int), (100 : Int), (100 : Int), (200 : Int), (0 : Int), (0 : Int)]] [(1 : Int) :: (1 : Int) :: (50 : Int) :: (top_head25r14_s2)] []
      [[(4 : Int), (0 : Int)], [(60 : Int), (0 : Int)]] &&
    ((((top_head25r14_s5)).getD (Int.toNat (0 : Int)) []).getD 0 (0 : Int) == (50 : Int) &&
        ((((top_head25r14_s5)).getD (Int.toNat (0 : Int)) []).getD 1 (0 : Int) == (70 : Int) && true) &&
      ((((top_head25r14_s5)).getD (Int.toNat (0 : Int)) []).getD 2 (0 : Int) == (-4 : Int) &&
          ((((top_head25r14_s5)).getD (Int.toNat (0 : Int)) []).getD 3 (0 : Int) == (4 : Int) && true) &&
        true))
def top_head25r14_pre  : Prop :=
  ((mooring_Box_pre (0 : Int) (0 : Int) (30 : Int) (40 : Int) (50 : Int) (0 : Int) (0 : Int)) ∧ ((desk_Follow_pre (0 : Int) [(top_head25r14_s1)] [[(0 : Int), (100 : Int), (100 : Int), (200 : Int), (0 : Int), (0 : Int)]] [(1 : Int) :: (1 : Int) :: (50 : Int) :: (top_head25r14_s2)] []) ∧ ((desk_Check_pre (0 : Int) [(top_head25r14_s1)] [[(0 : Int), (100 : Int), (100 : Int), (200 : Int), (0 : Int), (0 : Int)]] [(1 : Int) :: (1 : Int) :: (50 : Int) :: (top_head25r14_s2)] []
  [[(4 : Int), (0 : Int)], [(60 : Int), (0 : Int)]]) ∧ (((mooring_Box_4 (0 : Int) (0 : Int) (30 : Int) (40 : Int) (50 : Int) (0 : Int) (0 : Int) != (0 : Int) || (top_head25r14_s3) != (0 : Int) || (top_head25r14_s4) != (0 : Int) ||
    (↑((top_head25r14_s5)).length : Int) != (1 : Int)) =
  false) → (((desk_Check_0 (0 : Int) [(top_head25r14_s1)] [[(0 : Int), (100 : Int), (100 : Int), (200 : Int), (0 : Int), (0 : Int)]] [(1 : Int) :: (1 : Int) :: (50 : Int) :: (top_head25r14_s2)] []
    [[(4 : Int), (0 : Int)], [(60 : Int), (0 : Int)]] =
  true) → (inR (0 : Int) ((top_head25r14_s5)))) ∧ ((desk_Check_0 (0 : Int) [(top_head25r14_s1)] [[(0 : Int), (100 : Int), (100 : Int), (200 : Int), (0 : Int), (0 : Int)]] [(1 : Int) :: (1 : Int) :: (50 : Int) :: (top_head25r14_s2)] []
    [[(4 : Int), (0 : Int)], [(60 : Int), (0 : Int)]] =
  true) → (inR (0 : Int) ((top_head25r14_s5)))))))))
noncomputable def top_TopAdrift_s0 (m_At_X m_At_Y m_Depth_Lo m_Depth_Hi m_Chain heights_Lo heights_Hi height from_ : Int) (forecast reports wrong track : List (List Int)) : Int :=
  drift_In_1 ((track.getD (IntKind.i64.wrap ((↑track.length : Int) - (1 : Int))).toNat []).getD 0 (0 : Int))
  ((track.getD (IntKind.i64.wrap ((↑track.length : Int) - (1 : Int))).toNat []).getD 1 (0 : Int))
  (desk_Follow_0 from_
    [[mooring_Box_0 m_At_X m_At_Y m_Depth_Lo m_Depth_Hi m_Chain heights_Lo heights_Hi, mooring_Box_1 m_At_X m_At_Y m_Depth_Lo m_Depth_Hi m_Chain heights_Lo heights_Hi,
        mooring_Box_2 m_At_X m_At_Y m_Depth_Lo m_Depth_Hi m_Chain heights_Lo heights_Hi, mooring_Box_3 m_At_X m_At_Y m_Depth_Lo m_Depth_Hi m_Chain heights_Lo heights_Hi]]
    forecast reports wrong)
noncomputable def top_TopAdrift_s1 (m_At_X m_At_Y m_Depth_Lo m_Depth_Hi m_Chain heights_Lo heights_Hi height from_ : Int) (forecast reports wrong track : List (List Int)) : Int :=
  span_InBox_1 ((track.getD (IntKind.i64.wrap ((↑track.length : Int) - (1 : Int))).toNat []).getD 0 (0 : Int))
  ((track.getD (IntKind.i64.wrap ((↑track.length : Int) - (1 : Int))).toNat []).getD 1 (0 : Int))
  (desk_Where_0 from_ (↑wrong.length : Int)
    [[mooring_Box_0 m_At_X m_At_Y m_Depth_Lo m_Depth_Hi m_Chain heights_Lo heights_Hi, mooring_Box_1 m_At_X m_At_Y m_Depth_Lo m_Depth_Hi m_Chain heights_Lo heights_Hi,
        mooring_Box_2 m_At_X m_At_Y m_Depth_Lo m_Depth_Hi m_Chain heights_Lo heights_Hi, mooring_Box_3 m_At_X m_At_Y m_Depth_Lo m_Depth_Hi m_Chain heights_Lo heights_Hi]]
    forecast reports)
  (desk_Where_1 from_ (↑wrong.length : Int)
    [[mooring_Box_0 m_At_X m_At_Y m_Depth_Lo m_Depth_Hi m_Chain heights_Lo heights_Hi, mooring_Box_1 m_At_X m_At_Y m_Depth_Lo m_Depth_Hi m_Chain heights_Lo heights_Hi,
        mooring_Box_2 m_At_X m_At_Y m_Depth_Lo m_Depth_Hi m_Chain heights_Lo heights_Hi, mooring_Box_3 m_At_X m_At_Y m_Depth_Lo m_Depth_Hi m_Chain heights_Lo heights_Hi]]
    forecast reports)
  (desk_Where_2 from_ (↑wrong.length : Int)
    [[mooring_Box_0 m_At_X m_At_Y m_Depth_Lo m_Depth_Hi m_Chain heights_Lo heights_Hi, mooring_Box_1 m_At_X m_At_Y m_Depth_Lo m_Depth_Hi m_Chain heights_Lo heights_Hi,
        mooring_Box_2 m_At_X m_At_Y m_Depth_Lo m_Depth_Hi m_Chain heights_Lo heights_Hi, mooring_Box_3 m_At_X m_At_Y m_Depth_Lo m_Depth_Hi m_Chain heights_Lo heights_Hi]]
    forecast reports)
  (desk_Where_3 from_ (↑wrong.length : Int)
    [[mooring_Box_0 m_At_X m_At_Y m_Depth_Lo m_Depth_Hi m_Chain heights_Lo heights_Hi, mooring_Box_1 m_At_X m_At_Y m_Depth_Lo m_Depth_Hi m_Chain heights_Lo heights_Hi,
        mooring_Box_2 m_At_X m_At_Y m_Depth_Lo m_Depth_Hi m_Chain heights_Lo heights_Hi, mooring_Box_3 m_At_X m_At_Y m_Depth_Lo m_Depth_Hi m_Chain heights_Lo heights_Hi]]
    forecast reports)
noncomputable def top_TopAdrift_0 (m_At_X m_At_Y m_Depth_Lo m_Depth_Hi m_Chain heights_Lo heights_Hi height from_ : Int) (forecast reports wrong track : List (List Int)) : Bool :=
  bif
    decide ((↑reports.length : Int) > (8 : Int)) || decide ((↑wrong.length : Int) > (3 : Int)) || decide ((↑track.length : Int) > (9 : Int)) || decide ((↑forecast.length : Int) > (12 : Int)) ||
        decide (height < heights_Lo) ||
      decide (height > heights_Hi) then
  top_head25r14_0
else
  bif
      mooring_Box_4 m_At_X m_At_Y m_Depth_Lo m_Depth_Hi m_Chain heights_Lo heights_Hi != (0 : Int) ||
        !top_told25r14_0 m_At_X m_At_Y m_Depth_Lo m_Depth_Hi m_Chain height from_ forecast reports wrong track then
    top_head25r14_0
  else
    bif
        desk_Check_1 from_
            [[mooring_Box_0 m_At_X m_At_Y m_Depth_Lo m_Depth_Hi m_Chain heights_Lo heights_Hi, mooring_Box_1 m_At_X m_At_Y m_Depth_Lo m_Depth_Hi m_Chain heights_Lo heights_Hi,
                mooring_Box_2 m_At_X m_At_Y m_Depth_Lo m_Depth_Hi m_Chain heights_Lo heights_Hi, mooring_Box_3 m_At_X m_At_Y m_Depth_Lo m_Depth_Hi m_Chain heights_Lo heights_Hi]]
            forecast reports wrong track !=
          (0 : Int) then
      top_head25r14_0 &&
        (desk_Check_1 from_
              [[mooring_Box_0 m_At_X m_At_Y m_Depth_Lo m_Depth_Hi m_Chain heights_Lo heights_Hi, mooring_Box_1 m_At_X m_At_Y m_Depth_Lo m_Depth_Hi m_Chain heights_Lo heights_Hi,
                  mooring_Box_2 m_At_X m_At_Y m_Depth_Lo m_Depth_Hi m_Chain heights_Lo heights_Hi, mooring_Box_3 m_At_X m_At_Y m_Depth_Lo m_Depth_Hi m_Chain heights_Lo heights_Hi]]
              forecast reports wrong track ==
            (1 : Int) ||
          desk_Check_1 from_
              [[mooring_Box_0 m_At_X m_At_Y m_Depth_Lo m_Depth_Hi m_Chain heights_Lo heights_Hi, mooring_Box_1 m_At_X m_At_Y m_Depth_Lo m_Depth_Hi m_Chain heights_Lo heights_Hi,
                  mooring_Box_2 m_At_X m_At_Y m_Depth_Lo m_Depth_Hi m_Chain heights_Lo heights_Hi, mooring_Box_3 m_At_X m_At_Y m_Depth_Lo m_Depth_Hi m_Chain heights_Lo heights_Hi]]
              forecast reports wrong track ==
            (5 : Int))
    else
      bif
          desk_Follow_1 from_
              [[mooring_Box_0 m_At_X m_At_Y m_Depth_Lo m_Depth_Hi m_Chain heights_Lo heights_Hi, mooring_Box_1 m_At_X m_At_Y m_Depth_Lo m_Depth_Hi m_Chain heights_Lo heights_Hi,
                  mooring_Box_2 m_At_X m_At_Y m_Depth_Lo m_Depth_Hi m_Chain heights_Lo heights_Hi, mooring_Box_3 m_At_X m_At_Y m_Depth_Lo m_Depth_Hi m_Chain heights_Lo heights_Hi]]
              forecast reports wrong ==
            (0 : Int) then
        bif
            desk_Where_4 from_ (↑wrong.length : Int)
                [[mooring_Box_0 m_At_X m_At_Y m_Depth_Lo m_Depth_Hi m_Chain heights_Lo heights_Hi, mooring_Box_1 m_At_X m_At_Y m_Depth_Lo m_Depth_Hi m_Chain heights_Lo heights_Hi,
                    mooring_Box_2 m_At_X m_At_Y m_Depth_Lo m_Depth_Hi m_Chain heights_Lo heights_Hi, mooring_Box_3 m_At_X m_At_Y m_Depth_Lo m_Depth_Hi m_Chain heights_Lo heights_Hi]]
                forecast reports !=
              (0 : Int) then
          top_head25r14_0 &&
                    desk_Check_0 from_
                      [[mooring_Box_0 m_At_X m_At_Y m_Depth_Lo m_Depth_Hi m_Chain heights_Lo heights_Hi, mooring_Box_1 m_At_X m_At_Y m_Depth_Lo m_Depth_Hi m_Chain heights_Lo heights_Hi,
                          mooring_Box_2 m_At_X m_At_Y m_Depth_Lo m_Depth_Hi m_Chain heights_Lo heights_Hi, mooring_Box_3 m_At_X m_At_Y m_Depth_Lo m_Depth_Hi m_Chain heights_Lo heights_Hi]]
                      forecast reports wrong track &&
                  (desk_Follow_1 from_
                        [[mooring_Box_0 m_At_X m_At_Y m_Depth_Lo m_Depth_Hi m_Chain heights_Lo heights_Hi, mooring_Box_1 m_At_X m_At_Y m_Depth_Lo m_Depth_Hi m_Chain heights_Lo heights_Hi,
                            mooring_Box_2 m_At_X m_At_Y m_Depth_Lo m_Depth_Hi m_Chain heights_Lo heights_Hi, mooring_Box_3 m_At_X m_At_Y m_Depth_Lo m_Depth_Hi m_Chain heights_Lo heights_Hi]]
                        forecast reports wrong ==
                      (0 : Int) ||
                    desk_Follow_1 from_
                        [[mooring_Box_0 m_At_X m_At_Y m_Depth_Lo m_Depth_Hi m_Chain heights_Lo heights_Hi, mooring_Box_1 m_At_X m_At_Y m_Depth_Lo m_Depth_Hi m_Chain heights_Lo heights_Hi,
                            mooring_Box_2 m_At_X m_At_Y m_Depth_Lo m_Depth_Hi m_Chain heights_Lo heights_Hi, mooring_Box_3 m_At_X m_At_Y m_Depth_Lo m_Depth_Hi m_Chain heights_Lo heights_Hi]]
                        forecast reports wrong ==
                      (3 : Int)) &&
                (top_TopAdrift_s0 m_At_X m_At_Y m_Depth_Lo m_Depth_Hi m_Chain heights_Lo heights_Hi height from_ forecast reports wrong track) == (0 : Int) &&
              drift_In_0 ((track.getD (IntKind.i64.wrap ((↑track.length : Int) - (1 : Int))).toNat []).getD 0 (0 : Int))
                ((track.getD (IntKind.i64.wrap ((↑track.length : Int) - (1 : Int))).toNat []).getD 1 (0 : Int))
                (desk_Follow_0 from_
                  [[mooring_Box_0 m_At_X m_At_Y m_Depth_Lo m_Depth_Hi m_Chain heights_Lo heights_Hi, mooring_Box_1 m_At_X m_At_Y m_Depth_Lo m_Depth_Hi m_Chain heights_Lo heights_Hi,
                      mooring_Box_2 m_At_X m_At_Y m_Depth_Lo m_Depth_Hi m_Chain heights_Lo heights_Hi, mooring_Box_3 m_At_X m_At_Y m_Depth_Lo m_Depth_Hi m_Chain heights_Lo heights_Hi]]
                  forecast reports wrong) &&
            desk_Where_4 from_ (↑wrong.length : Int)
                [[mooring_Box_0 m_At_X m_At_Y m_Depth_Lo m_Depth_Hi m_Chain heights_Lo heights_Hi, mooring_Box_1 m_At_X m_At_Y m_Depth_Lo m_Depth_Hi m_Chain heights_Lo heights_Hi,
                    mooring_Box_2 m_At_X m_At_Y m_Depth_Lo m_Depth_Hi m_Chain heights_Lo heights_Hi, mooring_Box_3 m_At_X m_At_Y m_Depth_Lo m_Depth_Hi m_Chain heights_Lo heights_Hi]]
                forecast reports ==
              (3 : Int)
        else
          top_head25r14_0 &&
                          desk_Check_0 from_
                            [[mooring_Box_0 m_At_X m_At_Y m_Depth_Lo m_Depth_Hi m_Chain heights_Lo heights_Hi, mooring_Box_1 m_At_X m_At_Y m_Depth_Lo m_Depth_Hi m_Chain heights_Lo heights_Hi,
                                mooring_Box_2 m_At_X m_At_Y m_Depth_Lo m_Depth_Hi m_Chain heights_Lo heights_Hi, mooring_Box_3 m_At_X m_At_Y m_Depth_Lo m_Depth_Hi m_Chain heights_Lo heights_Hi]]
                            forecast reports wrong track &&
                        (desk_Follow_1 from_
                              [[mooring_Box_0 m_At_X m_At_Y m_Depth_Lo m_Depth_Hi m_Chain heights_Lo heights_Hi, mooring_Box_1 m_At_X m_At_Y m_Depth_Lo m_Depth_Hi m_Chain heights_Lo heights_Hi,
                                  mooring_Box_2 m_At_X m_At_Y m_Depth_Lo m_Depth_Hi m_Chain heights_Lo heights_Hi, mooring_Box_3 m_At_X m_At_Y m_Depth_Lo m_Depth_Hi m_Chain heights_Lo heights_Hi]]
                              forecast reports wrong ==
                            (0 : Int) ||
                          desk_Follow_1 from_
                              [[mooring_Box_0 m_At_X m_At_Y m_Depth_Lo m_Depth_Hi m_Chain heights_Lo heights_Hi, mooring_Box_1 m_At_X m_At_Y m_Depth_Lo m_Depth_Hi m_Chain heights_Lo heights_Hi,
                                  mooring_Box_2 m_At_X m_At_Y m_Depth_Lo m_Depth_Hi m_Chain heights_Lo heights_Hi, mooring_Box_3 m_At_X m_At_Y m_Depth_Lo m_Depth_Hi m_Chain heights_Lo heights_Hi]]
                              forecast reports wrong ==
                            (3 : Int)) &&
                      (top_TopAdrift_s0 m_At_X m_At_Y m_Depth_Lo m_Depth_Hi m_Chain heights_Lo heights_Hi height from_ forecast reports wrong track) == (0 : Int) &&
                    drift_In_0 ((track.getD (IntKind.i64.wrap ((↑track.length : Int) - (1 : Int))).toNat []).getD 0 (0 : Int))
                      ((track.getD (IntKind.i64.wrap ((↑track.length : Int) - (1 : Int))).toNat []).getD 1 (0 : Int))
                      (desk_Follow_0 from_
                        [[mooring_Box_0 m_At_X m_At_Y m_Depth_Lo m_Depth_Hi m_Chain heights_Lo heights_Hi, mooring_Box_1 m_At_X m_At_Y m_Depth_Lo m_Depth_Hi m_Chain heights_Lo heights_Hi,
                            mooring_Box_2 m_At_X m_At_Y m_Depth_Lo m_Depth_Hi m_Chain heights_Lo heights_Hi, mooring_Box_3 m_At_X m_At_Y m_Depth_Lo m_Depth_Hi m_Chain heights_Lo heights_Hi]]
                        forecast reports wrong) &&
                  (top_TopAdrift_s1 m_At_X m_At_Y m_Depth_Lo m_Depth_Hi m_Chain heights_Lo heights_Hi height from_ forecast reports wrong track) == (0 : Int) &&
                span_InBox_0 ((track.getD (IntKind.i64.wrap ((↑track.length : Int) - (1 : Int))).toNat []).getD 0 (0 : Int))
                  ((track.getD (IntKind.i64.wrap ((↑track.length : Int) - (1 : Int))).toNat []).getD 1 (0 : Int))
                  (desk_Where_0 from_ (↑wrong.length : Int)
                    [[mooring_Box_0 m_At_X m_At_Y m_Depth_Lo m_Depth_Hi m_Chain heights_Lo heights_Hi, mooring_Box_1 m_At_X m_At_Y m_Depth_Lo m_Depth_Hi m_Chain heights_Lo heights_Hi,
                        mooring_Box_2 m_At_X m_At_Y m_Depth_Lo m_Depth_Hi m_Chain heights_Lo heights_Hi, mooring_Box_3 m_At_X m_At_Y m_Depth_Lo m_Depth_Hi m_Chain heights_Lo heights_Hi]]
                    forecast reports)
                  (desk_Where_1 from_ (↑wrong.length : Int)
                    [[mooring_Box_0 m_At_X m_At_Y m_Depth_Lo m_Depth_Hi m_Chain heights_Lo heights_Hi, mooring_Box_1 m_At_X m_At_Y m_Depth_Lo m_Depth_Hi m_Chain heights_Lo heights_Hi,
                        mooring_Box_2 m_At_X m_At_Y m_Depth_Lo m_Depth_Hi m_Chain heights_Lo heights_Hi, mooring_Box_3 m_At_X m_At_Y m_Depth_Lo m_Depth_Hi m_Chain heights_Lo heights_Hi]]
                    forecast reports)
                  (desk_Where_2 from_ (↑wrong.length : Int)
                    [[mooring_Box_0 m_At_X m_At_Y m_Depth_Lo m_Depth_Hi m_Chain heights_Lo heights_Hi, mooring_Box_1 m_At_X m_At_Y m_Depth_Lo m_Depth_Hi m_Chain heights_Lo heights_Hi,
                        mooring_Box_2 m_At_X m_At_Y m_Depth_Lo m_Depth_Hi m_Chain heights_Lo heights_Hi, mooring_Box_3 m_At_X m_At_Y m_Depth_Lo m_Depth_Hi m_Chain heights_Lo heights_Hi]]
                    forecast reports)
                  (desk_Where_3 from_ (↑wrong.length : Int)
                    [[mooring_Box_0 m_At_X m_At_Y m_Depth_Lo m_Depth_Hi m_Chain heights_Lo heights_Hi, mooring_Box_1 m_At_X m_At_Y m_Depth_Lo m_Depth_Hi m_Chain heights_Lo heights_Hi,
                        mooring_Box_2 m_At_X m_At_Y m_Depth_Lo m_Depth_Hi m_Chain heights_Lo heights_Hi, mooring_Box_3 m_At_X m_At_Y m_Depth_Lo m_Depth_Hi m_Chain heights_Lo heights_Hi]]
                    forecast reports) &&
              desk_Explain_2 from_ (↑wrong.length : Int)
                  [[mooring_Box_0 m_At_X m_At_Y m_Depth_Lo m_Depth_Hi m_Chain heights_Lo heights_Hi, mooring_Box_1 m_At_X m_At_Y m_Depth_Lo m_Depth_Hi m_Chain heights_Lo heights_Hi,
                      mooring_Box_2 m_At_X m_At_Y m_Depth_Lo m_Depth_Hi m_Chain heights_Lo heights_Hi, mooring_Box_3 m_At_X m_At_Y m_Depth_Lo m_Depth_Hi m_Chain heights_Lo heights_Hi]]
                  forecast reports ==
                (0 : Int) &&
            decide
              ((↑(desk_Explain_0 from_ (↑wrong.length : Int)
                        [[mooring_Box_0 m_At_X m_At_Y m_Depth_Lo m_Depth_Hi m_Chain heights_Lo heights_Hi, mooring_Box_1 m_At_X m_At_Y m_Depth_Lo m_Depth_Hi m_Chain heights_Lo heights_Hi,
                            mooring_Box_2 m_At_X m_At_Y m_Depth_Lo m_Depth_Hi m_Chain heights_Lo heights_Hi, mooring_Box_3 m_At_X m_At_Y m_Depth_Lo m_Depth_Hi m_Chain heights_Lo heights_Hi]]
                        forecast reports).length :
                  Int) ≤
                (↑wrong.length : Int))
      else
        bif
            desk_Where_4 from_ (↑wrong.length : Int)
                [[mooring_Box_0 m_At_X m_At_Y m_Depth_Lo m_Depth_Hi m_Chain heights_Lo heights_Hi, mooring_Box_1 m_At_X m_At_Y m_Depth_Lo m_Depth_Hi m_Chain heights_Lo heights_Hi,
                    mooring_Box_2 m_At_X m_At_Y m_Depth_Lo m_Depth_Hi m_Chain heights_Lo heights_Hi, mooring_Box_3 m_At_X m_At_Y m_Depth_Lo m_Depth_Hi m_Chain heights_Lo heights_Hi]]
                forecast reports !=
              (0 : Int) then
          top_head25r14_0 &&
                desk_Check_0 from_
                  [[mooring_Box_0 m_At_X m_At_Y m_Depth_Lo m_Depth_Hi m_Chain heights_Lo heights_Hi, mooring_Box_1 m_At_X m_At_Y m_Depth_Lo m_Depth_Hi m_Chain heights_Lo heights_Hi,
                      mooring_Box_2 m_At_X m_At_Y m_Depth_Lo m_Depth_Hi m_Chain heights_Lo heights_Hi, mooring_Box_3 m_At_X m_At_Y m_Depth_Lo m_Depth_Hi m_Chain heights_Lo heights_Hi]]
                  forecast reports wrong track &&
              (desk_Follow_1 from_
                    [[mooring_Box_0 m_At_X m_At_Y m_Depth_Lo m_Depth_Hi m_Chain heights_Lo heights_Hi, mooring_Box_1 m_At_X m_At_Y m_Depth_Lo m_Depth_Hi m_Chain heights_Lo heights_Hi,
                        mooring_Box_2 m_At_X m_At_Y m_Depth_Lo m_Depth_Hi m_Chain heights_Lo heights_Hi, mooring_Box_3 m_At_X m_At_Y m_Depth_Lo m_Depth_Hi m_Chain heights_Lo heights_Hi]]
                    forecast reports wrong ==
                  (0 : Int) ||
                desk_Follow_1 from_
                    [[mooring_Box_0 m_At_X m_At_Y m_Depth_Lo m_Depth_Hi m_Chain heights_Lo heights_Hi, mooring_Box_1 m_At_X m_At_Y m_Depth_Lo m_Depth_Hi m_Chain heights_Lo heights_Hi,
                        mooring_Box_2 m_At_X m_At_Y m_Depth_Lo m_Depth_Hi m_Chain heights_Lo heights_Hi, mooring_Box_3 m_At_X m_At_Y m_Depth_Lo m_Depth_Hi m_Chain heights_Lo heights_Hi]]
                    forecast reports wrong ==
                  (3 : Int)) &&
            desk_Where_4 from_ (↑wrong.length : Int)
                [[mooring_Box_0 m_At_X m_At_Y m_Depth_Lo m_Depth_Hi m_Chain heights_Lo heights_Hi, mooring_Box_1 m_At_X m_At_Y m_Depth_Lo m_Depth_Hi m_Chain heights_Lo heights_Hi,
                    mooring_Box_2 m_At_X m_At_Y m_Depth_Lo m_Depth_Hi m_Chain heights_Lo heights_Hi, mooring_Box_3 m_At_X m_At_Y m_Depth_Lo m_Depth_Hi m_Chain heights_Lo heights_Hi]]
                forecast reports ==
              (3 : Int)
        else
          top_head25r14_0 &&
                      desk_Check_0 from_
                        [[mooring_Box_0 m_At_X m_At_Y m_Depth_Lo m_Depth_Hi m_Chain heights_Lo heights_Hi, mooring_Box_1 m_At_X m_At_Y m_Depth_Lo m_Depth_Hi m_Chain heights_Lo heights_Hi,
                            mooring_Box_2 m_At_X m_At_Y m_Depth_Lo m_Depth_Hi m_Chain heights_Lo heights_Hi, mooring_Box_3 m_At_X m_At_Y m_Depth_Lo m_Depth_Hi m_Chain heights_Lo heights_Hi]]
                        forecast reports wrong track &&
                    (desk_Follow_1 from_
                          [[mooring_Box_0 m_At_X m_At_Y m_Depth_Lo m_Depth_Hi m_Chain heights_Lo heights_Hi, mooring_Box_1 m_At_X m_At_Y m_Depth_Lo m_Depth_Hi m_Chain heights_Lo heights_Hi,
                              mooring_Box_2 m_At_X m_At_Y m_Depth_Lo m_Depth_Hi m_Chain heights_Lo heights_Hi, mooring_Box_3 m_At_X m_At_Y m_Depth_Lo m_Depth_Hi m_Chain heights_Lo heights_Hi]]
                          forecast reports wrong ==
                        (0 : Int) ||
                      desk_Follow_1 from_
                          [[mooring_Box_0 m_At_X m_At_Y m_Depth_Lo m_Depth_Hi m_Chain heights_Lo heights_Hi, mooring_Box_1 m_At_X m_At_Y m_Depth_Lo m_Depth_Hi m_Chain heights_Lo heights_Hi,
                              mooring_Box_2 m_At_X m_At_Y m_Depth_Lo m_Depth_Hi m_Chain heights_Lo heights_Hi, mooring_Box_3 m_At_X m_At_Y m_Depth_Lo m_Depth_Hi m_Chain heights_Lo heights_Hi]]
                          forecast reports wrong ==
                        (3 : Int)) &&
                  (top_TopAdrift_s1 m_At_X m_At_Y m_Depth_Lo m_Depth_Hi m_Chain heights_Lo heights_Hi height from_ forecast reports wrong track) == (0 : Int) &&
                span_InBox_0 ((track.getD (IntKind.i64.wrap ((↑track.length : Int) - (1 : Int))).toNat []).getD 0 (0 : Int))
                  ((track.getD (IntKind.i64.wrap ((↑track.length : Int) - (1 : Int))).toNat []).getD 1 (0 : Int))
                  (desk_Where_0 from_ (↑wrong.length : Int)
                    [[mooring_Box_0 m_At_X m_At_Y m_Depth_Lo m_Depth_Hi m_Chain heights_Lo heights_Hi, mooring_Box_1 m_At_X m_At_Y m_Depth_Lo m_Depth_Hi m_Chain heights_Lo heights_Hi,
                        mooring_Box_2 m_At_X m_At_Y m_Depth_Lo m_Depth_Hi m_Chain heights_Lo heights_Hi, mooring_Box_3 m_At_X m_At_Y m_Depth_Lo m_Depth_Hi m_Chain heights_Lo heights_Hi]]
                    forecast reports)
                  (desk_Where_1 from_ (↑wrong.length : Int)
                    [[mooring_Box_0 m_At_X m_At_Y m_Depth_Lo m_Depth_Hi m_Chain heights_Lo heights_Hi, mooring_Box_1 m_At_X m_At_Y m_Depth_Lo m_Depth_Hi m_Chain heights_Lo heights_Hi,
                        mooring_Box_2 m_At_X m_At_Y m_Depth_Lo m_Depth_Hi m_Chain heights_Lo heights_Hi, mooring_Box_3 m_At_X m_At_Y m_Depth_Lo m_Depth_Hi m_Chain heights_Lo heights_Hi]]
                    forecast reports)
                  (desk_Where_2 from_ (↑wrong.length : Int)
                    [[mooring_Box_0 m_At_X m_At_Y m_Depth_Lo m_Depth_Hi m_Chain heights_Lo heights_Hi, mooring_Box_1 m_At_X m_At_Y m_Depth_Lo m_Depth_Hi m_Chain heights_Lo heights_Hi,
                        mooring_Box_2 m_At_X m_At_Y m_Depth_Lo m_Depth_Hi m_Chain heights_Lo heights_Hi, mooring_Box_3 m_At_X m_At_Y m_Depth_Lo m_Depth_Hi m_Chain heights_Lo heights_Hi]]
                    forecast reports)
                  (desk_Where_3 from_ (↑wrong.length : Int)
                    [[mooring_Box_0 m_At_X m_At_Y m_Depth_Lo m_Depth_Hi m_Chain heights_Lo heights_Hi, mooring_Box_1 m_At_X m_At_Y m_Depth_Lo m_Depth_Hi m_Chain heights_Lo heights_Hi,
                        mooring_Box_2 m_At_X m_At_Y m_Depth_Lo m_Depth_Hi m_Chain heights_Lo heights_Hi, mooring_Box_3 m_At_X m_At_Y m_Depth_Lo m_Depth_Hi m_Chain heights_Lo heights_Hi]]
                    forecast reports) &&
              desk_Explain_2 from_ (↑wrong.length : Int)
                  [[mooring_Box_0 m_At_X m_At_Y m_Depth_Lo m_Depth_Hi m_Chain heights_Lo heights_Hi, mooring_Box_1 m_At_X m_At_Y m_Depth_Lo m_Depth_Hi m_Chain heights_Lo heights_Hi,
                      mooring_Box_2 m_At_X m_At_Y m_Depth_Lo m_Depth_Hi m_Chain heights_Lo heights_Hi, mooring_Box_3 m_At_X m_At_Y m_Depth_Lo m_Depth_Hi m_Chain heights_Lo heights_Hi]]
                  forecast reports ==
                (0 : Int) &&
            decide
              ((↑(desk_Explain_0 from_ (↑wrong.length : Int)
                        [[mooring_Box_0 m_At_X m_At_Y m_Depth_Lo m_Depth_Hi m_Chain heights_Lo heights_Hi, mooring_Box_1 m_At_X m_At_Y m_Depth_Lo m_Depth_Hi m_Chain heights_Lo heights_Hi,
                            mooring_Box_2 m_At_X m_At_Y m_Depth_Lo m_Depth_Hi m_Chain heights_Lo heights_Hi, mooring_Box_3 m_At_X m_At_Y m_Depth_Lo m_Depth_Hi m_Chain heights_Lo heights_Hi]]
                        forecast reports).length :
                  Int) ≤
                (↑wrong.length : Int))
def top_TopAdrift_pre (m_At_X m_At_Y m_Depth_Lo m_Depth_Hi m_Chain heights_Lo heights_Hi height from_ : Int) (forecast reports wrong track : List (List Int)) : Prop :=
  ((top_head25r14_pre) ∧ (((decide ((↑reports.length : Int) > (8 : Int)) || decide ((↑wrong.length : Int) > (3 : Int)) || decide ((↑track.length : Int) > (9 : Int)) || decide ((↑forecast.length : Int) > (12 : Int)) ||
      decide (height < heights_Lo) ||
    decide (height > heights_Hi)) =
  false) → ((mooring_Box_pre m_At_X m_At_Y m_Depth_Lo m_Depth_Hi m_Chain heights_Lo heights_Hi) ∧ ((((mooring_Box_4 m_At_X m_At_Y m_Depth_Lo m_Depth_Hi m_Chain heights_Lo heights_Hi != (0 : Int)) = false) → (top_told25r14_pre m_At_X m_At_Y m_Depth_Lo m_Depth_Hi m_Chain height from_ forecast reports wrong track)) ∧ (((mooring_Box_4 m_At_X m_At_Y m_Depth_Lo m_Depth_Hi m_Chain heights_Lo heights_Hi != (0 : Int) ||
    !top_told25r14_0 m_At_X m_At_Y m_Depth_Lo m_Depth_Hi m_Chain height from_ forecast reports wrong track) =
  false) → ((desk_Check_pre from_
  [[mooring_Box_0 m_At_X m_At_Y m_Depth_Lo m_Depth_Hi m_Chain heights_Lo heights_Hi, mooring_Box_1 m_At_X m_At_Y m_Depth_Lo m_Depth_Hi m_Chain heights_Lo heights_Hi,
      mooring_Box_2 m_At_X m_At_Y m_Depth_Lo m_Depth_Hi m_Chain heights_Lo heights_Hi, mooring_Box_3 m_At_X m_At_Y m_Depth_Lo m_Depth_Hi m_Chain heights_Lo heights_Hi]]
  forecast reports wrong track) ∧ (((desk_Check_1 from_
      [[mooring_Box_0 m_At_X m_At_Y m_Depth_Lo m_Depth_Hi m_Chain heights_Lo heights_Hi, mooring_Box_1 m_At_X m_At_Y m_Depth_Lo m_Depth_Hi m_Chain heights_Lo heights_Hi,
          mooring_Box_2 m_At_X m_At_Y m_Depth_Lo m_Depth_Hi m_Chain heights_Lo heights_Hi, mooring_Box_3 m_At_X m_At_Y m_Depth_Lo m_Depth_Hi m_Chain heights_Lo heights_Hi]]
      forecast reports wrong track !=
    (0 : Int)) =
  false) → ((inR (IntKind.i64.wrap ((↑track.length : Int) - (1 : Int))) track) ∧ ((inR (IntKind.i64.wrap ((↑track.length : Int) - (1 : Int))) track) ∧ ((desk_Follow_pre from_
  [[mooring_Box_0 m_At_X m_At_Y m_Depth_Lo m_Depth_Hi m_Chain heights_Lo heights_Hi, mooring_Box_1 m_At_X m_At_Y m_Depth_Lo m_Depth_Hi m_Chain heights_Lo heights_Hi,
      mooring_Box_2 m_At_X m_At_Y m_Depth_Lo m_Depth_Hi m_Chain heights_Lo heights_Hi, mooring_Box_3 m_At_X m_At_Y m_Depth_Lo m_Depth_Hi m_Chain heights_Lo heights_Hi]]
  forecast reports wrong) ∧ ((((desk_Follow_1 from_
      [[mooring_Box_0 m_At_X m_At_Y m_Depth_Lo m_Depth_Hi m_Chain heights_Lo heights_Hi, mooring_Box_1 m_At_X m_At_Y m_Depth_Lo m_Depth_Hi m_Chain heights_Lo heights_Hi,
          mooring_Box_2 m_At_X m_At_Y m_Depth_Lo m_Depth_Hi m_Chain heights_Lo heights_Hi, mooring_Box_3 m_At_X m_At_Y m_Depth_Lo m_Depth_Hi m_Chain heights_Lo heights_Hi]]
      forecast reports wrong ==
    (0 : Int)) =
  true) → ((drift_In_pre ((track.getD (IntKind.i64.wrap ((↑track.length : Int) - (1 : Int))).toNat []).getD 0 (0 : Int))
  ((track.getD (IntKind.i64.wrap ((↑track.length : Int) - (1 : Int))).toNat []).getD 1 (0 : Int))
  (desk_Follow_0 from_
    [[mooring_Box_0 m_At_X m_At_Y m_Depth_Lo m_Depth_Hi m_Chain heights_Lo heights_Hi, mooring_Box_1 m_At_X m_At_Y m_Depth_Lo m_Depth_Hi m_Chain heights_Lo heights_Hi,
        mooring_Box_2 m_At_X m_At_Y m_Depth_Lo m_Depth_Hi m_Chain heights_Lo heights_Hi, mooring_Box_3 m_At_X m_At_Y m_Depth_Lo m_Depth_Hi m_Chain heights_Lo heights_Hi]]
    forecast reports wrong)) ∧ ((desk_Where_pre from_ (↑wrong.length : Int)
  [[mooring_Box_0 m_At_X m_At_Y m_Depth_Lo m_Depth_Hi m_Chain heights_Lo heights_Hi, mooring_Box_1 m_At_X m_At_Y m_Depth_Lo m_Depth_Hi m_Chain heights_Lo heights_Hi,
      mooring_Box_2 m_At_X m_At_Y m_Depth_Lo m_Depth_Hi m_Chain heights_Lo heights_Hi, mooring_Box_3 m_At_X m_At_Y m_Depth_Lo m_Depth_Hi m_Chain heights_Lo heights_Hi]]
  forecast reports) ∧ (desk_Explain_pre from_ (↑wrong.length : Int)
  [[mooring_Box_0 m_At_X m_At_Y m_Depth_Lo m_Depth_Hi m_Chain heights_Lo heights_Hi, mooring_Box_1 m_At_X m_At_Y m_Depth_Lo m_Depth_Hi m_Chain heights_Lo heights_Hi,
      mooring_Box_2 m_At_X m_At_Y m_Depth_Lo m_Depth_Hi m_Chain heights_Lo heights_Hi, mooring_Box_3 m_At_X m_At_Y m_Depth_Lo m_Depth_Hi m_Chain heights_Lo heights_Hi]]
  forecast reports)))) ∧ (((desk_Follow_1 from_
      [[mooring_Box_0 m_At_X m_At_Y m_Depth_Lo m_Depth_Hi m_Chain heights_Lo heights_Hi, mooring_Box_1 m_At_X m_At_Y m_Depth_Lo m_Depth_Hi m_Chain heights_Lo heights_Hi,
          mooring_Box_2 m_At_X m_At_Y m_Depth_Lo m_Depth_Hi m_Chain heights_Lo heights_Hi, mooring_Box_3 m_At_X m_At_Y m_Depth_Lo m_Depth_Hi m_Chain heights_Lo heights_Hi]]
      forecast reports wrong ==
    (0 : Int)) =
  false) → ((desk_Where_pre from_ (↑wrong.length : Int)
  [[mooring_Box_0 m_At_X m_At_Y m_Depth_Lo m_Depth_Hi m_Chain heights_Lo heights_Hi, mooring_Box_1 m_At_X m_At_Y m_Depth_Lo m_Depth_Hi m_Chain heights_Lo heights_Hi,
      mooring_Box_2 m_At_X m_At_Y m_Depth_Lo m_Depth_Hi m_Chain heights_Lo heights_Hi, mooring_Box_3 m_At_X m_At_Y m_Depth_Lo m_Depth_Hi m_Chain heights_Lo heights_Hi]]
  forecast reports) ∧ (desk_Explain_pre from_ (↑wrong.length : Int)
  [[mooring_Box_0 m_At_X m_At_Y m_Depth_Lo m_Depth_Hi m_Chain heights_Lo heights_Hi, mooring_Box_1 m_At_X m_At_Y m_Depth_Lo m_Depth_Hi m_Chain heights_Lo heights_Hi,
      mooring_Box_2 m_At_X m_At_Y m_Depth_Lo m_Depth_Hi m_Chain heights_Lo heights_Hi, mooring_Box_3 m_At_X m_At_Y m_Depth_Lo m_Depth_Hi m_Chain heights_Lo heights_Hi]]
  forecast reports))))))))))))))
end Go.Proofs.Ytjibokphafpcmaa
