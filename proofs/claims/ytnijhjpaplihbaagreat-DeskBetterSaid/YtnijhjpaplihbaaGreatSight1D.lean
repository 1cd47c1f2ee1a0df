/- Written by program (wip/sygen.py): what the Go functions compute, as the executor reads it off their code. -/
import Derived.Test.YtnijhjpaplihbaaGreatSyD
import Derived.Test.YtnijhjpaplihbaaGreatDrift1D
set_option maxRecDepth 100000
set_option linter.unusedVariables false
namespace Go.Proofs.YtnijhjpaplihbaaGreat
open Go Go.Sy
noncomputable def ref24_Ints_l0_init (a b : List (List Int)) : List U :=
  [.b (false), .i ((0 : Int))]
noncomputable def ref24_Ints_l0_step (a b : List (List Int)) (y0 : List U) : Option (Nat × List U) :=
  (bif decide (gi y0 1 < (↑a.length : Int)) then guardP (inR (gi y0 1) a) (guardP (inR (gi y0 1) a) (guardP (inR (gi y0 1) b) (guardP (inR (gi y0 1) b) ((bif (a.getD (gi y0 1).toNat []).getD 0 (0 : Int) != (b.getD (gi y0 1).toNat []).getD 0 (0 : Int) then some (1, []) else some (0, [.b (gb y0 0), .i (IntKind.i64.wrap (gi y0 1 + (1 : Int)))])))))) else some (3, [.b (gb y0 0), .i (gi y0 1)]))
noncomputable def ref24_Ints_l0 (a b : List (List Int)) : Nat × List U := loopGet (ref24_Ints_l0_step a b) (ref24_Ints_l0_init a b)
noncomputable def ref24_Ints_0 (a b : List (List Int)) : Bool :=
  bif (↑a.length : Int) != (↑b.length : Int) then false else bif (ref24_Ints_l0 a b).fst.beq 1 then false else true
def ref24_Ints_pre (a b : List (List Int)) : Prop :=
  ((((↑a.length : Int) != (↑b.length : Int)) = false) → ((loopOk (ref24_Ints_l0_step a b) (ref24_Ints_l0_init a b))))
noncomputable def plane_Valid_0 (p_X p_Y : Int) : Bool :=
  decide (imax p_X p_Y ≤ (1000000 : Int)) && decide (imin p_X p_Y ≥ (-1000000 : Int))
noncomputable def span_kept_0 (s_Lo s_Hi : Int) : Int :=
  bif !span_Valid_0 s_Lo s_Hi then (0 : Int) else s_Lo
noncomputable def span_kept_1 (s_Lo s_Hi : Int) : Int :=
  bif !span_Valid_0 s_Lo s_Hi then (0 : Int) else s_Hi
noncomputable def span_kept_2 (s_Lo s_Hi : Int) : Int :=
  bif !span_Valid_0 s_Lo s_Hi then (3 : Int) else (0 : Int)
noncomputable def span_Sub_0 (s_Lo s_Hi t_Lo t_Hi : Int) : Int :=
  bif !span_Valid_0 s_Lo s_Hi || !span_Valid_0 t_Lo t_Hi then (0 : Int) else span_kept_0 (IntKind.i64.wrap (s_Lo - t_Hi)) (IntKind.i64.wrap (s_Hi - t_Lo))
noncomputable def span_Sub_1 (s_Lo s_Hi t_Lo t_Hi : Int) : Int :=
  bif !span_Valid_0 s_Lo s_Hi || !span_Valid_0 t_Lo t_Hi then (0 : Int) else span_kept_1 (IntKind.i64.wrap (s_Lo - t_Hi)) (IntKind.i64.wrap (s_Hi - t_Lo))
noncomputable def span_Sub_2 (s_Lo s_Hi t_Lo t_Hi : Int) : Int :=
  bif !span_Valid_0 s_Lo s_Hi || !span_Valid_0 t_Lo t_Hi then (1 : Int) else span_kept_2 (IntKind.i64.wrap (s_Lo - t_Hi)) (IntKind.i64.wrap (s_Hi - t_Lo))
noncomputable def sighting_isID_0 (n : Int) : Bool :=
  decide (n ≥ (1 : Int)) && decide (n ≤ (100000 : Int))
noncomputable def sighting_isDirection_0 (p_X p_Y : Int) : Bool :=
  decide (imax p_X p_Y ≤ (1000000 : Int)) && decide (imin p_X p_Y ≥ (-1000000 : Int))
noncomputable def sighting_cross_0 (v_X v_Y w_X w_Y : Int) : Int :=
  IntKind.i64.wrap (IntKind.i64.wrap (v_X * w_Y) - IntKind.i64.wrap (v_Y * w_X))
noncomputable def sighting_Valid_0 (r_Ship r_Number r_Time r_Buoy r_At_X_Lo r_At_X_Hi r_At_Y_Lo r_At_Y_Hi r_From_X r_From_Y r_To_X r_To_Y r_Far : Int) : Bool :=
  bif
    !sighting_isID_0 r_Ship || !sighting_isID_0 r_Number || !sighting_isID_0 r_Buoy || decide (r_Time < (0 : Int)) || decide (r_Time > (10000000 : Int)) || decide (r_Far < (0 : Int)) ||
      decide (r_Far > (1000000 : Int)) then
  false
else
  span_ValidBox_0 r_At_X_Lo r_At_X_Hi r_At_Y_Lo r_At_Y_Hi && sighting_isDirection_0 r_From_X r_From_Y && sighting_isDirection_0 r_To_X r_To_Y &&
    decide (sighting_cross_0 r_From_X r_From_Y r_To_X r_To_Y > (0 : Int))
noncomputable def sighting_reach_0 (s_Lo s_Hi from_ to_ far : Int) : Int :=
  bif decide (imin from_ to_ < (0 : Int)) then
  bif decide (imax from_ to_ > (0 : Int)) then imax (IntKind.i64.wrap (s_Lo - far)) (-1000000 : Int) else imax (IntKind.i64.wrap (s_Lo - far)) (-1000000 : Int)
else bif decide (imax from_ to_ > (0 : Int)) then s_Lo else s_Lo
noncomputable def sighting_reach_1 (s_Lo s_Hi from_ to_ far : Int) : Int :=
  bif decide (imin from_ to_ < (0 : Int)) then bif decide (imax from_ to_ > (0 : Int)) then imin (IntKind.i64.wrap (s_Hi + far)) (1000000 : Int) else s_Hi
else bif decide (imax from_ to_ > (0 : Int)) then imin (IntKind.i64.wrap (s_Hi + far)) (1000000 : Int) else s_Hi
noncomputable def sighting_Box_0 (r_Ship r_Number r_Time r_Buoy r_At_X_Lo r_At_X_Hi r_At_Y_Lo r_At_Y_Hi r_From_X r_From_Y r_To_X r_To_Y r_Far : Int) : Int :=
  bif !sighting_Valid_0 r_Ship r_Number r_Time r_Buoy r_At_X_Lo r_At_X_Hi r_At_Y_Lo r_At_Y_Hi r_From_X r_From_Y r_To_X r_To_Y r_Far then (0 : Int)
else sighting_reach_0 r_At_X_Lo r_At_X_Hi r_From_X r_To_X r_Far
noncomputable def sighting_Box_1 (r_Ship r_Number r_Time r_Buoy r_At_X_Lo r_At_X_Hi r_At_Y_Lo r_At_Y_Hi r_From_X r_From_Y r_To_X r_To_Y r_Far : Int) : Int :=
  bif !sighting_Valid_0 r_Ship r_Number r_Time r_Buoy r_At_X_Lo r_At_X_Hi r_At_Y_Lo r_At_Y_Hi r_From_X r_From_Y r_To_X r_To_Y r_Far then (0 : Int)
else sighting_reach_1 r_At_X_Lo r_At_X_Hi r_From_X r_To_X r_Far
noncomputable def sighting_Box_2 (r_Ship r_Number r_Time r_Buoy r_At_X_Lo r_At_X_Hi r_At_Y_Lo r_At_Y_Hi r_From_X r_From_Y r_To_X r_To_Y r_Far : Int) : Int :=
  bif !sighting_Valid_0 r_Ship r_Number r_Time r_Buoy r_At_X_Lo r_At_X_Hi r_At_Y_Lo r_At_Y_Hi r_From_X r_From_Y r_To_X r_To_Y r_Far then (0 : Int)
else sighting_reach_0 r_At_Y_Lo r_At_Y_Hi r_From_Y r_To_Y r_Far
noncomputable def sighting_Box_3 (r_Ship r_Number r_Time r_Buoy r_At_X_Lo r_At_X_Hi r_At_Y_Lo r_At_Y_Hi r_From_X r_From_Y r_To_X r_To_Y r_Far : Int) : Int :=
  bif !sighting_Valid_0 r_Ship r_Number r_Time r_Buoy r_At_X_Lo r_At_X_Hi r_At_Y_Lo r_At_Y_Hi r_From_X r_From_Y r_To_X r_To_Y r_Far then (0 : Int)
else sighting_reach_1 r_At_Y_Lo r_At_Y_Hi r_From_Y r_To_Y r_Far
noncomputable def sighting_Box_4 (r_Ship r_Number r_Time r_Buoy r_At_X_Lo r_At_X_Hi r_At_Y_Lo r_At_Y_Hi r_From_X r_From_Y r_To_X r_To_Y r_Far : Int) : Int :=
  bif !sighting_Valid_0 r_Ship r_Number r_Time r_Buoy r_At_X_Lo r_At_X_Hi r_At_Y_Lo r_At_Y_Hi r_From_X r_From_Y r_To_X r_To_Y r_Far then (1 : Int) else (0 : Int)
noncomputable def sighting_leads_0 (s_Lo s_Hi from_ to_ : Int) : Bool :=
  (decide (s_Lo ≤ (0 : Int)) || decide (from_ > (0 : Int)) || decide (to_ > (0 : Int))) && (decide (s_Hi ≥ (0 : Int)) || decide (from_ < (0 : Int)) || decide (to_ < (0 : Int)))
noncomputable def sighting_cone_meets_0 (c_from_X c_from_Y c_to_X c_to_Y b_X_Lo b_X_Hi b_Y_Lo b_Y_Hi : Int) : Bool :=
  (sighting_leads_0 b_X_Lo b_X_Hi c_from_X c_to_X && sighting_leads_0 b_Y_Lo b_Y_Hi c_from_Y c_to_Y &&
    bif decide (sighting_cross_0 c_from_X c_from_Y b_X_Lo b_Y_Lo ≥ (0 : Int)) then true
    else
      bif decide (sighting_cross_0 c_from_X c_from_Y b_X_Lo b_Y_Hi ≥ (0 : Int)) then true
      else bif decide (sighting_cross_0 c_from_X c_from_Y b_X_Hi b_Y_Lo ≥ (0 : Int)) then true else bif decide (sighting_cross_0 c_from_X c_from_Y b_X_Hi b_Y_Hi ≥ (0 : Int)) then true else false) &&
  bif decide (sighting_cross_0 b_X_Lo b_Y_Lo c_to_X c_to_Y ≥ (0 : Int)) then true
  else
    bif decide (sighting_cross_0 b_X_Lo b_Y_Hi c_to_X c_to_Y ≥ (0 : Int)) then true
    else bif decide (sighting_cross_0 b_X_Hi b_Y_Lo c_to_X c_to_Y ≥ (0 : Int)) then true else bif decide (sighting_cross_0 b_X_Hi b_Y_Hi c_to_X c_to_Y ≥ (0 : Int)) then true else false
noncomputable def sighting_sees_0 (r_Ship r_Number r_Time r_Buoy r_At_X_Lo r_At_X_Hi r_At_Y_Lo r_At_Y_Hi r_From_X r_From_Y r_To_X r_To_Y r_Far b_X_Lo b_X_Hi b_Y_Lo b_Y_Hi : Int) : Bool :=
  span_Meet_2 (span_Sub_0 b_X_Lo b_X_Hi r_At_X_Lo r_At_X_Hi) (span_Sub_1 b_X_Lo b_X_Hi r_At_X_Lo r_At_X_Hi) (IntKind.i64.wrap ((0 : Int) - r_Far)) r_Far == (0 : Int) &&
    span_Meet_2 (span_Sub_0 b_Y_Lo b_Y_Hi r_At_Y_Lo r_At_Y_Hi) (span_Sub_1 b_Y_Lo b_Y_Hi r_At_Y_Lo r_At_Y_Hi) (IntKind.i64.wrap ((0 : Int) - r_Far)) r_Far == (0 : Int) &&
  sighting_cone_meets_0 r_From_X r_From_Y r_To_X r_To_Y
    (span_Meet_0 (span_Sub_0 b_X_Lo b_X_Hi r_At_X_Lo r_At_X_Hi) (span_Sub_1 b_X_Lo b_X_Hi r_At_X_Lo r_At_X_Hi) (IntKind.i64.wrap ((0 : Int) - r_Far)) r_Far)
    (span_Meet_1 (span_Sub_0 b_X_Lo b_X_Hi r_At_X_Lo r_At_X_Hi) (span_Sub_1 b_X_Lo b_X_Hi r_At_X_Lo r_At_X_Hi) (IntKind.i64.wrap ((0 : Int) - r_Far)) r_Far)
    (span_Meet_0 (span_Sub_0 b_Y_Lo b_Y_Hi r_At_Y_Lo r_At_Y_Hi) (span_Sub_1 b_Y_Lo b_Y_Hi r_At_Y_Lo r_At_Y_Hi) (IntKind.i64.wrap ((0 : Int) - r_Far)) r_Far)
    (span_Meet_1 (span_Sub_0 b_Y_Lo b_Y_Hi r_At_Y_Lo r_At_Y_Hi) (span_Sub_1 b_Y_Lo b_Y_Hi r_At_Y_Lo r_At_Y_Hi) (IntKind.i64.wrap ((0 : Int) - r_Far)) r_Far)
noncomputable def sighting_Allows_0 (r_Ship r_Number r_Time r_Buoy r_At_X_Lo r_At_X_Hi r_At_Y_Lo r_At_Y_Hi r_From_X r_From_Y r_To_X r_To_Y r_Far p_X p_Y : Int) : Bool :=
  bif !sighting_Valid_0 r_Ship r_Number r_Time r_Buoy r_At_X_Lo r_At_X_Hi r_At_Y_Lo r_At_Y_Hi r_From_X r_From_Y r_To_X r_To_Y r_Far || !plane_Valid_0 p_X p_Y then false
else sighting_sees_0 r_Ship r_Number r_Time r_Buoy r_At_X_Lo r_At_X_Hi r_At_Y_Lo r_At_Y_Hi r_From_X r_From_Y r_To_X r_To_Y r_Far p_X p_X p_Y p_Y
noncomputable def sighting_Allows_1 (r_Ship r_Number r_Time r_Buoy r_At_X_Lo r_At_X_Hi r_At_Y_Lo r_At_Y_Hi r_From_X r_From_Y r_To_X r_To_Y r_Far p_X p_Y : Int) : Int :=
  bif !sighting_Valid_0 r_Ship r_Number r_Time r_Buoy r_At_X_Lo r_At_X_Hi r_At_Y_Lo r_At_Y_Hi r_From_X r_From_Y r_To_X r_To_Y r_Far || !plane_Valid_0 p_X p_Y then (1 : Int) else (0 : Int)
noncomputable def sighting_valid_l0_init (list : List (List Int)) : List U :=
  [.i ((0 : Int)), .i ((0 : Int))]
noncomputable def sighting_valid_l0_step (list : List (List Int)) (y0 : List U) : Option (Nat × List U) :=
  (bif decide (gi y0 1 < (↑list.length : Int)) then guardP (inR (gi y0 1) list) (guardP (inR (gi y0 1) list) ((bif !sighting_Valid_0 ((list.getD (gi y0 1).toNat []).getD 0 (0 : Int)) ((list.getD (gi y0 1).toNat []).getD 1 (0 : Int))
    ((list.getD (gi y0 1).toNat []).getD 2 (0 : Int)) ((list.getD (gi y0 1).toNat []).getD 3 (0 : Int))
    ((list.getD (gi y0 1).toNat []).getD 4 (0 : Int)) ((list.getD (gi y0 1).toNat []).getD 5 (0 : Int))
    ((list.getD (gi y0 1).toNat []).getD 6 (0 : Int)) ((list.getD (gi y0 1).toNat []).getD 7 (0 : Int))
    ((list.getD (gi y0 1).toNat []).getD 8 (0 : Int)) ((list.getD (gi y0 1).toNat []).getD 9 (0 : Int))
    ((list.getD (gi y0 1).toNat []).getD 10 (0 : Int)) ((list.getD (gi y0 1).toNat []).getD 11 (0 : Int))
    ((list.getD (gi y0 1).toNat []).getD 12 (0 : Int)) then some (1, [.i (gi y0 1)]) else some (0, [.i (gi y0 0), .i (IntKind.i64.wrap (gi y0 1 + (1 : Int)))])))) else some (3, [.i (gi y0 0), .i (gi y0 1)]))
noncomputable def sighting_valid_l0 (list : List (List Int)) : Nat × List U := loopGet (sighting_valid_l0_step list) (sighting_valid_l0_init list)
noncomputable def sighting_valid_0 (list : List (List Int)) : Bool :=
  decide ((↑list.length : Int) ≤ (60 : Int)) && !decide ((bif (sighting_valid_l0 list).fst.beq 1 then gi (sighting_valid_l0 list).snd 0 else (-1 : Int)) ≥ (0 : Int))
def sighting_valid_pre (list : List (List Int)) : Prop :=
  ((decide ((↑list.length : Int) ≤ (60 : Int)) = true) → ((loopOk (sighting_valid_l0_step list) (sighting_valid_l0_init list))))
noncomputable def sighting_Merge_l0_init (list : List (List Int)) : List U :=
  [.i ((0 : Int)), .r ([]), .r ([]), .r ([])]
noncomputable def sighting_Merge_l0_step (list : List (List Int)) (y0 : List U) : Option (Nat × List U) :=
  (bif decide (gi y0 0 < (↑list.length : Int)) then guardP (inR (gi y0 0) list) (guardP (inR (gi y0 0) list) (guardP (keyWf IntKind.i64 [(list.getD (gi y0 0).toNat []).getD 0 (0 : Int), (list.getD (gi y0 0).toNat []).getD 1 (0 : Int)]) ((bif !(findRow 2 [(list.getD (gi y0 0).toNat []).getD 0 (0 : Int), (list.getD (gi y0 0).toNat []).getD 1 (0 : Int)] (gr y0 1)).isSome then guardP (keyWf IntKind.i64 [(list.getD (gi y0 0).toNat []).getD 0 (0 : Int), (list.getD (gi y0 0).toNat []).getD 1 (0 : Int)]) (guardP (fitsA 104
  ((gr y0 2).length +
    [[(list.getD (gi y0 0).toNat []).getD 0 (0 : Int), (list.getD (gi y0 0).toNat []).getD 1 (0 : Int), (list.getD (gi y0 0).toNat []).getD 2 (0 : Int),
          (list.getD (gi y0 0).toNat []).getD 3 (0 : Int), (list.getD (gi y0 0).toNat []).getD 4 (0 : Int),
          (list.getD (gi y0 0).toNat []).getD 5 (0 : Int), (list.getD (gi y0 0).toNat []).getD 6 (0 : Int),
          (list.getD (gi y0 0).toNat []).getD 7 (0 : Int), (list.getD (gi y0 0).toNat []).getD 8 (0 : Int),
          (list.getD (gi y0 0).toNat []).getD 9 (0 : Int), (list.getD (gi y0 0).toNat []).getD 10 (0 : Int),
          (list.getD (gi y0 0).toNat []).getD 11 (0 : Int), (list.getD (gi y0 0).toNat []).getD 12 (0 : Int)]].length)) (some (0, [.i (IntKind.i64.wrap (gi y0 0 + (1 : Int))), .r (putRow 2 [(list.getD (gi y0 0).toNat []).getD 0 (0 : Int), (list.getD (gi y0 0).toNat []).getD 1 (0 : Int)]
  [(list.getD (gi y0 0).toNat []).getD 0 (0 : Int), (list.getD (gi y0 0).toNat []).getD 1 (0 : Int), (list.getD (gi y0 0).toNat []).getD 2 (0 : Int),
    (list.getD (gi y0 0).toNat []).getD 3 (0 : Int), (list.getD (gi y0 0).toNat []).getD 4 (0 : Int), (list.getD (gi y0 0).toNat []).getD 5 (0 : Int),
    (list.getD (gi y0 0).toNat []).getD 6 (0 : Int), (list.getD (gi y0 0).toNat []).getD 7 (0 : Int), (list.getD (gi y0 0).toNat []).getD 8 (0 : Int),
    (list.getD (gi y0 0).toNat []).getD 9 (0 : Int), (list.getD (gi y0 0).toNat []).getD 10 (0 : Int), (list.getD (gi y0 0).toNat []).getD 11 (0 : Int),
    (list.getD (gi y0 0).toNat []).getD 12 (0 : Int)]
  (gr y0 1)), .r (gr y0 2 ++
  [[(list.getD (gi y0 0).toNat []).getD 0 (0 : Int), (list.getD (gi y0 0).toNat []).getD 1 (0 : Int), (list.getD (gi y0 0).toNat []).getD 2 (0 : Int),
      (list.getD (gi y0 0).toNat []).getD 3 (0 : Int), (list.getD (gi y0 0).toNat []).getD 4 (0 : Int), (list.getD (gi y0 0).toNat []).getD 5 (0 : Int),
      (list.getD (gi y0 0).toNat []).getD 6 (0 : Int), (list.getD (gi y0 0).toNat []).getD 7 (0 : Int), (list.getD (gi y0 0).toNat []).getD 8 (0 : Int),
      (list.getD (gi y0 0).toNat []).getD 9 (0 : Int), (list.getD (gi y0 0).toNat []).getD 10 (0 : Int),
      (list.getD (gi y0 0).toNat []).getD 11 (0 : Int), (list.getD (gi y0 0).toNat []).getD 12 (0 : Int)]]), .r (gr y0 3)]))) else (bif !(((findRow 2 [(list.getD (gi y0 0).toNat []).getD 0 (0 : Int), (list.getD (gi y0 0).toNat []).getD 1 (0 : Int)] (gr y0 1)).getD
            [(0 : Int), (0 : Int), (0 : Int), (0 : Int), (0 : Int), (0 : Int), (0 : Int), (0 : Int), (0 : Int), (0 : Int), (0 : Int), (0 : Int), (0 : Int)]).getD
        0 (0 : Int) ==
      (list.getD (gi y0 0).toNat []).getD 0 (0 : Int) &&
    (((findRow 2 [(list.getD (gi y0 0).toNat []).getD 0 (0 : Int), (list.getD (gi y0 0).toNat []).getD 1 (0 : Int)] (gr y0 1)).getD
              [(0 : Int), (0 : Int), (0 : Int), (0 : Int), (0 : Int), (0 : Int), (0 : Int), (0 : Int), (0 : Int), (0 : Int), (0 : Int), (0 : Int), (0 : Int)]).getD
          1 (0 : Int) ==
        (list.getD (gi y0 0).toNat []).getD 1 (0 : Int) &&
      (((findRow 2 [(list.getD (gi y0 0).toNat []).getD 0 (0 : Int), (list.getD (gi y0 0).toNat []).getD 1 (0 : Int)] (gr y0 1)).getD
                [(0 : Int), (0 : Int), (0 : Int), (0 : Int), (0 : Int), (0 : Int), (0 : Int), (0 : Int), (0 : Int), (0 : Int), (0 : Int), (0 : Int), (0 : Int)]).getD
            2 (0 : Int) ==
          (list.getD (gi y0 0).toNat []).getD 2 (0 : Int) &&
        (((findRow 2 [(list.getD (gi y0 0).toNat []).getD 0 (0 : Int), (list.getD (gi y0 0).toNat []).getD 1 (0 : Int)] (gr y0 1)).getD
                  [(0 : Int), (0 : Int), (0 : Int), (0 : Int), (0 : Int), (0 : Int), (0 : Int), (0 : Int), (0 : Int), (0 : Int), (0 : Int), (0 : Int), (0 : Int)]).getD
              3 (0 : Int) ==
            (list.getD (gi y0 0).toNat []).getD 3 (0 : Int) &&
          (((findRow 2 [(list.getD (gi y0 0).toNat []).getD 0 (0 : Int), (list.getD (gi y0 0).toNat []).getD 1 (0 : Int)] (gr y0 1)).getD
                        [(0 : Int), (0 : Int), (0 : Int), (0 : Int), (0 : Int), (0 : Int), (0 : Int), (0 : Int), (0 : Int), (0 : Int), (0 : Int), (0 : Int), (0 : Int)]).getD
                    4 (0 : Int) ==
                  (list.getD (gi y0 0).toNat []).getD 4 (0 : Int) &&
                (((findRow 2 [(list.getD (gi y0 0).toNat []).getD 0 (0 : Int), (list.getD (gi y0 0).toNat []).getD 1 (0 : Int)] (gr y0 1)).getD
                          [(0 : Int), (0 : Int), (0 : Int), (0 : Int), (0 : Int), (0 : Int), (0 : Int), (0 : Int), (0 : Int), (0 : Int), (0 : Int), (0 : Int), (0 : Int)]).getD
                      5 (0 : Int) ==
                    (list.getD (gi y0 0).toNat []).getD 5 (0 : Int) &&
                  true) &&
              (((findRow 2 [(list.getD (gi y0 0).toNat []).getD 0 (0 : Int), (list.getD (gi y0 0).toNat []).getD 1 (0 : Int)] (gr y0 1)).getD
                          [(0 : Int), (0 : Int), (0 : Int), (0 : Int), (0 : Int), (0 : Int), (0 : Int), (0 : Int), (0 : Int), (0 : Int), (0 : Int), (0 : Int), (0 : Int)]).getD
                      6 (0 : Int) ==
                    (list.getD (gi y0 0).toNat []).getD 6 (0 : Int) &&
                  (((findRow 2 [(list.getD (gi y0 0).toNat []).getD 0 (0 : Int), (list.getD (gi y0 0).toNat []).getD 1 (0 : Int)] (gr y0 1)).getD
                            [(0 : Int), (0 : Int), (0 : Int), (0 : Int), (0 : Int), (0 : Int), (0 : Int), (0 : Int), (0 : Int), (0 : Int), (0 : Int), (0 : Int), (0 : Int)]).getD
                        7 (0 : Int) ==
                      (list.getD (gi y0 0).toNat []).getD 7 (0 : Int) &&
                    true) &&
                true) &&
            (((findRow 2 [(list.getD (gi y0 0).toNat []).getD 0 (0 : Int), (list.getD (gi y0 0).toNat []).getD 1 (0 : Int)] (gr y0 1)).getD
                        [(0 : Int), (0 : Int), (0 : Int), (0 : Int), (0 : Int), (0 : Int), (0 : Int), (0 : Int), (0 : Int), (0 : Int), (0 : Int), (0 : Int), (0 : Int)]).getD
                    8 (0 : Int) ==
                  (list.getD (gi y0 0).toNat []).getD 8 (0 : Int) &&
                (((findRow 2 [(list.getD (gi y0 0).toNat []).getD 0 (0 : Int), (list.getD (gi y0 0).toNat []).getD 1 (0 : Int)] (gr y0 1)).getD
                          [(0 : Int), (0 : Int), (0 : Int), (0 : Int), (0 : Int), (0 : Int), (0 : Int), (0 : Int), (0 : Int), (0 : Int), (0 : Int), (0 : Int), (0 : Int)]).getD
                      9 (0 : Int) ==
                    (list.getD (gi y0 0).toNat []).getD 9 (0 : Int) &&
                  true) &&
              (((findRow 2 [(list.getD (gi y0 0).toNat []).getD 0 (0 : Int), (list.getD (gi y0 0).toNat []).getD 1 (0 : Int)] (gr y0 1)).getD
                          [(0 : Int), (0 : Int), (0 : Int), (0 : Int), (0 : Int), (0 : Int), (0 : Int), (0 : Int), (0 : Int), (0 : Int), (0 : Int), (0 : Int), (0 : Int)]).getD
                      10 (0 : Int) ==
                    (list.getD (gi y0 0).toNat []).getD 10 (0 : Int) &&
                  (((findRow 2 [(list.getD (gi y0 0).toNat []).getD 0 (0 : Int), (list.getD (gi y0 0).toNat []).getD 1 (0 : Int)] (gr y0 1)).getD
                            [(0 : Int), (0 : Int), (0 : Int), (0 : Int), (0 : Int), (0 : Int), (0 : Int), (0 : Int), (0 : Int), (0 : Int), (0 : Int), (0 : Int), (0 : Int)]).getD
                        11 (0 : Int) ==
                      (list.getD (gi y0 0).toNat []).getD 11 (0 : Int) &&
                    true) &&
                (((findRow 2 [(list.getD (gi y0 0).toNat []).getD 0 (0 : Int), (list.getD (gi y0 0).toNat []).getD 1 (0 : Int)] (gr y0 1)).getD
                          [(0 : Int), (0 : Int), (0 : Int), (0 : Int), (0 : Int), (0 : Int), (0 : Int), (0 : Int), (0 : Int), (0 : Int), (0 : Int), (0 : Int), (0 : Int)]).getD
                      12 (0 : Int) ==
                    (list.getD (gi y0 0).toNat []).getD 12 (0 : Int) &&
                  true)))))))) then guardP (fitsA 8 ((gr y0 3).length + [[gi y0 0]].length)) (some (0, [.i (IntKind.i64.wrap (gi y0 0 + (1 : Int))), .r (gr y0 1), .r (gr y0 2), .r (gr y0 3 ++ [[gi y0 0]])])) else some (0, [.i (IntKind.i64.wrap (gi y0 0 + (1 : Int))), .r (gr y0 1), .r (gr y0 2), .r (gr y0 3)])))))) else some (4, [.i (gi y0 0), .r (gr y0 1), .r (gr y0 2), .r (gr y0 3)]))
noncomputable def sighting_Merge_l0 (list : List (List Int)) : Nat × List U := loopGet (sighting_Merge_l0_step list) (sighting_Merge_l0_init list)
noncomputable def sighting_Merge_0 (list : List (List Int)) : List (List Int) :=
  bif !sighting_valid_0 list then [] else gr (sighting_Merge_l0 list).snd 2
noncomputable def sighting_Merge_1 (list : List (List Int)) : List (List Int) :=
  bif !sighting_valid_0 list then [] else gr (sighting_Merge_l0 list).snd 3
noncomputable def sighting_Merge_2 (list : List (List Int)) : Int :=
  bif !sighting_valid_0 list then (1 : Int) else (0 : Int)
def sighting_Merge_pre (list : List (List Int)) : Prop :=
  ((sighting_valid_pre list) ∧ (((!sighting_valid_0 list) = false) → ((loopOk (sighting_Merge_l0_step list) (sighting_Merge_l0_init list)))))
noncomputable def slices_Clone_int_0 (s : List (List Int)) : List (List Int) :=
  [] ++ s
def slices_Clone_int_pre (s : List (List Int)) : Prop :=
  (((s = []) → ((True) ∧ (([] ++ s = []) ∧ (True)))) ∧ (fitsA 8 (0 + s.length)))
end Go.Proofs.YtnijhjpaplihbaaGreat
