/- Written by program (wip/sygen.py): what the Go functions compute, as the executor reads it off their code. -/
import Derived.Test.YtcpikjablgbegaaSyD
import Derived.Test.YtcpikjablgbegaaSight1D
set_option maxRecDepth 100000
set_option linter.unusedVariables false
namespace Go.Proofs.Ytcpikjablgbegaa
open Go Go.Sy
noncomputable def law24_allows_0 (x y : Int) : Bool :=
  sighting_Allows_0 (1 : Int) (1 : Int) (0 : Int) (1 : Int) (0 : Int) (2 : Int) (0 : Int) (0 : Int) (1 : Int) (0 : Int) (1 : Int) (1 : Int) (10 : Int) x y &&
  sighting_Allows_1 (1 : Int) (1 : Int) (0 : Int) (1 : Int) (0 : Int) (2 : Int) (0 : Int) (0 : Int) (1 : Int) (0 : Int) (1 : Int) (1 : Int) (10 : Int) x y == (0 : Int)
noncomputable def law24_head_0  : Bool :=
  bif
    (law24_allows_0 (7 : Int) (5 : Int) && !law24_allows_0 (7 : Int) (8 : Int) && law24_allows_0 (10 : Int) (10 : Int) && !law24_allows_0 (13 : Int) (10 : Int) &&
                            law24_allows_0 (12 : Int) (3 : Int) &&
                          law24_allows_0 (1 : Int) (0 : Int) &&
                        !law24_allows_0 (-1 : Int) (0 : Int) &&
                      sighting_Box_4 (1 : Int) (1 : Int) (0 : Int) (1 : Int) (0 : Int) (2 : Int) (0 : Int) (0 : Int) (1 : Int) (0 : Int) (1 : Int) (1 : Int) (10 : Int) == (0 : Int) &&
                    sighting_Wedge_1 (1 : Int) (1 : Int) (0 : Int) (1 : Int) (0 : Int) (2 : Int) (0 : Int) (0 : Int) (1 : Int) (0 : Int) (1 : Int) (1 : Int) (10 : Int) (4 : Int) (5 : Int) (6 : Int)
                        (9 : Int) ==
                      (0 : Int) &&
                  sighting_Wedge_1 (1 : Int) (1 : Int) (0 : Int) (1 : Int) (0 : Int) (2 : Int) (0 : Int) (0 : Int) (1 : Int) (0 : Int) (1 : Int) (1 : Int) (10 : Int) (4 : Int) (6 : Int) (6 : Int)
                      (9 : Int) ==
                    (0 : Int) &&
                (sighting_Box_0 (1 : Int) (1 : Int) (0 : Int) (1 : Int) (0 : Int) (2 : Int) (0 : Int) (0 : Int) (1 : Int) (0 : Int) (1 : Int) (1 : Int) (10 : Int) == (0 : Int) &&
                    (sighting_Box_1 (1 : Int) (1 : Int) (0 : Int) (1 : Int) (0 : Int) (2 : Int) (0 : Int) (0 : Int) (1 : Int) (0 : Int) (1 : Int) (1 : Int) (10 : Int) == (12 : Int) && true) &&
                  (sighting_Box_2 (1 : Int) (1 : Int) (0 : Int) (1 : Int) (0 : Int) (2 : Int) (0 : Int) (0 : Int) (1 : Int) (0 : Int) (1 : Int) (1 : Int) (10 : Int) == (0 : Int) &&
                      (sighting_Box_3 (1 : Int) (1 : Int) (0 : Int) (1 : Int) (0 : Int) (2 : Int) (0 : Int) (0 : Int) (1 : Int) (0 : Int) (1 : Int) (1 : Int) (10 : Int) == (10 : Int) && true) &&
                    true)) &&
              !sighting_Wedge_0 (1 : Int) (1 : Int) (0 : Int) (1 : Int) (0 : Int) (2 : Int) (0 : Int) (0 : Int) (1 : Int) (0 : Int) (1 : Int) (1 : Int) (10 : Int) (4 : Int) (5 : Int) (6 : Int)
                  (9 : Int) &&
            sighting_Wedge_0 (1 : Int) (1 : Int) (0 : Int) (1 : Int) (0 : Int) (2 : Int) (0 : Int) (0 : Int) (1 : Int) (0 : Int) (1 : Int) (1 : Int) (10 : Int) (4 : Int) (6 : Int) (6 : Int)
              (9 : Int) &&
          sighting_Merge_2
              [[(1 : Int), (1 : Int), (0 : Int), (1 : Int), (0 : Int), (2 : Int), (0 : Int), (0 : Int), (1 : Int), (0 : Int), (1 : Int), (1 : Int), (10 : Int)],
                [(1 : Int), (1 : Int), (0 : Int), (1 : Int), (0 : Int), (2 : Int), (0 : Int), (0 : Int), (1 : Int), (0 : Int), (1 : Int), (1 : Int), (10 : Int)],
                [(1 : Int), (1 : Int), (0 : Int), (1 : Int), (0 : Int), (2 : Int), (0 : Int), (0 : Int), (1 : Int), (0 : Int), (1 : Int), (1 : Int), (9 : Int)]] ==
            (0 : Int) &&
        sighting_Wrong_1 (10 : Int) (10 : Int)
            [[(1 : Int), (1 : Int), (0 : Int), (1 : Int), (0 : Int), (2 : Int), (0 : Int), (0 : Int), (1 : Int), (0 : Int), (1 : Int), (1 : Int), (10 : Int)],
              [(1 : Int), (1 : Int), (0 : Int), (1 : Int), (0 : Int), (2 : Int), (0 : Int), (0 : Int), (1 : Int), (0 : Int), (1 : Int), (1 : Int), (9 : Int)]] ==
          (0 : Int)) ==
      true then
  bif
      ref24_Same_0
          (sighting_Merge_0
            [[(1 : Int), (1 : Int), (0 : Int), (1 : Int), (0 : Int), (2 : Int), (0 : Int), (0 : Int), (1 : Int), (0 : Int), (1 : Int), (1 : Int), (10 : Int)],
              [(1 : Int), (1 : Int), (0 : Int), (1 : Int), (0 : Int), (2 : Int), (0 : Int), (0 : Int), (1 : Int), (0 : Int), (1 : Int), (1 : Int), (10 : Int)],
              [(1 : Int), (1 : Int), (0 : Int), (1 : Int), (0 : Int), (2 : Int), (0 : Int), (0 : Int), (1 : Int), (0 : Int), (1 : Int), (1 : Int), (9 : Int)]])
          [[(1 : Int), (1 : Int), (0 : Int), (1 : Int), (0 : Int), (2 : Int), (0 : Int), (0 : Int), (1 : Int), (0 : Int), (1 : Int), (1 : Int), (10 : Int)]] ==
        true then
    bif
        ref24_Ints_0
            (sighting_Merge_1
              [[(1 : Int), (1 : Int), (0 : Int), (1 : Int), (0 : Int), (2 : Int), (0 : Int), (0 : Int), (1 : Int), (0 : Int), (1 : Int), (1 : Int), (10 : Int)],
                [(1 : Int), (1 : Int), (0 : Int), (1 : Int), (0 : Int), (2 : Int), (0 : Int), (0 : Int), (1 : Int), (0 : Int), (1 : Int), (1 : Int), (10 : Int)],
                [(1 : Int), (1 : Int), (0 : Int), (1 : Int), (0 : Int), (2 : Int), (0 : Int), (0 : Int), (1 : Int), (0 : Int), (1 : Int), (1 : Int), (9 : Int)]])
            [[(2 : Int)]] ==
          true then
      ref24_Ints_0
            (sighting_Wrong_0 (10 : Int) (10 : Int)
              [[(1 : Int), (1 : Int), (0 : Int), (1 : Int), (0 : Int), (2 : Int), (0 : Int), (0 : Int), (1 : Int), (0 : Int), (1 : Int), (1 : Int), (10 : Int)],
                [(1 : Int), (1 : Int), (0 : Int), (1 : Int), (0 : Int), (2 : Int), (0 : Int), (0 : Int), (1 : Int), (0 : Int), (1 : Int), (1 : Int), (9 : Int)]])
            [[(1 : Int)]] &&
          sighting_Valid_0 (1 : Int) (1 : Int) (0 : Int) (1 : Int) (0 : Int) (2 : Int) (0 : Int) (0 : Int) (1 : Int) (0 : Int) (1 : Int) (1 : Int) (10 : Int) &&
        !sighting_Valid_0 (0 : Int) (0 : Int) (0 : Int) (0 : Int) (0 : Int) (0 : Int) (0 : Int) (0 : Int) (0 : Int) (0 : Int) (0 : Int) (0 : Int) (0 : Int)
    else false
  else false
else false
def law24_head_pre  : Prop :=
  ((sighting_Merge_pre
  [[(1 : Int), (1 : Int), (0 : Int), (1 : Int), (0 : Int), (2 : Int), (0 : Int), (0 : Int), (1 : Int), (0 : Int), (1 : Int), (1 : Int), (10 : Int)],
    [(1 : Int), (1 : Int), (0 : Int), (1 : Int), (0 : Int), (2 : Int), (0 : Int), (0 : Int), (1 : Int), (0 : Int), (1 : Int), (1 : Int), (10 : Int)],
    [(1 : Int), (1 : Int), (0 : Int), (1 : Int), (0 : Int), (2 : Int), (0 : Int), (0 : Int), (1 : Int), (0 : Int), (1 : Int), (1 : Int), (9 : Int)]]) ∧ ((sighting_Wrong_pre (10 : Int) (10 : Int)
  [[(1 : Int), (1 : Int), (0 : Int), (1 : Int), (0 : Int), (2 : Int), (0 : Int), (0 : Int), (1 : Int), (0 : Int), (1 : Int), (1 : Int), (10 : Int)],
    [(1 : Int), (1 : Int), (0 : Int), (1 : Int), (0 : Int), (2 : Int), (0 : Int), (0 : Int), (1 : Int), (0 : Int), (1 : Int), (1 : Int), (9 : Int)]]) ∧ ((((law24_allows_0 (7 : Int) (5 : Int) && !law24_allows_0 (7 : Int) (8 : Int) && law24_allows_0 (10 : Int) (10 : Int) && !law24_allows_0 (13 : Int) (10 : Int) && law24_allows_0 (12 : Int) (3 : Int) &&
                        law24_allows_0 (1 : Int) (0 : Int) &&
                      !law24_allows_0 (-1 : Int) (0 : Int) &&
                    sighting_Box_4 (1 : Int) (1 : Int) (0 : Int) (1 : Int) (0 : Int) (2 : Int) (0 : Int) (0 : Int) (1 : Int) (0 : Int) (1 : Int) (1 : Int) (10 : Int) == (0 : Int) &&
                  sighting_Wedge_1 (1 : Int) (1 : Int) (0 : Int) (1 : Int) (0 : Int) (2 : Int) (0 : Int) (0 : Int) (1 : Int) (0 : Int) (1 : Int) (1 : Int) (10 : Int) (4 : Int) (5 : Int) (6 : Int)
                      (9 : Int) ==
                    (0 : Int) &&
                sighting_Wedge_1 (1 : Int) (1 : Int) (0 : Int) (1 : Int) (0 : Int) (2 : Int) (0 : Int) (0 : Int) (1 : Int) (0 : Int) (1 : Int) (1 : Int) (10 : Int) (4 : Int) (6 : Int) (6 : Int)
                    (9 : Int) ==
                  (0 : Int) &&
              (sighting_Box_0 (1 : Int) (1 : Int) (0 : Int) (1 : Int) (0 : Int) (2 : Int) (0 : Int) (0 : Int) (1 : Int) (0 : Int) (1 : Int) (1 : Int) (10 : Int) == (0 : Int) &&
                  (sighting_Box_1 (1 : Int) (1 : Int) (0 : Int) (1 : Int) (0 : Int) (2 : Int) (0 : Int) (0 : Int) (1 : Int) (0 : Int) (1 : Int) (1 : Int) (10 : Int) == (12 : Int) && true) &&
                (sighting_Box_2 (1 : Int) (1 : Int) (0 : Int) (1 : Int) (0 : Int) (2 : Int) (0 : Int) (0 : Int) (1 : Int) (0 : Int) (1 : Int) (1 : Int) (10 : Int) == (0 : Int) &&
                    (sighting_Box_3 (1 : Int) (1 : Int) (0 : Int) (1 : Int) (0 : Int) (2 : Int) (0 : Int) (0 : Int) (1 : Int) (0 : Int) (1 : Int) (1 : Int) (10 : Int) == (10 : Int) && true) &&
                  true)) &&
            !sighting_Wedge_0 (1 : Int) (1 : Int) (0 : Int) (1 : Int) (0 : Int) (2 : Int) (0 : Int) (0 : Int) (1 : Int) (0 : Int) (1 : Int) (1 : Int) (10 : Int) (4 : Int) (5 : Int) (6 : Int)
                (9 : Int) &&
          sighting_Wedge_0 (1 : Int) (1 : Int) (0 : Int) (1 : Int) (0 : Int) (2 : Int) (0 : Int) (0 : Int) (1 : Int) (0 : Int) (1 : Int) (1 : Int) (10 : Int) (4 : Int) (6 : Int) (6 : Int) (9 : Int) &&
        sighting_Merge_2
            [[(1 : Int), (1 : Int), (0 : Int), (1 : Int), (0 : Int), (2 : Int), (0 : Int), (0 : Int), (1 : Int), (0 : Int), (1 : Int), (1 : Int), (10 : Int)],
              [(1 : Int), (1 : Int), (0 : Int), (1 : Int), (0 : Int), (2 : Int), (0 : Int), (0 : Int), (1 : Int), (0 : Int), (1 : Int), (1 : Int), (10 : Int)],
              [(1 : Int), (1 : Int), (0 : Int), (1 : Int), (0 : Int), (2 : Int), (0 : Int), (0 : Int), (1 : Int), (0 : Int), (1 : Int), (1 : Int), (9 : Int)]] ==
          (0 : Int) &&
      sighting_Wrong_1 (10 : Int) (10 : Int)
          [[(1 : Int), (1 : Int), (0 : Int), (1 : Int), (0 : Int), (2 : Int), (0 : Int), (0 : Int), (1 : Int), (0 : Int), (1 : Int), (1 : Int), (10 : Int)],
            [(1 : Int), (1 : Int), (0 : Int), (1 : Int), (0 : Int), (2 : Int), (0 : Int), (0 : Int), (1 : Int), (0 : Int), (1 : Int), (1 : Int), (9 : Int)]] ==
        (0 : Int)) ==
    true) =
  true) → ((ref24_Same_pre
  (sighting_Merge_0
    [[(1 : Int), (1 : Int), (0 : Int), (1 : Int), (0 : Int), (2 : Int), (0 : Int), (0 : Int), (1 : Int), (0 : Int), (1 : Int), (1 : Int), (10 : Int)],
      [(1 : Int), (1 : Int), (0 : Int), (1 : Int), (0 : Int), (2 : Int), (0 : Int), (0 : Int), (1 : Int), (0 : Int), (1 : Int), (1 : Int), (10 : Int)],
      [(1 : Int), (1 : Int), (0 : Int), (1 : Int), (0 : Int), (2 : Int), (0 : Int), (0 : Int), (1 : Int), (0 : Int), (1 : Int), (1 : Int), (9 : Int)]])
  [[(1 : Int), (1 : Int), (0 : Int), (1 : Int), (0 : Int), (2 : Int), (0 : Int), (0 : Int), (1 : Int), (0 : Int), (1 : Int), (1 : Int), (10 : Int)]]) ∧ (((ref24_Same_0
      (sighting_Merge_0
        [[(1 : Int), (1 : Int), (0 : Int), (1 : Int), (0 : Int), (2 : Int), (0 : Int), (0 : Int), (1 : Int), (0 : Int), (1 : Int), (1 : Int), (10 : Int)],
          [(1 : Int), (1 : Int), (0 : Int), (1 : Int), (0 : Int), (2 : Int), (0 : Int), (0 : Int), (1 : Int), (0 : Int), (1 : Int), (1 : Int), (10 : Int)],
          [(1 : Int), (1 : Int), (0 : Int), (1 : Int), (0 : Int), (2 : Int), (0 : Int), (0 : Int), (1 : Int), (0 : Int), (1 : Int), (1 : Int), (9 : Int)]])
      [[(1 : Int), (1 : Int), (0 : Int), (1 : Int), (0 : Int), (2 : Int), (0 : Int), (0 : Int), (1 : Int), (0 : Int), (1 : Int), (1 : Int), (10 : Int)]] ==
    true) =
  true) → ((ref24_Ints_pre
  (sighting_Merge_1
    [[(1 : Int), (1 : Int), (0 : Int), (1 : Int), (0 : Int), (2 : Int), (0 : Int), (0 : Int), (1 : Int), (0 : Int), (1 : Int), (1 : Int), (10 : Int)],
      [(1 : Int), (1 : Int), (0 : Int), (1 : Int), (0 : Int), (2 : Int), (0 : Int), (0 : Int), (1 : Int), (0 : Int), (1 : Int), (1 : Int), (10 : Int)],
      [(1 : Int), (1 : Int), (0 : Int), (1 : Int), (0 : Int), (2 : Int), (0 : Int), (0 : Int), (1 : Int), (0 : Int), (1 : Int), (1 : Int), (9 : Int)]])
  [[(2 : Int)]]) ∧ (((ref24_Ints_0
      (sighting_Merge_1
        [[(1 : Int), (1 : Int), (0 : Int), (1 : Int), (0 : Int), (2 : Int), (0 : Int), (0 : Int), (1 : Int), (0 : Int), (1 : Int), (1 : Int), (10 : Int)],
          [(1 : Int), (1 : Int), (0 : Int), (1 : Int), (0 : Int), (2 : Int), (0 : Int), (0 : Int), (1 : Int), (0 : Int), (1 : Int), (1 : Int), (10 : Int)],
          [(1 : Int), (1 : Int), (0 : Int), (1 : Int), (0 : Int), (2 : Int), (0 : Int), (0 : Int), (1 : Int), (0 : Int), (1 : Int), (1 : Int), (9 : Int)]])
      [[(2 : Int)]] ==
    true) =
  true) → (ref24_Ints_pre
  (sighting_Wrong_0 (10 : Int) (10 : Int)
    [[(1 : Int), (1 : Int), (0 : Int), (1 : Int), (0 : Int), (2 : Int), (0 : Int), (0 : Int), (1 : Int), (0 : Int), (1 : Int), (1 : Int), (10 : Int)],
      [(1 : Int), (1 : Int), (0 : Int), (1 : Int), (0 : Int), (2 : Int), (0 : Int), (0 : Int), (1 : Int), (0 : Int), (1 : Int), (1 : Int), (9 : Int)]])
  [[(1 : Int)]]))))))))
noncomputable def law24_turned_0 (p_X p_Y by__X by__Y : Int) : Int :=
  IntKind.i64.wrap (by__X - p_Y)
noncomputable def law24_turned_1 (p_X p_Y by__X by__Y : Int) : Int :=
  IntKind.i64.wrap (by__Y + p_X)
noncomputable def law24_around_0 (b_X_Lo b_X_Hi b_Y_Lo b_Y_Hi by__X by__Y : Int) : Int :=
  IntKind.i64.wrap (by__X - b_Y_Hi)
noncomputable def law24_around_1 (b_X_Lo b_X_Hi b_Y_Lo b_Y_Hi by__X by__Y : Int) : Int :=
  IntKind.i64.wrap (by__X - b_Y_Lo)
noncomputable def law24_around_2 (b_X_Lo b_X_Hi b_Y_Lo b_Y_Hi by__X by__Y : Int) : Int :=
  IntKind.i64.wrap (by__Y + b_X_Lo)
noncomputable def law24_around_3 (b_X_Lo b_X_Hi b_Y_Lo b_Y_Hi by__X by__Y : Int) : Int :=
  IntKind.i64.wrap (by__Y + b_X_Hi)
noncomputable def span_Join_0 (s_Lo s_Hi t_Lo t_Hi : Int) : Int :=
  bif !span_Valid_0 s_Lo s_Hi || !span_Valid_0 t_Lo t_Hi then (0 : Int) else span_ends_int_0 s_Lo t_Lo
noncomputable def span_Join_1 (s_Lo s_Hi t_Lo t_Hi : Int) : Int :=
  bif !span_Valid_0 s_Lo s_Hi || !span_Valid_0 t_Lo t_Hi then (0 : Int) else span_ends_int_1 s_Hi t_Hi
noncomputable def span_Join_2 (s_Lo s_Hi t_Lo t_Hi : Int) : Int :=
  bif !span_Valid_0 s_Lo s_Hi || !span_Valid_0 t_Lo t_Hi then (1 : Int) else (0 : Int)
noncomputable def span_InBox_0 (p_X p_Y b_X_Lo b_X_Hi b_Y_Lo b_Y_Hi : Int) : Bool :=
  (bif !span_ValidBox_0 p_X p_X p_Y p_Y || !span_ValidBox_0 b_X_Lo b_X_Hi b_Y_Lo b_Y_Hi then (1 : Int)
    else
      bif imax (span_Join_2 p_X p_X b_X_Lo b_X_Hi) (span_Join_2 p_Y p_Y b_Y_Lo b_Y_Hi) != (0 : Int) then imax (span_Join_2 p_X p_X b_X_Lo b_X_Hi) (span_Join_2 p_Y p_Y b_Y_Lo b_Y_Hi) else (0 : Int)) ==
    (0 : Int) &&
  ((bif !span_ValidBox_0 p_X p_X p_Y p_Y || !span_ValidBox_0 b_X_Lo b_X_Hi b_Y_Lo b_Y_Hi then (0 : Int)
        else bif imax (span_Join_2 p_X p_X b_X_Lo b_X_Hi) (span_Join_2 p_Y p_Y b_Y_Lo b_Y_Hi) != (0 : Int) then (0 : Int) else span_Join_0 p_X p_X b_X_Lo b_X_Hi) ==
        b_X_Lo &&
      ((bif !span_ValidBox_0 p_X p_X p_Y p_Y || !span_ValidBox_0 b_X_Lo b_X_Hi b_Y_Lo b_Y_Hi then (0 : Int)
          else bif imax (span_Join_2 p_X p_X b_X_Lo b_X_Hi) (span_Join_2 p_Y p_Y b_Y_Lo b_Y_Hi) != (0 : Int) then (0 : Int) else span_Join_1 p_X p_X b_X_Lo b_X_Hi) ==
          b_X_Hi &&
        true) &&
    ((bif !span_ValidBox_0 p_X p_X p_Y p_Y || !span_ValidBox_0 b_X_Lo b_X_Hi b_Y_Lo b_Y_Hi then (0 : Int)
          else bif imax (span_Join_2 p_X p_X b_X_Lo b_X_Hi) (span_Join_2 p_Y p_Y b_Y_Lo b_Y_Hi) != (0 : Int) then (0 : Int) else span_Join_0 p_Y p_Y b_Y_Lo b_Y_Hi) ==
          b_Y_Lo &&
        ((bif !span_ValidBox_0 p_X p_X p_Y p_Y || !span_ValidBox_0 b_X_Lo b_X_Hi b_Y_Lo b_Y_Hi then (0 : Int)
            else bif imax (span_Join_2 p_X p_X b_X_Lo b_X_Hi) (span_Join_2 p_Y p_Y b_Y_Lo b_Y_Hi) != (0 : Int) then (0 : Int) else span_Join_1 p_Y p_Y b_Y_Lo b_Y_Hi) ==
            b_Y_Hi &&
          true) &&
      true))
noncomputable def span_InBox_1 (p_X p_Y b_X_Lo b_X_Hi b_Y_Lo b_Y_Hi : Int) : Int :=
  bif !span_ValidBox_0 p_X p_X p_Y p_Y || !span_ValidBox_0 b_X_Lo b_X_Hi b_Y_Lo b_Y_Hi then (1 : Int)
else bif imax (span_Join_2 p_X p_X b_X_Lo b_X_Hi) (span_Join_2 p_Y p_Y b_Y_Lo b_Y_Hi) != (0 : Int) then imax (span_Join_2 p_X p_X b_X_Lo b_X_Hi) (span_Join_2 p_Y p_Y b_Y_Lo b_Y_Hi) else (0 : Int)
noncomputable def span_MeetBox_0 (a_X_Lo a_X_Hi a_Y_Lo a_Y_Hi b_X_Lo b_X_Hi b_Y_Lo b_Y_Hi : Int) : Int :=
  bif !span_ValidBox_0 a_X_Lo a_X_Hi a_Y_Lo a_Y_Hi || !span_ValidBox_0 b_X_Lo b_X_Hi b_Y_Lo b_Y_Hi then (0 : Int)
else bif imax (span_Meet_2 a_X_Lo a_X_Hi b_X_Lo b_X_Hi) (span_Meet_2 a_Y_Lo a_Y_Hi b_Y_Lo b_Y_Hi) != (0 : Int) then (0 : Int) else span_Meet_0 a_X_Lo a_X_Hi b_X_Lo b_X_Hi
noncomputable def span_MeetBox_1 (a_X_Lo a_X_Hi a_Y_Lo a_Y_Hi b_X_Lo b_X_Hi b_Y_Lo b_Y_Hi : Int) : Int :=
  bif !span_ValidBox_0 a_X_Lo a_X_Hi a_Y_Lo a_Y_Hi || !span_ValidBox_0 b_X_Lo b_X_Hi b_Y_Lo b_Y_Hi then (0 : Int)
else bif imax (span_Meet_2 a_X_Lo a_X_Hi b_X_Lo b_X_Hi) (span_Meet_2 a_Y_Lo a_Y_Hi b_Y_Lo b_Y_Hi) != (0 : Int) then (0 : Int) else span_Meet_1 a_X_Lo a_X_Hi b_X_Lo b_X_Hi
noncomputable def span_MeetBox_2 (a_X_Lo a_X_Hi a_Y_Lo a_Y_Hi b_X_Lo b_X_Hi b_Y_Lo b_Y_Hi : Int) : Int :=
  bif !span_ValidBox_0 a_X_Lo a_X_Hi a_Y_Lo a_Y_Hi || !span_ValidBox_0 b_X_Lo b_X_Hi b_Y_Lo b_Y_Hi then (0 : Int)
else bif imax (span_Meet_2 a_X_Lo a_X_Hi b_X_Lo b_X_Hi) (span_Meet_2 a_Y_Lo a_Y_Hi b_Y_Lo b_Y_Hi) != (0 : Int) then (0 : Int) else span_Meet_0 a_Y_Lo a_Y_Hi b_Y_Lo b_Y_Hi
noncomputable def span_MeetBox_3 (a_X_Lo a_X_Hi a_Y_Lo a_Y_Hi b_X_Lo b_X_Hi b_Y_Lo b_Y_Hi : Int) : Int :=
  bif !span_ValidBox_0 a_X_Lo a_X_Hi a_Y_Lo a_Y_Hi || !span_ValidBox_0 b_X_Lo b_X_Hi b_Y_Lo b_Y_Hi then (0 : Int)
else bif imax (span_Meet_2 a_X_Lo a_X_Hi b_X_Lo b_X_Hi) (span_Meet_2 a_Y_Lo a_Y_Hi b_Y_Lo b_Y_Hi) != (0 : Int) then (0 : Int) else span_Meet_1 a_Y_Lo a_Y_Hi b_Y_Lo b_Y_Hi
noncomputable def span_MeetBox_4 (a_X_Lo a_X_Hi a_Y_Lo a_Y_Hi b_X_Lo b_X_Hi b_Y_Lo b_Y_Hi : Int) : Int :=
  bif !span_ValidBox_0 a_X_Lo a_X_Hi a_Y_Lo a_Y_Hi || !span_ValidBox_0 b_X_Lo b_X_Hi b_Y_Lo b_Y_Hi then (1 : Int)
else
  bif imax (span_Meet_2 a_X_Lo a_X_Hi b_X_Lo b_X_Hi) (span_Meet_2 a_Y_Lo a_Y_Hi b_Y_Lo b_Y_Hi) != (0 : Int) then
    imax (span_Meet_2 a_X_Lo a_X_Hi b_X_Lo b_X_Hi) (span_Meet_2 a_Y_Lo a_Y_Hi b_Y_Lo b_Y_Hi)
  else (0 : Int)
noncomputable def span_WithinBox_0 (a_X_Lo a_X_Hi a_Y_Lo a_Y_Hi b_X_Lo b_X_Hi b_Y_Lo b_Y_Hi : Int) : Bool :=
  (bif !span_ValidBox_0 a_X_Lo a_X_Hi a_Y_Lo a_Y_Hi || !span_ValidBox_0 b_X_Lo b_X_Hi b_Y_Lo b_Y_Hi then (1 : Int)
    else
      bif imax (span_Join_2 a_X_Lo a_X_Hi b_X_Lo b_X_Hi) (span_Join_2 a_Y_Lo a_Y_Hi b_Y_Lo b_Y_Hi) != (0 : Int) then
        imax (span_Join_2 a_X_Lo a_X_Hi b_X_Lo b_X_Hi) (span_Join_2 a_Y_Lo a_Y_Hi b_Y_Lo b_Y_Hi)
      else (0 : Int)) ==
    (0 : Int) &&
  ((bif !span_ValidBox_0 a_X_Lo a_X_Hi a_Y_Lo a_Y_Hi || !span_ValidBox_0 b_X_Lo b_X_Hi b_Y_Lo b_Y_Hi then (0 : Int)
        else bif imax (span_Join_2 a_X_Lo a_X_Hi b_X_Lo b_X_Hi) (span_Join_2 a_Y_Lo a_Y_Hi b_Y_Lo b_Y_Hi) != (0 : Int) then (0 : Int) else span_Join_0 a_X_Lo a_X_Hi b_X_Lo b_X_Hi) ==
        b_X_Lo &&
      ((bif !span_ValidBox_0 a_X_Lo a_X_Hi a_Y_Lo a_Y_Hi || !span_ValidBox_0 b_X_Lo b_X_Hi b_Y_Lo b_Y_Hi then (0 : Int)
          else bif imax (span_Join_2 a_X_Lo a_X_Hi b_X_Lo b_X_Hi) (span_Join_2 a_Y_Lo a_Y_Hi b_Y_Lo b_Y_Hi) != (0 : Int) then (0 : Int) else span_Join_1 a_X_Lo a_X_Hi b_X_Lo b_X_Hi) ==
          b_X_Hi &&
        true) &&
    ((bif !span_ValidBox_0 a_X_Lo a_X_Hi a_Y_Lo a_Y_Hi || !span_ValidBox_0 b_X_Lo b_X_Hi b_Y_Lo b_Y_Hi then (0 : Int)
          else bif imax (span_Join_2 a_X_Lo a_X_Hi b_X_Lo b_X_Hi) (span_Join_2 a_Y_Lo a_Y_Hi b_Y_Lo b_Y_Hi) != (0 : Int) then (0 : Int) else span_Join_0 a_Y_Lo a_Y_Hi b_Y_Lo b_Y_Hi) ==
          b_Y_Lo &&
        ((bif !span_ValidBox_0 a_X_Lo a_X_Hi a_Y_Lo a_Y_Hi || !span_ValidBox_0 b_X_Lo b_X_Hi b_Y_Lo b_Y_Hi then (0 : Int)
            else bif imax (span_Join_2 a_X_Lo a_X_Hi b_X_Lo b_X_Hi) (span_Join_2 a_Y_Lo a_Y_Hi b_Y_Lo b_Y_Hi) != (0 : Int) then (0 : Int) else span_Join_1 a_Y_Lo a_Y_Hi b_Y_Lo b_Y_Hi) ==
            b_Y_Hi &&
          true) &&
      true))
noncomputable def span_WithinBox_1 (a_X_Lo a_X_Hi a_Y_Lo a_Y_Hi b_X_Lo b_X_Hi b_Y_Lo b_Y_Hi : Int) : Int :=
  bif !span_ValidBox_0 a_X_Lo a_X_Hi a_Y_Lo a_Y_Hi || !span_ValidBox_0 b_X_Lo b_X_Hi b_Y_Lo b_Y_Hi then (1 : Int)
else
  bif imax (span_Join_2 a_X_Lo a_X_Hi b_X_Lo b_X_Hi) (span_Join_2 a_Y_Lo a_Y_Hi b_Y_Lo b_Y_Hi) != (0 : Int) then
    imax (span_Join_2 a_X_Lo a_X_Hi b_X_Lo b_X_Hi) (span_Join_2 a_Y_Lo a_Y_Hi b_Y_Lo b_Y_Hi)
  else (0 : Int)
noncomputable def law24_SightingTrue_0 (r_Ship r_Number r_Time r_Buoy r_At_X_Lo r_At_X_Hi r_At_Y_Lo r_At_Y_Hi r_From_X r_From_Y r_To_X r_To_Y r_Far x y v_X v_Y : Int) : Bool :=
  bif
    !ref24_Valid_0 r_Ship r_Number r_Time r_Buoy r_At_X_Lo r_At_X_Hi r_At_Y_Lo r_At_Y_Hi r_From_X r_From_Y r_To_X r_To_Y r_Far || decide (v_X < IntKind.i64.wrap ((0 : Int) - r_Far)) ||
              decide (v_X > r_Far) ||
            decide (v_Y < IntKind.i64.wrap ((0 : Int) - r_Far)) ||
          decide (v_Y > r_Far) ||
        decide (ref01_Cross_0 r_From_X r_From_Y v_X v_Y < (0 : Int)) ||
      decide (ref01_Cross_0 v_X v_Y r_To_X r_To_Y < (0 : Int)) then
  law24_head_0
else
  bif
      !ref01_Valid_0 (IntKind.i64.wrap (IntKind.i64.wrap (r_At_X_Lo + (IntKind.i64.wrap x).tmod (IntKind.i64.wrap (IntKind.i64.wrap (r_At_X_Hi - r_At_X_Lo) + (1 : Int)))) + v_X))
          (IntKind.i64.wrap (IntKind.i64.wrap (r_At_Y_Lo + (IntKind.i64.wrap y).tmod (IntKind.i64.wrap (IntKind.i64.wrap (r_At_Y_Hi - r_At_Y_Lo) + (1 : Int)))) + v_Y)) then
    law24_head_0
  else
    law24_head_0 &&
        sighting_Allows_1 r_Ship r_Number r_Time r_Buoy r_At_X_Lo r_At_X_Hi r_At_Y_Lo r_At_Y_Hi r_From_X r_From_Y r_To_X r_To_Y r_Far
            (IntKind.i64.wrap (IntKind.i64.wrap (r_At_X_Lo + (IntKind.i64.wrap x).tmod (IntKind.i64.wrap (IntKind.i64.wrap (r_At_X_Hi - r_At_X_Lo) + (1 : Int)))) + v_X))
            (IntKind.i64.wrap (IntKind.i64.wrap (r_At_Y_Lo + (IntKind.i64.wrap y).tmod (IntKind.i64.wrap (IntKind.i64.wrap (r_At_Y_Hi - r_At_Y_Lo) + (1 : Int)))) + v_Y)) ==
          (0 : Int) &&
      sighting_Allows_0 r_Ship r_Number r_Time r_Buoy r_At_X_Lo r_At_X_Hi r_At_Y_Lo r_At_Y_Hi r_From_X r_From_Y r_To_X r_To_Y r_Far
        (IntKind.i64.wrap (IntKind.i64.wrap (r_At_X_Lo + (IntKind.i64.wrap x).tmod (IntKind.i64.wrap (IntKind.i64.wrap (r_At_X_Hi - r_At_X_Lo) + (1 : Int)))) + v_X))
        (IntKind.i64.wrap (IntKind.i64.wrap (r_At_Y_Lo + (IntKind.i64.wrap y).tmod (IntKind.i64.wrap (IntKind.i64.wrap (r_At_Y_Hi - r_At_Y_Lo) + (1 : Int)))) + v_Y))
def law24_SightingTrue_pre (r_Ship r_Number r_Time r_Buoy r_At_X_Lo r_At_X_Hi r_At_Y_Lo r_At_Y_Hi r_From_X r_From_Y r_To_X r_To_Y r_Far x y v_X v_Y : Int) : Prop :=
  ((law24_head_pre) ∧ (((!ref24_Valid_0 r_Ship r_Number r_Time r_Buoy r_At_X_Lo r_At_X_Hi r_At_Y_Lo r_At_Y_Hi r_From_X r_From_Y r_To_X r_To_Y r_Far || decide (v_X < IntKind.i64.wrap ((0 : Int) - r_Far)) ||
            decide (v_X > r_Far) ||
          decide (v_Y < IntKind.i64.wrap ((0 : Int) - r_Far)) ||
        decide (v_Y > r_Far) ||
      decide (ref01_Cross_0 r_From_X r_From_Y v_X v_Y < (0 : Int)) ||
    decide (ref01_Cross_0 v_X v_Y r_To_X r_To_Y < (0 : Int))) =
  false) → (((IntKind.i64.wrap (IntKind.i64.wrap (r_At_X_Hi - r_At_X_Lo) + (1 : Int)) : Int) ≠ (0 : Int)) ∧ ((IntKind.i64.wrap (IntKind.i64.wrap (r_At_Y_Hi - r_At_Y_Lo) + (1 : Int)) : Int) ≠ (0 : Int)))))
noncomputable def law24_SightingBox_0 (r_Ship r_Number r_Time r_Buoy r_At_X_Lo r_At_X_Hi r_At_Y_Lo r_At_Y_Hi r_From_X r_From_Y r_To_X r_To_Y r_Far p_X p_Y : Int) : Bool :=
  bif sighting_Box_4 r_Ship r_Number r_Time r_Buoy r_At_X_Lo r_At_X_Hi r_At_Y_Lo r_At_Y_Hi r_From_X r_From_Y r_To_X r_To_Y r_Far != (0 : Int) then
  law24_head_0 && sighting_Box_4 r_Ship r_Number r_Time r_Buoy r_At_X_Lo r_At_X_Hi r_At_Y_Lo r_At_Y_Hi r_From_X r_From_Y r_To_X r_To_Y r_Far == (1 : Int)
else
  bif
      sighting_Allows_1 r_Ship r_Number r_Time r_Buoy r_At_X_Lo r_At_X_Hi r_At_Y_Lo r_At_Y_Hi r_From_X r_From_Y r_To_X r_To_Y r_Far p_X p_Y != (0 : Int) ||
        !sighting_Allows_0 r_Ship r_Number r_Time r_Buoy r_At_X_Lo r_At_X_Hi r_At_Y_Lo r_At_Y_Hi r_From_X r_From_Y r_To_X r_To_Y r_Far p_X p_Y then
    law24_head_0 &&
        span_WithinBox_1 r_At_X_Lo r_At_X_Hi r_At_Y_Lo r_At_Y_Hi (sighting_Box_0 r_Ship r_Number r_Time r_Buoy r_At_X_Lo r_At_X_Hi r_At_Y_Lo r_At_Y_Hi r_From_X r_From_Y r_To_X r_To_Y r_Far)
            (sighting_Box_1 r_Ship r_Number r_Time r_Buoy r_At_X_Lo r_At_X_Hi r_At_Y_Lo r_At_Y_Hi r_From_X r_From_Y r_To_X r_To_Y r_Far)
            (sighting_Box_2 r_Ship r_Number r_Time r_Buoy r_At_X_Lo r_At_X_Hi r_At_Y_Lo r_At_Y_Hi r_From_X r_From_Y r_To_X r_To_Y r_Far)
            (sighting_Box_3 r_Ship r_Number r_Time r_Buoy r_At_X_Lo r_At_X_Hi r_At_Y_Lo r_At_Y_Hi r_From_X r_From_Y r_To_X r_To_Y r_Far) ==
          (0 : Int) &&
      span_WithinBox_0 r_At_X_Lo r_At_X_Hi r_At_Y_Lo r_At_Y_Hi (sighting_Box_0 r_Ship r_Number r_Time r_Buoy r_At_X_Lo r_At_X_Hi r_At_Y_Lo r_At_Y_Hi r_From_X r_From_Y r_To_X r_To_Y r_Far)
        (sighting_Box_1 r_Ship r_Number r_Time r_Buoy r_At_X_Lo r_At_X_Hi r_At_Y_Lo r_At_Y_Hi r_From_X r_From_Y r_To_X r_To_Y r_Far)
        (sighting_Box_2 r_Ship r_Number r_Time r_Buoy r_At_X_Lo r_At_X_Hi r_At_Y_Lo r_At_Y_Hi r_From_X r_From_Y r_To_X r_To_Y r_Far)
        (sighting_Box_3 r_Ship r_Number r_Time r_Buoy r_At_X_Lo r_At_X_Hi r_At_Y_Lo r_At_Y_Hi r_From_X r_From_Y r_To_X r_To_Y r_Far)
  else
    law24_head_0 &&
            span_WithinBox_1 r_At_X_Lo r_At_X_Hi r_At_Y_Lo r_At_Y_Hi (sighting_Box_0 r_Ship r_Number r_Time r_Buoy r_At_X_Lo r_At_X_Hi r_At_Y_Lo r_At_Y_Hi r_From_X r_From_Y r_To_X r_To_Y r_Far)
                (sighting_Box_1 r_Ship r_Number r_Time r_Buoy r_At_X_Lo r_At_X_Hi r_At_Y_Lo r_At_Y_Hi r_From_X r_From_Y r_To_X r_To_Y r_Far)
                (sighting_Box_2 r_Ship r_Number r_Time r_Buoy r_At_X_Lo r_At_X_Hi r_At_Y_Lo r_At_Y_Hi r_From_X r_From_Y r_To_X r_To_Y r_Far)
                (sighting_Box_3 r_Ship r_Number r_Time r_Buoy r_At_X_Lo r_At_X_Hi r_At_Y_Lo r_At_Y_Hi r_From_X r_From_Y r_To_X r_To_Y r_Far) ==
              (0 : Int) &&
          span_WithinBox_0 r_At_X_Lo r_At_X_Hi r_At_Y_Lo r_At_Y_Hi (sighting_Box_0 r_Ship r_Number r_Time r_Buoy r_At_X_Lo r_At_X_Hi r_At_Y_Lo r_At_Y_Hi r_From_X r_From_Y r_To_X r_To_Y r_Far)
            (sighting_Box_1 r_Ship r_Number r_Time r_Buoy r_At_X_Lo r_At_X_Hi r_At_Y_Lo r_At_Y_Hi r_From_X r_From_Y r_To_X r_To_Y r_Far)
            (sighting_Box_2 r_Ship r_Number r_Time r_Buoy r_At_X_Lo r_At_X_Hi r_At_Y_Lo r_At_Y_Hi r_From_X r_From_Y r_To_X r_To_Y r_Far)
            (sighting_Box_3 r_Ship r_Number r_Time r_Buoy r_At_X_Lo r_At_X_Hi r_At_Y_Lo r_At_Y_Hi r_From_X r_From_Y r_To_X r_To_Y r_Far) &&
        span_InBox_1 p_X p_Y (sighting_Box_0 r_Ship r_Number r_Time r_Buoy r_At_X_Lo r_At_X_Hi r_At_Y_Lo r_At_Y_Hi r_From_X r_From_Y r_To_X r_To_Y r_Far)
            (sighting_Box_1 r_Ship r_Number r_Time r_Buoy r_At_X_Lo r_At_X_Hi r_At_Y_Lo r_At_Y_Hi r_From_X r_From_Y r_To_X r_To_Y r_Far)
            (sighting_Box_2 r_Ship r_Number r_Time r_Buoy r_At_X_Lo r_At_X_Hi r_At_Y_Lo r_At_Y_Hi r_From_X r_From_Y r_To_X r_To_Y r_Far)
            (sighting_Box_3 r_Ship r_Number r_Time r_Buoy r_At_X_Lo r_At_X_Hi r_At_Y_Lo r_At_Y_Hi r_From_X r_From_Y r_To_X r_To_Y r_Far) ==
          (0 : Int) &&
      span_InBox_0 p_X p_Y (sighting_Box_0 r_Ship r_Number r_Time r_Buoy r_At_X_Lo r_At_X_Hi r_At_Y_Lo r_At_Y_Hi r_From_X r_From_Y r_To_X r_To_Y r_Far)
        (sighting_Box_1 r_Ship r_Number r_Time r_Buoy r_At_X_Lo r_At_X_Hi r_At_Y_Lo r_At_Y_Hi r_From_X r_From_Y r_To_X r_To_Y r_Far)
        (sighting_Box_2 r_Ship r_Number r_Time r_Buoy r_At_X_Lo r_At_X_Hi r_At_Y_Lo r_At_Y_Hi r_From_X r_From_Y r_To_X r_To_Y r_Far)
        (sighting_Box_3 r_Ship r_Number r_Time r_Buoy r_At_X_Lo r_At_X_Hi r_At_Y_Lo r_At_Y_Hi r_From_X r_From_Y r_To_X r_To_Y r_Far)
def law24_SightingBox_pre (r_Ship r_Number r_Time r_Buoy r_At_X_Lo r_At_X_Hi r_At_Y_Lo r_At_Y_Hi r_From_X r_From_Y r_To_X r_To_Y r_Far p_X p_Y : Int) : Prop :=
  (law24_head_pre)
noncomputable def law24_SightingWedge_0 (r_Ship r_Number r_Time r_Buoy r_At_X_Lo r_At_X_Hi r_At_Y_Lo r_At_Y_Hi r_From_X r_From_Y r_To_X r_To_Y r_Far p_X p_Y b_X_Lo b_X_Hi b_Y_Lo b_Y_Hi c_X_Lo c_X_Hi c_Y_Lo c_Y_Hi : Int) : Bool :=
  bif
    sighting_Wedge_1 r_Ship r_Number r_Time r_Buoy r_At_X_Lo r_At_X_Hi r_At_Y_Lo r_At_Y_Hi r_From_X r_From_Y r_To_X r_To_Y r_Far b_X_Lo b_X_Hi b_Y_Lo b_Y_Hi != (0 : Int) ||
        sighting_Wedge_1 r_Ship r_Number r_Time r_Buoy r_At_X_Lo r_At_X_Hi r_At_Y_Lo r_At_Y_Hi r_From_X r_From_Y r_To_X r_To_Y r_Far c_X_Lo c_X_Hi c_Y_Lo c_Y_Hi != (0 : Int) ||
      sighting_Allows_1 r_Ship r_Number r_Time r_Buoy r_At_X_Lo r_At_X_Hi r_At_Y_Lo r_At_Y_Hi r_From_X r_From_Y r_To_X r_To_Y r_Far p_X p_Y != (0 : Int) then
  law24_head_0
else
  law24_head_0 && sighting_Wedge_1 r_Ship r_Number r_Time r_Buoy r_At_X_Lo r_At_X_Hi r_At_Y_Lo r_At_Y_Hi r_From_X r_From_Y r_To_X r_To_Y r_Far p_X p_X p_Y p_Y == (0 : Int) &&
                span_InBox_1 p_X p_Y b_X_Lo b_X_Hi b_Y_Lo b_Y_Hi == (0 : Int) &&
              span_WithinBox_1 b_X_Lo b_X_Hi b_Y_Lo b_Y_Hi c_X_Lo c_X_Hi c_Y_Lo c_Y_Hi == (0 : Int) &&
            sighting_Box_4 r_Ship r_Number r_Time r_Buoy r_At_X_Lo r_At_X_Hi r_At_Y_Lo r_At_Y_Hi r_From_X r_From_Y r_To_X r_To_Y r_Far == (0 : Int) &&
          sighting_Wedge_0 r_Ship r_Number r_Time r_Buoy r_At_X_Lo r_At_X_Hi r_At_Y_Lo r_At_Y_Hi r_From_X r_From_Y r_To_X r_To_Y r_Far p_X p_X p_Y p_Y ==
            sighting_Allows_0 r_Ship r_Number r_Time r_Buoy r_At_X_Lo r_At_X_Hi r_At_Y_Lo r_At_Y_Hi r_From_X r_From_Y r_To_X r_To_Y r_Far p_X p_Y &&
        (!sighting_Allows_0 r_Ship r_Number r_Time r_Buoy r_At_X_Lo r_At_X_Hi r_At_Y_Lo r_At_Y_Hi r_From_X r_From_Y r_To_X r_To_Y r_Far p_X p_Y || !span_InBox_0 p_X p_Y b_X_Lo b_X_Hi b_Y_Lo b_Y_Hi ||
          sighting_Wedge_0 r_Ship r_Number r_Time r_Buoy r_At_X_Lo r_At_X_Hi r_At_Y_Lo r_At_Y_Hi r_From_X r_From_Y r_To_X r_To_Y r_Far b_X_Lo b_X_Hi b_Y_Lo b_Y_Hi) &&
      (!sighting_Wedge_0 r_Ship r_Number r_Time r_Buoy r_At_X_Lo r_At_X_Hi r_At_Y_Lo r_At_Y_Hi r_From_X r_From_Y r_To_X r_To_Y r_Far b_X_Lo b_X_Hi b_Y_Lo b_Y_Hi ||
          !span_WithinBox_0 b_X_Lo b_X_Hi b_Y_Lo b_Y_Hi c_X_Lo c_X_Hi c_Y_Lo c_Y_Hi ||
        sighting_Wedge_0 r_Ship r_Number r_Time r_Buoy r_At_X_Lo r_At_X_Hi r_At_Y_Lo r_At_Y_Hi r_From_X r_From_Y r_To_X r_To_Y r_Far c_X_Lo c_X_Hi c_Y_Lo c_Y_Hi) &&
    (!sighting_Wedge_0 r_Ship r_Number r_Time r_Buoy r_At_X_Lo r_At_X_Hi r_At_Y_Lo r_At_Y_Hi r_From_X r_From_Y r_To_X r_To_Y r_Far b_X_Lo b_X_Hi b_Y_Lo b_Y_Hi ||
      span_MeetBox_4 b_X_Lo b_X_Hi b_Y_Lo b_Y_Hi (sighting_Box_0 r_Ship r_Number r_Time r_Buoy r_At_X_Lo r_At_X_Hi r_At_Y_Lo r_At_Y_Hi r_From_X r_From_Y r_To_X r_To_Y r_Far)
            (sighting_Box_1 r_Ship r_Number r_Time r_Buoy r_At_X_Lo r_At_X_Hi r_At_Y_Lo r_At_Y_Hi r_From_X r_From_Y r_To_X r_To_Y r_Far)
            (sighting_Box_2 r_Ship r_Number r_Time r_Buoy r_At_X_Lo r_At_X_Hi r_At_Y_Lo r_At_Y_Hi r_From_X r_From_Y r_To_X r_To_Y r_Far)
            (sighting_Box_3 r_Ship r_Number r_Time r_Buoy r_At_X_Lo r_At_X_Hi r_At_Y_Lo r_At_Y_Hi r_From_X r_From_Y r_To_X r_To_Y r_Far) ==
          (0 : Int) &&
        ref02_ValidBox_0
          (span_MeetBox_0 b_X_Lo b_X_Hi b_Y_Lo b_Y_Hi (sighting_Box_0 r_Ship r_Number r_Time r_Buoy r_At_X_Lo r_At_X_Hi r_At_Y_Lo r_At_Y_Hi r_From_X r_From_Y r_To_X r_To_Y r_Far)
            (sighting_Box_1 r_Ship r_Number r_Time r_Buoy r_At_X_Lo r_At_X_Hi r_At_Y_Lo r_At_Y_Hi r_From_X r_From_Y r_To_X r_To_Y r_Far)
            (sighting_Box_2 r_Ship r_Number r_Time r_Buoy r_At_X_Lo r_At_X_Hi r_At_Y_Lo r_At_Y_Hi r_From_X r_From_Y r_To_X r_To_Y r_Far)
            (sighting_Box_3 r_Ship r_Number r_Time r_Buoy r_At_X_Lo r_At_X_Hi r_At_Y_Lo r_At_Y_Hi r_From_X r_From_Y r_To_X r_To_Y r_Far))
          (span_MeetBox_1 b_X_Lo b_X_Hi b_Y_Lo b_Y_Hi (sighting_Box_0 r_Ship r_Number r_Time r_Buoy r_At_X_Lo r_At_X_Hi r_At_Y_Lo r_At_Y_Hi r_From_X r_From_Y r_To_X r_To_Y r_Far)
            (sighting_Box_1 r_Ship r_Number r_Time r_Buoy r_At_X_Lo r_At_X_Hi r_At_Y_Lo r_At_Y_Hi r_From_X r_From_Y r_To_X r_To_Y r_Far)
            (sighting_Box_2 r_Ship r_Number r_Time r_Buoy r_At_X_Lo r_At_X_Hi r_At_Y_Lo r_At_Y_Hi r_From_X r_From_Y r_To_X r_To_Y r_Far)
            (sighting_Box_3 r_Ship r_Number r_Time r_Buoy r_At_X_Lo r_At_X_Hi r_At_Y_Lo r_At_Y_Hi r_From_X r_From_Y r_To_X r_To_Y r_Far))
          (span_MeetBox_2 b_X_Lo b_X_Hi b_Y_Lo b_Y_Hi (sighting_Box_0 r_Ship r_Number r_Time r_Buoy r_At_X_Lo r_At_X_Hi r_At_Y_Lo r_At_Y_Hi r_From_X r_From_Y r_To_X r_To_Y r_Far)
            (sighting_Box_1 r_Ship r_Number r_Time r_Buoy r_At_X_Lo r_At_X_Hi r_At_Y_Lo r_At_Y_Hi r_From_X r_From_Y r_To_X r_To_Y r_Far)
            (sighting_Box_2 r_Ship r_Number r_Time r_Buoy r_At_X_Lo r_At_X_Hi r_At_Y_Lo r_At_Y_Hi r_From_X r_From_Y r_To_X r_To_Y r_Far)
            (sighting_Box_3 r_Ship r_Number r_Time r_Buoy r_At_X_Lo r_At_X_Hi r_At_Y_Lo r_At_Y_Hi r_From_X r_From_Y r_To_X r_To_Y r_Far))
          (span_MeetBox_3 b_X_Lo b_X_Hi b_Y_Lo b_Y_Hi (sighting_Box_0 r_Ship r_Number r_Time r_Buoy r_At_X_Lo r_At_X_Hi r_At_Y_Lo r_At_Y_Hi r_From_X r_From_Y r_To_X r_To_Y r_Far)
            (sighting_Box_1 r_Ship r_Number r_Time r_Buoy r_At_X_Lo r_At_X_Hi r_At_Y_Lo r_At_Y_Hi r_From_X r_From_Y r_To_X r_To_Y r_Far)
            (sighting_Box_2 r_Ship r_Number r_Time r_Buoy r_At_X_Lo r_At_X_Hi r_At_Y_Lo r_At_Y_Hi r_From_X r_From_Y r_To_X r_To_Y r_Far)
            (sighting_Box_3 r_Ship r_Number r_Time r_Buoy r_At_X_Lo r_At_X_Hi r_At_Y_Lo r_At_Y_Hi r_From_X r_From_Y r_To_X r_To_Y r_Far)))
def law24_SightingWedge_pre (r_Ship r_Number r_Time r_Buoy r_At_X_Lo r_At_X_Hi r_At_Y_Lo r_At_Y_Hi r_From_X r_From_Y r_To_X r_To_Y r_Far p_X p_Y b_X_Lo b_X_Hi b_Y_Lo b_Y_Hi c_X_Lo c_X_Hi c_Y_Lo c_Y_Hi : Int) : Prop :=
  (law24_head_pre)
noncomputable def law24_SightingTurned_0 (r_Ship r_Number r_Time r_Buoy r_At_X_Lo r_At_X_Hi r_At_Y_Lo r_At_Y_Hi r_From_X r_From_Y r_To_X r_To_Y r_Far p_X p_Y b_X_Lo b_X_Hi b_Y_Lo b_Y_Hi by__X by__Y : Int) : Bool :=
  bif
    !ref24_Valid_0 r_Ship r_Number r_Time r_Buoy r_At_X_Lo r_At_X_Hi r_At_Y_Lo r_At_Y_Hi r_From_X r_From_Y r_To_X r_To_Y r_Far || !ref01_Valid_0 p_X p_Y ||
        !ref02_ValidBox_0 b_X_Lo b_X_Hi b_Y_Lo b_Y_Hi ||
      !ref01_Valid_0 by__X by__Y then
  law24_head_0
else
  bif
      !ref24_Valid_0 r_Ship r_Number r_Time r_Buoy (law24_around_0 r_At_X_Lo r_At_X_Hi r_At_Y_Lo r_At_Y_Hi by__X by__Y) (law24_around_1 r_At_X_Lo r_At_X_Hi r_At_Y_Lo r_At_Y_Hi by__X by__Y)
              (law24_around_2 r_At_X_Lo r_At_X_Hi r_At_Y_Lo r_At_Y_Hi by__X by__Y) (law24_around_3 r_At_X_Lo r_At_X_Hi r_At_Y_Lo r_At_Y_Hi by__X by__Y)
              (law24_turned_0 r_From_X r_From_Y (0 : Int) (0 : Int)) (law24_turned_1 r_From_X r_From_Y (0 : Int) (0 : Int)) (law24_turned_0 r_To_X r_To_Y (0 : Int) (0 : Int))
              (law24_turned_1 r_To_X r_To_Y (0 : Int) (0 : Int)) r_Far ||
          !ref01_Valid_0 (law24_turned_0 p_X p_Y by__X by__Y) (law24_turned_1 p_X p_Y by__X by__Y) ||
        !ref02_ValidBox_0 (law24_around_0 b_X_Lo b_X_Hi b_Y_Lo b_Y_Hi by__X by__Y) (law24_around_1 b_X_Lo b_X_Hi b_Y_Lo b_Y_Hi by__X by__Y) (law24_around_2 b_X_Lo b_X_Hi b_Y_Lo b_Y_Hi by__X by__Y)
            (law24_around_3 b_X_Lo b_X_Hi b_Y_Lo b_Y_Hi by__X by__Y) then
    law24_head_0
  else
    law24_head_0 && sighting_Allows_1 r_Ship r_Number r_Time r_Buoy r_At_X_Lo r_At_X_Hi r_At_Y_Lo r_At_Y_Hi r_From_X r_From_Y r_To_X r_To_Y r_Far p_X p_Y == (0 : Int) &&
                    sighting_Allows_1 r_Ship r_Number r_Time r_Buoy (law24_around_0 r_At_X_Lo r_At_X_Hi r_At_Y_Lo r_At_Y_Hi by__X by__Y)
                        (law24_around_1 r_At_X_Lo r_At_X_Hi r_At_Y_Lo r_At_Y_Hi by__X by__Y) (law24_around_2 r_At_X_Lo r_At_X_Hi r_At_Y_Lo r_At_Y_Hi by__X by__Y)
                        (law24_around_3 r_At_X_Lo r_At_X_Hi r_At_Y_Lo r_At_Y_Hi by__X by__Y) (law24_turned_0 r_From_X r_From_Y (0 : Int) (0 : Int))
                        (law24_turned_1 r_From_X r_From_Y (0 : Int) (0 : Int)) (law24_turned_0 r_To_X r_To_Y (0 : Int) (0 : Int)) (law24_turned_1 r_To_X r_To_Y (0 : Int) (0 : Int)) r_Far
                        (law24_turned_0 p_X p_Y by__X by__Y) (law24_turned_1 p_X p_Y by__X by__Y) ==
                      (0 : Int) &&
                  sighting_Wedge_1 r_Ship r_Number r_Time r_Buoy r_At_X_Lo r_At_X_Hi r_At_Y_Lo r_At_Y_Hi r_From_X r_From_Y r_To_X r_To_Y r_Far b_X_Lo b_X_Hi b_Y_Lo b_Y_Hi == (0 : Int) &&
                sighting_Wedge_1 r_Ship r_Number r_Time r_Buoy (law24_around_0 r_At_X_Lo r_At_X_Hi r_At_Y_Lo r_At_Y_Hi by__X by__Y) (law24_around_1 r_At_X_Lo r_At_X_Hi r_At_Y_Lo r_At_Y_Hi by__X by__Y)
                    (law24_around_2 r_At_X_Lo r_At_X_Hi r_At_Y_Lo r_At_Y_Hi by__X by__Y) (law24_around_3 r_At_X_Lo r_At_X_Hi r_At_Y_Lo r_At_Y_Hi by__X by__Y)
                    (law24_turned_0 r_From_X r_From_Y (0 : Int) (0 : Int)) (law24_turned_1 r_From_X r_From_Y (0 : Int) (0 : Int)) (law24_turned_0 r_To_X r_To_Y (0 : Int) (0 : Int))
                    (law24_turned_1 r_To_X r_To_Y (0 : Int) (0 : Int)) r_Far (law24_around_0 b_X_Lo b_X_Hi b_Y_Lo b_Y_Hi by__X by__Y) (law24_around_1 b_X_Lo b_X_Hi b_Y_Lo b_Y_Hi by__X by__Y)
                    (law24_around_2 b_X_Lo b_X_Hi b_Y_Lo b_Y_Hi by__X by__Y) (law24_around_3 b_X_Lo b_X_Hi b_Y_Lo b_Y_Hi by__X by__Y) ==
                  (0 : Int) &&
              sighting_Allows_0 r_Ship r_Number r_Time r_Buoy r_At_X_Lo r_At_X_Hi r_At_Y_Lo r_At_Y_Hi r_From_X r_From_Y r_To_X r_To_Y r_Far p_X p_Y ==
                sighting_Allows_0 r_Ship r_Number r_Time r_Buoy (law24_around_0 r_At_X_Lo r_At_X_Hi r_At_Y_Lo r_At_Y_Hi by__X by__Y)
                  (law24_around_1 r_At_X_Lo r_At_X_Hi r_At_Y_Lo r_At_Y_Hi by__X by__Y) (law24_around_2 r_At_X_Lo r_At_X_Hi r_At_Y_Lo r_At_Y_Hi by__X by__Y)
                  (law24_around_3 r_At_X_Lo r_At_X_Hi r_At_Y_Lo r_At_Y_Hi by__X by__Y) (law24_turned_0 r_From_X r_From_Y (0 : Int) (0 : Int)) (law24_turned_1 r_From_X r_From_Y (0 : Int) (0 : Int))
                  (law24_turned_0 r_To_X r_To_Y (0 : Int) (0 : Int)) (law24_turned_1 r_To_X r_To_Y (0 : Int) (0 : Int)) r_Far (law24_turned_0 p_X p_Y by__X by__Y)
                  (law24_turned_1 p_X p_Y by__X by__Y) &&
            sighting_Wedge_0 r_Ship r_Number r_Time r_Buoy r_At_X_Lo r_At_X_Hi r_At_Y_Lo r_At_Y_Hi r_From_X r_From_Y r_To_X r_To_Y r_Far b_X_Lo b_X_Hi b_Y_Lo b_Y_Hi ==
              sighting_Wedge_0 r_Ship r_Number r_Time r_Buoy (law24_around_0 r_At_X_Lo r_At_X_Hi r_At_Y_Lo r_At_Y_Hi by__X by__Y) (law24_around_1 r_At_X_Lo r_At_X_Hi r_At_Y_Lo r_At_Y_Hi by__X by__Y)
                (law24_around_2 r_At_X_Lo r_At_X_Hi r_At_Y_Lo r_At_Y_Hi by__X by__Y) (law24_around_3 r_At_X_Lo r_At_X_Hi r_At_Y_Lo r_At_Y_Hi by__X by__Y)
                (law24_turned_0 r_From_X r_From_Y (0 : Int) (0 : Int)) (law24_turned_1 r_From_X r_From_Y (0 : Int) (0 : Int)) (law24_turned_0 r_To_X r_To_Y (0 : Int) (0 : Int))
                (law24_turned_1 r_To_X r_To_Y (0 : Int) (0 : Int)) r_Far (law24_around_0 b_X_Lo b_X_Hi b_Y_Lo b_Y_Hi by__X by__Y) (law24_around_1 b_X_Lo b_X_Hi b_Y_Lo b_Y_Hi by__X by__Y)
                (law24_around_2 b_X_Lo b_X_Hi b_Y_Lo b_Y_Hi by__X by__Y) (law24_around_3 b_X_Lo b_X_Hi b_Y_Lo b_Y_Hi by__X by__Y) &&
          sighting_Box_4 r_Ship r_Number r_Time r_Buoy r_At_X_Lo r_At_X_Hi r_At_Y_Lo r_At_Y_Hi r_From_X r_From_Y r_To_X r_To_Y r_Far == (0 : Int) &&
        sighting_Box_4 r_Ship r_Number r_Time r_Buoy (law24_around_0 r_At_X_Lo r_At_X_Hi r_At_Y_Lo r_At_Y_Hi by__X by__Y) (law24_around_1 r_At_X_Lo r_At_X_Hi r_At_Y_Lo r_At_Y_Hi by__X by__Y)
            (law24_around_2 r_At_X_Lo r_At_X_Hi r_At_Y_Lo r_At_Y_Hi by__X by__Y) (law24_around_3 r_At_X_Lo r_At_X_Hi r_At_Y_Lo r_At_Y_Hi by__X by__Y)
            (law24_turned_0 r_From_X r_From_Y (0 : Int) (0 : Int)) (law24_turned_1 r_From_X r_From_Y (0 : Int) (0 : Int)) (law24_turned_0 r_To_X r_To_Y (0 : Int) (0 : Int))
            (law24_turned_1 r_To_X r_To_Y (0 : Int) (0 : Int)) r_Far ==
          (0 : Int) &&
      (sighting_Box_0 r_Ship r_Number r_Time r_Buoy r_At_X_Lo r_At_X_Hi r_At_Y_Lo r_At_Y_Hi r_From_X r_From_Y r_To_X r_To_Y r_Far == (-1000000 : Int) ||
                sighting_Box_1 r_Ship r_Number r_Time r_Buoy r_At_X_Lo r_At_X_Hi r_At_Y_Lo r_At_Y_Hi r_From_X r_From_Y r_To_X r_To_Y r_Far == (1000000 : Int) ||
              sighting_Box_2 r_Ship r_Number r_Time r_Buoy r_At_X_Lo r_At_X_Hi r_At_Y_Lo r_At_Y_Hi r_From_X r_From_Y r_To_X r_To_Y r_Far == (-1000000 : Int) ||
            sighting_Box_3 r_Ship r_Number r_Time r_Buoy r_At_X_Lo r_At_X_Hi r_At_Y_Lo r_At_Y_Hi r_From_X r_From_Y r_To_X r_To_Y r_Far == (1000000 : Int) ||
          (sighting_Box_0 r_Ship r_Number r_Time r_Buoy (law24_around_0 r_At_X_Lo r_At_X_Hi r_At_Y_Lo r_At_Y_Hi by__X by__Y) (law24_around_1 r_At_X_Lo r_At_X_Hi r_At_Y_Lo r_At_Y_Hi by__X by__Y)
                    (law24_around_2 r_At_X_Lo r_At_X_Hi r_At_Y_Lo r_At_Y_Hi by__X by__Y) (law24_around_3 r_At_X_Lo r_At_X_Hi r_At_Y_Lo r_At_Y_Hi by__X by__Y)
                    (law24_turned_0 r_From_X r_From_Y (0 : Int) (0 : Int)) (law24_turned_1 r_From_X r_From_Y (0 : Int) (0 : Int)) (law24_turned_0 r_To_X r_To_Y (0 : Int) (0 : Int))
                    (law24_turned_1 r_To_X r_To_Y (0 : Int) (0 : Int)) r_Far ==
                  (-1000000 : Int) ||
                sighting_Box_1 r_Ship r_Number r_Time r_Buoy (law24_around_0 r_At_X_Lo r_At_X_Hi r_At_Y_Lo r_At_Y_Hi by__X by__Y) (law24_around_1 r_At_X_Lo r_At_X_Hi r_At_Y_Lo r_At_Y_Hi by__X by__Y)
                    (law24_around_2 r_At_X_Lo r_At_X_Hi r_At_Y_Lo r_At_Y_Hi by__X by__Y) (law24_around_3 r_At_X_Lo r_At_X_Hi r_At_Y_Lo r_At_Y_Hi by__X by__Y)
                    (law24_turned_0 r_From_X r_From_Y (0 : Int) (0 : Int)) (law24_turned_1 r_From_X r_From_Y (0 : Int) (0 : Int)) (law24_turned_0 r_To_X r_To_Y (0 : Int) (0 : Int))
                    (law24_turned_1 r_To_X r_To_Y (0 : Int) (0 : Int)) r_Far ==
                  (1000000 : Int) ||
              sighting_Box_2 r_Ship r_Number r_Time r_Buoy (law24_around_0 r_At_X_Lo r_At_X_Hi r_At_Y_Lo r_At_Y_Hi by__X by__Y) (law24_around_1 r_At_X_Lo r_At_X_Hi r_At_Y_Lo r_At_Y_Hi by__X by__Y)
                  (law24_around_2 r_At_X_Lo r_At_X_Hi r_At_Y_Lo r_At_Y_Hi by__X by__Y) (law24_around_3 r_At_X_Lo r_At_X_Hi r_At_Y_Lo r_At_Y_Hi by__X by__Y)
                  (law24_turned_0 r_From_X r_From_Y (0 : Int) (0 : Int)) (law24_turned_1 r_From_X r_From_Y (0 : Int) (0 : Int)) (law24_turned_0 r_To_X r_To_Y (0 : Int) (0 : Int))
                  (law24_turned_1 r_To_X r_To_Y (0 : Int) (0 : Int)) r_Far ==
                (-1000000 : Int) ||
            sighting_Box_3 r_Ship r_Number r_Time r_Buoy (law24_around_0 r_At_X_Lo r_At_X_Hi r_At_Y_Lo r_At_Y_Hi by__X by__Y) (law24_around_1 r_At_X_Lo r_At_X_Hi r_At_Y_Lo r_At_Y_Hi by__X by__Y)
                (law24_around_2 r_At_X_Lo r_At_X_Hi r_At_Y_Lo r_At_Y_Hi by__X by__Y) (law24_around_3 r_At_X_Lo r_At_X_Hi r_At_Y_Lo r_At_Y_Hi by__X by__Y)
                (law24_turned_0 r_From_X r_From_Y (0 : Int) (0 : Int)) (law24_turned_1 r_From_X r_From_Y (0 : Int) (0 : Int)) (law24_turned_0 r_To_X r_To_Y (0 : Int) (0 : Int))
                (law24_turned_1 r_To_X r_To_Y (0 : Int) (0 : Int)) r_Far ==
              (1000000 : Int)) ||
        sighting_Box_0 r_Ship r_Number r_Time r_Buoy (law24_around_0 r_At_X_Lo r_At_X_Hi r_At_Y_Lo r_At_Y_Hi by__X by__Y) (law24_around_1 r_At_X_Lo r_At_X_Hi r_At_Y_Lo r_At_Y_Hi by__X by__Y)
                (law24_around_2 r_At_X_Lo r_At_X_Hi r_At_Y_Lo r_At_Y_Hi by__X by__Y) (law24_around_3 r_At_X_Lo r_At_X_Hi r_At_Y_Lo r_At_Y_Hi by__X by__Y)
                (law24_turned_0 r_From_X r_From_Y (0 : Int) (0 : Int)) (law24_turned_1 r_From_X r_From_Y (0 : Int) (0 : Int)) (law24_turned_0 r_To_X r_To_Y (0 : Int) (0 : Int))
                (law24_turned_1 r_To_X r_To_Y (0 : Int) (0 : Int)) r_Far ==
              law24_around_0 (sighting_Box_0 r_Ship r_Number r_Time r_Buoy r_At_X_Lo r_At_X_Hi r_At_Y_Lo r_At_Y_Hi r_From_X r_From_Y r_To_X r_To_Y r_Far)
                (sighting_Box_1 r_Ship r_Number r_Time r_Buoy r_At_X_Lo r_At_X_Hi r_At_Y_Lo r_At_Y_Hi r_From_X r_From_Y r_To_X r_To_Y r_Far)
                (sighting_Box_2 r_Ship r_Number r_Time r_Buoy r_At_X_Lo r_At_X_Hi r_At_Y_Lo r_At_Y_Hi r_From_X r_From_Y r_To_X r_To_Y r_Far)
                (sighting_Box_3 r_Ship r_Number r_Time r_Buoy r_At_X_Lo r_At_X_Hi r_At_Y_Lo r_At_Y_Hi r_From_X r_From_Y r_To_X r_To_Y r_Far) by__X by__Y &&
            (sighting_Box_1 r_Ship r_Number r_Time r_Buoy (law24_around_0 r_At_X_Lo r_At_X_Hi r_At_Y_Lo r_At_Y_Hi by__X by__Y) (law24_around_1 r_At_X_Lo r_At_X_Hi r_At_Y_Lo r_At_Y_Hi by__X by__Y)
                  (law24_around_2 r_At_X_Lo r_At_X_Hi r_At_Y_Lo r_At_Y_Hi by__X by__Y) (law24_around_3 r_At_X_Lo r_At_X_Hi r_At_Y_Lo r_At_Y_Hi by__X by__Y)
                  (law24_turned_0 r_From_X r_From_Y (0 : Int) (0 : Int)) (law24_turned_1 r_From_X r_From_Y (0 : Int) (0 : Int)) (law24_turned_0 r_To_X r_To_Y (0 : Int) (0 : Int))
                  (law24_turned_1 r_To_X r_To_Y (0 : Int) (0 : Int)) r_Far ==
                law24_around_1 (sighting_Box_0 r_Ship r_Number r_Time r_Buoy r_At_X_Lo r_At_X_Hi r_At_Y_Lo r_At_Y_Hi r_From_X r_From_Y r_To_X r_To_Y r_Far)
                  (sighting_Box_1 r_Ship r_Number r_Time r_Buoy r_At_X_Lo r_At_X_Hi r_At_Y_Lo r_At_Y_Hi r_From_X r_From_Y r_To_X r_To_Y r_Far)
                  (sighting_Box_2 r_Ship r_Number r_Time r_Buoy r_At_X_Lo r_At_X_Hi r_At_Y_Lo r_At_Y_Hi r_From_X r_From_Y r_To_X r_To_Y r_Far)
                  (sighting_Box_3 r_Ship r_Number r_Time r_Buoy r_At_X_Lo r_At_X_Hi r_At_Y_Lo r_At_Y_Hi r_From_X r_From_Y r_To_X r_To_Y r_Far) by__X by__Y &&
              true) &&
          (sighting_Box_2 r_Ship r_Number r_Time r_Buoy (law24_around_0 r_At_X_Lo r_At_X_Hi r_At_Y_Lo r_At_Y_Hi by__X by__Y) (law24_around_1 r_At_X_Lo r_At_X_Hi r_At_Y_Lo r_At_Y_Hi by__X by__Y)
                  (law24_around_2 r_At_X_Lo r_At_X_Hi r_At_Y_Lo r_At_Y_Hi by__X by__Y) (law24_around_3 r_At_X_Lo r_At_X_Hi r_At_Y_Lo r_At_Y_Hi by__X by__Y)
                  (law24_turned_0 r_From_X r_From_Y (0 : Int) (0 : Int)) (law24_turned_1 r_From_X r_From_Y (0 : Int) (0 : Int)) (law24_turned_0 r_To_X r_To_Y (0 : Int) (0 : Int))
                  (law24_turned_1 r_To_X r_To_Y (0 : Int) (0 : Int)) r_Far ==
                law24_around_2 (sighting_Box_0 r_Ship r_Number r_Time r_Buoy r_At_X_Lo r_At_X_Hi r_At_Y_Lo r_At_Y_Hi r_From_X r_From_Y r_To_X r_To_Y r_Far)
                  (sighting_Box_1 r_Ship r_Number r_Time r_Buoy r_At_X_Lo r_At_X_Hi r_At_Y_Lo r_At_Y_Hi r_From_X r_From_Y r_To_X r_To_Y r_Far)
                  (sighting_Box_2 r_Ship r_Number r_Time r_Buoy r_At_X_Lo r_At_X_Hi r_At_Y_Lo r_At_Y_Hi r_From_X r_From_Y r_To_X r_To_Y r_Far)
                  (sighting_Box_3 r_Ship r_Number r_Time r_Buoy r_At_X_Lo r_At_X_Hi r_At_Y_Lo r_At_Y_Hi r_From_X r_From_Y r_To_X r_To_Y r_Far) by__X by__Y &&
              (sighting_Box_3 r_Ship r_Number r_Time r_Buoy (law24_around_0 r_At_X_Lo r_At_X_Hi r_At_Y_Lo r_At_Y_Hi by__X by__Y) (law24_around_1 r_At_X_Lo r_At_X_Hi r_At_Y_Lo r_At_Y_Hi by__X by__Y)
                    (law24_around_2 r_At_X_Lo r_At_X_Hi r_At_Y_Lo r_At_Y_Hi by__X by__Y) (law24_around_3 r_At_X_Lo r_At_X_Hi r_At_Y_Lo r_At_Y_Hi by__X by__Y)
                    (law24_turned_0 r_From_X r_From_Y (0 : Int) (0 : Int)) (law24_turned_1 r_From_X r_From_Y (0 : Int) (0 : Int)) (law24_turned_0 r_To_X r_To_Y (0 : Int) (0 : Int))
                    (law24_turned_1 r_To_X r_To_Y (0 : Int) (0 : Int)) r_Far ==
                  law24_around_3 (sighting_Box_0 r_Ship r_Number r_Time r_Buoy r_At_X_Lo r_At_X_Hi r_At_Y_Lo r_At_Y_Hi r_From_X r_From_Y r_To_X r_To_Y r_Far)
                    (sighting_Box_1 r_Ship r_Number r_Time r_Buoy r_At_X_Lo r_At_X_Hi r_At_Y_Lo r_At_Y_Hi r_From_X r_From_Y r_To_X r_To_Y r_Far)
                    (sighting_Box_2 r_Ship r_Number r_Time r_Buoy r_At_X_Lo r_At_X_Hi r_At_Y_Lo r_At_Y_Hi r_From_X r_From_Y r_To_X r_To_Y r_Far)
                    (sighting_Box_3 r_Ship r_Number r_Time r_Buoy r_At_X_Lo r_At_X_Hi r_At_Y_Lo r_At_Y_Hi r_From_X r_From_Y r_To_X r_To_Y r_Far) by__X by__Y &&
                true) &&
            true))
def law24_SightingTurned_pre (r_Ship r_Number r_Time r_Buoy r_At_X_Lo r_At_X_Hi r_At_Y_Lo r_At_Y_Hi r_From_X r_From_Y r_To_X r_To_Y r_Far p_X p_Y b_X_Lo b_X_Hi b_Y_Lo b_Y_Hi by__X by__Y : Int) : Prop :=
  (law24_head_pre)
noncomputable def law24_SightingWider_0 (r_Ship r_Number r_Time r_Buoy r_At_X_Lo r_At_X_Hi r_At_Y_Lo r_At_Y_Hi r_From_X r_From_Y r_To_X r_To_Y r_Far s_Ship s_Number s_Time s_Buoy s_At_X_Lo s_At_X_Hi s_At_Y_Lo s_At_Y_Hi s_From_X s_From_Y s_To_X s_To_Y s_Far p_X p_Y b_X_Lo b_X_Hi b_Y_Lo b_Y_Hi : Int) : Bool :=
  bif
    !ref24_Valid_0 r_Ship r_Number r_Time r_Buoy r_At_X_Lo r_At_X_Hi r_At_Y_Lo r_At_Y_Hi r_From_X r_From_Y r_To_X r_To_Y r_Far ||
        !ref24_Valid_0 s_Ship s_Number s_Time s_Buoy s_At_X_Lo s_At_X_Hi s_At_Y_Lo s_At_Y_Hi s_From_X s_From_Y s_To_X s_To_Y s_Far ||
      decide (s_Far < r_Far) then
  law24_head_0
else
  bif
      !(decide (s_At_X_Lo ≤ r_At_X_Lo) && decide (r_At_X_Hi ≤ s_At_X_Hi) && decide (s_At_Y_Lo ≤ r_At_Y_Lo) && decide (r_At_Y_Hi ≤ s_At_Y_Hi) &&
                decide (ref01_Cross_0 s_From_X s_From_Y r_From_X r_From_Y ≥ (0 : Int)) &&
              decide (ref01_Cross_0 r_From_X r_From_Y s_To_X s_To_Y ≥ (0 : Int)) &&
            decide (ref01_Cross_0 s_From_X s_From_Y r_To_X r_To_Y ≥ (0 : Int)) &&
          decide (ref01_Cross_0 r_To_X r_To_Y s_To_X s_To_Y ≥ (0 : Int))) then
    law24_head_0
  else
    law24_head_0 &&
            sighting_Allows_1 r_Ship r_Number r_Time r_Buoy r_At_X_Lo r_At_X_Hi r_At_Y_Lo r_At_Y_Hi r_From_X r_From_Y r_To_X r_To_Y r_Far p_X p_Y ==
              sighting_Allows_1 s_Ship s_Number s_Time s_Buoy s_At_X_Lo s_At_X_Hi s_At_Y_Lo s_At_Y_Hi s_From_X s_From_Y s_To_X s_To_Y s_Far p_X p_Y &&
          sighting_Wedge_1 r_Ship r_Number r_Time r_Buoy r_At_X_Lo r_At_X_Hi r_At_Y_Lo r_At_Y_Hi r_From_X r_From_Y r_To_X r_To_Y r_Far b_X_Lo b_X_Hi b_Y_Lo b_Y_Hi ==
            sighting_Wedge_1 s_Ship s_Number s_Time s_Buoy s_At_X_Lo s_At_X_Hi s_At_Y_Lo s_At_Y_Hi s_From_X s_From_Y s_To_X s_To_Y s_Far b_X_Lo b_X_Hi b_Y_Lo b_Y_Hi &&
        (!sighting_Allows_0 r_Ship r_Number r_Time r_Buoy r_At_X_Lo r_At_X_Hi r_At_Y_Lo r_At_Y_Hi r_From_X r_From_Y r_To_X r_To_Y r_Far p_X p_Y ||
          sighting_Allows_0 s_Ship s_Number s_Time s_Buoy s_At_X_Lo s_At_X_Hi s_At_Y_Lo s_At_Y_Hi s_From_X s_From_Y s_To_X s_To_Y s_Far p_X p_Y) &&
      (!sighting_Wedge_0 r_Ship r_Number r_Time r_Buoy r_At_X_Lo r_At_X_Hi r_At_Y_Lo r_At_Y_Hi r_From_X r_From_Y r_To_X r_To_Y r_Far b_X_Lo b_X_Hi b_Y_Lo b_Y_Hi ||
        sighting_Wedge_0 s_Ship s_Number s_Time s_Buoy s_At_X_Lo s_At_X_Hi s_At_Y_Lo s_At_Y_Hi s_From_X s_From_Y s_To_X s_To_Y s_Far b_X_Lo b_X_Hi b_Y_Lo b_Y_Hi)
def law24_SightingWider_pre (r_Ship r_Number r_Time r_Buoy r_At_X_Lo r_At_X_Hi r_At_Y_Lo r_At_Y_Hi r_From_X r_From_Y r_To_X r_To_Y r_Far s_Ship s_Number s_Time s_Buoy s_At_X_Lo s_At_X_Hi s_At_Y_Lo s_At_Y_Hi s_From_X s_From_Y s_To_X s_To_Y s_Far p_X p_Y b_X_Lo b_X_Hi b_Y_Lo b_Y_Hi : Int) : Prop :=
  (law24_head_pre)
noncomputable def law24_SightingMatchesReference_0 (r_Ship r_Number r_Time r_Buoy r_At_X_Lo r_At_X_Hi r_At_Y_Lo r_At_Y_Hi r_From_X r_From_Y r_To_X r_To_Y r_Far p_X p_Y b_X_Lo b_X_Hi b_Y_Lo b_Y_Hi : Int) (list : List (List Int)) : Bool :=
  law24_head_0 &&
                        sighting_Valid_0 r_Ship r_Number r_Time r_Buoy r_At_X_Lo r_At_X_Hi r_At_Y_Lo r_At_Y_Hi r_From_X r_From_Y r_To_X r_To_Y r_Far ==
                          ref24_Valid_0 r_Ship r_Number r_Time r_Buoy r_At_X_Lo r_At_X_Hi r_At_Y_Lo r_At_Y_Hi r_From_X r_From_Y r_To_X r_To_Y r_Far &&
                      sighting_Allows_0 r_Ship r_Number r_Time r_Buoy r_At_X_Lo r_At_X_Hi r_At_Y_Lo r_At_Y_Hi r_From_X r_From_Y r_To_X r_To_Y r_Far p_X p_Y ==
                        ref24_Allows_0 r_Ship r_Number r_Time r_Buoy r_At_X_Lo r_At_X_Hi r_At_Y_Lo r_At_Y_Hi r_From_X r_From_Y r_To_X r_To_Y r_Far p_X p_Y &&
                    sighting_Allows_1 r_Ship r_Number r_Time r_Buoy r_At_X_Lo r_At_X_Hi r_At_Y_Lo r_At_Y_Hi r_From_X r_From_Y r_To_X r_To_Y r_Far p_X p_Y ==
                      ref24_Allows_1 r_Ship r_Number r_Time r_Buoy r_At_X_Lo r_At_X_Hi r_At_Y_Lo r_At_Y_Hi r_From_X r_From_Y r_To_X r_To_Y r_Far p_X p_Y &&
                  sighting_Wedge_0 r_Ship r_Number r_Time r_Buoy r_At_X_Lo r_At_X_Hi r_At_Y_Lo r_At_Y_Hi r_From_X r_From_Y r_To_X r_To_Y r_Far b_X_Lo b_X_Hi b_Y_Lo b_Y_Hi ==
                    ref24_Wedge_0 r_Ship r_Number r_Time r_Buoy r_At_X_Lo r_At_X_Hi r_At_Y_Lo r_At_Y_Hi r_From_X r_From_Y r_To_X r_To_Y r_Far b_X_Lo b_X_Hi b_Y_Lo b_Y_Hi &&
                sighting_Wedge_1 r_Ship r_Number r_Time r_Buoy r_At_X_Lo r_At_X_Hi r_At_Y_Lo r_At_Y_Hi r_From_X r_From_Y r_To_X r_To_Y r_Far b_X_Lo b_X_Hi b_Y_Lo b_Y_Hi ==
                  ref24_Wedge_1 r_Ship r_Number r_Time r_Buoy r_At_X_Lo r_At_X_Hi r_At_Y_Lo r_At_Y_Hi r_From_X r_From_Y r_To_X r_To_Y r_Far b_X_Lo b_X_Hi b_Y_Lo b_Y_Hi &&
              (sighting_Box_0 r_Ship r_Number r_Time r_Buoy r_At_X_Lo r_At_X_Hi r_At_Y_Lo r_At_Y_Hi r_From_X r_From_Y r_To_X r_To_Y r_Far ==
                    ref24_Box_0 r_Ship r_Number r_Time r_Buoy r_At_X_Lo r_At_X_Hi r_At_Y_Lo r_At_Y_Hi r_From_X r_From_Y r_To_X r_To_Y r_Far &&
                  (sighting_Box_1 r_Ship r_Number r_Time r_Buoy r_At_X_Lo r_At_X_Hi r_At_Y_Lo r_At_Y_Hi r_From_X r_From_Y r_To_X r_To_Y r_Far ==
                      ref24_Box_1 r_Ship r_Number r_Time r_Buoy r_At_X_Lo r_At_X_Hi r_At_Y_Lo r_At_Y_Hi r_From_X r_From_Y r_To_X r_To_Y r_Far &&
                    true) &&
                (sighting_Box_2 r_Ship r_Number r_Time r_Buoy r_At_X_Lo r_At_X_Hi r_At_Y_Lo r_At_Y_Hi r_From_X r_From_Y r_To_X r_To_Y r_Far ==
                      ref24_Box_2 r_Ship r_Number r_Time r_Buoy r_At_X_Lo r_At_X_Hi r_At_Y_Lo r_At_Y_Hi r_From_X r_From_Y r_To_X r_To_Y r_Far &&
                    (sighting_Box_3 r_Ship r_Number r_Time r_Buoy r_At_X_Lo r_At_X_Hi r_At_Y_Lo r_At_Y_Hi r_From_X r_From_Y r_To_X r_To_Y r_Far ==
                        ref24_Box_3 r_Ship r_Number r_Time r_Buoy r_At_X_Lo r_At_X_Hi r_At_Y_Lo r_At_Y_Hi r_From_X r_From_Y r_To_X r_To_Y r_Far &&
                      true) &&
                  true)) &&
            sighting_Box_4 r_Ship r_Number r_Time r_Buoy r_At_X_Lo r_At_X_Hi r_At_Y_Lo r_At_Y_Hi r_From_X r_From_Y r_To_X r_To_Y r_Far ==
              ref24_Box_4 r_Ship r_Number r_Time r_Buoy r_At_X_Lo r_At_X_Hi r_At_Y_Lo r_At_Y_Hi r_From_X r_From_Y r_To_X r_To_Y r_Far &&
          ref24_Same_0 (sighting_Merge_0 list) (ref24_Merge_0 list) &&
        ref24_Ints_0 (sighting_Merge_1 list) (ref24_Merge_1 list) &&
      sighting_Merge_2 list == ref24_Merge_2 list &&
    ref24_Ints_0 (sighting_Wrong_0 p_X p_Y list) (ref24_Wrong_0 p_X p_Y list) &&
  sighting_Wrong_1 p_X p_Y list == ref24_Wrong_1 p_X p_Y list
def law24_SightingMatchesReference_pre (r_Ship r_Number r_Time r_Buoy r_At_X_Lo r_At_X_Hi r_At_Y_Lo r_At_Y_Hi r_From_X r_From_Y r_To_X r_To_Y r_Far p_X p_Y b_X_Lo b_X_Hi b_Y_Lo b_Y_Hi : Int) (list : List (List Int)) : Prop :=
  ((law24_head_pre) ∧ ((sighting_Merge_pre list) ∧ ((ref24_Merge_pre list) ∧ ((((law24_head_0 &&
                sighting_Valid_0 r_Ship r_Number r_Time r_Buoy r_At_X_Lo r_At_X_Hi r_At_Y_Lo r_At_Y_Hi r_From_X r_From_Y r_To_X r_To_Y r_Far ==
                  ref24_Valid_0 r_Ship r_Number r_Time r_Buoy r_At_X_Lo r_At_X_Hi r_At_Y_Lo r_At_Y_Hi r_From_X r_From_Y r_To_X r_To_Y r_Far &&
              sighting_Allows_0 r_Ship r_Number r_Time r_Buoy r_At_X_Lo r_At_X_Hi r_At_Y_Lo r_At_Y_Hi r_From_X r_From_Y r_To_X r_To_Y r_Far p_X p_Y ==
                ref24_Allows_0 r_Ship r_Number r_Time r_Buoy r_At_X_Lo r_At_X_Hi r_At_Y_Lo r_At_Y_Hi r_From_X r_From_Y r_To_X r_To_Y r_Far p_X p_Y &&
            sighting_Allows_1 r_Ship r_Number r_Time r_Buoy r_At_X_Lo r_At_X_Hi r_At_Y_Lo r_At_Y_Hi r_From_X r_From_Y r_To_X r_To_Y r_Far p_X p_Y ==
              ref24_Allows_1 r_Ship r_Number r_Time r_Buoy r_At_X_Lo r_At_X_Hi r_At_Y_Lo r_At_Y_Hi r_From_X r_From_Y r_To_X r_To_Y r_Far p_X p_Y &&
          sighting_Wedge_0 r_Ship r_Number r_Time r_Buoy r_At_X_Lo r_At_X_Hi r_At_Y_Lo r_At_Y_Hi r_From_X r_From_Y r_To_X r_To_Y r_Far b_X_Lo b_X_Hi b_Y_Lo b_Y_Hi ==
            ref24_Wedge_0 r_Ship r_Number r_Time r_Buoy r_At_X_Lo r_At_X_Hi r_At_Y_Lo r_At_Y_Hi r_From_X r_From_Y r_To_X r_To_Y r_Far b_X_Lo b_X_Hi b_Y_Lo b_Y_Hi &&
        sighting_Wedge_1 r_Ship r_Number r_Time r_Buoy r_At_X_Lo r_At_X_Hi r_At_Y_Lo r_At_Y_Hi r_From_X r_From_Y r_To_X r_To_Y r_Far b_X_Lo b_X_Hi b_Y_Lo b_Y_Hi ==
          ref24_Wedge_1 r_Ship r_Number r_Time r_Buoy r_At_X_Lo r_At_X_Hi r_At_Y_Lo r_At_Y_Hi r_From_X r_From_Y r_To_X r_To_Y r_Far b_X_Lo b_X_Hi b_Y_Lo b_Y_Hi &&
      (sighting_Box_0 r_Ship r_Number r_Time r_Buoy r_At_X_Lo r_At_X_Hi r_At_Y_Lo r_At_Y_Hi r_From_X r_From_Y r_To_X r_To_Y r_Far ==
            ref24_Box_0 r_Ship r_Number r_Time r_Buoy r_At_X_Lo r_At_X_Hi r_At_Y_Lo r_At_Y_Hi r_From_X r_From_Y r_To_X r_To_Y r_Far &&
          (sighting_Box_1 r_Ship r_Number r_Time r_Buoy r_At_X_Lo r_At_X_Hi r_At_Y_Lo r_At_Y_Hi r_From_X r_From_Y r_To_X r_To_Y r_Far ==
              ref24_Box_1 r_Ship r_Number r_Time r_Buoy r_At_X_Lo r_At_X_Hi r_At_Y_Lo r_At_Y_Hi r_From_X r_From_Y r_To_X r_To_Y r_Far &&
            true) &&
        (sighting_Box_2 r_Ship r_Number r_Time r_Buoy r_At_X_Lo r_At_X_Hi r_At_Y_Lo r_At_Y_Hi r_From_X r_From_Y r_To_X r_To_Y r_Far ==
              ref24_Box_2 r_Ship r_Number r_Time r_Buoy r_At_X_Lo r_At_X_Hi r_At_Y_Lo r_At_Y_Hi r_From_X r_From_Y r_To_X r_To_Y r_Far &&
            (sighting_Box_3 r_Ship r_Number r_Time r_Buoy r_At_X_Lo r_At_X_Hi r_At_Y_Lo r_At_Y_Hi r_From_X r_From_Y r_To_X r_To_Y r_Far ==
                ref24_Box_3 r_Ship r_Number r_Time r_Buoy r_At_X_Lo r_At_X_Hi r_At_Y_Lo r_At_Y_Hi r_From_X r_From_Y r_To_X r_To_Y r_Far &&
              true) &&
          true)) &&
    sighting_Box_4 r_Ship r_Number r_Time r_Buoy r_At_X_Lo r_At_X_Hi r_At_Y_Lo r_At_Y_Hi r_From_X r_From_Y r_To_X r_To_Y r_Far ==
      ref24_Box_4 r_Ship r_Number r_Time r_Buoy r_At_X_Lo r_At_X_Hi r_At_Y_Lo r_At_Y_Hi r_From_X r_From_Y r_To_X r_To_Y r_Far) =
  true) → (ref24_Same_pre (sighting_Merge_0 list) (ref24_Merge_0 list))) ∧ ((((law24_head_0 &&
                  sighting_Valid_0 r_Ship r_Number r_Time r_Buoy r_At_X_Lo r_At_X_Hi r_At_Y_Lo r_At_Y_Hi r_From_X r_From_Y r_To_X r_To_Y r_Far ==
                    ref24_Valid_0 r_Ship r_Number r_Time r_Buoy r_At_X_Lo r_At_X_Hi r_At_Y_Lo r_At_Y_Hi r_From_X r_From_Y r_To_X r_To_Y r_Far &&
                sighting_Allows_0 r_Ship r_Number r_Time r_Buoy r_At_X_Lo r_At_X_Hi r_At_Y_Lo r_At_Y_Hi r_From_X r_From_Y r_To_X r_To_Y r_Far p_X p_Y ==
                  ref24_Allows_0 r_Ship r_Number r_Time r_Buoy r_At_X_Lo r_At_X_Hi r_At_Y_Lo r_At_Y_Hi r_From_X r_From_Y r_To_X r_To_Y r_Far p_X p_Y &&
              sighting_Allows_1 r_Ship r_Number r_Time r_Buoy r_At_X_Lo r_At_X_Hi r_At_Y_Lo r_At_Y_Hi r_From_X r_From_Y r_To_X r_To_Y r_Far p_X p_Y ==
                ref24_Allows_1 r_Ship r_Number r_Time r_Buoy r_At_X_Lo r_At_X_Hi r_At_Y_Lo r_At_Y_Hi r_From_X r_From_Y r_To_X r_To_Y r_Far p_X p_Y &&
            sighting_Wedge_0 r_Ship r_Number r_Time r_Buoy r_At_X_Lo r_At_X_Hi r_At_Y_Lo r_At_Y_Hi r_From_X r_From_Y r_To_X r_To_Y r_Far b_X_Lo b_X_Hi b_Y_Lo b_Y_Hi ==
              ref24_Wedge_0 r_Ship r_Number r_Time r_Buoy r_At_X_Lo r_At_X_Hi r_At_Y_Lo r_At_Y_Hi r_From_X r_From_Y r_To_X r_To_Y r_Far b_X_Lo b_X_Hi b_Y_Lo b_Y_Hi &&
          sighting_Wedge_1 r_Ship r_Number r_Time r_Buoy r_At_X_Lo r_At_X_Hi r_At_Y_Lo r_At_Y_Hi r_From_X r_From_Y r_To_X r_To_Y r_Far b_X_Lo b_X_Hi b_Y_Lo b_Y_Hi ==
            ref24_Wedge_1 r_Ship r_Number r_Time r_Buoy r_At_X_Lo r_At_X_Hi r_At_Y_Lo r_At_Y_Hi r_From_X r_From_Y r_To_X r_To_Y r_Far b_X_Lo b_X_Hi b_Y_Lo b_Y_Hi &&
        (sighting_Box_0 r_Ship r_Number r_Time r_Buoy r_At_X_Lo r_At_X_Hi r_At_Y_Lo r_At_Y_Hi r_From_X r_From_Y r_To_X r_To_Y r_Far ==
              ref24_Box_0 r_Ship r_Number r_Time r_Buoy r_At_X_Lo r_At_X_Hi r_At_Y_Lo r_At_Y_Hi r_From_X r_From_Y r_To_X r_To_Y r_Far &&
            (sighting_Box_1 r_Ship r_Number r_Time r_Buoy r_At_X_Lo r_At_X_Hi r_At_Y_Lo r_At_Y_Hi r_From_X r_From_Y r_To_X r_To_Y r_Far ==
                ref24_Box_1 r_Ship r_Number r_Time r_Buoy r_At_X_Lo r_At_X_Hi r_At_Y_Lo r_At_Y_Hi r_From_X r_From_Y r_To_X r_To_Y r_Far &&
              true) &&
          (sighting_Box_2 r_Ship r_Number r_Time r_Buoy r_At_X_Lo r_At_X_Hi r_At_Y_Lo r_At_Y_Hi r_From_X r_From_Y r_To_X r_To_Y r_Far ==
                ref24_Box_2 r_Ship r_Number r_Time r_Buoy r_At_X_Lo r_At_X_Hi r_At_Y_Lo r_At_Y_Hi r_From_X r_From_Y r_To_X r_To_Y r_Far &&
              (sighting_Box_3 r_Ship r_Number r_Time r_Buoy r_At_X_Lo r_At_X_Hi r_At_Y_Lo r_At_Y_Hi r_From_X r_From_Y r_To_X r_To_Y r_Far ==
                  ref24_Box_3 r_Ship r_Number r_Time r_Buoy r_At_X_Lo r_At_X_Hi r_At_Y_Lo r_At_Y_Hi r_From_X r_From_Y r_To_X r_To_Y r_Far &&
                true) &&
            true)) &&
      sighting_Box_4 r_Ship r_Number r_Time r_Buoy r_At_X_Lo r_At_X_Hi r_At_Y_Lo r_At_Y_Hi r_From_X r_From_Y r_To_X r_To_Y r_Far ==
        ref24_Box_4 r_Ship r_Number r_Time r_Buoy r_At_X_Lo r_At_X_Hi r_At_Y_Lo r_At_Y_Hi r_From_X r_From_Y r_To_X r_To_Y r_Far &&
    ref24_Same_0 (sighting_Merge_0 list) (ref24_Merge_0 list)) =
  true) → (ref24_Ints_pre (sighting_Merge_1 list) (ref24_Merge_1 list))) ∧ ((sighting_Wrong_pre p_X p_Y list) ∧ ((ref24_Wrong_pre p_X p_Y list) ∧ (((law24_head_0 &&
                      sighting_Valid_0 r_Ship r_Number r_Time r_Buoy r_At_X_Lo r_At_X_Hi r_At_Y_Lo r_At_Y_Hi r_From_X r_From_Y r_To_X r_To_Y r_Far ==
                        ref24_Valid_0 r_Ship r_Number r_Time r_Buoy r_At_X_Lo r_At_X_Hi r_At_Y_Lo r_At_Y_Hi r_From_X r_From_Y r_To_X r_To_Y r_Far &&
                    sighting_Allows_0 r_Ship r_Number r_Time r_Buoy r_At_X_Lo r_At_X_Hi r_At_Y_Lo r_At_Y_Hi r_From_X r_From_Y r_To_X r_To_Y r_Far p_X p_Y ==
                      ref24_Allows_0 r_Ship r_Number r_Time r_Buoy r_At_X_Lo r_At_X_Hi r_At_Y_Lo r_At_Y_Hi r_From_X r_From_Y r_To_X r_To_Y r_Far p_X p_Y &&
                  sighting_Allows_1 r_Ship r_Number r_Time r_Buoy r_At_X_Lo r_At_X_Hi r_At_Y_Lo r_At_Y_Hi r_From_X r_From_Y r_To_X r_To_Y r_Far p_X p_Y ==
                    ref24_Allows_1 r_Ship r_Number r_Time r_Buoy r_At_X_Lo r_At_X_Hi r_At_Y_Lo r_At_Y_Hi r_From_X r_From_Y r_To_X r_To_Y r_Far p_X p_Y &&
                sighting_Wedge_0 r_Ship r_Number r_Time r_Buoy r_At_X_Lo r_At_X_Hi r_At_Y_Lo r_At_Y_Hi r_From_X r_From_Y r_To_X r_To_Y r_Far b_X_Lo b_X_Hi b_Y_Lo b_Y_Hi ==
                  ref24_Wedge_0 r_Ship r_Number r_Time r_Buoy r_At_X_Lo r_At_X_Hi r_At_Y_Lo r_At_Y_Hi r_From_X r_From_Y r_To_X r_To_Y r_Far b_X_Lo b_X_Hi b_Y_Lo b_Y_Hi &&
              sighting_Wedge_1 r_Ship r_Number r_Time r_Buoy r_At_X_Lo r_At_X_Hi r_At_Y_Lo r_At_Y_Hi r_From_X r_From_Y r_To_X r_To_Y r_Far b_X_Lo b_X_Hi b_Y_Lo b_Y_Hi ==
                ref24_Wedge_1 r_Ship r_Number r_Time r_Buoy r_At_X_Lo r_At_X_Hi r_At_Y_Lo r_At_Y_Hi r_From_X r_From_Y r_To_X r_To_Y r_Far b_X_Lo b_X_Hi b_Y_Lo b_Y_Hi &&
            (sighting_Box_0 r_Ship r_Number r_Time r_Buoy r_At_X_Lo r_At_X_Hi r_At_Y_Lo r_At_Y_Hi r_From_X r_From_Y r_To_X r_To_Y r_Far ==
                  ref24_Box_0 r_Ship r_Number r_Time r_Buoy r_At_X_Lo r_At_X_Hi r_At_Y_Lo r_At_Y_Hi r_From_X r_From_Y r_To_X r_To_Y r_Far &&
                (sighting_Box_1 r_Ship r_Number r_Time r_Buoy r_At_X_Lo r_At_X_Hi r_At_Y_Lo r_At_Y_Hi r_From_X r_From_Y r_To_X r_To_Y r_Far ==
                    ref24_Box_1 r_Ship r_Number r_Time r_Buoy r_At_X_Lo r_At_X_Hi r_At_Y_Lo r_At_Y_Hi r_From_X r_From_Y r_To_X r_To_Y r_Far &&
                  true) &&
              (sighting_Box_2 r_Ship r_Number r_Time r_Buoy r_At_X_Lo r_At_X_Hi r_At_Y_Lo r_At_Y_Hi r_From_X r_From_Y r_To_X r_To_Y r_Far ==
                    ref24_Box_2 r_Ship r_Number r_Time r_Buoy r_At_X_Lo r_At_X_Hi r_At_Y_Lo r_At_Y_Hi r_From_X r_From_Y r_To_X r_To_Y r_Far &&
                  (sighting_Box_3 r_Ship r_Number r_Time r_Buoy r_At_X_Lo r_At_X_Hi r_At_Y_Lo r_At_Y_Hi r_From_X r_From_Y r_To_X r_To_Y r_Far ==
                      ref24_Box_3 r_Ship r_Number r_Time r_Buoy r_At_X_Lo r_At_X_Hi r_At_Y_Lo r_At_Y_Hi r_From_X r_From_Y r_To_X r_To_Y r_Far &&
                    true) &&
                true)) &&
          sighting_Box_4 r_Ship r_Number r_Time r_Buoy r_At_X_Lo r_At_X_Hi r_At_Y_Lo r_At_Y_Hi r_From_X r_From_Y r_To_X r_To_Y r_Far ==
            ref24_Box_4 r_Ship r_Number r_Time r_Buoy r_At_X_Lo r_At_X_Hi r_At_Y_Lo r_At_Y_Hi r_From_X r_From_Y r_To_X r_To_Y r_Far &&
        ref24_Same_0 (sighting_Merge_0 list) (ref24_Merge_0 list) &&
      ref24_Ints_0 (sighting_Merge_1 list) (ref24_Merge_1 list) &&
    sighting_Merge_2 list == ref24_Merge_2 list) =
  true) → (ref24_Ints_pre (sighting_Wrong_0 p_X p_Y list) (ref24_Wrong_0 p_X p_Y list))))))))))
noncomputable def law24_SightingMerged_l0_init (list : List (List Int)) : List U :=
  [.b (law24_head_0), .i ((0 : Int))]
noncomputable def law24_SightingMerged_l0_step (list : List (List Int)) (y0 : List U) : Option (Nat × List U) :=
  (bif decide (gi y0 1 < (↑(sighting_Merge_0 list).length : Int)) then guardP (inR (gi y0 1) (sighting_Merge_0 list)) (guardP (inR (gi y0 1) (sighting_Merge_0 list)) (guardP ((gb y0 0 = true) → (((0 : Int) ≤ gi y0 1) ∧ (gi y0 1 ≤ (↑(sighting_Merge_0 list).length : Int)))) (guardP ((gb y0 0 = true) → ((((↑(loN (boundsA (↑(sighting_Merge_0 list).length : Int) none (some (gi y0 1))).snd.fst) : Int) ≤ (boundsA (↑(sighting_Merge_0 list).length : Int) none (some (gi y0 1))).snd.snd) ∧ ((boundsA (↑(sighting_Merge_0 list).length : Int) none (some (gi y0 1))).snd.snd ≤ (↑(sighting_Merge_0 list).length : Int))) ∧ (ref24_Find_pre (((sighting_Merge_0 list).getD (gi y0 1).toNat []).getD 0 (0 : Int)) (((sighting_Merge_0 list).getD (gi y0 1).toNat []).getD 1 (0 : Int))
  (((sighting_Merge_0 list).getD (gi y0 1).toNat []).getD 2 (0 : Int)) (((sighting_Merge_0 list).getD (gi y0 1).toNat []).getD 3 (0 : Int))
  (((sighting_Merge_0 list).getD (gi y0 1).toNat []).getD 4 (0 : Int)) (((sighting_Merge_0 list).getD (gi y0 1).toNat []).getD 5 (0 : Int))
  (((sighting_Merge_0 list).getD (gi y0 1).toNat []).getD 6 (0 : Int)) (((sighting_Merge_0 list).getD (gi y0 1).toNat []).getD 7 (0 : Int))
  (((sighting_Merge_0 list).getD (gi y0 1).toNat []).getD 8 (0 : Int)) (((sighting_Merge_0 list).getD (gi y0 1).toNat []).getD 9 (0 : Int))
  (((sighting_Merge_0 list).getD (gi y0 1).toNat []).getD 10 (0 : Int)) (((sighting_Merge_0 list).getD (gi y0 1).toNat []).getD 11 (0 : Int))
  (((sighting_Merge_0 list).getD (gi y0 1).toNat []).getD 12 (0 : Int))
  (cutV (sighting_Merge_0 list) (boundsA (↑(sighting_Merge_0 list).length : Int) none (some (gi y0 1))).snd.fst
    (boundsA (↑(sighting_Merge_0 list).length : Int) none (some (gi y0 1))).snd.snd)))) (some (0, [.b (gb y0 0 &&
  decide
    (ref24_Find_0 (((sighting_Merge_0 list).getD (gi y0 1).toNat []).getD 0 (0 : Int)) (((sighting_Merge_0 list).getD (gi y0 1).toNat []).getD 1 (0 : Int))
        (((sighting_Merge_0 list).getD (gi y0 1).toNat []).getD 2 (0 : Int)) (((sighting_Merge_0 list).getD (gi y0 1).toNat []).getD 3 (0 : Int))
        (((sighting_Merge_0 list).getD (gi y0 1).toNat []).getD 4 (0 : Int)) (((sighting_Merge_0 list).getD (gi y0 1).toNat []).getD 5 (0 : Int))
        (((sighting_Merge_0 list).getD (gi y0 1).toNat []).getD 6 (0 : Int)) (((sighting_Merge_0 list).getD (gi y0 1).toNat []).getD 7 (0 : Int))
        (((sighting_Merge_0 list).getD (gi y0 1).toNat []).getD 8 (0 : Int)) (((sighting_Merge_0 list).getD (gi y0 1).toNat []).getD 9 (0 : Int))
        (((sighting_Merge_0 list).getD (gi y0 1).toNat []).getD 10 (0 : Int)) (((sighting_Merge_0 list).getD (gi y0 1).toNat []).getD 11 (0 : Int))
        (((sighting_Merge_0 list).getD (gi y0 1).toNat []).getD 12 (0 : Int))
        (cutV (sighting_Merge_0 list) (boundsA (↑(sighting_Merge_0 list).length : Int) none (some (gi y0 1))).snd.fst
          (boundsA (↑(sighting_Merge_0 list).length : Int) none (some (gi y0 1))).snd.snd) <
      (0 : Int))), .i (IntKind.i64.wrap (gi y0 1 + (1 : Int)))]))))) else some (2, [.b (gb y0 0), .i (gi y0 1)]))
noncomputable def law24_SightingMerged_l0 (list : List (List Int)) : Nat × List U := loopGet (law24_SightingMerged_l0_step list) (law24_SightingMerged_l0_init list)
noncomputable def law24_SightingMerged_l2_init (list : List (List Int)) (y1 : List U) : List U :=
  [.b (false), .i ((0 : Int))]
noncomputable def law24_SightingMerged_l2_step (list : List (List Int)) (y1 : List U) (y2 : List U) : Option (Nat × List U) :=
  (bif decide (gi y2 1 < (↑(sighting_Merge_1 list).length : Int)) then guardP (inR (gi y2 1) (sighting_Merge_1 list)) (guardP (inR (gi y2 1) (sighting_Merge_1 list)) (some (0, [.b (gb y2 0 || ((sighting_Merge_1 list).getD (gi y2 1).toNat []).getD 0 (0 : Int) == gi y1 2), .i (IntKind.i64.wrap (gi y2 1 + (1 : Int)))]))) else some (2, [.b (gb y2 0), .i (gi y2 1)]))
noncomputable def law24_SightingMerged_l2 (list : List (List Int)) (y1 : List U) : Nat × List U := loopGet (law24_SightingMerged_l2_step list y1) (law24_SightingMerged_l2_init list y1)
noncomputable def law24_SightingMerged_l1_init (list : List (List Int)) : List U :=
  [.b (false), .b (gb (law24_SightingMerged_l0 list).snd 0), .i ((0 : Int))]
noncomputable def law24_SightingMerged_l1_step (list : List (List Int)) (y1 : List U) : Option (Nat × List U) :=
  (bif decide (gi y1 2 < (↑list.length : Int)) then guardP (inR (gi y1 2) list) (guardP (inR (gi y1 2) list) (guardP ((loopOk (law24_SightingMerged_l2_step list y1) (law24_SightingMerged_l2_init list y1))) (guardP (ref24_Find_pre ((list.getD (gi y1 2).toNat []).getD 0 (0 : Int)) ((list.getD (gi y1 2).toNat []).getD 1 (0 : Int))
  ((list.getD (gi y1 2).toNat []).getD 2 (0 : Int)) ((list.getD (gi y1 2).toNat []).getD 3 (0 : Int)) ((list.getD (gi y1 2).toNat []).getD 4 (0 : Int))
  ((list.getD (gi y1 2).toNat []).getD 5 (0 : Int)) ((list.getD (gi y1 2).toNat []).getD 6 (0 : Int)) ((list.getD (gi y1 2).toNat []).getD 7 (0 : Int))
  ((list.getD (gi y1 2).toNat []).getD 8 (0 : Int)) ((list.getD (gi y1 2).toNat []).getD 9 (0 : Int)) ((list.getD (gi y1 2).toNat []).getD 10 (0 : Int))
  ((list.getD (gi y1 2).toNat []).getD 11 (0 : Int)) ((list.getD (gi y1 2).toNat []).getD 12 (0 : Int)) (sighting_Merge_0 list)) ((bif decide
  (ref24_Find_0 ((list.getD (gi y1 2).toNat []).getD 0 (0 : Int)) ((list.getD (gi y1 2).toNat []).getD 1 (0 : Int))
      ((list.getD (gi y1 2).toNat []).getD 2 (0 : Int)) ((list.getD (gi y1 2).toNat []).getD 3 (0 : Int))
      ((list.getD (gi y1 2).toNat []).getD 4 (0 : Int)) ((list.getD (gi y1 2).toNat []).getD 5 (0 : Int))
      ((list.getD (gi y1 2).toNat []).getD 6 (0 : Int)) ((list.getD (gi y1 2).toNat []).getD 7 (0 : Int))
      ((list.getD (gi y1 2).toNat []).getD 8 (0 : Int)) ((list.getD (gi y1 2).toNat []).getD 9 (0 : Int))
      ((list.getD (gi y1 2).toNat []).getD 10 (0 : Int)) ((list.getD (gi y1 2).toNat []).getD 11 (0 : Int))
      ((list.getD (gi y1 2).toNat []).getD 12 (0 : Int)) (sighting_Merge_0 list) <
    (0 : Int)) then some (1, []) else guardP ((gb y1 1 = true) → (inR
  (ref24_Find_0 ((list.getD (gi y1 2).toNat []).getD 0 (0 : Int)) ((list.getD (gi y1 2).toNat []).getD 1 (0 : Int))
    ((list.getD (gi y1 2).toNat []).getD 2 (0 : Int)) ((list.getD (gi y1 2).toNat []).getD 3 (0 : Int))
    ((list.getD (gi y1 2).toNat []).getD 4 (0 : Int)) ((list.getD (gi y1 2).toNat []).getD 5 (0 : Int))
    ((list.getD (gi y1 2).toNat []).getD 6 (0 : Int)) ((list.getD (gi y1 2).toNat []).getD 7 (0 : Int))
    ((list.getD (gi y1 2).toNat []).getD 8 (0 : Int)) ((list.getD (gi y1 2).toNat []).getD 9 (0 : Int))
    ((list.getD (gi y1 2).toNat []).getD 10 (0 : Int)) ((list.getD (gi y1 2).toNat []).getD 11 (0 : Int))
    ((list.getD (gi y1 2).toNat []).getD 12 (0 : Int)) (sighting_Merge_0 list))
  (sighting_Merge_0 list))) (guardP ((gb y1 1 = true) → (inR
  (ref24_Find_0 ((list.getD (gi y1 2).toNat []).getD 0 (0 : Int)) ((list.getD (gi y1 2).toNat []).getD 1 (0 : Int))
    ((list.getD (gi y1 2).toNat []).getD 2 (0 : Int)) ((list.getD (gi y1 2).toNat []).getD 3 (0 : Int))
    ((list.getD (gi y1 2).toNat []).getD 4 (0 : Int)) ((list.getD (gi y1 2).toNat []).getD 5 (0 : Int))
    ((list.getD (gi y1 2).toNat []).getD 6 (0 : Int)) ((list.getD (gi y1 2).toNat []).getD 7 (0 : Int))
    ((list.getD (gi y1 2).toNat []).getD 8 (0 : Int)) ((list.getD (gi y1 2).toNat []).getD 9 (0 : Int))
    ((list.getD (gi y1 2).toNat []).getD 10 (0 : Int)) ((list.getD (gi y1 2).toNat []).getD 11 (0 : Int))
    ((list.getD (gi y1 2).toNat []).getD 12 (0 : Int)) (sighting_Merge_0 list))
  (sighting_Merge_0 list))) (guardP (((gb y1 1 &&
    gb (law24_SightingMerged_l2 list y1).snd 0 ==
      !(((sighting_Merge_0 list).getD
                  (ref24_Find_0 ((list.getD (gi y1 2).toNat []).getD 0 (0 : Int)) ((list.getD (gi y1 2).toNat []).getD 1 (0 : Int))
                      ((list.getD (gi y1 2).toNat []).getD 2 (0 : Int)) ((list.getD (gi y1 2).toNat []).getD 3 (0 : Int))
                      ((list.getD (gi y1 2).toNat []).getD 4 (0 : Int)) ((list.getD (gi y1 2).toNat []).getD 5 (0 : Int))
                      ((list.getD (gi y1 2).toNat []).getD 6 (0 : Int)) ((list.getD (gi y1 2).toNat []).getD 7 (0 : Int))
                      ((list.getD (gi y1 2).toNat []).getD 8 (0 : Int)) ((list.getD (gi y1 2).toNat []).getD 9 (0 : Int))
                      ((list.getD (gi y1 2).toNat []).getD 10 (0 : Int)) ((list.getD (gi y1 2).toNat []).getD 11 (0 : Int))
                      ((list.getD (gi y1 2).toNat []).getD 12 (0 : Int)) (sighting_Merge_0 list)).toNat
                  []).getD
              0 (0 : Int) ==
            (list.getD (gi y1 2).toNat []).getD 0 (0 : Int) &&
          (((sighting_Merge_0 list).getD
                    (ref24_Find_0 ((list.getD (gi y1 2).toNat []).getD 0 (0 : Int)) ((list.getD (gi y1 2).toNat []).getD 1 (0 : Int))
                        ((list.getD (gi y1 2).toNat []).getD 2 (0 : Int)) ((list.getD (gi y1 2).toNat []).getD 3 (0 : Int))
                        ((list.getD (gi y1 2).toNat []).getD 4 (0 : Int)) ((list.getD (gi y1 2).toNat []).getD 5 (0 : Int))
                        ((list.getD (gi y1 2).toNat []).getD 6 (0 : Int)) ((list.getD (gi y1 2).toNat []).getD 7 (0 : Int))
                        ((list.getD (gi y1 2).toNat []).getD 8 (0 : Int)) ((list.getD (gi y1 2).toNat []).getD 9 (0 : Int))
                        ((list.getD (gi y1 2).toNat []).getD 10 (0 : Int)) ((list.getD (gi y1 2).toNat []).getD 11 (0 : Int))
                        ((list.getD (gi y1 2).toNat []).getD 12 (0 : Int)) (sighting_Merge_0 list)).toNat
                    []).getD
                1 (0 : Int) ==
              (list.getD (gi y1 2).toNat []).getD 1 (0 : Int) &&
            (((sighting_Merge_0 list).getD
                      (ref24_Find_0 ((list.getD (gi y1 2).toNat []).getD 0 (0 : Int)) ((list.getD (gi y1 2).toNat []).getD 1 (0 : Int))
                          ((list.getD (gi y1 2).toNat []).getD 2 (0 : Int)) ((list.getD (gi y1 2).toNat []).getD 3 (0 : Int))
                          ((list.getD (gi y1 2).toNat []).getD 4 (0 : Int)) ((list.getD (gi y1 2).toNat []).getD 5 (0 : Int))
                          ((list.getD (gi y1 2).toNat []).getD 6 (0 : Int)) ((list.getD (gi y1 2).toNat []).getD 7 (0 : Int))
                          ((list.getD (gi y1 2).toNat []).getD 8 (0 : Int)) ((list.getD (gi y1 2).toNat []).getD 9 (0 : Int))
                          ((list.getD (gi y1 2).toNat []).getD 10 (0 : Int)) ((list.getD (gi y1 2).toNat []).getD 11 (0 : Int))
                          ((list.getD (gi y1 2).toNat []).getD 12 (0 : Int)) (sighting_Merge_0 list)).toNat
                      []).getD
                  2 (0 : Int) ==
                (list.getD (gi y1 2).toNat []).getD 2 (0 : Int) &&
              (((sighting_Merge_0 list).getD
                        (ref24_Find_0 ((list.getD (gi y1 2).toNat []).getD 0 (0 : Int)) ((list.getD (gi y1 2).toNat []).getD 1 (0 : Int))
                            ((list.getD (gi y1 2).toNat []).getD 2 (0 : Int)) ((list.getD (gi y1 2).toNat []).getD 3 (0 : Int))
                            ((list.getD (gi y1 2).toNat []).getD 4 (0 : Int)) ((list.getD (gi y1 2).toNat []).getD 5 (0 : Int))
                            ((list.getD (gi y1 2).toNat []).getD 6 (0 : Int)) ((list.getD (gi y1 2).toNat []).getD 7 (0 : Int))
                            ((list.getD (gi y1 2).toNat []).getD 8 (0 : Int)) ((list.getD (gi y1 2).toNat []).getD 9 (0 : Int))
                            ((list.getD (gi y1 2).toNat []).getD 10 (0 : Int)) ((list.getD (gi y1 2).toNat []).getD 11 (0 : Int))
                            ((list.getD (gi y1 2).toNat []).getD 12 (0 : Int)) (sighting_Merge_0 list)).toNat
                        []).getD
                    3 (0 : Int) ==
                  (list.getD (gi y1 2).toNat []).getD 3 (0 : Int) &&
                (((sighting_Merge_0 list).getD
                              (ref24_Find_0 ((list.getD (gi y1 2).toNat []).getD 0 (0 : Int)) ((list.getD (gi y1 2).toNat []).getD 1 (0 : Int))
                                  ((list.getD (gi y1 2).toNat []).getD 2 (0 : Int)) ((list.getD (gi y1 2).toNat []).getD 3 (0 : Int))
                                  ((list.getD (gi y1 2).toNat []).getD 4 (0 : Int)) ((list.getD (gi y1 2).toNat []).getD 5 (0 : Int))
                                  ((list.getD (gi y1 2).toNat []).getD 6 (0 : Int)) ((list.getD (gi y1 2).toNat []).getD 7 (0 : Int))
                                  ((list.getD (gi y1 2).toNat []).getD 8 (0 : Int)) ((list.getD (gi y1 2).toNat []).getD 9 (0 : Int))
                                  ((list.getD (gi y1 2).toNat []).getD 10 (0 : Int)) ((list.getD (gi y1 2).toNat []).getD 11 (0 : Int))
                                  ((list.getD (gi y1 2).toNat []).getD 12 (0 : Int)) (sighting_Merge_0 list)).toNat
                              []).getD
                          4 (0 : Int) ==
                        (list.getD (gi y1 2).toNat []).getD 4 (0 : Int) &&
                      (((sighting_Merge_0 list).getD
                                (ref24_Find_0 ((list.getD (gi y1 2).toNat []).getD 0 (0 : Int)) ((list.getD (gi y1 2).toNat []).getD 1 (0 : Int))
                                    ((list.getD (gi y1 2).toNat []).getD 2 (0 : Int)) ((list.getD (gi y1 2).toNat []).getD 3 (0 : Int))
                                    ((list.getD (gi y1 2).toNat []).getD 4 (0 : Int)) ((list.getD (gi y1 2).toNat []).getD 5 (0 : Int))
                                    ((list.getD (gi y1 2).toNat []).getD 6 (0 : Int)) ((list.getD (gi y1 2).toNat []).getD 7 (0 : Int))
                                    ((list.getD (gi y1 2).toNat []).getD 8 (0 : Int)) ((list.getD (gi y1 2).toNat []).getD 9 (0 : Int))
                                    ((list.getD (gi y1 2).toNat []).getD 10 (0 : Int)) ((list.getD (gi y1 2).toNat []).getD 11 (0 : Int))
                                    ((list.getD (gi y1 2).toNat []).getD 12 (0 : Int)) (sighting_Merge_0 list)).toNat
                                []).getD
                            5 (0 : Int) ==
                          (list.getD (gi y1 2).toNat []).getD 5 (0 : Int) &&
                        true) &&
                    (((sighting_Merge_0 list).getD
                                (ref24_Find_0 ((list.getD (gi y1 2).toNat []).getD 0 (0 : Int)) ((list.getD (gi y1 2).toNat []).getD 1 (0 : Int))
                                    ((list.getD (gi y1 2).toNat []).getD 2 (0 : Int)) ((list.getD (gi y1 2).toNat []).getD 3 (0 : Int))
                                    ((list.getD (gi y1 2).toNat []).getD 4 (0 : Int)) ((list.getD (gi y1 2).toNat []).getD 5 (0 : Int))
                                    ((list.getD (gi y1 2).toNat []).getD 6 (0 : Int)) ((list.getD (gi y1 2).toNat []).getD 7 (0 : Int))
                                    ((list.getD (gi y1 2).toNat []).getD 8 (0 : Int)) ((list.getD (gi y1 2).toNat []).getD 9 (0 : Int))
                                    ((list.getD (gi y1 2).toNat []).getD 10 (0 : Int)) ((list.getD (gi y1 2).toNat []).getD 11 (0 : Int))
                                    ((list.getD (gi y1 2).toNat []).getD 12 (0 : Int)) (sighting_Merge_0 list)).toNat
                                []).getD
                            6 (0 : Int) ==
                          (list.getD (gi y1 2).toNat []).getD 6 (0 : Int) &&
                        (((sighting_Merge_0 list).getD
                                  (ref24_Find_0 ((list.getD (gi y1 2).toNat []).getD 0 (0 : Int)) ((list.getD (gi y1 2).toNat []).getD 1 (0 : Int))
                                      ((list.getD (gi y1 2).toNat []).getD 2 (0 : Int)) ((list.getD (gi y1 2).toNat []).getD 3 (0 : Int))
                                      ((list.getD (gi y1 2).toNat []).getD 4 (0 : Int)) ((list.getD (gi y1 2).toNat []).getD 5 (0 : Int))
                                      ((list.getD (gi y1 2).toNat []).getD 6 (0 : Int)) ((list.getD (gi y1 2).toNat []).getD 7 (0 : Int))
                                      ((list.getD (gi y1 2).toNat []).getD 8 (0 : Int)) ((list.getD (gi y1 2).toNat []).getD 9 (0 : Int))
                                      ((list.getD (gi y1 2).toNat []).getD 10 (0 : Int)) ((list.getD (gi y1 2).toNat []).getD 11 (0 : Int))
                                      ((list.getD (gi y1 2).toNat []).getD 12 (0 : Int)) (sighting_Merge_0 list)).toNat
                                  []).getD
                              7 (0 : Int) ==
                            (list.getD (gi y1 2).toNat []).getD 7 (0 : Int) &&
                          true) &&
                      true) &&
                  (((sighting_Merge_0 list).getD
                              (ref24_Find_0 ((list.getD (gi y1 2).toNat []).getD 0 (0 : Int)) ((list.getD (gi y1 2).toNat []).getD 1 (0 : Int))
                                  ((list.getD (gi y1 2).toNat []).getD 2 (0 : Int)) ((list.getD (gi y1 2).toNat []).getD 3 (0 : Int))
                                  ((list.getD (gi y1 2).toNat []).getD 4 (0 : Int)) ((list.getD (gi y1 2).toNat []).getD 5 (0 : Int))
                                  ((list.getD (gi y1 2).toNat []).getD 6 (0 : Int)) ((list.getD (gi y1 2).toNat []).getD 7 (0 : Int))
                                  ((list.getD (gi y1 2).toNat []).getD 8 (0 : Int)) ((list.getD (gi y1 2).toNat []).getD 9 (0 : Int))
                                  ((list.getD (gi y1 2).toNat []).getD 10 (0 : Int)) ((list.getD (gi y1 2).toNat []).getD 11 (0 : Int))
                                  ((list.getD (gi y1 2).toNat []).getD 12 (0 : Int)) (sighting_Merge_0 list)).toNat
                              []).getD
                          8 (0 : Int) ==
                        (list.getD (gi y1 2).toNat []).getD 8 (0 : Int) &&
                      (((sighting_Merge_0 list).getD
                                (ref24_Find_0 ((list.getD (gi y1 2).toNat []).getD 0 (0 : Int)) ((list.getD (gi y1 2).toNat []).getD 1 (0 : Int))
                                    ((list.getD (gi y1 2).toNat []).getD 2 (0 : Int)) ((list.getD (gi y1 2).toNat []).getD 3 (0 : Int))
                                    ((list.getD (gi y1 2).toNat []).getD 4 (0 : Int)) ((list.getD (gi y1 2).toNat []).getD 5 (0 : Int))
                                    ((list.getD (gi y1 2).toNat []).getD 6 (0 : Int)) ((list.getD (gi y1 2).toNat []).getD 7 (0 : Int))
                                    ((list.getD (gi y1 2).toNat []).getD 8 (0 : Int)) ((list.getD (gi y1 2).toNat []).getD 9 (0 : Int))
                                    ((list.getD (gi y1 2).toNat []).getD 10 (0 : Int)) ((list.getD (gi y1 2).toNat []).getD 11 (0 : Int))
                                    ((list.getD (gi y1 2).toNat []).getD 12 (0 : Int)) (sighting_Merge_0 list)).toNat
                                []).getD
                            9 (0 : Int) ==
                          (list.getD (gi y1 2).toNat []).getD 9 (0 : Int) &&
                        true) &&
                    (((sighting_Merge_0 list).getD
                                (ref24_Find_0 ((list.getD (gi y1 2).toNat []).getD 0 (0 : Int)) ((list.getD (gi y1 2).toNat []).getD 1 (0 : Int))
                                    ((list.getD (gi y1 2).toNat []).getD 2 (0 : Int)) ((list.getD (gi y1 2).toNat []).getD 3 (0 : Int))
                                    ((list.getD (gi y1 2).toNat []).getD 4 (0 : Int)) ((list.getD (gi y1 2).toNat []).getD 5 (0 : Int))
                                    ((list.getD (gi y1 2).toNat []).getD 6 (0 : Int)) ((list.getD (gi y1 2).toNat []).getD 7 (0 : Int))
                                    ((list.getD (gi y1 2).toNat []).getD 8 (0 : Int)) ((list.getD (gi y1 2).toNat []).getD 9 (0 : Int))
                                    ((list.getD (gi y1 2).toNat []).getD 10 (0 : Int)) ((list.getD (gi y1 2).toNat []).getD 11 (0 : Int))
                                    ((list.getD (gi y1 2).toNat []).getD 12 (0 : Int)) (sighting_Merge_0 list)).toNat
                                []).getD
                            10 (0 : Int) ==
                          (list.getD (gi y1 2).toNat []).getD 10 (0 : Int) &&
                        (((sighting_Merge_0 list).getD
                                  (ref24_Find_0 ((list.getD (gi y1 2).toNat []).getD 0 (0 : Int)) ((list.getD (gi y1 2).toNat []).getD 1 (0 : Int))
                                      ((list.getD (gi y1 2).toNat []).getD 2 (0 : Int)) ((list.getD (gi y1 2).toNat []).getD 3 (0 : Int))
                                      ((list.getD (gi y1 2).toNat []).getD 4 (0 : Int)) ((list.getD (gi y1 2).toNat []).getD 5 (0 : Int))
                                      ((list.getD (gi y1 2).toNat []).getD 6 (0 : Int)) ((list.getD (gi y1 2).toNat []).getD 7 (0 : Int))
                                      ((list.getD (gi y1 2).toNat []).getD 8 (0 : Int)) ((list.getD (gi y1 2).toNat []).getD 9 (0 : Int))
                                      ((list.getD (gi y1 2).toNat []).getD 10 (0 : Int)) ((list.getD (gi y1 2).toNat []).getD 11 (0 : Int))
                                      ((list.getD (gi y1 2).toNat []).getD 12 (0 : Int)) (sighting_Merge_0 list)).toNat
                                  []).getD
                              11 (0 : Int) ==
                            (list.getD (gi y1 2).toNat []).getD 11 (0 : Int) &&
                          true) &&
                      (((sighting_Merge_0 list).getD
                                (ref24_Find_0 ((list.getD (gi y1 2).toNat []).getD 0 (0 : Int)) ((list.getD (gi y1 2).toNat []).getD 1 (0 : Int))
                                    ((list.getD (gi y1 2).toNat []).getD 2 (0 : Int)) ((list.getD (gi y1 2).toNat []).getD 3 (0 : Int))
                                    ((list.getD (gi y1 2).toNat []).getD 4 (0 : Int)) ((list.getD (gi y1 2).toNat []).getD 5 (0 : Int))
                                    ((list.getD (gi y1 2).toNat []).getD 6 (0 : Int)) ((list.getD (gi y1 2).toNat []).getD 7 (0 : Int))
                                    ((list.getD (gi y1 2).toNat []).getD 8 (0 : Int)) ((list.getD (gi y1 2).toNat []).getD 9 (0 : Int))
                                    ((list.getD (gi y1 2).toNat []).getD 10 (0 : Int)) ((list.getD (gi y1 2).toNat []).getD 11 (0 : Int))
                                    ((list.getD (gi y1 2).toNat []).getD 12 (0 : Int)) (sighting_Merge_0 list)).toNat
                                []).getD
                            12 (0 : Int) ==
                          (list.getD (gi y1 2).toNat []).getD 12 (0 : Int) &&
                        true))))))))) =
  true) → (((!gb (law24_SightingMerged_l2 list y1).snd 0) = false) → (((0 : Int) ≤ gi y1 2) ∧ (gi y1 2 ≤ (↑list.length : Int))))) (guardP (((gb y1 1 &&
    gb (law24_SightingMerged_l2 list y1).snd 0 ==
      !(((sighting_Merge_0 list).getD
                  (ref24_Find_0 ((list.getD (gi y1 2).toNat []).getD 0 (0 : Int)) ((list.getD (gi y1 2).toNat []).getD 1 (0 : Int))
                      ((list.getD (gi y1 2).toNat []).getD 2 (0 : Int)) ((list.getD (gi y1 2).toNat []).getD 3 (0 : Int))
                      ((list.getD (gi y1 2).toNat []).getD 4 (0 : Int)) ((list.getD (gi y1 2).toNat []).getD 5 (0 : Int))
                      ((list.getD (gi y1 2).toNat []).getD 6 (0 : Int)) ((list.getD (gi y1 2).toNat []).getD 7 (0 : Int))
                      ((list.getD (gi y1 2).toNat []).getD 8 (0 : Int)) ((list.getD (gi y1 2).toNat []).getD 9 (0 : Int))
                      ((list.getD (gi y1 2).toNat []).getD 10 (0 : Int)) ((list.getD (gi y1 2).toNat []).getD 11 (0 : Int))
                      ((list.getD (gi y1 2).toNat []).getD 12 (0 : Int)) (sighting_Merge_0 list)).toNat
                  []).getD
              0 (0 : Int) ==
            (list.getD (gi y1 2).toNat []).getD 0 (0 : Int) &&
          (((sighting_Merge_0 list).getD
                    (ref24_Find_0 ((list.getD (gi y1 2).toNat []).getD 0 (0 : Int)) ((list.getD (gi y1 2).toNat []).getD 1 (0 : Int))
                        ((list.getD (gi y1 2).toNat []).getD 2 (0 : Int)) ((list.getD (gi y1 2).toNat []).getD 3 (0 : Int))
                        ((list.getD (gi y1 2).toNat []).getD 4 (0 : Int)) ((list.getD (gi y1 2).toNat []).getD 5 (0 : Int))
                        ((list.getD (gi y1 2).toNat []).getD 6 (0 : Int)) ((list.getD (gi y1 2).toNat []).getD 7 (0 : Int))
                        ((list.getD (gi y1 2).toNat []).getD 8 (0 : Int)) ((list.getD (gi y1 2).toNat []).getD 9 (0 : Int))
                        ((list.getD (gi y1 2).toNat []).getD 10 (0 : Int)) ((list.getD (gi y1 2).toNat []).getD 11 (0 : Int))
                        ((list.getD (gi y1 2).toNat []).getD 12 (0 : Int)) (sighting_Merge_0 list)).toNat
                    []).getD
                1 (0 : Int) ==
              (list.getD (gi y1 2).toNat []).getD 1 (0 : Int) &&
            (((sighting_Merge_0 list).getD
                      (ref24_Find_0 ((list.getD (gi y1 2).toNat []).getD 0 (0 : Int)) ((list.getD (gi y1 2).toNat []).getD 1 (0 : Int))
                          ((list.getD (gi y1 2).toNat []).getD 2 (0 : Int)) ((list.getD (gi y1 2).toNat []).getD 3 (0 : Int))
                          ((list.getD (gi y1 2).toNat []).getD 4 (0 : Int)) ((list.getD (gi y1 2).toNat []).getD 5 (0 : Int))
                          ((list.getD (gi y1 2).toNat []).getD 6 (0 : Int)) ((list.getD (gi y1 2).toNat []).getD 7 (0 : Int))
                          ((list.getD (gi y1 2).toNat []).getD 8 (0 : Int)) ((list.getD (gi y1 2).toNat []).getD 9 (0 : Int))
                          ((list.getD (gi y1 2).toNat []).getD 10 (0 : Int)) ((list.getD (gi y1 2).toNat []).getD 11 (0 : Int))
                          ((list.getD (gi y1 2).toNat []).getD 12 (0 : Int)) (sighting_Merge_0 list)).toNat
                      []).getD
                  2 (0 : Int) ==
                (list.getD (gi y1 2).toNat []).getD 2 (0 : Int) &&
              (((sighting_Merge_0 list).getD
                        (ref24_Find_0 ((list.getD (gi y1 2).toNat []).getD 0 (0 : Int)) ((list.getD (gi y1 2).toNat []).getD 1 (0 : Int))
                            ((list.getD (gi y1 2).toNat []).getD 2 (0 : Int)) ((list.getD (gi y1 2).toNat []).getD 3 (0 : Int))
                            ((list.getD (gi y1 2).toNat []).getD 4 (0 : Int)) ((list.getD (gi y1 2).toNat []).getD 5 (0 : Int))
                            ((list.getD (gi y1 2).toNat []).getD 6 (0 : Int)) ((list.getD (gi y1 2).toNat []).getD 7 (0 : Int))
                            ((list.getD (gi y1 2).toNat []).getD 8 (0 : Int)) ((list.getD (gi y1 2).toNat []).getD 9 (0 : Int))
                            ((list.getD (gi y1 2).toNat []).getD 10 (0 : Int)) ((list.getD (gi y1 2).toNat []).getD 11 (0 : Int))
                            ((list.getD (gi y1 2).toNat []).getD 12 (0 : Int)) (sighting_Merge_0 list)).toNat
                        []).getD
                    3 (0 : Int) ==
                  (list.getD (gi y1 2).toNat []).getD 3 (0 : Int) &&
                (((sighting_Merge_0 list).getD
                              (ref24_Find_0 ((list.getD (gi y1 2).toNat []).getD 0 (0 : Int)) ((list.getD (gi y1 2).toNat []).getD 1 (0 : Int))
                                  ((list.getD (gi y1 2).toNat []).getD 2 (0 : Int)) ((list.getD (gi y1 2).toNat []).getD 3 (0 : Int))
                                  ((list.getD (gi y1 2).toNat []).getD 4 (0 : Int)) ((list.getD (gi y1 2).toNat []).getD 5 (0 : Int))
                                  ((list.getD (gi y1 2).toNat []).getD 6 (0 : Int)) ((list.getD (gi y1 2).toNat []).getD 7 (0 : Int))
                                  ((list.getD (gi y1 2).toNat []).getD 8 (0 : Int)) ((list.getD (gi y1 2).toNat []).getD 9 (0 : Int))
                                  ((list.getD (gi y1 2).toNat []).getD 10 (0 : Int)) ((list.getD (gi y1 2).toNat []).getD 11 (0 : Int))
                                  ((list.getD (gi y1 2).toNat []).getD 12 (0 : Int)) (sighting_Merge_0 list)).toNat
                              []).getD
                          4 (0 : Int) ==
                        (list.getD (gi y1 2).toNat []).getD 4 (0 : Int) &&
                      (((sighting_Merge_0 list).getD
                                (ref24_Find_0 ((list.getD (gi y1 2).toNat []).getD 0 (0 : Int)) ((list.getD (gi y1 2).toNat []).getD 1 (0 : Int))
                                    ((list.getD (gi y1 2).toNat []).getD 2 (0 : Int)) ((list.getD (gi y1 2).toNat []).getD 3 (0 : Int))
                                    ((list.getD (gi y1 2).toNat []).getD 4 (0 : Int)) ((list.getD (gi y1 2).toNat []).getD 5 (0 : Int))
                                    ((list.getD (gi y1 2).toNat []).getD 6 (0 : Int)) ((list.getD (gi y1 2).toNat []).getD 7 (0 : Int))
                                    ((list.getD (gi y1 2).toNat []).getD 8 (0 : Int)) ((list.getD (gi y1 2).toNat []).getD 9 (0 : Int))
                                    ((list.getD (gi y1 2).toNat []).getD 10 (0 : Int)) ((list.getD (gi y1 2).toNat []).getD 11 (0 : Int))
                                    ((list.getD (gi y1 2).toNat []).getD 12 (0 : Int)) (sighting_Merge_0 list)).toNat
                                []).getD
                            5 (0 : Int) ==
                          (list.getD (gi y1 2).toNat []).getD 5 (0 : Int) &&
                        true) &&
                    (((sighting_Merge_0 list).getD
                                (ref24_Find_0 ((list.getD (gi y1 2).toNat []).getD 0 (0 : Int)) ((list.getD (gi y1 2).toNat []).getD 1 (0 : Int))
                                    ((list.getD (gi y1 2).toNat []).getD 2 (0 : Int)) ((list.getD (gi y1 2).toNat []).getD 3 (0 : Int))
                                    ((list.getD (gi y1 2).toNat []).getD 4 (0 : Int)) ((list.getD (gi y1 2).toNat []).getD 5 (0 : Int))
                                    ((list.getD (gi y1 2).toNat []).getD 6 (0 : Int)) ((list.getD (gi y1 2).toNat []).getD 7 (0 : Int))
                                    ((list.getD (gi y1 2).toNat []).getD 8 (0 : Int)) ((list.getD (gi y1 2).toNat []).getD 9 (0 : Int))
                                    ((list.getD (gi y1 2).toNat []).getD 10 (0 : Int)) ((list.getD (gi y1 2).toNat []).getD 11 (0 : Int))
                                    ((list.getD (gi y1 2).toNat []).getD 12 (0 : Int)) (sighting_Merge_0 list)).toNat
                                []).getD
                            6 (0 : Int) ==
                          (list.getD (gi y1 2).toNat []).getD 6 (0 : Int) &&
                        (((sighting_Merge_0 list).getD
                                  (ref24_Find_0 ((list.getD (gi y1 2).toNat []).getD 0 (0 : Int)) ((list.getD (gi y1 2).toNat []).getD 1 (0 : Int))
                                      ((list.getD (gi y1 2).toNat []).getD 2 (0 : Int)) ((list.getD (gi y1 2).toNat []).getD 3 (0 : Int))
                                      ((list.getD (gi y1 2).toNat []).getD 4 (0 : Int)) ((list.getD (gi y1 2).toNat []).getD 5 (0 : Int))
                                      ((list.getD (gi y1 2).toNat []).getD 6 (0 : Int)) ((list.getD (gi y1 2).toNat []).getD 7 (0 : Int))
                                      ((list.getD (gi y1 2).toNat []).getD 8 (0 : Int)) ((list.getD (gi y1 2).toNat []).getD 9 (0 : Int))
                                      ((list.getD (gi y1 2).toNat []).getD 10 (0 : Int)) ((list.getD (gi y1 2).toNat []).getD 11 (0 : Int))
                                      ((list.getD (gi y1 2).toNat []).getD 12 (0 : Int)) (sighting_Merge_0 list)).toNat
                                  []).getD
                              7 (0 : Int) ==
                            (list.getD (gi y1 2).toNat []).getD 7 (0 : Int) &&
                          true) &&
                      true) &&
                  (((sighting_Merge_0 list).getD
                              (ref24_Find_0 ((list.getD (gi y1 2).toNat []).getD 0 (0 : Int)) ((list.getD (gi y1 2).toNat []).getD 1 (0 : Int))
                                  ((list.getD (gi y1 2).toNat []).getD 2 (0 : Int)) ((list.getD (gi y1 2).toNat []).getD 3 (0 : Int))
                                  ((list.getD (gi y1 2).toNat []).getD 4 (0 : Int)) ((list.getD (gi y1 2).toNat []).getD 5 (0 : Int))
                                  ((list.getD (gi y1 2).toNat []).getD 6 (0 : Int)) ((list.getD (gi y1 2).toNat []).getD 7 (0 : Int))
                                  ((list.getD (gi y1 2).toNat []).getD 8 (0 : Int)) ((list.getD (gi y1 2).toNat []).getD 9 (0 : Int))
                                  ((list.getD (gi y1 2).toNat []).getD 10 (0 : Int)) ((list.getD (gi y1 2).toNat []).getD 11 (0 : Int))
                                  ((list.getD (gi y1 2).toNat []).getD 12 (0 : Int)) (sighting_Merge_0 list)).toNat
                              []).getD
                          8 (0 : Int) ==
                        (list.getD (gi y1 2).toNat []).getD 8 (0 : Int) &&
                      (((sighting_Merge_0 list).getD
                                (ref24_Find_0 ((list.getD (gi y1 2).toNat []).getD 0 (0 : Int)) ((list.getD (gi y1 2).toNat []).getD 1 (0 : Int))
                                    ((list.getD (gi y1 2).toNat []).getD 2 (0 : Int)) ((list.getD (gi y1 2).toNat []).getD 3 (0 : Int))
                                    ((list.getD (gi y1 2).toNat []).getD 4 (0 : Int)) ((list.getD (gi y1 2).toNat []).getD 5 (0 : Int))
                                    ((list.getD (gi y1 2).toNat []).getD 6 (0 : Int)) ((list.getD (gi y1 2).toNat []).getD 7 (0 : Int))
                                    ((list.getD (gi y1 2).toNat []).getD 8 (0 : Int)) ((list.getD (gi y1 2).toNat []).getD 9 (0 : Int))
                                    ((list.getD (gi y1 2).toNat []).getD 10 (0 : Int)) ((list.getD (gi y1 2).toNat []).getD 11 (0 : Int))
                                    ((list.getD (gi y1 2).toNat []).getD 12 (0 : Int)) (sighting_Merge_0 list)).toNat
                                []).getD
                            9 (0 : Int) ==
                          (list.getD (gi y1 2).toNat []).getD 9 (0 : Int) &&
                        true) &&
                    (((sighting_Merge_0 list).getD
                                (ref24_Find_0 ((list.getD (gi y1 2).toNat []).getD 0 (0 : Int)) ((list.getD (gi y1 2).toNat []).getD 1 (0 : Int))
                                    ((list.getD (gi y1 2).toNat []).getD 2 (0 : Int)) ((list.getD (gi y1 2).toNat []).getD 3 (0 : Int))
                                    ((list.getD (gi y1 2).toNat []).getD 4 (0 : Int)) ((list.getD (gi y1 2).toNat []).getD 5 (0 : Int))
                                    ((list.getD (gi y1 2).toNat []).getD 6 (0 : Int)) ((list.getD (gi y1 2).toNat []).getD 7 (0 : Int))
                                    ((list.getD (gi y1 2).toNat []).getD 8 (0 : Int)) ((list.getD (gi y1 2).toNat []).getD 9 (0 : Int))
                                    ((list.getD (gi y1 2).toNat []).getD 10 (0 : Int)) ((list.getD (gi y1 2).toNat []).getD 11 (0 : Int))
                                    ((list.getD (gi y1 2).toNat []).getD 12 (0 : Int)) (sighting_Merge_0 list)).toNat
                                []).getD
                            10 (0 : Int) ==
                          (list.getD (gi y1 2).toNat []).getD 10 (0 : Int) &&
                        (((sighting_Merge_0 list).getD
                                  (ref24_Find_0 ((list.getD (gi y1 2).toNat []).getD 0 (0 : Int)) ((list.getD (gi y1 2).toNat []).getD 1 (0 : Int))
                                      ((list.getD (gi y1 2).toNat []).getD 2 (0 : Int)) ((list.getD (gi y1 2).toNat []).getD 3 (0 : Int))
                                      ((list.getD (gi y1 2).toNat []).getD 4 (0 : Int)) ((list.getD (gi y1 2).toNat []).getD 5 (0 : Int))
                                      ((list.getD (gi y1 2).toNat []).getD 6 (0 : Int)) ((list.getD (gi y1 2).toNat []).getD 7 (0 : Int))
                                      ((list.getD (gi y1 2).toNat []).getD 8 (0 : Int)) ((list.getD (gi y1 2).toNat []).getD 9 (0 : Int))
                                      ((list.getD (gi y1 2).toNat []).getD 10 (0 : Int)) ((list.getD (gi y1 2).toNat []).getD 11 (0 : Int))
                                      ((list.getD (gi y1 2).toNat []).getD 12 (0 : Int)) (sighting_Merge_0 list)).toNat
                                  []).getD
                              11 (0 : Int) ==
                            (list.getD (gi y1 2).toNat []).getD 11 (0 : Int) &&
                          true) &&
                      (((sighting_Merge_0 list).getD
                                (ref24_Find_0 ((list.getD (gi y1 2).toNat []).getD 0 (0 : Int)) ((list.getD (gi y1 2).toNat []).getD 1 (0 : Int))
                                    ((list.getD (gi y1 2).toNat []).getD 2 (0 : Int)) ((list.getD (gi y1 2).toNat []).getD 3 (0 : Int))
                                    ((list.getD (gi y1 2).toNat []).getD 4 (0 : Int)) ((list.getD (gi y1 2).toNat []).getD 5 (0 : Int))
                                    ((list.getD (gi y1 2).toNat []).getD 6 (0 : Int)) ((list.getD (gi y1 2).toNat []).getD 7 (0 : Int))
                                    ((list.getD (gi y1 2).toNat []).getD 8 (0 : Int)) ((list.getD (gi y1 2).toNat []).getD 9 (0 : Int))
                                    ((list.getD (gi y1 2).toNat []).getD 10 (0 : Int)) ((list.getD (gi y1 2).toNat []).getD 11 (0 : Int))
                                    ((list.getD (gi y1 2).toNat []).getD 12 (0 : Int)) (sighting_Merge_0 list)).toNat
                                []).getD
                            12 (0 : Int) ==
                          (list.getD (gi y1 2).toNat []).getD 12 (0 : Int) &&
                        true))))))))) =
  true) → (((!gb (law24_SightingMerged_l2 list y1).snd 0) = false) → ((((↑(loN (boundsA (↑list.length : Int) none (some (gi y1 2))).snd.fst) : Int) ≤ (boundsA (↑list.length : Int) none (some (gi y1 2))).snd.snd) ∧ ((boundsA (↑list.length : Int) none (some (gi y1 2))).snd.snd ≤ (↑list.length : Int))) ∧ (ref24_Find_pre ((list.getD (gi y1 2).toNat []).getD 0 (0 : Int)) ((list.getD (gi y1 2).toNat []).getD 1 (0 : Int))
  ((list.getD (gi y1 2).toNat []).getD 2 (0 : Int)) ((list.getD (gi y1 2).toNat []).getD 3 (0 : Int)) ((list.getD (gi y1 2).toNat []).getD 4 (0 : Int))
  ((list.getD (gi y1 2).toNat []).getD 5 (0 : Int)) ((list.getD (gi y1 2).toNat []).getD 6 (0 : Int)) ((list.getD (gi y1 2).toNat []).getD 7 (0 : Int))
  ((list.getD (gi y1 2).toNat []).getD 8 (0 : Int)) ((list.getD (gi y1 2).toNat []).getD 9 (0 : Int)) ((list.getD (gi y1 2).toNat []).getD 10 (0 : Int))
  ((list.getD (gi y1 2).toNat []).getD 11 (0 : Int)) ((list.getD (gi y1 2).toNat []).getD 12 (0 : Int))
  (cutV list (boundsA (↑list.length : Int) none (some (gi y1 2))).snd.fst (boundsA (↑list.length : Int) none (some (gi y1 2))).snd.snd))))) (some (0, [.b (gb y1 0), .b (gb y1 1 &&
    gb (law24_SightingMerged_l2 list y1).snd 0 ==
      !(((sighting_Merge_0 list).getD
                  (ref24_Find_0 ((list.getD (gi y1 2).toNat []).getD 0 (0 : Int)) ((list.getD (gi y1 2).toNat []).getD 1 (0 : Int))
                      ((list.getD (gi y1 2).toNat []).getD 2 (0 : Int)) ((list.getD (gi y1 2).toNat []).getD 3 (0 : Int))
                      ((list.getD (gi y1 2).toNat []).getD 4 (0 : Int)) ((list.getD (gi y1 2).toNat []).getD 5 (0 : Int))
                      ((list.getD (gi y1 2).toNat []).getD 6 (0 : Int)) ((list.getD (gi y1 2).toNat []).getD 7 (0 : Int))
                      ((list.getD (gi y1 2).toNat []).getD 8 (0 : Int)) ((list.getD (gi y1 2).toNat []).getD 9 (0 : Int))
                      ((list.getD (gi y1 2).toNat []).getD 10 (0 : Int)) ((list.getD (gi y1 2).toNat []).getD 11 (0 : Int))
                      ((list.getD (gi y1 2).toNat []).getD 12 (0 : Int)) (sighting_Merge_0 list)).toNat
                  []).getD
              0 (0 : Int) ==
            (list.getD (gi y1 2).toNat []).getD 0 (0 : Int) &&
          (((sighting_Merge_0 list).getD
                    (ref24_Find_0 ((list.getD (gi y1 2).toNat []).getD 0 (0 : Int)) ((list.getD (gi y1 2).toNat []).getD 1 (0 : Int))
                        ((list.getD (gi y1 2).toNat []).getD 2 (0 : Int)) ((list.getD (gi y1 2).toNat []).getD 3 (0 : Int))
                        ((list.getD (gi y1 2).toNat []).getD 4 (0 : Int)) ((list.getD (gi y1 2).toNat []).getD 5 (0 : Int))
                        ((list.getD (gi y1 2).toNat []).getD 6 (0 : Int)) ((list.getD (gi y1 2).toNat []).getD 7 (0 : Int))
                        ((list.getD (gi y1 2).toNat []).getD 8 (0 : Int)) ((list.getD (gi y1 2).toNat []).getD 9 (0 : Int))
                        ((list.getD (gi y1 2).toNat []).getD 10 (0 : Int)) ((list.getD (gi y1 2).toNat []).getD 11 (0 : Int))
                        ((list.getD (gi y1 2).toNat []).getD 12 (0 : Int)) (sighting_Merge_0 list)).toNat
                    []).getD
                1 (0 : Int) ==
              (list.getD (gi y1 2).toNat []).getD 1 (0 : Int) &&
            (((sighting_Merge_0 list).getD
                      (ref24_Find_0 ((list.getD (gi y1 2).toNat []).getD 0 (0 : Int)) ((list.getD (gi y1 2).toNat []).getD 1 (0 : Int))
                          ((list.getD (gi y1 2).toNat []).getD 2 (0 : Int)) ((list.getD (gi y1 2).toNat []).getD 3 (0 : Int))
                          ((list.getD (gi y1 2).toNat []).getD 4 (0 : Int)) ((list.getD (gi y1 2).toNat []).getD 5 (0 : Int))
                          ((list.getD (gi y1 2).toNat []).getD 6 (0 : Int)) ((list.getD (gi y1 2).toNat []).getD 7 (0 : Int))
                          ((list.getD (gi y1 2).toNat []).getD 8 (0 : Int)) ((list.getD (gi y1 2).toNat []).getD 9 (0 : Int))
                          ((list.getD (gi y1 2).toNat []).getD 10 (0 : Int)) ((list.getD (gi y1 2).toNat []).getD 11 (0 : Int))
                          ((list.getD (gi y1 2).toNat []).getD 12 (0 : Int)) (sighting_Merge_0 list)).toNat
                      []).getD
                  2 (0 : Int) ==
                (list.getD (gi y1 2).toNat []).getD 2 (0 : Int) &&
              (((sighting_Merge_0 list).getD
                        (ref24_Find_0 ((list.getD (gi y1 2).toNat []).getD 0 (0 : Int)) ((list.getD (gi y1 2).toNat []).getD 1 (0 : Int))
                            ((list.getD (gi y1 2).toNat []).getD 2 (0 : Int)) ((list.getD (gi y1 2).toNat []).getD 3 (0 : Int))
                            ((list.getD (gi y1 2).toNat []).getD 4 (0 : Int)) ((list.getD (gi y1 2).toNat []).getD 5 (0 : Int))
                            ((list.getD (gi y1 2).toNat []).getD 6 (0 : Int)) ((list.getD (gi y1 2).toNat []).getD 7 (0 : Int))
                            ((list.getD (gi y1 2).toNat []).getD 8 (0 : Int)) ((list.getD (gi y1 2).toNat []).getD 9 (0 : Int))
                            ((list.getD (gi y1 2).toNat []).getD 10 (0 : Int)) ((list.getD (gi y1 2).toNat []).getD 11 (0 : Int))
                            ((list.getD (gi y1 2).toNat []).getD 12 (0 : Int)) (sighting_Merge_0 list)).toNat
                        []).getD
                    3 (0 : Int) ==
                  (list.getD (gi y1 2).toNat []).getD 3 (0 : Int) &&
                (((sighting_Merge_0 list).getD
                              (ref24_Find_0 ((list.getD (gi y1 2).toNat []).getD 0 (0 : Int)) ((list.getD (gi y1 2).toNat []).getD 1 (0 : Int))
                                  ((list.getD (gi y1 2).toNat []).getD 2 (0 : Int)) ((list.getD (gi y1 2).toNat []).getD 3 (0 : Int))
                                  ((list.getD (gi y1 2).toNat []).getD 4 (0 : Int)) ((list.getD (gi y1 2).toNat []).getD 5 (0 : Int))
                                  ((list.getD (gi y1 2).toNat []).getD 6 (0 : Int)) ((list.getD (gi y1 2).toNat []).getD 7 (0 : Int))
                                  ((list.getD (gi y1 2).toNat []).getD 8 (0 : Int)) ((list.getD (gi y1 2).toNat []).getD 9 (0 : Int))
                                  ((list.getD (gi y1 2).toNat []).getD 10 (0 : Int)) ((list.getD (gi y1 2).toNat []).getD 11 (0 : Int))
                                  ((list.getD (gi y1 2).toNat []).getD 12 (0 : Int)) (sighting_Merge_0 list)).toNat
                              []).getD
                          4 (0 : Int) ==
                        (list.getD (gi y1 2).toNat []).getD 4 (0 : Int) &&
                      (((sighting_Merge_0 list).getD
                                (ref24_Find_0 ((list.getD (gi y1 2).toNat []).getD 0 (0 : Int)) ((list.getD (gi y1 2).toNat []).getD 1 (0 : Int))
                                    ((list.getD (gi y1 2).toNat []).getD 2 (0 : Int)) ((list.getD (gi y1 2).toNat []).getD 3 (0 : Int))
                                    ((list.getD (gi y1 2).toNat []).getD 4 (0 : Int)) ((list.getD (gi y1 2).toNat []).getD 5 (0 : Int))
                                    ((list.getD (gi y1 2).toNat []).getD 6 (0 : Int)) ((list.getD (gi y1 2).toNat []).getD 7 (0 : Int))
                                    ((list.getD (gi y1 2).toNat []).getD 8 (0 : Int)) ((list.getD (gi y1 2).toNat []).getD 9 (0 : Int))
                                    ((list.getD (gi y1 2).toNat []).getD 10 (0 : Int)) ((list.getD (gi y1 2).toNat []).getD 11 (0 : Int))
                                    ((list.getD (gi y1 2).toNat []).getD 12 (0 : Int)) (sighting_Merge_0 list)).toNat
                                []).getD
                            5 (0 : Int) ==
                          (list.getD (gi y1 2).toNat []).getD 5 (0 : Int) &&
                        true) &&
                    (((sighting_Merge_0 list).getD
                                (ref24_Find_0 ((list.getD (gi y1 2).toNat []).getD 0 (0 : Int)) ((list.getD (gi y1 2).toNat []).getD 1 (0 : Int))
                                    ((list.getD (gi y1 2).toNat []).getD 2 (0 : Int)) ((list.getD (gi y1 2).toNat []).getD 3 (0 : Int))
                                    ((list.getD (gi y1 2).toNat []).getD 4 (0 : Int)) ((list.getD (gi y1 2).toNat []).getD 5 (0 : Int))
                                    ((list.getD (gi y1 2).toNat []).getD 6 (0 : Int)) ((list.getD (gi y1 2).toNat []).getD 7 (0 : Int))
                                    ((list.getD (gi y1 2).toNat []).getD 8 (0 : Int)) ((list.getD (gi y1 2).toNat []).getD 9 (0 : Int))
                                    ((list.getD (gi y1 2).toNat []).getD 10 (0 : Int)) ((list.getD (gi y1 2).toNat []).getD 11 (0 : Int))
                                    ((list.getD (gi y1 2).toNat []).getD 12 (0 : Int)) (sighting_Merge_0 list)).toNat
                                []).getD
                            6 (0 : Int) ==
                          (list.getD (gi y1 2).toNat []).getD 6 (0 : Int) &&
                        (((sighting_Merge_0 list).getD
                                  (ref24_Find_0 ((list.getD (gi y1 2).toNat []).getD 0 (0 : Int)) ((list.getD (gi y1 2).toNat []).getD 1 (0 : Int))
                                      ((list.getD (gi y1 2).toNat []).getD 2 (0 : Int)) ((list.getD (gi y1 2).toNat []).getD 3 (0 : Int))
                                      ((list.getD (gi y1 2).toNat []).getD 4 (0 : Int)) ((list.getD (gi y1 2).toNat []).getD 5 (0 : Int))
                                      ((list.getD (gi y1 2).toNat []).getD 6 (0 : Int)) ((list.getD (gi y1 2).toNat []).getD 7 (0 : Int))
                                      ((list.getD (gi y1 2).toNat []).getD 8 (0 : Int)) ((list.getD (gi y1 2).toNat []).getD 9 (0 : Int))
                                      ((list.getD (gi y1 2).toNat []).getD 10 (0 : Int)) ((list.getD (gi y1 2).toNat []).getD 11 (0 : Int))
                                      ((list.getD (gi y1 2).toNat []).getD 12 (0 : Int)) (sighting_Merge_0 list)).toNat
                                  []).getD
                              7 (0 : Int) ==
                            (list.getD (gi y1 2).toNat []).getD 7 (0 : Int) &&
                          true) &&
                      true) &&
                  (((sighting_Merge_0 list).getD
                              (ref24_Find_0 ((list.getD (gi y1 2).toNat []).getD 0 (0 : Int)) ((list.getD (gi y1 2).toNat []).getD 1 (0 : Int))
                                  ((list.getD (gi y1 2).toNat []).getD 2 (0 : Int)) ((list.getD (gi y1 2).toNat []).getD 3 (0 : Int))
                                  ((list.getD (gi y1 2).toNat []).getD 4 (0 : Int)) ((list.getD (gi y1 2).toNat []).getD 5 (0 : Int))
                                  ((list.getD (gi y1 2).toNat []).getD 6 (0 : Int)) ((list.getD (gi y1 2).toNat []).getD 7 (0 : Int))
                                  ((list.getD (gi y1 2).toNat []).getD 8 (0 : Int)) ((list.getD (gi y1 2).toNat []).getD 9 (0 : Int))
                                  ((list.getD (gi y1 2).toNat []).getD 10 (0 : Int)) ((list.getD (gi y1 2).toNat []).getD 11 (0 : Int))
                                  ((list.getD (gi y1 2).toNat []).getD 12 (0 : Int)) (sighting_Merge_0 list)).toNat
                              []).getD
                          8 (0 : Int) ==
                        (list.getD (gi y1 2).toNat []).getD 8 (0 : Int) &&
                      (((sighting_Merge_0 list).getD
                                (ref24_Find_0 ((list.getD (gi y1 2).toNat []).getD 0 (0 : Int)) ((list.getD (gi y1 2).toNat []).getD 1 (0 : Int))
                                    ((list.getD (gi y1 2).toNat []).getD 2 (0 : Int)) ((list.getD (gi y1 2).toNat []).getD 3 (0 : Int))
                                    ((list.getD (gi y1 2).toNat []).getD 4 (0 : Int)) ((list.getD (gi y1 2).toNat []).getD 5 (0 : Int))
                                    ((list.getD (gi y1 2).toNat []).getD 6 (0 : Int)) ((list.getD (gi y1 2).toNat []).getD 7 (0 : Int))
                                    ((list.getD (gi y1 2).toNat []).getD 8 (0 : Int)) ((list.getD (gi y1 2).toNat []).getD 9 (0 : Int))
                                    ((list.getD (gi y1 2).toNat []).getD 10 (0 : Int)) ((list.getD (gi y1 2).toNat []).getD 11 (0 : Int))
                                    ((list.getD (gi y1 2).toNat []).getD 12 (0 : Int)) (sighting_Merge_0 list)).toNat
                                []).getD
                            9 (0 : Int) ==
                          (list.getD (gi y1 2).toNat []).getD 9 (0 : Int) &&
                        true) &&
                    (((sighting_Merge_0 list).getD
                                (ref24_Find_0 ((list.getD (gi y1 2).toNat []).getD 0 (0 : Int)) ((list.getD (gi y1 2).toNat []).getD 1 (0 : Int))
                                    ((list.getD (gi y1 2).toNat []).getD 2 (0 : Int)) ((list.getD (gi y1 2).toNat []).getD 3 (0 : Int))
                                    ((list.getD (gi y1 2).toNat []).getD 4 (0 : Int)) ((list.getD (gi y1 2).toNat []).getD 5 (0 : Int))
                                    ((list.getD (gi y1 2).toNat []).getD 6 (0 : Int)) ((list.getD (gi y1 2).toNat []).getD 7 (0 : Int))
                                    ((list.getD (gi y1 2).toNat []).getD 8 (0 : Int)) ((list.getD (gi y1 2).toNat []).getD 9 (0 : Int))
                                    ((list.getD (gi y1 2).toNat []).getD 10 (0 : Int)) ((list.getD (gi y1 2).toNat []).getD 11 (0 : Int))
                                    ((list.getD (gi y1 2).toNat []).getD 12 (0 : Int)) (sighting_Merge_0 list)).toNat
                                []).getD
                            10 (0 : Int) ==
                          (list.getD (gi y1 2).toNat []).getD 10 (0 : Int) &&
                        (((sighting_Merge_0 list).getD
                                  (ref24_Find_0 ((list.getD (gi y1 2).toNat []).getD 0 (0 : Int)) ((list.getD (gi y1 2).toNat []).getD 1 (0 : Int))
                                      ((list.getD (gi y1 2).toNat []).getD 2 (0 : Int)) ((list.getD (gi y1 2).toNat []).getD 3 (0 : Int))
                                      ((list.getD (gi y1 2).toNat []).getD 4 (0 : Int)) ((list.getD (gi y1 2).toNat []).getD 5 (0 : Int))
                                      ((list.getD (gi y1 2).toNat []).getD 6 (0 : Int)) ((list.getD (gi y1 2).toNat []).getD 7 (0 : Int))
                                      ((list.getD (gi y1 2).toNat []).getD 8 (0 : Int)) ((list.getD (gi y1 2).toNat []).getD 9 (0 : Int))
                                      ((list.getD (gi y1 2).toNat []).getD 10 (0 : Int)) ((list.getD (gi y1 2).toNat []).getD 11 (0 : Int))
                                      ((list.getD (gi y1 2).toNat []).getD 12 (0 : Int)) (sighting_Merge_0 list)).toNat
                                  []).getD
                              11 (0 : Int) ==
                            (list.getD (gi y1 2).toNat []).getD 11 (0 : Int) &&
                          true) &&
                      (((sighting_Merge_0 list).getD
                                (ref24_Find_0 ((list.getD (gi y1 2).toNat []).getD 0 (0 : Int)) ((list.getD (gi y1 2).toNat []).getD 1 (0 : Int))
                                    ((list.getD (gi y1 2).toNat []).getD 2 (0 : Int)) ((list.getD (gi y1 2).toNat []).getD 3 (0 : Int))
                                    ((list.getD (gi y1 2).toNat []).getD 4 (0 : Int)) ((list.getD (gi y1 2).toNat []).getD 5 (0 : Int))
                                    ((list.getD (gi y1 2).toNat []).getD 6 (0 : Int)) ((list.getD (gi y1 2).toNat []).getD 7 (0 : Int))
                                    ((list.getD (gi y1 2).toNat []).getD 8 (0 : Int)) ((list.getD (gi y1 2).toNat []).getD 9 (0 : Int))
                                    ((list.getD (gi y1 2).toNat []).getD 10 (0 : Int)) ((list.getD (gi y1 2).toNat []).getD 11 (0 : Int))
                                    ((list.getD (gi y1 2).toNat []).getD 12 (0 : Int)) (sighting_Merge_0 list)).toNat
                                []).getD
                            12 (0 : Int) ==
                          (list.getD (gi y1 2).toNat []).getD 12 (0 : Int) &&
                        true)))))))) &&
  (!gb (law24_SightingMerged_l2 list y1).snd 0 ||
    decide
      (ref24_Find_0 ((list.getD (gi y1 2).toNat []).getD 0 (0 : Int)) ((list.getD (gi y1 2).toNat []).getD 1 (0 : Int))
          ((list.getD (gi y1 2).toNat []).getD 2 (0 : Int)) ((list.getD (gi y1 2).toNat []).getD 3 (0 : Int))
          ((list.getD (gi y1 2).toNat []).getD 4 (0 : Int)) ((list.getD (gi y1 2).toNat []).getD 5 (0 : Int))
          ((list.getD (gi y1 2).toNat []).getD 6 (0 : Int)) ((list.getD (gi y1 2).toNat []).getD 7 (0 : Int))
          ((list.getD (gi y1 2).toNat []).getD 8 (0 : Int)) ((list.getD (gi y1 2).toNat []).getD 9 (0 : Int))
          ((list.getD (gi y1 2).toNat []).getD 10 (0 : Int)) ((list.getD (gi y1 2).toNat []).getD 11 (0 : Int))
          ((list.getD (gi y1 2).toNat []).getD 12 (0 : Int))
          (cutV list (boundsA (↑list.length : Int) none (some (gi y1 2))).snd.fst (boundsA (↑list.length : Int) none (some (gi y1 2))).snd.snd) ≥
        (0 : Int)))), .i (IntKind.i64.wrap (gi y1 2 + (1 : Int)))])))))))))) else some (3, [.b (gb y1 0), .b (gb y1 1), .i (gi y1 2)]))
noncomputable def law24_SightingMerged_l1 (list : List (List Int)) : Nat × List U := loopGet (law24_SightingMerged_l1_step list) (law24_SightingMerged_l1_init list)
noncomputable def law24_SightingMerged_0 (list : List (List Int)) : Bool :=
  bif sighting_Merge_2 list != (0 : Int) || decide ((↑list.length : Int) > (60 : Int)) then law24_head_0 && sighting_Merge_2 list == (1 : Int)
else
  bif (law24_SightingMerged_l1 list).fst.beq 1 then false
  else
    gb (law24_SightingMerged_l1 list).snd 1 && sighting_Merge_2 (sighting_Merge_0 list) == (0 : Int) && ref24_Same_0 (sighting_Merge_0 list) (sighting_Merge_0 (sighting_Merge_0 list)) &&
        (↑(sighting_Merge_1 (sighting_Merge_0 list)).length : Int) == (0 : Int) &&
      decide ((↑(sighting_Merge_0 list).length : Int) ≤ (↑list.length : Int))
def law24_SightingMerged_pre (list : List (List Int)) : Prop :=
  ((law24_head_pre) ∧ ((sighting_Merge_pre list) ∧ (((sighting_Merge_2 list != (0 : Int) || decide ((↑list.length : Int) > (60 : Int))) = false) → (((loopOk (law24_SightingMerged_l0_step list) (law24_SightingMerged_l0_init list))) ∧ (((loopOk (law24_SightingMerged_l1_step list) (law24_SightingMerged_l1_init list))) ∧ (((law24_SightingMerged_l1 list).fst.beq 1 = false) → ((sighting_Merge_pre (sighting_Merge_0 list)) ∧ (((gb (law24_SightingMerged_l1 list).snd 1 && sighting_Merge_2 (sighting_Merge_0 list) == (0 : Int)) = true) → (ref24_Same_pre (sighting_Merge_0 list) (sighting_Merge_0 (sighting_Merge_0 list)))))))))))
noncomputable def law24_SightingWrong_l1_init (p_X p_Y b_X_Lo b_X_Hi b_Y_Lo b_Y_Hi : Int) (list : List (List Int)) (y0 : List U) : List U :=
  [.b (false), .i ((0 : Int))]
noncomputable def law24_SightingWrong_l1_step (p_X p_Y b_X_Lo b_X_Hi b_Y_Lo b_Y_Hi : Int) (list : List (List Int)) (y0 : List U) (y1 : List U) : Option (Nat × List U) :=
  (bif decide (gi y1 1 < (↑(sighting_Wrong_0 p_X p_Y list).length : Int)) then guardP (inR (gi y1 1) (sighting_Wrong_0 p_X p_Y list)) (guardP (inR (gi y1 1) (sighting_Wrong_0 p_X p_Y list)) (some (0, [.b (gb y1 0 || ((sighting_Wrong_0 p_X p_Y list).getD (gi y1 1).toNat []).getD 0 (0 : Int) == gi y0 1), .i (IntKind.i64.wrap (gi y1 1 + (1 : Int)))]))) else some (2, [.b (gb y1 0), .i (gi y1 1)]))
noncomputable def law24_SightingWrong_l1 (p_X p_Y b_X_Lo b_X_Hi b_Y_Lo b_Y_Hi : Int) (list : List (List Int)) (y0 : List U) : Nat × List U := loopGet (law24_SightingWrong_l1_step p_X p_Y b_X_Lo b_X_Hi b_Y_Lo b_Y_Hi list y0) (law24_SightingWrong_l1_init p_X p_Y b_X_Lo b_X_Hi b_Y_Lo b_Y_Hi list y0)
noncomputable def law24_SightingWrong_l0_init (p_X p_Y b_X_Lo b_X_Hi b_Y_Lo b_Y_Hi : Int) (list : List (List Int)) : List U :=
  [.b (law24_head_0), .i ((0 : Int))]
noncomputable def law24_SightingWrong_l0_step (p_X p_Y b_X_Lo b_X_Hi b_Y_Lo b_Y_Hi : Int) (list : List (List Int)) (y0 : List U) : Option (Nat × List U) :=
  (bif decide (gi y0 1 < (↑list.length : Int)) then guardP (inR (gi y0 1) list) (guardP (inR (gi y0 1) list) (guardP ((loopOk (law24_SightingWrong_l1_step p_X p_Y b_X_Lo b_X_Hi b_Y_Lo b_Y_Hi list y0) (law24_SightingWrong_l1_init p_X p_Y b_X_Lo b_X_Hi b_Y_Lo b_Y_Hi list y0))) (some (0, [.b (gb y0 0 &&
      sighting_Allows_1 ((list.getD (gi y0 1).toNat []).getD 0 (0 : Int)) ((list.getD (gi y0 1).toNat []).getD 1 (0 : Int))
          ((list.getD (gi y0 1).toNat []).getD 2 (0 : Int)) ((list.getD (gi y0 1).toNat []).getD 3 (0 : Int))
          ((list.getD (gi y0 1).toNat []).getD 4 (0 : Int)) ((list.getD (gi y0 1).toNat []).getD 5 (0 : Int))
          ((list.getD (gi y0 1).toNat []).getD 6 (0 : Int)) ((list.getD (gi y0 1).toNat []).getD 7 (0 : Int))
          ((list.getD (gi y0 1).toNat []).getD 8 (0 : Int)) ((list.getD (gi y0 1).toNat []).getD 9 (0 : Int))
          ((list.getD (gi y0 1).toNat []).getD 10 (0 : Int)) ((list.getD (gi y0 1).toNat []).getD 11 (0 : Int))
          ((list.getD (gi y0 1).toNat []).getD 12 (0 : Int)) p_X p_Y ==
        (0 : Int) &&
    gb (law24_SightingWrong_l1 p_X p_Y b_X_Lo b_X_Hi b_Y_Lo b_Y_Hi list y0).snd 0 ==
      !sighting_Allows_0 ((list.getD (gi y0 1).toNat []).getD 0 (0 : Int)) ((list.getD (gi y0 1).toNat []).getD 1 (0 : Int))
          ((list.getD (gi y0 1).toNat []).getD 2 (0 : Int)) ((list.getD (gi y0 1).toNat []).getD 3 (0 : Int))
          ((list.getD (gi y0 1).toNat []).getD 4 (0 : Int)) ((list.getD (gi y0 1).toNat []).getD 5 (0 : Int))
          ((list.getD (gi y0 1).toNat []).getD 6 (0 : Int)) ((list.getD (gi y0 1).toNat []).getD 7 (0 : Int))
          ((list.getD (gi y0 1).toNat []).getD 8 (0 : Int)) ((list.getD (gi y0 1).toNat []).getD 9 (0 : Int))
          ((list.getD (gi y0 1).toNat []).getD 10 (0 : Int)) ((list.getD (gi y0 1).toNat []).getD 11 (0 : Int))
          ((list.getD (gi y0 1).toNat []).getD 12 (0 : Int)) p_X p_Y &&
  (sighting_Wedge_1 ((list.getD (gi y0 1).toNat []).getD 0 (0 : Int)) ((list.getD (gi y0 1).toNat []).getD 1 (0 : Int))
            ((list.getD (gi y0 1).toNat []).getD 2 (0 : Int)) ((list.getD (gi y0 1).toNat []).getD 3 (0 : Int))
            ((list.getD (gi y0 1).toNat []).getD 4 (0 : Int)) ((list.getD (gi y0 1).toNat []).getD 5 (0 : Int))
            ((list.getD (gi y0 1).toNat []).getD 6 (0 : Int)) ((list.getD (gi y0 1).toNat []).getD 7 (0 : Int))
            ((list.getD (gi y0 1).toNat []).getD 8 (0 : Int)) ((list.getD (gi y0 1).toNat []).getD 9 (0 : Int))
            ((list.getD (gi y0 1).toNat []).getD 10 (0 : Int)) ((list.getD (gi y0 1).toNat []).getD 11 (0 : Int))
            ((list.getD (gi y0 1).toNat []).getD 12 (0 : Int)) b_X_Lo b_X_Hi b_Y_Lo b_Y_Hi !=
          (0 : Int) ||
        !(decide (b_X_Lo ≤ p_X) && decide (p_X ≤ b_X_Hi) && decide (b_Y_Lo ≤ p_Y) && decide (p_Y ≤ b_Y_Hi)) ||
      gb (law24_SightingWrong_l1 p_X p_Y b_X_Lo b_X_Hi b_Y_Lo b_Y_Hi list y0).snd 0 ||
    sighting_Wedge_0 ((list.getD (gi y0 1).toNat []).getD 0 (0 : Int)) ((list.getD (gi y0 1).toNat []).getD 1 (0 : Int))
      ((list.getD (gi y0 1).toNat []).getD 2 (0 : Int)) ((list.getD (gi y0 1).toNat []).getD 3 (0 : Int))
      ((list.getD (gi y0 1).toNat []).getD 4 (0 : Int)) ((list.getD (gi y0 1).toNat []).getD 5 (0 : Int))
      ((list.getD (gi y0 1).toNat []).getD 6 (0 : Int)) ((list.getD (gi y0 1).toNat []).getD 7 (0 : Int))
      ((list.getD (gi y0 1).toNat []).getD 8 (0 : Int)) ((list.getD (gi y0 1).toNat []).getD 9 (0 : Int))
      ((list.getD (gi y0 1).toNat []).getD 10 (0 : Int)) ((list.getD (gi y0 1).toNat []).getD 11 (0 : Int))
      ((list.getD (gi y0 1).toNat []).getD 12 (0 : Int)) b_X_Lo b_X_Hi b_Y_Lo b_Y_Hi)), .i (IntKind.i64.wrap (gi y0 1 + (1 : Int)))])))) else some (2, [.b (gb y0 0), .i (gi y0 1)]))
noncomputable def law24_SightingWrong_l0 (p_X p_Y b_X_Lo b_X_Hi b_Y_Lo b_Y_Hi : Int) (list : List (List Int)) : Nat × List U := loopGet (law24_SightingWrong_l0_step p_X p_Y b_X_Lo b_X_Hi b_Y_Lo b_Y_Hi list) (law24_SightingWrong_l0_init p_X p_Y b_X_Lo b_X_Hi b_Y_Lo b_Y_Hi list)
noncomputable def law24_SightingWrong_0 (p_X p_Y b_X_Lo b_X_Hi b_Y_Lo b_Y_Hi : Int) (list : List (List Int)) : Bool :=
  bif sighting_Wrong_1 p_X p_Y list != (0 : Int) || decide ((↑list.length : Int) > (60 : Int)) then law24_head_0 && sighting_Wrong_1 p_X p_Y list == (1 : Int)
else gb (law24_SightingWrong_l0 p_X p_Y b_X_Lo b_X_Hi b_Y_Lo b_Y_Hi list).snd 0 && decide ((↑(sighting_Wrong_0 p_X p_Y list).length : Int) ≤ (↑list.length : Int))
def law24_SightingWrong_pre (p_X p_Y b_X_Lo b_X_Hi b_Y_Lo b_Y_Hi : Int) (list : List (List Int)) : Prop :=
  ((law24_head_pre) ∧ ((sighting_Wrong_pre p_X p_Y list) ∧ (((sighting_Wrong_1 p_X p_Y list != (0 : Int) || decide ((↑list.length : Int) > (60 : Int))) = false) → ((loopOk (law24_SightingWrong_l0_step p_X p_Y b_X_Lo b_X_Hi b_Y_Lo b_Y_Hi list) (law24_SightingWrong_l0_init p_X p_Y b_X_Lo b_X_Hi b_Y_Lo b_Y_Hi list))))))
end Go.Proofs.Ytcpikjablgbegaa
