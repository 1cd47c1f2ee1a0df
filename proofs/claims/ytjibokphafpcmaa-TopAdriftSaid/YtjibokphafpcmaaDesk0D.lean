/- Written by program (wip/sygen.py): what the Go functions compute, as the executor reads it off their code. -/
import Derived.Test.YtjibokphafpcmaaSight1D
set_option maxRecDepth 100000
set_option linter.unusedVariables false
namespace Go.Proofs.Ytjibokphafpcmaa
open Go Go.Sy
noncomputable def desk_story_valid_l0_init (s_from : Int) (s_base s_forecast s_reports : List (List Int)) : List U :=
  [.i ((0 : Int)), .i (s_from), .i ((0 : Int))]
noncomputable def desk_story_valid_l0_step (s_from : Int) (s_base s_forecast s_reports : List (List Int)) (y0 : List U) : Option (Nat × List U) :=
  (bif decide (gi y0 2 < (↑s_reports.length : Int)) then guardP (inR (gi y0 2) s_reports) (guardP (inR (gi y0 2) s_reports) (guardP ((decide ((s_reports.getD (gi y0 2).toNat []).getD 2 (0 : Int) < gi y0 1) = false) → (inR (0 : Int) s_reports)) (guardP ((decide ((s_reports.getD (gi y0 2).toNat []).getD 2 (0 : Int) < gi y0 1) = false) → (inR (0 : Int) s_reports)) (guardP ((decide ((s_reports.getD (gi y0 2).toNat []).getD 2 (0 : Int) < gi y0 1) = false) → (inR (0 : Int) s_reports)) ((bif decide ((s_reports.getD (gi y0 2).toNat []).getD 2 (0 : Int) < gi y0 1) ||
  (s_reports.getD (gi y0 2).toNat []).getD 3 (0 : Int) != (s_reports.getD (Int.toNat (0 : Int)) []).getD 3 (0 : Int) then some (1, []) else some (0, [.i (gi y0 0), .i ((s_reports.getD (gi y0 2).toNat []).getD 2 (0 : Int)), .i (IntKind.i64.wrap (gi y0 2 + (1 : Int)))]))))))) else some (3, [.i (gi y0 0), .i (gi y0 1), .i (gi y0 2)]))
noncomputable def desk_story_valid_l0 (s_from : Int) (s_base s_forecast s_reports : List (List Int)) : Nat × List U := loopGet (desk_story_valid_l0_step s_from s_base s_forecast s_reports) (desk_story_valid_l0_init s_from s_base s_forecast s_reports)
noncomputable def desk_story_valid_s0 (s_from : Int) (s_base s_forecast s_reports : List (List Int)) : Int :=
  bif sighting_Merge_2 s_reports != (0 : Int) || !drift_Valid_0 s_base || !drift_Currents_0 s_forecast || decide (s_from < (0 : Int)) || decide (s_from > (10000000 : Int)) then (1 : Int)
else bif (desk_story_valid_l0 s_from s_base s_forecast s_reports).fst.beq 1 then (1 : Int) else bif decide ((↑(sighting_Merge_0 s_reports).length : Int) < (↑s_reports.length : Int)) then (5 : Int) else (0 : Int)
noncomputable def desk_story_valid_0 (s_from : Int) (s_base s_forecast s_reports : List (List Int)) : Int :=
  (desk_story_valid_s0 s_from s_base s_forecast s_reports)
def desk_story_valid_pre (s_from : Int) (s_base s_forecast s_reports : List (List Int)) : Prop :=
  ((sighting_Merge_pre s_reports) ∧ ((((sighting_Merge_2 s_reports != (0 : Int)) = false) → (drift_Valid_pre s_base)) ∧ ((((sighting_Merge_2 s_reports != (0 : Int) || !drift_Valid_0 s_base) = false) → (drift_Currents_pre s_forecast)) ∧ (((sighting_Merge_2 s_reports != (0 : Int) || !drift_Valid_0 s_base || !drift_Currents_0 s_forecast || decide (s_from < (0 : Int)) || decide (s_from > (10000000 : Int))) = false) → ((loopOk (desk_story_valid_l0_step s_from s_base s_forecast s_reports) (desk_story_valid_l0_init s_from s_base s_forecast s_reports)))))))
noncomputable def desk_story_wrongs_l0_init (s_from : Int) (s_base s_forecast s_reports list : List (List Int)) : List U :=
  [.b (false), .i ((-1 : Int)), .i ((0 : Int))]
noncomputable def desk_story_wrongs_l0_step (s_from : Int) (s_base s_forecast s_reports list : List (List Int)) (y0 : List U) : Option (Nat × List U) :=
  (bif decide (gi y0 2 < (↑list.length : Int)) then guardP (inR (gi y0 2) list) (guardP (inR (gi y0 2) list) ((bif decide ((list.getD (gi y0 2).toNat []).getD 0 (0 : Int) ≤ gi y0 1) || decide ((list.getD (gi y0 2).toNat []).getD 0 (0 : Int) ≥ (↑s_reports.length : Int)) then some (1, []) else some (0, [.b (gb y0 0), .i ((list.getD (gi y0 2).toNat []).getD 0 (0 : Int)), .i (IntKind.i64.wrap (gi y0 2 + (1 : Int)))])))) else some (3, [.b (gb y0 0), .i (gi y0 1), .i (gi y0 2)]))
noncomputable def desk_story_wrongs_l0 (s_from : Int) (s_base s_forecast s_reports list : List (List Int)) : Nat × List U := loopGet (desk_story_wrongs_l0_step s_from s_base s_forecast s_reports list) (desk_story_wrongs_l0_init s_from s_base s_forecast s_reports list)
noncomputable def desk_story_wrongs_0 (s_from : Int) (s_base s_forecast s_reports list : List (List Int)) : Bool :=
  bif (desk_story_wrongs_l0 s_from s_base s_forecast s_reports list).fst.beq 1 then false else true
def desk_story_wrongs_pre (s_from : Int) (s_base s_forecast s_reports list : List (List Int)) : Prop :=
  ((loopOk (desk_story_wrongs_l0_step s_from s_base s_forecast s_reports list) (desk_story_wrongs_l0_init s_from s_base s_forecast s_reports list)))
noncomputable def desk_story_left_l1_init (s_from : Int) (s_base s_forecast s_reports wrong : List (List Int)) (y0 : List U) : List U :=
  [.i ((0 : Int)), .i ((0 : Int))]
noncomputable def desk_story_left_l1_step (s_from : Int) (s_base s_forecast s_reports wrong : List (List Int)) (y0 : List U) (y1 : List U) : Option (Nat × List U) :=
  (bif decide (gi y1 1 < (↑wrong.length : Int)) then guardP (inR (gi y1 1) wrong) (guardP (inR (gi y1 1) wrong) ((bif gi y0 2 == (wrong.getD (gi y1 1).toNat []).getD 0 (0 : Int) then some (1, [.i (gi y1 1)]) else some (0, [.i (gi y1 0), .i (IntKind.i64.wrap (gi y1 1 + (1 : Int)))])))) else some (3, [.i (gi y1 0), .i (gi y1 1)]))
noncomputable def desk_story_left_l1 (s_from : Int) (s_base s_forecast s_reports wrong : List (List Int)) (y0 : List U) : Nat × List U := loopGet (desk_story_left_l1_step s_from s_base s_forecast s_reports wrong y0) (desk_story_left_l1_init s_from s_base s_forecast s_reports wrong y0)
noncomputable def desk_story_left_s0 (s_from : Int) (s_base s_forecast s_reports wrong : List (List Int)) (y0 : List U) : Int :=
  sighting_Box_4 ((s_reports.getD (gi y0 2).toNat []).getD 0 (0 : Int)) ((s_reports.getD (gi y0 2).toNat []).getD 1 (0 : Int))
  ((s_reports.getD (gi y0 2).toNat []).getD 2 (0 : Int)) ((s_reports.getD (gi y0 2).toNat []).getD 3 (0 : Int))
  ((s_reports.getD (gi y0 2).toNat []).getD 4 (0 : Int)) ((s_reports.getD (gi y0 2).toNat []).getD 5 (0 : Int))
  ((s_reports.getD (gi y0 2).toNat []).getD 6 (0 : Int)) ((s_reports.getD (gi y0 2).toNat []).getD 7 (0 : Int))
  ((s_reports.getD (gi y0 2).toNat []).getD 8 (0 : Int)) ((s_reports.getD (gi y0 2).toNat []).getD 9 (0 : Int))
  ((s_reports.getD (gi y0 2).toNat []).getD 10 (0 : Int)) ((s_reports.getD (gi y0 2).toNat []).getD 11 (0 : Int))
  ((s_reports.getD (gi y0 2).toNat []).getD 12 (0 : Int))
noncomputable def desk_story_left_s1 (s_from : Int) (s_base s_forecast s_reports wrong : List (List Int)) (y0 : List U) : Int :=
  sighting_Box_0 ((s_reports.getD (gi y0 2).toNat []).getD 0 (0 : Int)) ((s_reports.getD (gi y0 2).toNat []).getD 1 (0 : Int))
  ((s_reports.getD (gi y0 2).toNat []).getD 2 (0 : Int)) ((s_reports.getD (gi y0 2).toNat []).getD 3 (0 : Int))
  ((s_reports.getD (gi y0 2).toNat []).getD 4 (0 : Int)) ((s_reports.getD (gi y0 2).toNat []).getD 5 (0 : Int))
  ((s_reports.getD (gi y0 2).toNat []).getD 6 (0 : Int)) ((s_reports.getD (gi y0 2).toNat []).getD 7 (0 : Int))
  ((s_reports.getD (gi y0 2).toNat []).getD 8 (0 : Int)) ((s_reports.getD (gi y0 2).toNat []).getD 9 (0 : Int))
  ((s_reports.getD (gi y0 2).toNat []).getD 10 (0 : Int)) ((s_reports.getD (gi y0 2).toNat []).getD 11 (0 : Int))
  ((s_reports.getD (gi y0 2).toNat []).getD 12 (0 : Int))
noncomputable def desk_story_left_s2 (s_from : Int) (s_base s_forecast s_reports wrong : List (List Int)) (y0 : List U) : Int :=
  sighting_Box_1 ((s_reports.getD (gi y0 2).toNat []).getD 0 (0 : Int)) ((s_reports.getD (gi y0 2).toNat []).getD 1 (0 : Int))
  ((s_reports.getD (gi y0 2).toNat []).getD 2 (0 : Int)) ((s_reports.getD (gi y0 2).toNat []).getD 3 (0 : Int))
  ((s_reports.getD (gi y0 2).toNat []).getD 4 (0 : Int)) ((s_reports.getD (gi y0 2).toNat []).getD 5 (0 : Int))
  ((s_reports.getD (gi y0 2).toNat []).getD 6 (0 : Int)) ((s_reports.getD (gi y0 2).toNat []).getD 7 (0 : Int))
  ((s_reports.getD (gi y0 2).toNat []).getD 8 (0 : Int)) ((s_reports.getD (gi y0 2).toNat []).getD 9 (0 : Int))
  ((s_reports.getD (gi y0 2).toNat []).getD 10 (0 : Int)) ((s_reports.getD (gi y0 2).toNat []).getD 11 (0 : Int))
  ((s_reports.getD (gi y0 2).toNat []).getD 12 (0 : Int))
noncomputable def desk_story_left_s3 (s_from : Int) (s_base s_forecast s_reports wrong : List (List Int)) (y0 : List U) : Int :=
  sighting_Box_2 ((s_reports.getD (gi y0 2).toNat []).getD 0 (0 : Int)) ((s_reports.getD (gi y0 2).toNat []).getD 1 (0 : Int))
  ((s_reports.getD (gi y0 2).toNat []).getD 2 (0 : Int)) ((s_reports.getD (gi y0 2).toNat []).getD 3 (0 : Int))
  ((s_reports.getD (gi y0 2).toNat []).getD 4 (0 : Int)) ((s_reports.getD (gi y0 2).toNat []).getD 5 (0 : Int))
  ((s_reports.getD (gi y0 2).toNat []).getD 6 (0 : Int)) ((s_reports.getD (gi y0 2).toNat []).getD 7 (0 : Int))
  ((s_reports.getD (gi y0 2).toNat []).getD 8 (0 : Int)) ((s_reports.getD (gi y0 2).toNat []).getD 9 (0 : Int))
  ((s_reports.getD (gi y0 2).toNat []).getD 10 (0 : Int)) ((s_reports.getD (gi y0 2).toNat []).getD 11 (0 : Int))
  ((s_reports.getD (gi y0 2).toNat []).getD 12 (0 : Int))
noncomputable def desk_story_left_s4 (s_from : Int) (s_base s_forecast s_reports wrong : List (List Int)) (y0 : List U) : Int :=
  sighting_Box_3 ((s_reports.getD (gi y0 2).toNat []).getD 0 (0 : Int)) ((s_reports.getD (gi y0 2).toNat []).getD 1 (0 : Int))
  ((s_reports.getD (gi y0 2).toNat []).getD 2 (0 : Int)) ((s_reports.getD (gi y0 2).toNat []).getD 3 (0 : Int))
  ((s_reports.getD (gi y0 2).toNat []).getD 4 (0 : Int)) ((s_reports.getD (gi y0 2).toNat []).getD 5 (0 : Int))
  ((s_reports.getD (gi y0 2).toNat []).getD 6 (0 : Int)) ((s_reports.getD (gi y0 2).toNat []).getD 7 (0 : Int))
  ((s_reports.getD (gi y0 2).toNat []).getD 8 (0 : Int)) ((s_reports.getD (gi y0 2).toNat []).getD 9 (0 : Int))
  ((s_reports.getD (gi y0 2).toNat []).getD 10 (0 : Int)) ((s_reports.getD (gi y0 2).toNat []).getD 11 (0 : Int))
  ((s_reports.getD (gi y0 2).toNat []).getD 12 (0 : Int))
noncomputable def desk_story_left_l0_init (s_from : Int) (s_base s_forecast s_reports wrong : List (List Int)) : List U :=
  [.i ((0 : Int)), .i (s_from), .i ((0 : Int)), .r ([] ++ s_base)]
noncomputable def desk_story_left_l0_step (s_from : Int) (s_base s_forecast s_reports wrong : List (List Int)) (y0 : List U) : Option (Nat × List U) :=
  (bif decide (gi y0 2 < (↑s_reports.length : Int)) then guardP (inR (gi y0 2) s_reports) (guardP (inR (gi y0 2) s_reports) (guardP (drift_Move_pre (gi y0 1) ((s_reports.getD (gi y0 2).toNat []).getD 2 (0 : Int)) (gr y0 3) s_forecast) ((bif drift_Move_1 (gi y0 1) ((s_reports.getD (gi y0 2).toNat []).getD 2 (0 : Int)) (gr y0 3) s_forecast != (0 : Int) then some (1, [.i (drift_Move_1 (gi y0 1) ((s_reports.getD (gi y0 2).toNat []).getD 2 (0 : Int)) (gr y0 3) s_forecast)]) else guardP ((loopOk (desk_story_left_l1_step s_from s_base s_forecast s_reports wrong y0) (desk_story_left_l1_init s_from s_base s_forecast s_reports wrong y0))) ((bif decide ((bif (desk_story_left_l1 s_from s_base s_forecast s_reports wrong y0).fst.beq 1 then gi (desk_story_left_l1 s_from s_base s_forecast s_reports wrong y0).snd 0 else (-1 : Int)) ≥ (0 : Int)) then some (0, [.i (gi y0 0), .i ((s_reports.getD (gi y0 2).toNat []).getD 2 (0 : Int)), .i (IntKind.i64.wrap (gi y0 2 + (1 : Int))), .r (drift_Move_0 (gi y0 1) ((s_reports.getD (gi y0 2).toNat []).getD 2 (0 : Int)) (gr y0 3) s_forecast)]) else (bif (desk_story_left_s0 s_from s_base s_forecast s_reports wrong y0) != (0 : Int) then some (3, [.i ((desk_story_left_s0 s_from s_base s_forecast s_reports wrong y0))]) else guardP (drift_Cut_pre ((desk_story_left_s1 s_from s_base s_forecast s_reports wrong y0)) ((desk_story_left_s2 s_from s_base s_forecast s_reports wrong y0)) ((desk_story_left_s3 s_from s_base s_forecast s_reports wrong y0)) ((desk_story_left_s4 s_from s_base s_forecast s_reports wrong y0))
  (drift_Move_0 (gi y0 1) ((s_reports.getD (gi y0 2).toNat []).getD 2 (0 : Int)) (gr y0 3) s_forecast)) ((bif drift_Cut_1 ((desk_story_left_s1 s_from s_base s_forecast s_reports wrong y0)) ((desk_story_left_s2 s_from s_base s_forecast s_reports wrong y0)) ((desk_story_left_s3 s_from s_base s_forecast s_reports wrong y0)) ((desk_story_left_s4 s_from s_base s_forecast s_reports wrong y0))
    (drift_Move_0 (gi y0 1) ((s_reports.getD (gi y0 2).toNat []).getD 2 (0 : Int)) (gr y0 3) s_forecast) !=
  (0 : Int) then some (4, []) else some (0, [.i (gi y0 0), .i ((s_reports.getD (gi y0 2).toNat []).getD 2 (0 : Int)), .i (IntKind.i64.wrap (gi y0 2 + (1 : Int))), .r (drift_Cut_0 ((desk_story_left_s1 s_from s_base s_forecast s_reports wrong y0)) ((desk_story_left_s2 s_from s_base s_forecast s_reports wrong y0)) ((desk_story_left_s3 s_from s_base s_forecast s_reports wrong y0)) ((desk_story_left_s4 s_from s_base s_forecast s_reports wrong y0))
  (drift_Move_0 (gi y0 1) ((s_reports.getD (gi y0 2).toNat []).getD 2 (0 : Int)) (gr y0 3) s_forecast))])))))))))) else some (6, [.i (gi y0 0), .i (gi y0 1), .i (gi y0 2), .r (gr y0 3)]))
noncomputable def desk_story_left_l0 (s_from : Int) (s_base s_forecast s_reports wrong : List (List Int)) : Nat × List U := loopGet (desk_story_left_l0_step s_from s_base s_forecast s_reports wrong) (desk_story_left_l0_init s_from s_base s_forecast s_reports wrong)
noncomputable def desk_story_left_s5 (s_from : Int) (s_base s_forecast s_reports wrong : List (List Int)) : List (List Int) :=
  bif (desk_story_left_l0 s_from s_base s_forecast s_reports wrong).fst.beq 1 then []
else bif (desk_story_left_l0 s_from s_base s_forecast s_reports wrong).fst.beq 3 then [] else bif (desk_story_left_l0 s_from s_base s_forecast s_reports wrong).fst.beq 4 then [] else gr (desk_story_left_l0 s_from s_base s_forecast s_reports wrong).snd 3
noncomputable def desk_story_left_0 (s_from : Int) (s_base s_forecast s_reports wrong : List (List Int)) : List (List Int) :=
  (desk_story_left_s5 s_from s_base s_forecast s_reports wrong)
noncomputable def desk_story_left_s6 (s_from : Int) (s_base s_forecast s_reports wrong : List (List Int)) : Int :=
  bif (desk_story_left_l0 s_from s_base s_forecast s_reports wrong).fst.beq 1 then gi (desk_story_left_l0 s_from s_base s_forecast s_reports wrong).snd 0
else bif (desk_story_left_l0 s_from s_base s_forecast s_reports wrong).fst.beq 3 then gi (desk_story_left_l0 s_from s_base s_forecast s_reports wrong).snd 0 else bif (desk_story_left_l0 s_from s_base s_forecast s_reports wrong).fst.beq 4 then (18 : Int) else (0 : Int)
noncomputable def desk_story_left_1 (s_from : Int) (s_base s_forecast s_reports wrong : List (List Int)) : Int :=
  (desk_story_left_s6 s_from s_base s_forecast s_reports wrong)
def desk_story_left_pre (s_from : Int) (s_base s_forecast s_reports wrong : List (List Int)) : Prop :=
  ((((s_base = []) → ((True) ∧ (([] ++ s_base = []) ∧ (True)))) ∧ (fitsA 32 (0 + s_base.length))) ∧ ((loopOk (desk_story_left_l0_step s_from s_base s_forecast s_reports wrong) (desk_story_left_l0_init s_from s_base s_forecast s_reports wrong))))
noncomputable def desk_story_asked_s0 (s_from most : Int) (s_base s_forecast s_reports : List (List Int)) : Int :=
  bif desk_story_valid_0 s_from s_base s_forecast s_reports == (1 : Int) || decide (most < (0 : Int)) || decide (most > (3 : Int)) then (1 : Int)
else bif desk_story_valid_0 s_from s_base s_forecast s_reports == (0 : Int) && decide ((↑s_reports.length : Int) > (12 : Int)) then (2 : Int) else desk_story_valid_0 s_from s_base s_forecast s_reports
noncomputable def desk_story_asked_0 (s_from most : Int) (s_base s_forecast s_reports : List (List Int)) : Int :=
  (desk_story_asked_s0 s_from most s_base s_forecast s_reports)
def desk_story_asked_pre (s_from most : Int) (s_base s_forecast s_reports : List (List Int)) : Prop :=
  (desk_story_valid_pre s_from s_base s_forecast s_reports)
end Go.Proofs.Ytjibokphafpcmaa
