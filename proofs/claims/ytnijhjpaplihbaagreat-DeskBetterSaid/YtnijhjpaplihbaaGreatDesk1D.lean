/- Several texts in one (wip/merge.py): XDesk0D XDesk1D. -/
import Derived.Test.YtnijhjpaplihbaaGreatSight1D
import Derived.Test.YtnijhjpaplihbaaGreatSyD
/-! Written by program (wip/sygen.py): what the Go functions compute, as the executor reads it off their code. -/
set_option maxRecDepth 100000
set_option linter.unusedVariables false
namespace Go.Proofs.YtnijhjpaplihbaaGreat
open Go Go.Sy
noncomputable def desk_story_valid_l0_init (s_from : Int) (s_base s_forecast s_reports : List (List Int)) : List U :=
  [.i ((0 : Int)), .i (s_from), .i ((0 : Int))]
noncomputable def desk_story_valid_l0_step (s_from : Int) (s_base s_forecast s_reports : List (List Int)) (y0 : List U) : Option (Nat × List U) :=
  (bif decide (gi y0 2 < (↑s_reports.length : Int)) then guardP (inR (gi y0 2) s_reports) (guardP (inR (gi y0 2) s_reports) (guardP ((decide ((s_reports.getD (gi y0 2).toNat []).getD 2 (0 : Int) < gi y0 1) = false) → (inR (0 : Int) s_reports)) (guardP ((decide ((s_reports.getD (gi y0 2).toNat []).getD 2 (0 : Int) < gi y0 1) = false) → (inR (0 : Int) s_reports)) (guardP ((decide ((s_reports.getD (gi y0 2).toNat []).getD 2 (0 : Int) < gi y0 1) = false) → (inR (0 : Int) s_reports)) ((bif decide ((s_reports.getD (gi y0 2).toNat []).getD 2 (0 : Int) < gi y0 1) ||
  (s_reports.getD (gi y0 2).toNat []).getD 3 (0 : Int) != (s_reports.getD (Int.toNat (0 : Int)) []).getD 3 (0 : Int) then some (1, []) else some (0, [.i (gi y0 0), .i ((s_reports.getD (gi y0 2).toNat []).getD 2 (0 : Int)), .i (IntKind.i64.wrap (gi y0 2 + (1 : Int)))]))))))) else some (3, [.i (gi y0 0), .i (gi y0 1), .i (gi y0 2)]))
noncomputable def desk_story_valid_l0 (s_from : Int) (s_base s_forecast s_reports : List (List Int)) : Nat × List U := loopGet (desk_story_valid_l0_step s_from s_base s_forecast s_reports) (desk_story_valid_l0_init s_from s_base s_forecast s_reports)
noncomputable def desk_story_valid_s0 (s_from : Int) (s_base s_forecast s_reports : List (List Int)) : Int :=
  bif sighting_Merge_2 s_reports != (0 : Int) || !drift_Valid_0 s_base || !drift_Currents_0 s_forecast || decide (s_from < (0 : Int)) || decide (s_from > (10000000 : Int)) then (1 : Int)
else bif (desk_story_valid_l0 s_from s_base s_forecast s_reports).fst.beq 1 then (1 : Int) else bif decide ((↑(sighting_Merge_0 s_reports).length : Int) < (↑s_reports.length : Int)) then (5 : Int) else (0 : Int)
noncomputable def desk_story_valid_0 (s_from : Int) (s_base s_forecast s_reports : List (List Int)) : Int :=
  (desk_story_valid_s0 s_from s_base s_forecast s_reports)
def desk_story_valid_pre (s_from : Int) (s_base s_forecast s_reports : List (List Int)) : Prop :=
  ((sighting_Merge_pre s_reports) ∧ ((((sighting_Merge_2 s_reports != (0 : Int)) = false) → (drift_Valid_pre s_base)) ∧ ((((sighting_Merge_2 s_reports != (0 : Int) || !drift_Valid_0 s_base) = false) → (drift_Currents_pre s_forecast)) ∧ (((sighting_Merge_2 s_reports != (0 : Int) || !drift_Valid_0 s_base || !drift_Currents_0 s_forecast || decide (s_from < (0 : Int)) || decide (s_from > (10000000 : Int))) = false) → ((loopOk (desk_story_valid_l0_step s_from s_base s_forecast s_reports) (desk_story_valid_l0_init s_from s_base s_forecast s_reports)))))))
noncomputable def desk_story_wrongs_l0_init (s_from : Int) (s_base s_forecast s_reports list : List (List Int)) : List U :=
  [.b (false), .i ((-1 : Int)), .i ((0 : Int))]
noncomputable def desk_story_wrongs_l0_step (s_from : Int) (s_base s_forecast s_reports list : List (List Int)) (y0 : List U) : Option (Nat × List U) :=
  (bif decide (gi y0 2 < (↑list.length : Int)) then guardP (inR (gi y0 2) list) (guardP (inR (gi y0 2) list) ((bif decide ((list.getD (gi y0 2).toNat []).getD 0 (0 : Int) ≤ gi y0 1) || decide ((list.getD (gi y0 2).toNat []).getD 0 (0 : Int) ≥ (↑s_reports.length : Int)) then some (1, []) else some (0, [.b (gb y0 0), .i ((list.getD (gi y0 2).toNat []).getD 0 (0 : Int)), .i (IntKind.i64.wrap (gi y0 2 + (1 : Int)))])))) else some (3, [.b (gb y0 0), .i (gi y0 1), .i (gi y0 2)]))
noncomputable def desk_story_wrongs_l0 (s_from : Int) (s_base s_forecast s_reports list : List (List Int)) : Nat × List U := loopGet (desk_story_wrongs_l0_step s_from s_base s_forecast s_reports list) (desk_story_wrongs_l0_init s_from s_base s_forecast s_reports list)
noncomputable def desk_story_wrongs_0 (s_from : Int) (s_base s_forecast s_reports list : List (List Int)) : Bool :=
  bif (desk_story_wrongs_l0 s_from s_base s_forecast s_reports list).fst.beq 1 then false else true
def desk_story_wrongs_pre (s_from : Int) (s_base s_forecast s_reports list : List (List Int)) : Prop :=
  ((loopOk (desk_story_wrongs_l0_step s_from s_base s_forecast s_reports list) (desk_story_wrongs_l0_init s_from s_base s_forecast s_reports list)))
noncomputable def desk_story_left_l1_init (s_from : Int) (s_base s_forecast s_reports wrong : List (List Int)) (y0 : List U) : List U :=
  [.i ((0 : Int)), .i ((0 : Int))]
noncomputable def desk_story_left_l1_step (s_from : Int) (s_base s_forecast s_reports wrong : List (List Int)) (y0 : List U) (y1 : List U) : Option (Nat × List U) :=
  (bif decide (gi y1 1 < (↑wrong.length : Int)) then guardP (inR (gi y1 1) wrong) (guardP (inR (gi y1 1) wrong) ((bif gi y0 2 == (wrong.getD (gi y1 1).toNat []).getD 0 (0 : Int) then some (1, [.i (gi y1 1)]) else some (0, [.i (gi y1 0), .i (IntKind.i64.wrap (gi y1 1 + (1 : Int)))])))) else some (3, [.i (gi y1 0), .i (gi y1 1)]))
noncomputable def desk_story_left_l1 (s_from : Int) (s_base s_forecast s_reports wrong : List (List Int)) (y0 : List U) : Nat × List U := loopGet (desk_story_left_l1_step s_from s_base s_forecast s_reports wrong y0) (desk_story_left_l1_init s_from s_base s_forecast s_reports wrong y0)
noncomputable def desk_story_left_s0 (s_from : Int) (s_base s_forecast s_reports wrong : List (List Int)) (y0 : List U) : Int :=
  sighting_Box_4 ((s_reports.getD (gi y0 2).toNat []).getD 0 (0 : Int)) ((s_reports.getD (gi y0 2).toNat []).getD 1 (0 : Int))
  ((s_reports.getD (gi y0 2).toNat []).getD 2 (0 : Int)) ((s_reports.getD (gi y0 2).toNat []).getD 3 (0 : Int))
  ((s_reports.getD (gi y0 2).toNat []).getD 4 (0 : Int)) ((s_reports.getD (gi y0 2).toNat []).getD 5 (0 : Int))
  ((s_reports.getD (gi y0 2).toNat []).getD 6 (0 : Int)) ((s_reports.getD (gi y0 2).toNat []).getD 7 (0 : Int))
  ((s_reports.getD (gi y0 2).toNat []).getD 8 (0 : Int)) ((s_reports.getD (gi y0 2).toNat []).getD 9 (0 : Int))
  ((s_reports.getD (gi y0 2).toNat []).getD 10 (0 : Int)) ((s_reports.getD (gi y0 2).toNat []).getD 11 (0 : Int))
  ((s_reports.getD (gi y0 2).toNat []).getD 12 (0 : Int))
noncomputable def desk_story_left_s1 (s_from : Int) (s_base s_forecast s_reports wrong : List (List Int)) (y0 : List U) : Int :=
  sighting_Box_0 ((s_reports.getD (gi y0 2).toNat []).getD 0 (0 : Int)) ((s_reports.getD (gi y0 2).toNat []).getD 1 (0 : Int))
  ((s_reports.getD (gi y0 2).toNat []).getD 2 (0 : Int)) ((s_reports.getD (gi y0 2).toNat []).getD 3 (0 : Int))
  ((s_reports.getD (gi y0 2).toNat []).getD 4 (0 : Int)) ((s_reports.getD (gi y0 2).toNat []).getD 5 (0 : Int))
  ((s_reports.getD (gi y0 2).toNat []).getD 6 (0 : Int)) ((s_reports.getD (gi y0 2).toNat []).getD 7 (0 : Int))
  ((s_reports.getD (gi y0 2).toNat []).getD 8 (0 : Int)) ((s_reports.getD (gi y0 2).toNat []).getD 9 (0 : Int))
  ((s_reports.getD (gi y0 2).toNat []).getD 10 (0 : Int)) ((s_reports.getD (gi y0 2).toNat []).getD 11 (0 : Int))
  ((s_reports.getD (gi y0 2).toNat []).getD 12 (0 : Int))
noncomputable def desk_story_left_s2 (s_from : Int) (s_base s_forecast s_reports wrong : List (List Int)) (y0 : List U) : Int :=
  sighting_Box_1 ((s_reports.getD (gi y0 2).toNat []).getD 0 (0 : Int)) ((s_reports.getD (gi y0 2).toNat []).getD 1 (0 : Int))
  ((s_reports.getD (gi y0 2).toNat []).getD 2 (0 : Int)) ((s_reports.getD (gi y0 2).toNat []).getD 3 (0 : Int))
  ((s_reports.getD (gi y0 2).toNat []).getD 4 (0 : Int)) ((s_reports.getD (gi y0 2).toNat []).getD 5 (0 : Int))
  ((s_reports.getD (gi y0 2).toNat []).getD 6 (0 : Int)) ((s_reports.getD (gi y0 2).toNat []).getD 7 (0 : Int))
  ((s_reports.getD (gi y0 2).toNat []).getD 8 (0 : Int)) ((s_reports.getD (gi y0 2).toNat []).getD 9 (0 : Int))
  ((s_reports.getD (gi y0 2).toNat []).getD 10 (0 : Int)) ((s_reports.getD (gi y0 2).toNat []).getD 11 (0 : Int))
  ((s_reports.getD (gi y0 2).toNat []).getD 12 (0 : Int))
noncomputable def desk_story_left_s3 (s_from : Int) (s_base s_forecast s_reports wrong : List (List Int)) (y0 : List U) : Int :=
  sighting_Box_2 ((s_reports.getD (gi y0 2).toNat []).getD 0 (0 : Int)) ((s_reports.getD (gi y0 2).toNat []).getD 1 (0 : Int))
  ((s_reports.getD (gi y0 2).toNat []).getD 2 (0 : Int)) ((s_reports.getD (gi y0 2).toNat []).getD 3 (0 : Int))
  ((s_reports.getD (gi y0 2).toNat []).getD 4 (0 : Int)) ((s_reports.getD (gi y0 2).toNat []).getD 5 (0 : Int))
  ((s_reports.getD (gi y0 2).toNat []).getD 6 (0 : Int)) ((s_reports.getD (gi y0 2).toNat []).getD 7 (0 : Int))
  ((s_reports.getD (gi y0 2).toNat []).getD 8 (0 : Int)) ((s_reports.getD (gi y0 2).toNat []).getD 9 (0 : Int))
  ((s_reports.getD (gi y0 2).toNat []).getD 10 (0 : Int)) ((s_reports.getD (gi y0 2).toNat []).getD 11 (0 : Int))
  ((s_reports.getD (gi y0 2).toNat []).getD 12 (0 : Int))
noncomputable def desk_story_left_s4 (s_from : Int) (s_base s_forecast s_reports wrong : List (List Int)) (y0 : List U) : Int :=
  sighting_Box_3 ((s_reports.getD (gi y0 2).toNat []).getD 0 (0 : Int)) ((s_reports.getD (gi y0 2).toNat []).getD 1 (0 : Int))
  ((s_reports.getD (gi y0 2).toNat []).getD 2 (0 : Int)) ((s_reports.getD (gi y0 2).toNat []).getD 3 (0 : Int))
  ((s_reports.getD (gi y0 2).toNat []).getD 4 (0 : Int)) ((s_reports.getD (gi y0 2).toNat []).getD 5 (0 : Int))
  ((s_reports.getD (gi y0 2).toNat []).getD 6 (0 : Int)) ((s_reports.getD (gi y0 2).toNat []).getD 7 (0 : Int))
  ((s_reports.getD (gi y0 2).toNat []).getD 8 (0 : Int)) ((s_reports.getD (gi y0 2).toNat []).getD 9 (0 : Int))
  ((s_reports.getD (gi y0 2).toNat []).getD 10 (0 : Int)) ((s_reports.getD (gi y0 2).toNat []).getD 11 (0 : Int))
  ((s_reports.getD (gi y0 2).toNat []).getD 12 (0 : Int))
noncomputable def desk_story_left_l0_init (s_from : Int) (s_base s_forecast s_reports wrong : List (List Int)) : List U :=
  [.i ((0 : Int)), .i (s_from), .i ((0 : Int)), .r ([] ++ s_base)]
noncomputable def desk_story_left_l0_step (s_from : Int) (s_base s_forecast s_reports wrong : List (List Int)) (y0 : List U) : Option (Nat × List U) :=
  (bif decide (gi y0 2 < (↑s_reports.length : Int)) then guardP (inR (gi y0 2) s_reports) (guardP (inR (gi y0 2) s_reports) (guardP (drift_Move_pre (gi y0 1) ((s_reports.getD (gi y0 2).toNat []).getD 2 (0 : Int)) (gr y0 3) s_forecast) ((bif drift_Move_1 (gi y0 1) ((s_reports.getD (gi y0 2).toNat []).getD 2 (0 : Int)) (gr y0 3) s_forecast != (0 : Int) then some (1, [.i (drift_Move_1 (gi y0 1) ((s_reports.getD (gi y0 2).toNat []).getD 2 (0 : Int)) (gr y0 3) s_forecast)]) else guardP ((loopOk (desk_story_left_l1_step s_from s_base s_forecast s_reports wrong y0) (desk_story_left_l1_init s_from s_base s_forecast s_reports wrong y0))) ((bif decide ((bif (desk_story_left_l1 s_from s_base s_forecast s_reports wrong y0).fst.beq 1 then gi (desk_story_left_l1 s_from s_base s_forecast s_reports wrong y0).snd 0 else (-1 : Int)) ≥ (0 : Int)) then some (0, [.i (gi y0 0), .i ((s_reports.getD (gi y0 2).toNat []).getD 2 (0 : Int)), .i (IntKind.i64.wrap (gi y0 2 + (1 : Int))), .r (drift_Move_0 (gi y0 1) ((s_reports.getD (gi y0 2).toNat []).getD 2 (0 : Int)) (gr y0 3) s_forecast)]) else (bif (desk_story_left_s0 s_from s_base s_forecast s_reports wrong y0) != (0 : Int) then some (3, [.i ((desk_story_left_s0 s_from s_base s_forecast s_reports wrong y0))]) else guardP (drift_Cut_pre ((desk_story_left_s1 s_from s_base s_forecast s_reports wrong y0)) ((desk_story_left_s2 s_from s_base s_forecast s_reports wrong y0)) ((desk_story_left_s3 s_from s_base s_forecast s_reports wrong y0)) ((desk_story_left_s4 s_from s_base s_forecast s_reports wrong y0))
  (drift_Move_0 (gi y0 1) ((s_reports.getD (gi y0 2).toNat []).getD 2 (0 : Int)) (gr y0 3) s_forecast)) ((bif drift_Cut_1 ((desk_story_left_s1 s_from s_base s_forecast s_reports wrong y0)) ((desk_story_left_s2 s_from s_base s_forecast s_reports wrong y0)) ((desk_story_left_s3 s_from s_base s_forecast s_reports wrong y0)) ((desk_story_left_s4 s_from s_base s_forecast s_reports wrong y0))
    (drift_Move_0 (gi y0 1) ((s_reports.getD (gi y0 2).toNat []).getD 2 (0 : Int)) (gr y0 3) s_forecast) !=
  (0 : Int) then some (4, []) else some (0, [.i (gi y0 0), .i ((s_reports.getD (gi y0 2).toNat []).getD 2 (0 : Int)), .i (IntKind.i64.wrap (gi y0 2 + (1 : Int))), .r (drift_Cut_0 ((desk_story_left_s1 s_from s_base s_forecast s_reports wrong y0)) ((desk_story_left_s2 s_from s_base s_forecast s_reports wrong y0)) ((desk_story_left_s3 s_from s_base s_forecast s_reports wrong y0)) ((desk_story_left_s4 s_from s_base s_forecast s_reports wrong y0))
  (drift_Move_0 (gi y0 1) ((s_reports.getD (gi y0 2).toNat []).getD 2 (0 : Int)) (gr y0 3) s_forecast))])))))))))) else some (6, [.i (gi y0 0), .i (gi y0 1), .i (gi y0 2), .r (gr y0 3)]))
noncomputable def desk_story_left_l0 (s_from : Int) (s_base s_forecast s_reports wrong : List (List Int)) : Nat × List U := loopGet (desk_story_left_l0_step s_from s_base s_forecast s_reports wrong) (desk_story_left_l0_init s_from s_base s_forecast s_reports wrong)
noncomputable def desk_story_left_s5 (s_from : Int) (s_base s_forecast s_reports wrong : List (List Int)) : List (List Int) :=
  bif (desk_story_left_l0 s_from s_base s_forecast s_reports wrong).fst.beq 1 then []
else bif (desk_story_left_l0 s_from s_base s_forecast s_reports wrong).fst.beq 3 then [] else bif (desk_story_left_l0 s_from s_base s_forecast s_reports wrong).fst.beq 4 then [] else gr (desk_story_left_l0 s_from s_base s_forecast s_reports wrong).snd 3
noncomputable def desk_story_left_0 (s_from : Int) (s_base s_forecast s_reports wrong : List (List Int)) : List (List Int) :=
  (desk_story_left_s5 s_from s_base s_forecast s_reports wrong)
noncomputable def desk_story_left_s6 (s_from : Int) (s_base s_forecast s_reports wrong : List (List Int)) : Int :=
  bif (desk_story_left_l0 s_from s_base s_forecast s_reports wrong).fst.beq 1 then gi (desk_story_left_l0 s_from s_base s_forecast s_reports wrong).snd 0
else bif (desk_story_left_l0 s_from s_base s_forecast s_reports wrong).fst.beq 3 then gi (desk_story_left_l0 s_from s_base s_forecast s_reports wrong).snd 0 else bif (desk_story_left_l0 s_from s_base s_forecast s_reports wrong).fst.beq 4 then (18 : Int) else (0 : Int)
noncomputable def desk_story_left_1 (s_from : Int) (s_base s_forecast s_reports wrong : List (List Int)) : Int :=
  (desk_story_left_s6 s_from s_base s_forecast s_reports wrong)
def desk_story_left_pre (s_from : Int) (s_base s_forecast s_reports wrong : List (List Int)) : Prop :=
  ((((s_base = []) → ((True) ∧ (([] ++ s_base = []) ∧ (True)))) ∧ (fitsA 32 (0 + s_base.length))) ∧ ((loopOk (desk_story_left_l0_step s_from s_base s_forecast s_reports wrong) (desk_story_left_l0_init s_from s_base s_forecast s_reports wrong))))
noncomputable def desk_story_asked_s0 (s_from most : Int) (s_base s_forecast s_reports : List (List Int)) : Int :=
  bif desk_story_valid_0 s_from s_base s_forecast s_reports == (1 : Int) || decide (most < (0 : Int)) || decide (most > (3 : Int)) then (1 : Int)
else bif desk_story_valid_0 s_from s_base s_forecast s_reports == (0 : Int) && decide ((↑s_reports.length : Int) > (12 : Int)) then (2 : Int) else desk_story_valid_0 s_from s_base s_forecast s_reports
noncomputable def desk_story_asked_0 (s_from most : Int) (s_base s_forecast s_reports : List (List Int)) : Int :=
  (desk_story_asked_s0 s_from most s_base s_forecast s_reports)
def desk_story_asked_pre (s_from most : Int) (s_base s_forecast s_reports : List (List Int)) : Prop :=
  (desk_story_valid_pre s_from s_base s_forecast s_reports)
end Go.Proofs.YtnijhjpaplihbaaGreat

/-! Written by program (wip/sygen.py): what the Go functions compute, as the executor reads it off their code. -/
set_option maxRecDepth 100000
set_option linter.unusedVariables false
namespace Go.Proofs.YtnijhjpaplihbaaGreat
open Go Go.Sy
noncomputable def desk_Follow_0 (from_ : Int) (base forecast reports wrong : List (List Int)) : List (List Int) :=
  bif desk_story_valid_0 from_ base forecast reports == (1 : Int) || !desk_story_wrongs_0 from_ base forecast reports wrong then []
else bif desk_story_valid_0 from_ base forecast reports != (0 : Int) then [] else desk_story_left_0 from_ base forecast reports wrong
noncomputable def desk_Follow_1 (from_ : Int) (base forecast reports wrong : List (List Int)) : Int :=
  bif desk_story_valid_0 from_ base forecast reports == (1 : Int) || !desk_story_wrongs_0 from_ base forecast reports wrong then (1 : Int)
else bif desk_story_valid_0 from_ base forecast reports != (0 : Int) then desk_story_valid_0 from_ base forecast reports else desk_story_left_1 from_ base forecast reports wrong
def desk_Follow_pre (from_ : Int) (base forecast reports wrong : List (List Int)) : Prop :=
  ((desk_story_valid_pre from_ base forecast reports) ∧ ((((desk_story_valid_0 from_ base forecast reports == (1 : Int)) = false) → (desk_story_wrongs_pre from_ base forecast reports wrong)) ∧ (((desk_story_valid_0 from_ base forecast reports == (1 : Int) || !desk_story_wrongs_0 from_ base forecast reports wrong) = false) → (((desk_story_valid_0 from_ base forecast reports != (0 : Int)) = false) → (desk_story_left_pre from_ base forecast reports wrong)))))
noncomputable def desk_Check_l0_init (from_ : Int) (base forecast reports wrong track : List (List Int)) : List U :=
  [.i ((0 : Int)), .i ((0 : Int))]
noncomputable def desk_Check_l0_step (from_ : Int) (base forecast reports wrong track : List (List Int)) (y0 : List U) : Option (Nat × List U) :=
  (bif decide (gi y0 1 < (↑track.length : Int)) then guardP (inR (gi y0 1) track) (guardP (inR (gi y0 1) track) ((bif !plane_Valid_0 ((track.getD (gi y0 1).toNat []).getD 0 (0 : Int)) ((track.getD (gi y0 1).toNat []).getD 1 (0 : Int)) then some (1, [.i (gi y0 1)]) else some (0, [.i (gi y0 0), .i (IntKind.i64.wrap (gi y0 1 + (1 : Int)))])))) else some (3, [.i (gi y0 0), .i (gi y0 1)]))
noncomputable def desk_Check_l0 (from_ : Int) (base forecast reports wrong track : List (List Int)) : Nat × List U := loopGet (desk_Check_l0_step from_ base forecast reports wrong track) (desk_Check_l0_init from_ base forecast reports wrong track)
noncomputable def desk_Check_s0 (from_ : Int) (base forecast reports wrong track : List (List Int)) (y1 : List U) : Int :=
  drift_Allows_1 (gi y1 3) ((reports.getD (gi y1 4).toNat []).getD 2 (0 : Int)) ((track.getD (gi y1 4).toNat []).getD 0 (0 : Int))
  ((track.getD (gi y1 4).toNat []).getD 1 (0 : Int)) ((track.getD (IntKind.i64.wrap (gi y1 4 + (1 : Int))).toNat []).getD 0 (0 : Int))
  ((track.getD (IntKind.i64.wrap (gi y1 4 + (1 : Int))).toNat []).getD 1 (0 : Int)) forecast
noncomputable def desk_Check_s1 (from_ : Int) (base forecast reports wrong track : List (List Int)) (y1 : List U) : Int :=
  sighting_Allows_1 ((reports.getD (gi y1 4).toNat []).getD 0 (0 : Int)) ((reports.getD (gi y1 4).toNat []).getD 1 (0 : Int))
  ((reports.getD (gi y1 4).toNat []).getD 2 (0 : Int)) ((reports.getD (gi y1 4).toNat []).getD 3 (0 : Int))
  ((reports.getD (gi y1 4).toNat []).getD 4 (0 : Int)) ((reports.getD (gi y1 4).toNat []).getD 5 (0 : Int))
  ((reports.getD (gi y1 4).toNat []).getD 6 (0 : Int)) ((reports.getD (gi y1 4).toNat []).getD 7 (0 : Int))
  ((reports.getD (gi y1 4).toNat []).getD 8 (0 : Int)) ((reports.getD (gi y1 4).toNat []).getD 9 (0 : Int))
  ((reports.getD (gi y1 4).toNat []).getD 10 (0 : Int)) ((reports.getD (gi y1 4).toNat []).getD 11 (0 : Int))
  ((reports.getD (gi y1 4).toNat []).getD 12 (0 : Int)) ((track.getD (IntKind.i64.wrap (gi y1 4 + (1 : Int))).toNat []).getD 0 (0 : Int))
  ((track.getD (IntKind.i64.wrap (gi y1 4 + (1 : Int))).toNat []).getD 1 (0 : Int))
noncomputable def desk_Check_l2_init (from_ : Int) (base forecast reports wrong track : List (List Int)) (y1 : List U) : List U :=
  [.i ((0 : Int)), .i ((0 : Int))]
noncomputable def desk_Check_l2_step (from_ : Int) (base forecast reports wrong track : List (List Int)) (y1 : List U) (y2 : List U) : Option (Nat × List U) :=
  (bif decide (gi y2 1 < (↑wrong.length : Int)) then guardP (inR (gi y2 1) wrong) (guardP (inR (gi y2 1) wrong) ((bif gi y1 4 == (wrong.getD (gi y2 1).toNat []).getD 0 (0 : Int) then some (1, [.i (gi y2 1)]) else some (0, [.i (gi y2 0), .i (IntKind.i64.wrap (gi y2 1 + (1 : Int)))])))) else some (3, [.i (gi y2 0), .i (gi y2 1)]))
noncomputable def desk_Check_l2 (from_ : Int) (base forecast reports wrong track : List (List Int)) (y1 : List U) : Nat × List U := loopGet (desk_Check_l2_step from_ base forecast reports wrong track y1) (desk_Check_l2_init from_ base forecast reports wrong track y1)
noncomputable def desk_Check_l1_init (from_ : Int) (base forecast reports wrong track : List (List Int)) : List U :=
  [.b (false), .i ((0 : Int)), .b (drift_In_0 ((track.getD (Int.toNat (0 : Int)) []).getD 0 (0 : Int)) ((track.getD (Int.toNat (0 : Int)) []).getD 1 (0 : Int)) base), .i (from_), .i ((0 : Int))]
noncomputable def desk_Check_l1_step (from_ : Int) (base forecast reports wrong track : List (List Int)) (y1 : List U) : Option (Nat × List U) :=
  (bif decide (gi y1 4 < (↑reports.length : Int)) then guardP (inR (gi y1 4) reports) (guardP (inR (gi y1 4) reports) (guardP (inR (gi y1 4) track) (guardP (inR (gi y1 4) track) (guardP (inR (IntKind.i64.wrap (gi y1 4 + (1 : Int))) track) (guardP (inR (IntKind.i64.wrap (gi y1 4 + (1 : Int))) track) (guardP (drift_Allows_pre (gi y1 3) ((reports.getD (gi y1 4).toNat []).getD 2 (0 : Int)) ((track.getD (gi y1 4).toNat []).getD 0 (0 : Int))
  ((track.getD (gi y1 4).toNat []).getD 1 (0 : Int)) ((track.getD (IntKind.i64.wrap (gi y1 4 + (1 : Int))).toNat []).getD 0 (0 : Int))
  ((track.getD (IntKind.i64.wrap (gi y1 4 + (1 : Int))).toNat []).getD 1 (0 : Int)) forecast) ((bif (desk_Check_s0 from_ base forecast reports wrong track y1) != (0 : Int) then some (1, [.i ((desk_Check_s0 from_ base forecast reports wrong track y1))]) else guardP (inR (IntKind.i64.wrap (gi y1 4 + (1 : Int))) track) (guardP (inR (IntKind.i64.wrap (gi y1 4 + (1 : Int))) track) (guardP (((gb y1 2 &&
      drift_Allows_0 (gi y1 3) ((reports.getD (gi y1 4).toNat []).getD 2 (0 : Int)) ((track.getD (gi y1 4).toNat []).getD 0 (0 : Int))
        ((track.getD (gi y1 4).toNat []).getD 1 (0 : Int)) ((track.getD (IntKind.i64.wrap (gi y1 4 + (1 : Int))).toNat []).getD 0 (0 : Int))
        ((track.getD (IntKind.i64.wrap (gi y1 4 + (1 : Int))).toNat []).getD 1 (0 : Int)) forecast &&
    (desk_Check_s1 from_ base forecast reports wrong track y1) == (0 : Int)) =
  true) → ((sighting_Allows_0 ((reports.getD (gi y1 4).toNat []).getD 0 (0 : Int)) ((reports.getD (gi y1 4).toNat []).getD 1 (0 : Int))
    ((reports.getD (gi y1 4).toNat []).getD 2 (0 : Int)) ((reports.getD (gi y1 4).toNat []).getD 3 (0 : Int))
    ((reports.getD (gi y1 4).toNat []).getD 4 (0 : Int)) ((reports.getD (gi y1 4).toNat []).getD 5 (0 : Int))
    ((reports.getD (gi y1 4).toNat []).getD 6 (0 : Int)) ((reports.getD (gi y1 4).toNat []).getD 7 (0 : Int))
    ((reports.getD (gi y1 4).toNat []).getD 8 (0 : Int)) ((reports.getD (gi y1 4).toNat []).getD 9 (0 : Int))
    ((reports.getD (gi y1 4).toNat []).getD 10 (0 : Int)) ((reports.getD (gi y1 4).toNat []).getD 11 (0 : Int))
    ((reports.getD (gi y1 4).toNat []).getD 12 (0 : Int)) ((track.getD (IntKind.i64.wrap (gi y1 4 + (1 : Int))).toNat []).getD 0 (0 : Int))
    ((track.getD (IntKind.i64.wrap (gi y1 4 + (1 : Int))).toNat []).getD 1 (0 : Int)) =
  false) → ((loopOk (desk_Check_l2_step from_ base forecast reports wrong track y1) (desk_Check_l2_init from_ base forecast reports wrong track y1))))) (some (0, [.b (gb y1 0), .i (gi y1 1), .b (gb y1 2 &&
      drift_Allows_0 (gi y1 3) ((reports.getD (gi y1 4).toNat []).getD 2 (0 : Int)) ((track.getD (gi y1 4).toNat []).getD 0 (0 : Int))
        ((track.getD (gi y1 4).toNat []).getD 1 (0 : Int)) ((track.getD (IntKind.i64.wrap (gi y1 4 + (1 : Int))).toNat []).getD 0 (0 : Int))
        ((track.getD (IntKind.i64.wrap (gi y1 4 + (1 : Int))).toNat []).getD 1 (0 : Int)) forecast &&
    (desk_Check_s1 from_ base forecast reports wrong track y1) == (0 : Int) &&
  (sighting_Allows_0 ((reports.getD (gi y1 4).toNat []).getD 0 (0 : Int)) ((reports.getD (gi y1 4).toNat []).getD 1 (0 : Int))
      ((reports.getD (gi y1 4).toNat []).getD 2 (0 : Int)) ((reports.getD (gi y1 4).toNat []).getD 3 (0 : Int))
      ((reports.getD (gi y1 4).toNat []).getD 4 (0 : Int)) ((reports.getD (gi y1 4).toNat []).getD 5 (0 : Int))
      ((reports.getD (gi y1 4).toNat []).getD 6 (0 : Int)) ((reports.getD (gi y1 4).toNat []).getD 7 (0 : Int))
      ((reports.getD (gi y1 4).toNat []).getD 8 (0 : Int)) ((reports.getD (gi y1 4).toNat []).getD 9 (0 : Int))
      ((reports.getD (gi y1 4).toNat []).getD 10 (0 : Int)) ((reports.getD (gi y1 4).toNat []).getD 11 (0 : Int))
      ((reports.getD (gi y1 4).toNat []).getD 12 (0 : Int)) ((track.getD (IntKind.i64.wrap (gi y1 4 + (1 : Int))).toNat []).getD 0 (0 : Int))
      ((track.getD (IntKind.i64.wrap (gi y1 4 + (1 : Int))).toNat []).getD 1 (0 : Int)) ||
    decide ((bif (desk_Check_l2 from_ base forecast reports wrong track y1).fst.beq 1 then gi (desk_Check_l2 from_ base forecast reports wrong track y1).snd 0 else (-1 : Int)) ≥ (0 : Int)))), .i ((reports.getD (gi y1 4).toNat []).getD 2 (0 : Int)), .i (IntKind.i64.wrap (gi y1 4 + (1 : Int)))])))))))))))) else some (3, [.b (gb y1 0), .i (gi y1 1), .b (gb y1 2), .i (gi y1 3), .i (gi y1 4)]))
noncomputable def desk_Check_l1 (from_ : Int) (base forecast reports wrong track : List (List Int)) : Nat × List U := loopGet (desk_Check_l1_step from_ base forecast reports wrong track) (desk_Check_l1_init from_ base forecast reports wrong track)
noncomputable def desk_Check_0 (from_ : Int) (base forecast reports wrong track : List (List Int)) : Bool :=
  bif
    desk_story_valid_0 from_ base forecast reports == (1 : Int) || !desk_story_wrongs_0 from_ base forecast reports wrong ||
        (↑track.length : Int) != IntKind.i64.wrap ((↑reports.length : Int) + (1 : Int)) ||
      decide ((bif (desk_Check_l0 from_ base forecast reports wrong track).fst.beq 1 then gi (desk_Check_l0 from_ base forecast reports wrong track).snd 0 else (-1 : Int)) ≥ (0 : Int)) then
  false
else
  bif desk_story_valid_0 from_ base forecast reports != (0 : Int) then false
  else
    bif drift_In_1 ((track.getD (Int.toNat (0 : Int)) []).getD 0 (0 : Int)) ((track.getD (Int.toNat (0 : Int)) []).getD 1 (0 : Int)) base != (0 : Int) then false
    else bif (desk_Check_l1 from_ base forecast reports wrong track).fst.beq 1 then false else gb (desk_Check_l1 from_ base forecast reports wrong track).snd 2
noncomputable def desk_Check_s2 (from_ : Int) (base forecast reports wrong track : List (List Int)) : Int :=
  bif drift_In_1 ((track.getD (Int.toNat (0 : Int)) []).getD 0 (0 : Int)) ((track.getD (Int.toNat (0 : Int)) []).getD 1 (0 : Int)) base != (0 : Int) then
  drift_In_1 ((track.getD (Int.toNat (0 : Int)) []).getD 0 (0 : Int)) ((track.getD (Int.toNat (0 : Int)) []).getD 1 (0 : Int)) base
else bif (desk_Check_l1 from_ base forecast reports wrong track).fst.beq 1 then gi (desk_Check_l1 from_ base forecast reports wrong track).snd 0 else (0 : Int)
noncomputable def desk_Check_s3 (from_ : Int) (base forecast reports wrong track : List (List Int)) : Int :=
  bif
    desk_story_valid_0 from_ base forecast reports == (1 : Int) || !desk_story_wrongs_0 from_ base forecast reports wrong ||
        (↑track.length : Int) != IntKind.i64.wrap ((↑reports.length : Int) + (1 : Int)) ||
      decide ((bif (desk_Check_l0 from_ base forecast reports wrong track).fst.beq 1 then gi (desk_Check_l0 from_ base forecast reports wrong track).snd 0 else (-1 : Int)) ≥ (0 : Int)) then
  (1 : Int)
else bif desk_story_valid_0 from_ base forecast reports != (0 : Int) then desk_story_valid_0 from_ base forecast reports else (desk_Check_s2 from_ base forecast reports wrong track)
noncomputable def desk_Check_1 (from_ : Int) (base forecast reports wrong track : List (List Int)) : Int :=
  (desk_Check_s3 from_ base forecast reports wrong track)
def desk_Check_pre (from_ : Int) (base forecast reports wrong track : List (List Int)) : Prop :=
  ((desk_story_valid_pre from_ base forecast reports) ∧ ((((desk_story_valid_0 from_ base forecast reports == (1 : Int)) = false) → (desk_story_wrongs_pre from_ base forecast reports wrong)) ∧ ((((desk_story_valid_0 from_ base forecast reports == (1 : Int) || !desk_story_wrongs_0 from_ base forecast reports wrong ||
    (↑track.length : Int) != IntKind.i64.wrap ((↑reports.length : Int) + (1 : Int))) =
  false) → ((loopOk (desk_Check_l0_step from_ base forecast reports wrong track) (desk_Check_l0_init from_ base forecast reports wrong track)))) ∧ (((desk_story_valid_0 from_ base forecast reports == (1 : Int) || !desk_story_wrongs_0 from_ base forecast reports wrong ||
      (↑track.length : Int) != IntKind.i64.wrap ((↑reports.length : Int) + (1 : Int)) ||
    decide ((bif (desk_Check_l0 from_ base forecast reports wrong track).fst.beq 1 then gi (desk_Check_l0 from_ base forecast reports wrong track).snd 0 else (-1 : Int)) ≥ (0 : Int))) =
  false) → (((desk_story_valid_0 from_ base forecast reports != (0 : Int)) = false) → ((inR (0 : Int) track) ∧ ((inR (0 : Int) track) ∧ ((drift_In_pre ((track.getD (Int.toNat (0 : Int)) []).getD 0 (0 : Int)) ((track.getD (Int.toNat (0 : Int)) []).getD 1 (0 : Int)) base) ∧ (((drift_In_1 ((track.getD (Int.toNat (0 : Int)) []).getD 0 (0 : Int)) ((track.getD (Int.toNat (0 : Int)) []).getD 1 (0 : Int)) base != (0 : Int)) = false) → ((loopOk (desk_Check_l1_step from_ base forecast reports wrong track) (desk_Check_l1_init from_ base forecast reports wrong track))))))))))))
noncomputable def ref02_Holds_0 (b_X_Lo b_X_Hi b_Y_Lo b_Y_Hi p_X p_Y : Int) : Bool :=
  decide (b_X_Lo ≤ p_X) && decide (p_X ≤ b_X_Hi) && (decide (b_Y_Lo ≤ p_Y) && decide (p_Y ≤ b_Y_Hi))
noncomputable def ref02_Has_0 (s_Lo s_Hi x : Int) : Bool :=
  decide (s_Lo ≤ x) && decide (x ≤ s_Hi)
noncomputable def ref23_Has_l0_init (p_X p_Y : Int) (list : List (List Int)) : List U :=
  [.b (false), .i ((0 : Int))]
noncomputable def ref23_Has_l0_step (p_X p_Y : Int) (list : List (List Int)) (y0 : List U) : Option (Nat × List U) :=
  (bif decide (gi y0 1 < (↑list.length : Int)) then guardP (inR (gi y0 1) list) (guardP (inR (gi y0 1) list) ((bif ref02_Holds_0 ((list.getD (gi y0 1).toNat []).getD 0 (0 : Int)) ((list.getD (gi y0 1).toNat []).getD 1 (0 : Int))
  ((list.getD (gi y0 1).toNat []).getD 2 (0 : Int)) ((list.getD (gi y0 1).toNat []).getD 3 (0 : Int)) p_X p_Y then some (1, []) else some (0, [.b (gb y0 0), .i (IntKind.i64.wrap (gi y0 1 + (1 : Int)))])))) else some (3, [.b (gb y0 0), .i (gi y0 1)]))
noncomputable def ref23_Has_l0 (p_X p_Y : Int) (list : List (List Int)) : Nat × List U := loopGet (ref23_Has_l0_step p_X p_Y list) (ref23_Has_l0_init p_X p_Y list)
noncomputable def ref23_Has_0 (p_X p_Y : Int) (list : List (List Int)) : Bool :=
  bif (ref23_Has_l0 p_X p_Y list).fst.beq 1 then true else false
def ref23_Has_pre (p_X p_Y : Int) (list : List (List Int)) : Prop :=
  ((loopOk (ref23_Has_l0_step p_X p_Y list) (ref23_Has_l0_init p_X p_Y list)))
noncomputable def law25_few_0 (s_From : Int) (s_Base s_Forecast s_Reports : List (List Int)) : Bool :=
  decide ((↑s_Reports.length : Int) ≤ (8 : Int))
noncomputable def law25_box_0 (a b c d : Int) : Int :=
  a
noncomputable def law25_box_1 (a b c d : Int) : Int :=
  b
noncomputable def law25_box_2 (a b c d : Int) : Int :=
  c
noncomputable def law25_box_3 (a b c d : Int) : Int :=
  d
noncomputable def law25_seen_0 (number b_X_Lo b_X_Hi b_Y_Lo b_Y_Hi : Int) : Int :=
  number
noncomputable def law25_seen_1 (number b_X_Lo b_X_Hi b_Y_Lo b_Y_Hi : Int) : Int :=
  b_X_Lo
noncomputable def law25_seen_2 (number b_X_Lo b_X_Hi b_Y_Lo b_Y_Hi : Int) : Int :=
  b_X_Hi
noncomputable def law25_seen_3 (number b_X_Lo b_X_Hi b_Y_Lo b_Y_Hi : Int) : Int :=
  b_Y_Lo
noncomputable def law25_seen_4 (number b_X_Lo b_X_Hi b_Y_Lo b_Y_Hi : Int) : Int :=
  b_Y_Hi
noncomputable def law25_before_l0_init (a b : List (List Int)) : List U :=
  [.b (false), .i ((0 : Int))]
noncomputable def law25_before_l0_step (a b : List (List Int)) (y0 : List U) : Option (Nat × List U) :=
  (bif decide (gi y0 1 < (↑a.length : Int)) then guardP (inR (gi y0 1) a) (guardP (inR (gi y0 1) a) (guardP (inR (gi y0 1) b) (guardP (inR (gi y0 1) b) ((bif (a.getD (gi y0 1).toNat []).getD 0 (0 : Int) != (b.getD (gi y0 1).toNat []).getD 0 (0 : Int) then guardP (inR (gi y0 1) a) (guardP (inR (gi y0 1) a) (guardP (inR (gi y0 1) b) (guardP (inR (gi y0 1) b) (some (1, [.b (decide ((a.getD (gi y0 1).toNat []).getD 0 (0 : Int) < (b.getD (gi y0 1).toNat []).getD 0 (0 : Int)))]))))) else some (0, [.b (gb y0 0), .i (IntKind.i64.wrap (gi y0 1 + (1 : Int)))])))))) else some (3, [.b (gb y0 0), .i (gi y0 1)]))
noncomputable def law25_before_l0 (a b : List (List Int)) : Nat × List U := loopGet (law25_before_l0_step a b) (law25_before_l0_init a b)
noncomputable def law25_before_0 (a b : List (List Int)) : Bool :=
  bif (↑a.length : Int) != (↑b.length : Int) then decide ((↑a.length : Int) < (↑b.length : Int)) else bif (law25_before_l0 a b).fst.beq 1 then gb (law25_before_l0 a b).snd 0 else false
def law25_before_pre (a b : List (List Int)) : Prop :=
  ((((↑a.length : Int) != (↑b.length : Int)) = false) → ((loopOk (law25_before_l0_step a b) (law25_before_l0_init a b))))
noncomputable def law25_in_0 (b_X_Lo b_X_Hi b_Y_Lo b_Y_Hi p_X p_Y : Int) : Bool :=
  decide (b_X_Lo ≤ p_X) && decide (p_X ≤ b_X_Hi) && decide (b_Y_Lo ≤ p_Y) && decide (p_Y ≤ b_Y_Hi)
noncomputable def law25_has_l0_init (n : Int) (l : List (List Int)) : List U :=
  [.b (false), .i ((0 : Int))]
noncomputable def law25_has_l0_step (n : Int) (l : List (List Int)) (y0 : List U) : Option (Nat × List U) :=
  (bif decide (gi y0 1 < (↑l.length : Int)) then guardP (inR (gi y0 1) l) (guardP (inR (gi y0 1) l) ((bif (l.getD (gi y0 1).toNat []).getD 0 (0 : Int) == n then some (1, []) else some (0, [.b (gb y0 0), .i (IntKind.i64.wrap (gi y0 1 + (1 : Int)))])))) else some (3, [.b (gb y0 0), .i (gi y0 1)]))
noncomputable def law25_has_l0 (n : Int) (l : List (List Int)) : Nat × List U := loopGet (law25_has_l0_step n l) (law25_has_l0_init n l)
noncomputable def law25_has_0 (n : Int) (l : List (List Int)) : Bool :=
  bif (law25_has_l0 n l).fst.beq 1 then true else false
def law25_has_pre (n : Int) (l : List (List Int)) : Prop :=
  ((loopOk (law25_has_l0_step n l) (law25_has_l0_init n l)))
end Go.Proofs.YtnijhjpaplihbaaGreat
