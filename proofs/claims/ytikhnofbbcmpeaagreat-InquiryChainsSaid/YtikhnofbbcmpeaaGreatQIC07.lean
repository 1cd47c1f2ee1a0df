/- Several texts in one (wip/pack.py): XInq6D XInq6 XInqHD XInqH XInqS1D XInqS1 XInqS2D XInqS2 XInqS3D XInqS3 XInqLChainsD XInqLChains XInqPa XInqPb XInqPc XInqPd XInqPe XInqPf XInqPg XInqPh. -/
import Derived.Test.YtikhnofbbcmpeaaGreatRows
import Derived.Test.YtikhnofbbcmpeaaGreatQIC05
import Derived.Test.YtikhnofbbcmpeaaGreatQIC06
set_option maxRecDepth 100000
set_option linter.unusedVariables false
namespace Go.Proofs.YtikhnofbbcmpeaaGreat
open Go Go.Sy
noncomputable def inquiry_Gaps_s0 (office_Owner t delay : Int) (office_Lines ships list : List (List Int)) (y0 : List U) : List (List Int) :=
  putRow 1 [(ships.getD (gi y0 2).toNat []).getD 0 (0 : Int)]
  [(ships.getD (gi y0 2).toNat []).getD 0 (0 : Int), encL (decL ((ships.getD (gi y0 2).toNat []).getD 1 (0 : Int)))] (gr y0 3)
noncomputable def inquiry_Gaps_l0_init (office_Owner t delay : Int) (office_Lines ships list : List (List Int)) : List U :=
  [.b (false), .i ((0 : Int)), .i ((0 : Int)), .r ([])]
noncomputable def inquiry_Gaps_l0_step (office_Owner t delay : Int) (office_Lines ships list : List (List Int)) (y0 : List U) : Option (Nat × List U) :=
  (bif decide (gi y0 2 < (↑ships.length : Int)) then guardP (inR (gi y0 2) ships) (guardP (inR (gi y0 2) ships) (guardP (inquiry_Valid_pre ((ships.getD (gi y0 2).toNat []).getD 0 (0 : Int)) (decL ((ships.getD (gi y0 2).toNat []).getD 1 (0 : Int)))) ((bif !inquiry_Valid_0 ((ships.getD (gi y0 2).toNat []).getD 0 (0 : Int)) (decL ((ships.getD (gi y0 2).toNat []).getD 1 (0 : Int))) ||
  decide ((ships.getD (gi y0 2).toNat []).getD 0 (0 : Int) ≤ gi y0 1) then some (1, [.i (office_Owner), .i (t), .i (delay), .r (gr y0 3)]) else some (0, [.b (gb y0 0), .i ((ships.getD (gi y0 2).toNat []).getD 0 (0 : Int)), .i (IntKind.i64.wrap (gi y0 2 + (1 : Int))), .r ((inquiry_Gaps_s0 office_Owner t delay office_Lines ships list y0))]))))) else some (3, [.b (gb y0 0), .i (gi y0 1), .i (gi y0 2), .r (gr y0 3)]))
noncomputable def inquiry_Gaps_l0 (office_Owner t delay : Int) (office_Lines ships list : List (List Int)) : Nat × List U := loopGet (inquiry_Gaps_l0_step office_Owner t delay office_Lines ships list) (inquiry_Gaps_l0_init office_Owner t delay office_Lines ships list)
noncomputable def inquiry_Gaps_l1_init (office_Owner t delay : Int) (office_Lines ships list : List (List Int)) : List U :=
  [.i ((0 : Int)), .i ((0 : Int))]
noncomputable def inquiry_Gaps_l1_step (office_Owner t delay : Int) (office_Lines ships list : List (List Int)) (y1 : List U) : Option (Nat × List U) :=
  (bif decide (gi y1 1 < (↑list.length : Int)) then guardP (inR (gi y1 1) list) (guardP (inR (gi y1 1) list) ((bif !(findRow 1 [(list.getD (gi y1 1).toNat []).getD 0 (0 : Int)] (gr (inquiry_Gaps_l0 office_Owner t delay office_Lines ships list).snd 3)).isSome then some (1, [.i (gi y1 1)]) else some (0, [.i (gi y1 0), .i (IntKind.i64.wrap (gi y1 1 + (1 : Int)))])))) else some (3, [.i (gi y1 0), .i (gi y1 1)]))
noncomputable def inquiry_Gaps_l1 (office_Owner t delay : Int) (office_Lines ships list : List (List Int)) : Nat × List U := loopGet (inquiry_Gaps_l1_step office_Owner t delay office_Lines ships list) (inquiry_Gaps_l1_init office_Owner t delay office_Lines ships list)
noncomputable def inquiry_Gaps_s1 (office_Owner t delay : Int) (office_Lines ships list : List (List Int)) (y2 : List U) : List Int :=
  [((inquest_gaps_0 office_Owner t delay office_Lines (gr (inquiry_Gaps_l0 office_Owner t delay office_Lines ships list).snd 3) list).getD (gi y2 0).toNat []).getD 0 (0 : Int),
  ((inquest_gaps_0 office_Owner t delay office_Lines (gr (inquiry_Gaps_l0 office_Owner t delay office_Lines ships list).snd 3) list).getD (gi y2 0).toNat []).getD 1 (0 : Int)]
noncomputable def inquiry_Gaps_l2_init (office_Owner t delay : Int) (office_Lines ships list : List (List Int)) : List U :=
  [.i ((0 : Int)), .r ([])]
noncomputable def inquiry_Gaps_l2_step (office_Owner t delay : Int) (office_Lines ships list : List (List Int)) (y2 : List U) : Option (Nat × List U) :=
  (bif decide (gi y2 0 < (↑(inquest_gaps_0 office_Owner t delay office_Lines (gr (inquiry_Gaps_l0 office_Owner t delay office_Lines ships list).snd 3) list).length : Int)) then guardP (inR (gi y2 0) (inquest_gaps_0 office_Owner t delay office_Lines (gr (inquiry_Gaps_l0 office_Owner t delay office_Lines ships list).snd 3) list)) (guardP (inR (gi y2 0) (inquest_gaps_0 office_Owner t delay office_Lines (gr (inquiry_Gaps_l0 office_Owner t delay office_Lines ships list).snd 3) list)) (guardP (fitsA 16 ((gr y2 1).length + [(inquiry_Gaps_s1 office_Owner t delay office_Lines ships list y2)].length)) (some (0, [.i (IntKind.i64.wrap (gi y2 0 + (1 : Int))), .r (gr y2 1 ++ [(inquiry_Gaps_s1 office_Owner t delay office_Lines ships list y2)])])))) else some (2, [.i (gi y2 0), .r (gr y2 1)]))
noncomputable def inquiry_Gaps_l2 (office_Owner t delay : Int) (office_Lines ships list : List (List Int)) : Nat × List U := loopGet (inquiry_Gaps_l2_step office_Owner t delay office_Lines ships list) (inquiry_Gaps_l2_init office_Owner t delay office_Lines ships list)
noncomputable def inquiry_Gaps_s2 (office_Owner t delay : Int) (office_Lines ships list : List (List Int)) : List (List Int) :=
  bif !!decide ((bif (inquiry_Gaps_l1 office_Owner t delay office_Lines ships list).fst.beq 1 then gi (inquiry_Gaps_l1 office_Owner t delay office_Lines ships list).snd 0 else (-1 : Int)) ≥ (0 : Int)) then [] else gr (inquiry_Gaps_l2 office_Owner t delay office_Lines ships list).snd 1
noncomputable def inquiry_Gaps_s3 (office_Owner t delay : Int) (office_Lines ships list : List (List Int)) : List (List Int) :=
  bif !inquiry_Valid_0 office_Owner office_Lines || office_Owner != (0 : Int) || !inquiry_chances_0 list || !inquiry_time_0 t || decide (delay < (0 : Int)) || decide (delay > (100000 : Int)) then []
else bif (inquiry_Gaps_l0 office_Owner t delay office_Lines ships list).fst.beq 1 then [] else (inquiry_Gaps_s2 office_Owner t delay office_Lines ships list)
noncomputable def inquiry_Gaps_0 (office_Owner t delay : Int) (office_Lines ships list : List (List Int)) : List (List Int) :=
  (inquiry_Gaps_s3 office_Owner t delay office_Lines ships list)
noncomputable def inquiry_Gaps_s4 (office_Owner t delay : Int) (office_Lines ships list : List (List Int)) : Int :=
  bif !!decide ((bif (inquiry_Gaps_l1 office_Owner t delay office_Lines ships list).fst.beq 1 then gi (inquiry_Gaps_l1 office_Owner t delay office_Lines ships list).snd 0 else (-1 : Int)) ≥ (0 : Int)) then (1 : Int) else (0 : Int)
noncomputable def inquiry_Gaps_s5 (office_Owner t delay : Int) (office_Lines ships list : List (List Int)) : Int :=
  bif !inquiry_Valid_0 office_Owner office_Lines || office_Owner != (0 : Int) || !inquiry_chances_0 list || !inquiry_time_0 t || decide (delay < (0 : Int)) || decide (delay > (100000 : Int)) then
  (1 : Int)
else bif (inquiry_Gaps_l0 office_Owner t delay office_Lines ships list).fst.beq 1 then (1 : Int) else (inquiry_Gaps_s4 office_Owner t delay office_Lines ships list)
noncomputable def inquiry_Gaps_1 (office_Owner t delay : Int) (office_Lines ships list : List (List Int)) : Int :=
  (inquiry_Gaps_s5 office_Owner t delay office_Lines ships list)
def inquiry_Gaps_pre (office_Owner t delay : Int) (office_Lines ships list : List (List Int)) : Prop :=
  ((inquiry_Valid_pre office_Owner office_Lines) ∧ ((((!inquiry_Valid_0 office_Owner office_Lines || office_Owner != (0 : Int)) = false) → (inquiry_chances_pre list)) ∧ (((!inquiry_Valid_0 office_Owner office_Lines || office_Owner != (0 : Int) || !inquiry_chances_0 list || !inquiry_time_0 t || decide (delay < (0 : Int)) || decide (delay > (100000 : Int))) = false) → (((loopOk (inquiry_Gaps_l0_step office_Owner t delay office_Lines ships list) (inquiry_Gaps_l0_init office_Owner t delay office_Lines ships list))) ∧ (((inquiry_Gaps_l0 office_Owner t delay office_Lines ships list).fst.beq 1 = false) → (((loopOk (inquiry_Gaps_l1_step office_Owner t delay office_Lines ships list) (inquiry_Gaps_l1_init office_Owner t delay office_Lines ships list))) ∧ (((!!decide ((bif (inquiry_Gaps_l1 office_Owner t delay office_Lines ships list).fst.beq 1 then gi (inquiry_Gaps_l1 office_Owner t delay office_Lines ships list).snd 0 else (-1 : Int)) ≥ (0 : Int))) = false) → ((inquest_gaps_pre office_Owner t delay office_Lines (gr (inquiry_Gaps_l0 office_Owner t delay office_Lines ships list).snd 3) list) ∧ ((loopOk (inquiry_Gaps_l2_step office_Owner t delay office_Lines ships list) (inquiry_Gaps_l2_init office_Owner t delay office_Lines ships list)))))))))))
noncomputable def inquiry_Explain_s0 (office_Owner t delay : Int) (office_Lines ships list : List (List Int)) (y0 : List U) : List (List Int) :=
  putRow 1 [(ships.getD (gi y0 2).toNat []).getD 0 (0 : Int)]
  [(ships.getD (gi y0 2).toNat []).getD 0 (0 : Int), encL (decL ((ships.getD (gi y0 2).toNat []).getD 1 (0 : Int)))] (gr y0 3)
noncomputable def inquiry_Explain_l0_init (office_Owner t delay : Int) (office_Lines ships list : List (List Int)) : List U :=
  [.b (false), .i ((0 : Int)), .i ((0 : Int)), .r ([])]
noncomputable def inquiry_Explain_l0_step (office_Owner t delay : Int) (office_Lines ships list : List (List Int)) (y0 : List U) : Option (Nat × List U) :=
  (bif decide (gi y0 2 < (↑ships.length : Int)) then guardP (inR (gi y0 2) ships) (guardP (inR (gi y0 2) ships) (guardP (inquiry_Valid_pre ((ships.getD (gi y0 2).toNat []).getD 0 (0 : Int)) (decL ((ships.getD (gi y0 2).toNat []).getD 1 (0 : Int)))) ((bif !inquiry_Valid_0 ((ships.getD (gi y0 2).toNat []).getD 0 (0 : Int)) (decL ((ships.getD (gi y0 2).toNat []).getD 1 (0 : Int))) ||
  decide ((ships.getD (gi y0 2).toNat []).getD 0 (0 : Int) ≤ gi y0 1) then some (1, [.i (office_Owner), .i (t), .i (delay), .r (gr y0 3)]) else some (0, [.b (gb y0 0), .i ((ships.getD (gi y0 2).toNat []).getD 0 (0 : Int)), .i (IntKind.i64.wrap (gi y0 2 + (1 : Int))), .r ((inquiry_Explain_s0 office_Owner t delay office_Lines ships list y0))]))))) else some (3, [.b (gb y0 0), .i (gi y0 1), .i (gi y0 2), .r (gr y0 3)]))
noncomputable def inquiry_Explain_l0 (office_Owner t delay : Int) (office_Lines ships list : List (List Int)) : Nat × List U := loopGet (inquiry_Explain_l0_step office_Owner t delay office_Lines ships list) (inquiry_Explain_l0_init office_Owner t delay office_Lines ships list)
noncomputable def inquiry_Explain_l1_init (office_Owner t delay : Int) (office_Lines ships list : List (List Int)) : List U :=
  [.i ((0 : Int)), .i ((0 : Int))]
noncomputable def inquiry_Explain_l1_step (office_Owner t delay : Int) (office_Lines ships list : List (List Int)) (y1 : List U) : Option (Nat × List U) :=
  (bif decide (gi y1 1 < (↑list.length : Int)) then guardP (inR (gi y1 1) list) (guardP (inR (gi y1 1) list) ((bif !(findRow 1 [(list.getD (gi y1 1).toNat []).getD 0 (0 : Int)] (gr (inquiry_Explain_l0 office_Owner t delay office_Lines ships list).snd 3)).isSome then some (1, [.i (gi y1 1)]) else some (0, [.i (gi y1 0), .i (IntKind.i64.wrap (gi y1 1 + (1 : Int)))])))) else some (3, [.i (gi y1 0), .i (gi y1 1)]))
noncomputable def inquiry_Explain_l1 (office_Owner t delay : Int) (office_Lines ships list : List (List Int)) : Nat × List U := loopGet (inquiry_Explain_l1_step office_Owner t delay office_Lines ships list) (inquiry_Explain_l1_init office_Owner t delay office_Lines ships list)
noncomputable def inquiry_Explain_s1 (office_Owner t delay : Int) (office_Lines ships list : List (List Int)) : List (List Int) :=
  bif !!decide ((bif (inquiry_Explain_l1 office_Owner t delay office_Lines ships list).fst.beq 1 then gi (inquiry_Explain_l1 office_Owner t delay office_Lines ships list).snd 0 else (-1 : Int)) ≥ (0 : Int)) then []
else inquiry_fewest_0 (inquest_gaps_0 office_Owner t delay office_Lines (gr (inquiry_Explain_l0 office_Owner t delay office_Lines ships list).snd 3) list)
noncomputable def inquiry_Explain_s2 (office_Owner t delay : Int) (office_Lines ships list : List (List Int)) : List (List Int) :=
  bif !inquiry_Valid_0 office_Owner office_Lines || office_Owner != (0 : Int) || !inquiry_chances_0 list || !inquiry_time_0 t || decide (delay < (0 : Int)) || decide (delay > (100000 : Int)) then []
else bif (inquiry_Explain_l0 office_Owner t delay office_Lines ships list).fst.beq 1 then [] else (inquiry_Explain_s1 office_Owner t delay office_Lines ships list)
noncomputable def inquiry_Explain_0 (office_Owner t delay : Int) (office_Lines ships list : List (List Int)) : List (List Int) :=
  (inquiry_Explain_s2 office_Owner t delay office_Lines ships list)
noncomputable def inquiry_Explain_s3 (office_Owner t delay : Int) (office_Lines ships list : List (List Int)) : List (List Int) :=
  bif !!decide ((bif (inquiry_Explain_l1 office_Owner t delay office_Lines ships list).fst.beq 1 then gi (inquiry_Explain_l1 office_Owner t delay office_Lines ships list).snd 0 else (-1 : Int)) ≥ (0 : Int)) then []
else
  prove_0 (↑(inquiry_fewest_0 (inquest_gaps_0 office_Owner t delay office_Lines (gr (inquiry_Explain_l0 office_Owner t delay office_Lines ships list).snd 3) list)).length : Int)
    (inquest_gaps_0 office_Owner t delay office_Lines (gr (inquiry_Explain_l0 office_Owner t delay office_Lines ships list).snd 3) list)
noncomputable def inquiry_Explain_s4 (office_Owner t delay : Int) (office_Lines ships list : List (List Int)) : List (List Int) :=
  bif !inquiry_Valid_0 office_Owner office_Lines || office_Owner != (0 : Int) || !inquiry_chances_0 list || !inquiry_time_0 t || decide (delay < (0 : Int)) || decide (delay > (100000 : Int)) then []
else bif (inquiry_Explain_l0 office_Owner t delay office_Lines ships list).fst.beq 1 then [] else (inquiry_Explain_s3 office_Owner t delay office_Lines ships list)
noncomputable def inquiry_Explain_1 (office_Owner t delay : Int) (office_Lines ships list : List (List Int)) : List (List Int) :=
  (inquiry_Explain_s4 office_Owner t delay office_Lines ships list)
noncomputable def inquiry_Explain_s5 (office_Owner t delay : Int) (office_Lines ships list : List (List Int)) : Int :=
  bif !!decide ((bif (inquiry_Explain_l1 office_Owner t delay office_Lines ships list).fst.beq 1 then gi (inquiry_Explain_l1 office_Owner t delay office_Lines ships list).snd 0 else (-1 : Int)) ≥ (0 : Int)) then (1 : Int) else (0 : Int)
noncomputable def inquiry_Explain_s6 (office_Owner t delay : Int) (office_Lines ships list : List (List Int)) : Int :=
  bif !inquiry_Valid_0 office_Owner office_Lines || office_Owner != (0 : Int) || !inquiry_chances_0 list || !inquiry_time_0 t || decide (delay < (0 : Int)) || decide (delay > (100000 : Int)) then
  (1 : Int)
else bif (inquiry_Explain_l0 office_Owner t delay office_Lines ships list).fst.beq 1 then (1 : Int) else (inquiry_Explain_s5 office_Owner t delay office_Lines ships list)
noncomputable def inquiry_Explain_2 (office_Owner t delay : Int) (office_Lines ships list : List (List Int)) : Int :=
  (inquiry_Explain_s6 office_Owner t delay office_Lines ships list)
def inquiry_Explain_pre (office_Owner t delay : Int) (office_Lines ships list : List (List Int)) : Prop :=
  ((inquiry_Valid_pre office_Owner office_Lines) ∧ ((((!inquiry_Valid_0 office_Owner office_Lines || office_Owner != (0 : Int)) = false) → (inquiry_chances_pre list)) ∧ (((!inquiry_Valid_0 office_Owner office_Lines || office_Owner != (0 : Int) || !inquiry_chances_0 list || !inquiry_time_0 t || decide (delay < (0 : Int)) || decide (delay > (100000 : Int))) = false) → (((loopOk (inquiry_Explain_l0_step office_Owner t delay office_Lines ships list) (inquiry_Explain_l0_init office_Owner t delay office_Lines ships list))) ∧ (((inquiry_Explain_l0 office_Owner t delay office_Lines ships list).fst.beq 1 = false) → (((loopOk (inquiry_Explain_l1_step office_Owner t delay office_Lines ships list) (inquiry_Explain_l1_init office_Owner t delay office_Lines ships list))) ∧ (((!!decide ((bif (inquiry_Explain_l1 office_Owner t delay office_Lines ships list).fst.beq 1 then gi (inquiry_Explain_l1 office_Owner t delay office_Lines ships list).snd 0 else (-1 : Int)) ≥ (0 : Int))) = false) → ((inquest_gaps_pre office_Owner t delay office_Lines (gr (inquiry_Explain_l0 office_Owner t delay office_Lines ships list).snd 3) list) ∧ ((inquiry_fewest_pre (inquest_gaps_0 office_Owner t delay office_Lines (gr (inquiry_Explain_l0 office_Owner t delay office_Lines ships list).snd 3) list)) ∧ (prove_pre (↑(inquiry_fewest_0 (inquest_gaps_0 office_Owner t delay office_Lines (gr (inquiry_Explain_l0 office_Owner t delay office_Lines ships list).snd 3) list)).length : Int)
  (inquest_gaps_0 office_Owner t delay office_Lines (gr (inquiry_Explain_l0 office_Owner t delay office_Lines ships list).snd 3) list)))))))))))
noncomputable def inquiry_Verify_s0 (office_Owner t delay : Int) (office_Lines ships list omissions proof : List (List Int)) (y0 : List U) : List (List Int) :=
  putRow 1 [(ships.getD (gi y0 2).toNat []).getD 0 (0 : Int)]
  [(ships.getD (gi y0 2).toNat []).getD 0 (0 : Int), encL (decL ((ships.getD (gi y0 2).toNat []).getD 1 (0 : Int)))] (gr y0 3)
noncomputable def inquiry_Verify_l0_init (office_Owner t delay : Int) (office_Lines ships list omissions proof : List (List Int)) : List U :=
  [.b (false), .i ((0 : Int)), .i ((0 : Int)), .r ([])]
noncomputable def inquiry_Verify_l0_step (office_Owner t delay : Int) (office_Lines ships list omissions proof : List (List Int)) (y0 : List U) : Option (Nat × List U) :=
  (bif decide (gi y0 2 < (↑ships.length : Int)) then guardP (inR (gi y0 2) ships) (guardP (inR (gi y0 2) ships) (guardP (inquiry_Valid_pre ((ships.getD (gi y0 2).toNat []).getD 0 (0 : Int)) (decL ((ships.getD (gi y0 2).toNat []).getD 1 (0 : Int)))) ((bif !inquiry_Valid_0 ((ships.getD (gi y0 2).toNat []).getD 0 (0 : Int)) (decL ((ships.getD (gi y0 2).toNat []).getD 1 (0 : Int))) ||
  decide ((ships.getD (gi y0 2).toNat []).getD 0 (0 : Int) ≤ gi y0 1) then some (1, [.i (office_Owner), .i (t), .i (delay), .r (gr y0 3)]) else some (0, [.b (gb y0 0), .i ((ships.getD (gi y0 2).toNat []).getD 0 (0 : Int)), .i (IntKind.i64.wrap (gi y0 2 + (1 : Int))), .r ((inquiry_Verify_s0 office_Owner t delay office_Lines ships list omissions proof y0))]))))) else some (3, [.b (gb y0 0), .i (gi y0 1), .i (gi y0 2), .r (gr y0 3)]))
noncomputable def inquiry_Verify_l0 (office_Owner t delay : Int) (office_Lines ships list omissions proof : List (List Int)) : Nat × List U := loopGet (inquiry_Verify_l0_step office_Owner t delay office_Lines ships list omissions proof) (inquiry_Verify_l0_init office_Owner t delay office_Lines ships list omissions proof)
noncomputable def inquiry_Verify_l1_init (office_Owner t delay : Int) (office_Lines ships list omissions proof : List (List Int)) : List U :=
  [.i ((0 : Int)), .i ((0 : Int))]
noncomputable def inquiry_Verify_l1_step (office_Owner t delay : Int) (office_Lines ships list omissions proof : List (List Int)) (y1 : List U) : Option (Nat × List U) :=
  (bif decide (gi y1 1 < (↑list.length : Int)) then guardP (inR (gi y1 1) list) (guardP (inR (gi y1 1) list) ((bif !(findRow 1 [(list.getD (gi y1 1).toNat []).getD 0 (0 : Int)] (gr (inquiry_Verify_l0 office_Owner t delay office_Lines ships list omissions proof).snd 3)).isSome then some (1, [.i (gi y1 1)]) else some (0, [.i (gi y1 0), .i (IntKind.i64.wrap (gi y1 1 + (1 : Int)))])))) else some (3, [.i (gi y1 0), .i (gi y1 1)]))
noncomputable def inquiry_Verify_l1 (office_Owner t delay : Int) (office_Lines ships list omissions proof : List (List Int)) : Nat × List U := loopGet (inquiry_Verify_l1_step office_Owner t delay office_Lines ships list omissions proof) (inquiry_Verify_l1_init office_Owner t delay office_Lines ships list omissions proof)
noncomputable def inquiry_Verify_s1 (office_Owner t delay : Int) (office_Lines ships list omissions proof : List (List Int)) (y2 : List U) : Int :=
  inquiry_compare_0 ((omissions.getD (IntKind.i64.wrap (gi y2 1 - (1 : Int))).toNat []).getD 0 (0 : Int))
  ((omissions.getD (IntKind.i64.wrap (gi y2 1 - (1 : Int))).toNat []).getD 1 (0 : Int))
  ((omissions.getD (IntKind.i64.wrap (gi y2 1 - (1 : Int))).toNat []).getD 2 (0 : Int)) ((omissions.getD (gi y2 1).toNat []).getD 0 (0 : Int))
  ((omissions.getD (gi y2 1).toNat []).getD 1 (0 : Int)) ((omissions.getD (gi y2 1).toNat []).getD 2 (0 : Int))
noncomputable def inquiry_Verify_l2_init (office_Owner t delay : Int) (office_Lines ships list omissions proof : List (List Int)) : List U :=
  [.b (false), .i ((1 : Int))]
noncomputable def inquiry_Verify_l2_step (office_Owner t delay : Int) (office_Lines ships list omissions proof : List (List Int)) (y2 : List U) : Option (Nat × List U) :=
  (bif decide (gi y2 1 < (↑omissions.length : Int)) then guardP (inR (IntKind.i64.wrap (gi y2 1 - (1 : Int))) omissions) (guardP (inR (IntKind.i64.wrap (gi y2 1 - (1 : Int))) omissions) (guardP (inR (gi y2 1) omissions) (guardP (inR (gi y2 1) omissions) (guardP (inquiry_compare_pre ((omissions.getD (IntKind.i64.wrap (gi y2 1 - (1 : Int))).toNat []).getD 0 (0 : Int))
  ((omissions.getD (IntKind.i64.wrap (gi y2 1 - (1 : Int))).toNat []).getD 1 (0 : Int))
  ((omissions.getD (IntKind.i64.wrap (gi y2 1 - (1 : Int))).toNat []).getD 2 (0 : Int)) ((omissions.getD (gi y2 1).toNat []).getD 0 (0 : Int))
  ((omissions.getD (gi y2 1).toNat []).getD 1 (0 : Int)) ((omissions.getD (gi y2 1).toNat []).getD 2 (0 : Int))) ((bif decide ((inquiry_Verify_s1 office_Owner t delay office_Lines ships list omissions proof y2) ≥ (0 : Int)) then some (1, []) else some (0, [.b (gb y2 0), .i (IntKind.i64.wrap (gi y2 1 + (1 : Int)))]))))))) else some (3, [.b (gb y2 0), .i (gi y2 1)]))
noncomputable def inquiry_Verify_l2 (office_Owner t delay : Int) (office_Lines ships list omissions proof : List (List Int)) : Nat × List U := loopGet (inquiry_Verify_l2_step office_Owner t delay office_Lines ships list omissions proof) (inquiry_Verify_l2_init office_Owner t delay office_Lines ships list omissions proof)
noncomputable def inquiry_Verify_s2 (office_Owner t delay : Int) (office_Lines ships list omissions proof : List (List Int)) (y3 : List U) : Int :=
  inquiry_order_0 ((proof.getD (IntKind.i64.wrap (gi y3 1 - (1 : Int))).toNat []).getD 0 (0 : Int))
  ((proof.getD (IntKind.i64.wrap (gi y3 1 - (1 : Int))).toNat []).getD 1 (0 : Int)) ((proof.getD (gi y3 1).toNat []).getD 0 (0 : Int))
  ((proof.getD (gi y3 1).toNat []).getD 1 (0 : Int))
noncomputable def inquiry_Verify_l3_init (office_Owner t delay : Int) (office_Lines ships list omissions proof : List (List Int)) : List U :=
  [.b (false), .i ((1 : Int))]
noncomputable def inquiry_Verify_l3_step (office_Owner t delay : Int) (office_Lines ships list omissions proof : List (List Int)) (y3 : List U) : Option (Nat × List U) :=
  (bif decide (gi y3 1 < (↑proof.length : Int)) then guardP (inR (IntKind.i64.wrap (gi y3 1 - (1 : Int))) proof) (guardP (inR (IntKind.i64.wrap (gi y3 1 - (1 : Int))) proof) (guardP (inR (gi y3 1) proof) (guardP (inR (gi y3 1) proof) (guardP (inquiry_order_pre ((proof.getD (IntKind.i64.wrap (gi y3 1 - (1 : Int))).toNat []).getD 0 (0 : Int))
  ((proof.getD (IntKind.i64.wrap (gi y3 1 - (1 : Int))).toNat []).getD 1 (0 : Int)) ((proof.getD (gi y3 1).toNat []).getD 0 (0 : Int))
  ((proof.getD (gi y3 1).toNat []).getD 1 (0 : Int))) ((bif decide ((inquiry_Verify_s2 office_Owner t delay office_Lines ships list omissions proof y3) ≥ (0 : Int)) then some (1, []) else some (0, [.b (gb y3 0), .i (IntKind.i64.wrap (gi y3 1 + (1 : Int)))]))))))) else some (3, [.b (gb y3 0), .i (gi y3 1)]))
noncomputable def inquiry_Verify_l3 (office_Owner t delay : Int) (office_Lines ships list omissions proof : List (List Int)) : Nat × List U := loopGet (inquiry_Verify_l3_step office_Owner t delay office_Lines ships list omissions proof) (inquiry_Verify_l3_init office_Owner t delay office_Lines ships list omissions proof)
noncomputable def inquiry_Verify_l5_init (office_Owner t delay : Int) (office_Lines ships list omissions proof : List (List Int)) (y4 : List U) : List U :=
  [.i ((0 : Int)), .i ((0 : Int))]
noncomputable def inquiry_Verify_l5_step (office_Owner t delay : Int) (office_Lines ships list omissions proof : List (List Int)) (y4 : List U) (y5 : List U) : Option (Nat × List U) :=
  (bif decide (gi y5 1 < (↑omissions.length : Int)) then guardP (inR (gi y5 1) omissions) (guardP (inR (gi y5 1) omissions) ((bif inquiry_gap_can_0 (((inquest_gaps_0 office_Owner t delay office_Lines (gr (inquiry_Verify_l0 office_Owner t delay office_Lines ships list omissions proof).snd 3) list).getD (gi y4 2).toNat []).getD 0 (0 : Int))
  (((inquest_gaps_0 office_Owner t delay office_Lines (gr (inquiry_Verify_l0 office_Owner t delay office_Lines ships list omissions proof).snd 3) list).getD (gi y4 2).toNat []).getD 1 (0 : Int))
  (((inquest_gaps_0 office_Owner t delay office_Lines (gr (inquiry_Verify_l0 office_Owner t delay office_Lines ships list omissions proof).snd 3) list).getD (gi y4 2).toNat []).getD 2 (0 : Int) != (0 : Int))
  (((inquest_gaps_0 office_Owner t delay office_Lines (gr (inquiry_Verify_l0 office_Owner t delay office_Lines ships list omissions proof).snd 3) list).getD (gi y4 2).toNat []).getD 3 (0 : Int) != (0 : Int))
  ((omissions.getD (gi y5 1).toNat []).getD 0 (0 : Int)) ((omissions.getD (gi y5 1).toNat []).getD 1 (0 : Int))
  ((omissions.getD (gi y5 1).toNat []).getD 2 (0 : Int)) then some (1, [.i (gi y5 1)]) else some (0, [.i (gi y5 0), .i (IntKind.i64.wrap (gi y5 1 + (1 : Int)))])))) else some (3, [.i (gi y5 0), .i (gi y5 1)]))
noncomputable def inquiry_Verify_l5 (office_Owner t delay : Int) (office_Lines ships list omissions proof : List (List Int)) (y4 : List U) : Nat × List U := loopGet (inquiry_Verify_l5_step office_Owner t delay office_Lines ships list omissions proof y4) (inquiry_Verify_l5_init office_Owner t delay office_Lines ships list omissions proof y4)
noncomputable def inquiry_Verify_l6_init (office_Owner t delay : Int) (office_Lines ships list omissions proof : List (List Int)) (y4 : List U) : List U :=
  [.i ((0 : Int)), .i ((0 : Int))]
noncomputable def inquiry_Verify_l6_step (office_Owner t delay : Int) (office_Lines ships list omissions proof : List (List Int)) (y4 : List U) (y6 : List U) : Option (Nat × List U) :=
  (bif decide (gi y6 1 < (↑proof.length : Int)) then guardP (inR (gi y6 1) proof) (guardP (inR (gi y6 1) proof) ((bif ((inquest_gaps_0 office_Owner t delay office_Lines (gr (inquiry_Verify_l0 office_Owner t delay office_Lines ships list omissions proof).snd 3) list).getD (gi y4 2).toNat []).getD 0 (0 : Int) ==
    (proof.getD (gi y6 1).toNat []).getD 0 (0 : Int) &&
  (((inquest_gaps_0 office_Owner t delay office_Lines (gr (inquiry_Verify_l0 office_Owner t delay office_Lines ships list omissions proof).snd 3) list).getD (gi y4 2).toNat []).getD 1 (0 : Int) ==
      (proof.getD (gi y6 1).toNat []).getD 1 (0 : Int) &&
    true) then some (1, [.i (gi y6 1)]) else some (0, [.i (gi y6 0), .i (IntKind.i64.wrap (gi y6 1 + (1 : Int)))])))) else some (3, [.i (gi y6 0), .i (gi y6 1)]))
noncomputable def inquiry_Verify_l6 (office_Owner t delay : Int) (office_Lines ships list omissions proof : List (List Int)) (y4 : List U) : Nat × List U := loopGet (inquiry_Verify_l6_step office_Owner t delay office_Lines ships list omissions proof y4) (inquiry_Verify_l6_init office_Owner t delay office_Lines ships list omissions proof y4)
noncomputable def inquiry_Verify_l7_init (office_Owner t delay : Int) (office_Lines ships list omissions proof : List (List Int)) (y4 : List U) : List U :=
  [.i ((0 : Int)), .i ((0 : Int))]
noncomputable def inquiry_Verify_l7_step (office_Owner t delay : Int) (office_Lines ships list omissions proof : List (List Int)) (y4 : List U) (y7 : List U) : Option (Nat × List U) :=
  (bif decide (gi y7 1 < (↑(gr y4 3).length : Int)) then guardP (inR (gi y7 1) (gr y4 3)) (guardP (inR (gi y7 1) (gr y4 3)) ((bif !inquiry_apart_0 (((inquest_gaps_0 office_Owner t delay office_Lines (gr (inquiry_Verify_l0 office_Owner t delay office_Lines ships list omissions proof).snd 3) list).getD (gi y4 2).toNat []).getD 0 (0 : Int))
    (((inquest_gaps_0 office_Owner t delay office_Lines (gr (inquiry_Verify_l0 office_Owner t delay office_Lines ships list omissions proof).snd 3) list).getD (gi y4 2).toNat []).getD 1 (0 : Int))
    (((inquest_gaps_0 office_Owner t delay office_Lines (gr (inquiry_Verify_l0 office_Owner t delay office_Lines ships list omissions proof).snd 3) list).getD (gi y4 2).toNat []).getD 2 (0 : Int) != (0 : Int))
    (((inquest_gaps_0 office_Owner t delay office_Lines (gr (inquiry_Verify_l0 office_Owner t delay office_Lines ships list omissions proof).snd 3) list).getD (gi y4 2).toNat []).getD 3 (0 : Int) != (0 : Int))
    (((gr y4 3).getD (gi y7 1).toNat []).getD 0 (0 : Int)) (((gr y4 3).getD (gi y7 1).toNat []).getD 1 (0 : Int))
    (((gr y4 3).getD (gi y7 1).toNat []).getD 2 (0 : Int) != (0 : Int)) (((gr y4 3).getD (gi y7 1).toNat []).getD 3 (0 : Int) != (0 : Int)) then some (1, [.i (gi y7 1)]) else some (0, [.i (gi y7 0), .i (IntKind.i64.wrap (gi y7 1 + (1 : Int)))])))) else some (3, [.i (gi y7 0), .i (gi y7 1)]))
noncomputable def inquiry_Verify_l7 (office_Owner t delay : Int) (office_Lines ships list omissions proof : List (List Int)) (y4 : List U) : Nat × List U := loopGet (inquiry_Verify_l7_step office_Owner t delay office_Lines ships list omissions proof y4) (inquiry_Verify_l7_init office_Owner t delay office_Lines ships list omissions proof y4)
noncomputable def inquiry_Verify_s3 (office_Owner t delay : Int) (office_Lines ships list omissions proof : List (List Int)) (y4 : List U) : List Int :=
  [bif ((inquest_gaps_0 office_Owner t delay office_Lines (gr (inquiry_Verify_l0 office_Owner t delay office_Lines ships list omissions proof).snd 3) list).getD (gi y4 2).toNat []).getD 2 (0 : Int) != (0 : Int) then (1 : Int)
  else (0 : Int),
  bif ((inquest_gaps_0 office_Owner t delay office_Lines (gr (inquiry_Verify_l0 office_Owner t delay office_Lines ships list omissions proof).snd 3) list).getD (gi y4 2).toNat []).getD 3 (0 : Int) != (0 : Int) then (1 : Int)
  else (0 : Int)]
noncomputable def inquiry_Verify_s4 (office_Owner t delay : Int) (office_Lines ships list omissions proof : List (List Int)) (y4 : List U) : List Int :=
  ((inquest_gaps_0 office_Owner t delay office_Lines (gr (inquiry_Verify_l0 office_Owner t delay office_Lines ships list omissions proof).snd 3) list).getD (gi y4 2).toNat []).getD 0 (0 : Int) ::
  ((inquest_gaps_0 office_Owner t delay office_Lines (gr (inquiry_Verify_l0 office_Owner t delay office_Lines ships list omissions proof).snd 3) list).getD (gi y4 2).toNat []).getD 1 (0 : Int) :: (inquiry_Verify_s3 office_Owner t delay office_Lines ships list omissions proof y4)
noncomputable def inquiry_Verify_l4_init (office_Owner t delay : Int) (office_Lines ships list omissions proof : List (List Int)) : List U :=
  [.b (false), .i ((0 : Int)), .i ((0 : Int)), .r ([])]
noncomputable def inquiry_Verify_l4_step (office_Owner t delay : Int) (office_Lines ships list omissions proof : List (List Int)) (y4 : List U) : Option (Nat × List U) :=
  (bif decide (gi y4 2 < (↑(inquest_gaps_0 office_Owner t delay office_Lines (gr (inquiry_Verify_l0 office_Owner t delay office_Lines ships list omissions proof).snd 3) list).length : Int)) then guardP (inR (gi y4 2) (inquest_gaps_0 office_Owner t delay office_Lines (gr (inquiry_Verify_l0 office_Owner t delay office_Lines ships list omissions proof).snd 3) list)) (guardP (inR (gi y4 2) (inquest_gaps_0 office_Owner t delay office_Lines (gr (inquiry_Verify_l0 office_Owner t delay office_Lines ships list omissions proof).snd 3) list)) (guardP ((loopOk (inquiry_Verify_l5_step office_Owner t delay office_Lines ships list omissions proof y4) (inquiry_Verify_l5_init office_Owner t delay office_Lines ships list omissions proof y4))) ((bif !decide ((bif (inquiry_Verify_l5 office_Owner t delay office_Lines ships list omissions proof y4).fst.beq 1 then gi (inquiry_Verify_l5 office_Owner t delay office_Lines ships list omissions proof y4).snd 0 else (-1 : Int)) ≥ (0 : Int)) then some (1, []) else guardP ((loopOk (inquiry_Verify_l6_step office_Owner t delay office_Lines ships list omissions proof y4) (inquiry_Verify_l6_init office_Owner t delay office_Lines ships list omissions proof y4))) ((bif decide ((bif (inquiry_Verify_l6 office_Owner t delay office_Lines ships list omissions proof y4).fst.beq 1 then gi (inquiry_Verify_l6 office_Owner t delay office_Lines ships list omissions proof y4).snd 0 else (-1 : Int)) ≥ (0 : Int)) then guardP ((loopOk (inquiry_Verify_l7_step office_Owner t delay office_Lines ships list omissions proof y4) (inquiry_Verify_l7_init office_Owner t delay office_Lines ships list omissions proof y4))) ((bif decide ((bif (inquiry_Verify_l7 office_Owner t delay office_Lines ships list omissions proof y4).fst.beq 1 then gi (inquiry_Verify_l7 office_Owner t delay office_Lines ships list omissions proof y4).snd 0 else (-1 : Int)) ≥ (0 : Int)) then some (2, []) else guardP (fitsA 24 ((gr y4 3).length + [(inquiry_Verify_s4 office_Owner t delay office_Lines ships list omissions proof y4)].length)) (some (0, [.b (gb y4 0), .i (gi y4 1), .i (IntKind.i64.wrap (gi y4 2 + (1 : Int))), .r (gr y4 3 ++ [(inquiry_Verify_s4 office_Owner t delay office_Lines ships list omissions proof y4)])])))) else some (0, [.b (gb y4 0), .i (gi y4 1), .i (IntKind.i64.wrap (gi y4 2 + (1 : Int))), .r (gr y4 3)]))))))) else some (5, [.b (gb y4 0), .i (gi y4 1), .i (gi y4 2), .r (gr y4 3)]))
noncomputable def inquiry_Verify_l4 (office_Owner t delay : Int) (office_Lines ships list omissions proof : List (List Int)) : Nat × List U := loopGet (inquiry_Verify_l4_step office_Owner t delay office_Lines ships list omissions proof) (inquiry_Verify_l4_init office_Owner t delay office_Lines ships list omissions proof)
noncomputable def inquiry_Verify_0 (office_Owner t delay : Int) (office_Lines ships list omissions proof : List (List Int)) : Bool :=
  bif !inquiry_Valid_0 office_Owner office_Lines || office_Owner != (0 : Int) || !inquiry_chances_0 list || !inquiry_time_0 t || decide (delay < (0 : Int)) || decide (delay > (100000 : Int)) then false
else
  bif (inquiry_Verify_l0 office_Owner t delay office_Lines ships list omissions proof).fst.beq 1 then false
  else
    bif !!decide ((bif (inquiry_Verify_l1 office_Owner t delay office_Lines ships list omissions proof).fst.beq 1 then gi (inquiry_Verify_l1 office_Owner t delay office_Lines ships list omissions proof).snd 0 else (-1 : Int)) ≥ (0 : Int)) then false
    else
      bif
          ((↑omissions.length : Int) != (↑proof.length : Int) || !bif (inquiry_Verify_l2 office_Owner t delay office_Lines ships list omissions proof).fst.beq 1 then false else true) ||
            !bif (inquiry_Verify_l3 office_Owner t delay office_Lines ships list omissions proof).fst.beq 1 then false else true then
        false
      else
        bif (inquiry_Verify_l4 office_Owner t delay office_Lines ships list omissions proof).fst.beq 1 then false
        else bif (inquiry_Verify_l4 office_Owner t delay office_Lines ships list omissions proof).fst.beq 2 then false else (↑(gr (inquiry_Verify_l4 office_Owner t delay office_Lines ships list omissions proof).snd 3).length : Int) == (↑proof.length : Int)
noncomputable def inquiry_Verify_s5 (office_Owner t delay : Int) (office_Lines ships list omissions proof : List (List Int)) : Int :=
  bif ((↑omissions.length : Int) != (↑proof.length : Int) || !bif (inquiry_Verify_l2 office_Owner t delay office_Lines ships list omissions proof).fst.beq 1 then false else true) || !bif (inquiry_Verify_l3 office_Owner t delay office_Lines ships list omissions proof).fst.beq 1 then false else true then
  (0 : Int)
else bif (inquiry_Verify_l4 office_Owner t delay office_Lines ships list omissions proof).fst.beq 1 then (0 : Int) else bif (inquiry_Verify_l4 office_Owner t delay office_Lines ships list omissions proof).fst.beq 2 then (0 : Int) else (0 : Int)
noncomputable def inquiry_Verify_s6 (office_Owner t delay : Int) (office_Lines ships list omissions proof : List (List Int)) : Int :=
  bif !!decide ((bif (inquiry_Verify_l1 office_Owner t delay office_Lines ships list omissions proof).fst.beq 1 then gi (inquiry_Verify_l1 office_Owner t delay office_Lines ships list omissions proof).snd 0 else (-1 : Int)) ≥ (0 : Int)) then (1 : Int) else (inquiry_Verify_s5 office_Owner t delay office_Lines ships list omissions proof)
noncomputable def inquiry_Verify_s7 (office_Owner t delay : Int) (office_Lines ships list omissions proof : List (List Int)) : Int :=
  bif !inquiry_Valid_0 office_Owner office_Lines || office_Owner != (0 : Int) || !inquiry_chances_0 list || !inquiry_time_0 t || decide (delay < (0 : Int)) || decide (delay > (100000 : Int)) then
  (1 : Int)
else bif (inquiry_Verify_l0 office_Owner t delay office_Lines ships list omissions proof).fst.beq 1 then (1 : Int) else (inquiry_Verify_s6 office_Owner t delay office_Lines ships list omissions proof)
noncomputable def inquiry_Verify_1 (office_Owner t delay : Int) (office_Lines ships list omissions proof : List (List Int)) : Int :=
  (inquiry_Verify_s7 office_Owner t delay office_Lines ships list omissions proof)
def inquiry_Verify_pre (office_Owner t delay : Int) (office_Lines ships list omissions proof : List (List Int)) : Prop :=
  ((inquiry_Valid_pre office_Owner office_Lines) ∧ ((((!inquiry_Valid_0 office_Owner office_Lines || office_Owner != (0 : Int)) = false) → (inquiry_chances_pre list)) ∧ (((!inquiry_Valid_0 office_Owner office_Lines || office_Owner != (0 : Int) || !inquiry_chances_0 list || !inquiry_time_0 t || decide (delay < (0 : Int)) || decide (delay > (100000 : Int))) = false) → (((loopOk (inquiry_Verify_l0_step office_Owner t delay office_Lines ships list omissions proof) (inquiry_Verify_l0_init office_Owner t delay office_Lines ships list omissions proof))) ∧ (((inquiry_Verify_l0 office_Owner t delay office_Lines ships list omissions proof).fst.beq 1 = false) → (((loopOk (inquiry_Verify_l1_step office_Owner t delay office_Lines ships list omissions proof) (inquiry_Verify_l1_init office_Owner t delay office_Lines ships list omissions proof))) ∧ (((!!decide ((bif (inquiry_Verify_l1 office_Owner t delay office_Lines ships list omissions proof).fst.beq 1 then gi (inquiry_Verify_l1 office_Owner t delay office_Lines ships list omissions proof).snd 0 else (-1 : Int)) ≥ (0 : Int))) = false) → (((((↑omissions.length : Int) != (↑proof.length : Int)) = false) → ((loopOk (inquiry_Verify_l2_step office_Owner t delay office_Lines ships list omissions proof) (inquiry_Verify_l2_init office_Owner t delay office_Lines ships list omissions proof)))) ∧ (((((↑omissions.length : Int) != (↑proof.length : Int) || !bif (inquiry_Verify_l2 office_Owner t delay office_Lines ships list omissions proof).fst.beq 1 then false else true) = false) → ((loopOk (inquiry_Verify_l3_step office_Owner t delay office_Lines ships list omissions proof) (inquiry_Verify_l3_init office_Owner t delay office_Lines ships list omissions proof)))) ∧ (((((↑omissions.length : Int) != (↑proof.length : Int) || !bif (inquiry_Verify_l2 office_Owner t delay office_Lines ships list omissions proof).fst.beq 1 then false else true) || !bif (inquiry_Verify_l3 office_Owner t delay office_Lines ships list omissions proof).fst.beq 1 then false else true) = false) → ((inquest_gaps_pre office_Owner t delay office_Lines (gr (inquiry_Verify_l0 office_Owner t delay office_Lines ships list omissions proof).snd 3) list) ∧ ((loopOk (inquiry_Verify_l4_step office_Owner t delay office_Lines ships list omissions proof) (inquiry_Verify_l4_init office_Owner t delay office_Lines ships list omissions proof))))))))))))))
end Go.Proofs.YtikhnofbbcmpeaaGreat
set_option maxRecDepth 100000
set_option linter.unusedVariables false
namespace Go.Proofs.YtikhnofbbcmpeaaGreat
open Go Go.Sy
theorem inquiry_Gaps_col (office_Owner t delay : Int) (office_Lines ships list : List (List Int)) : collapse Tryz.prog 3 (execFn Tryz.prog K31 noSeq 9 22 [.agg [.int .i64 office_Owner, .sl 0], .sl 1, .sl 2, .int .i64 t, .int .i64 delay] ⟨[⟨0, 3, false, .row 29 [.int .i64, .int .i64, .int .i64, .int .u64] office_Lines⟩, ⟨1, 3, false, .nst 24 [.c (.int .i64), .s 29 [.int .i64, .int .i64, .int .i64, .int .u64]] ships⟩, ⟨2, 3, false, .row 41 [.int .i64, .int .i64, .int .i64] list⟩], 3⟩) = some ⟨some (inquiry_Gaps_pre office_Owner t delay office_Lines ships list), [], 1, [⟨3, 3, true, .row 52 [.int .i64, .int .i64] (inquiry_Gaps_0 office_Owner t delay office_Lines ships list)⟩], .tup [.sl 3, .int .i64 (inquiry_Gaps_1 office_Owner t delay office_Lines ships list)]⟩ := by kernel_rfl
noncomputable def inquiry_Gaps_eff : List U → Option Eff
  | [.i office_Owner, .i t, .i delay, .r office_Lines, .r ships, .r list] => some ⟨some (inquiry_Gaps_pre office_Owner t delay office_Lines ships list), [], 1, [⟨3, 3, true, .row 52 [.int .i64, .int .i64] (inquiry_Gaps_0 office_Owner t delay office_Lines ships list)⟩], .tup [.sl 3, .int .i64 (inquiry_Gaps_1 office_Owner t delay office_Lines ships list)]⟩
  | _ => Option.none
noncomputable def K32 : Con := ext Tryz.prog K31 22 [.agg [.int .i64 0, .sl 0], .sl 1, .sl 2, .int .i64 0, .int .i64 0] [⟨0, 0, false, .row 29 [.int .i64, .int .i64, .int .i64, .int .u64] []⟩, ⟨1, 0, false, .nst 24 [.c (.int .i64), .s 29 [.int .i64, .int .i64, .int .i64, .int .u64]] []⟩, ⟨2, 0, false, .row 41 [.int .i64, .int .i64, .int .i64] []⟩] inquiry_Gaps_eff
theorem K32_ok : ConOk Tryz.prog K32 := conOk_ext noSeq_ok K31_ok (n := 9) rfl rfl fun us x h => by
  unfold inquiry_Gaps_eff at h
  split at h
  · cases h; exact ⟨some (inquiry_Gaps_pre _ _ _ _ _ _), inquiry_Gaps_col _ _ _ _ _ _, fun h => h⟩
  · cases h
theorem inquiry_Explain_col (office_Owner t delay : Int) (office_Lines ships list : List (List Int)) : collapse Tryz.prog 3 (execFn Tryz.prog K32 noSeq 9 24 [.agg [.int .i64 office_Owner, .sl 0], .sl 1, .sl 2, .int .i64 t, .int .i64 delay] ⟨[⟨0, 3, false, .row 29 [.int .i64, .int .i64, .int .i64, .int .u64] office_Lines⟩, ⟨1, 3, false, .nst 24 [.c (.int .i64), .s 29 [.int .i64, .int .i64, .int .i64, .int .u64]] ships⟩, ⟨2, 3, false, .row 41 [.int .i64, .int .i64, .int .i64] list⟩], 3⟩) = some ⟨some (inquiry_Explain_pre office_Owner t delay office_Lines ships list), [], 2, [⟨3, 3, true, .row 80 [.int .i64, .int .i64, .int .i64] (inquiry_Explain_0 office_Owner t delay office_Lines ships list)⟩, ⟨4, 3, true, .row 52 [.int .i64, .int .i64] (inquiry_Explain_1 office_Owner t delay office_Lines ships list)⟩], .tup [.sl 3, .sl 4, .int .i64 (inquiry_Explain_2 office_Owner t delay office_Lines ships list)]⟩ := by kernel_rfl
noncomputable def inquiry_Explain_eff : List U → Option Eff
  | [.i office_Owner, .i t, .i delay, .r office_Lines, .r ships, .r list] => some ⟨some (inquiry_Explain_pre office_Owner t delay office_Lines ships list), [], 2, [⟨3, 3, true, .row 80 [.int .i64, .int .i64, .int .i64] (inquiry_Explain_0 office_Owner t delay office_Lines ships list)⟩, ⟨4, 3, true, .row 52 [.int .i64, .int .i64] (inquiry_Explain_1 office_Owner t delay office_Lines ships list)⟩], .tup [.sl 3, .sl 4, .int .i64 (inquiry_Explain_2 office_Owner t delay office_Lines ships list)]⟩
  | _ => Option.none
noncomputable def K33 : Con := ext Tryz.prog K32 24 [.agg [.int .i64 0, .sl 0], .sl 1, .sl 2, .int .i64 0, .int .i64 0] [⟨0, 0, false, .row 29 [.int .i64, .int .i64, .int .i64, .int .u64] []⟩, ⟨1, 0, false, .nst 24 [.c (.int .i64), .s 29 [.int .i64, .int .i64, .int .i64, .int .u64]] []⟩, ⟨2, 0, false, .row 41 [.int .i64, .int .i64, .int .i64] []⟩] inquiry_Explain_eff
theorem K33_ok : ConOk Tryz.prog K33 := conOk_ext noSeq_ok K32_ok (n := 9) rfl rfl fun us x h => by
  unfold inquiry_Explain_eff at h
  split at h
  · cases h; exact ⟨some (inquiry_Explain_pre _ _ _ _ _ _), inquiry_Explain_col _ _ _ _ _ _, fun h => h⟩
  · cases h
theorem inquiry_Verify_col (office_Owner t delay : Int) (office_Lines ships list omissions proof : List (List Int)) : collapse Tryz.prog 5 (execFn Tryz.prog K33 noSeq 9 28 [.agg [.int .i64 office_Owner, .sl 0], .sl 1, .sl 2, .int .i64 t, .int .i64 delay, .sl 3, .sl 4] ⟨[⟨0, 5, false, .row 29 [.int .i64, .int .i64, .int .i64, .int .u64] office_Lines⟩, ⟨1, 5, false, .nst 24 [.c (.int .i64), .s 29 [.int .i64, .int .i64, .int .i64, .int .u64]] ships⟩, ⟨2, 5, false, .row 41 [.int .i64, .int .i64, .int .i64] list⟩, ⟨3, 5, false, .row 80 [.int .i64, .int .i64, .int .i64] omissions⟩, ⟨4, 5, false, .row 52 [.int .i64, .int .i64] proof⟩], 5⟩) = some ⟨some (inquiry_Verify_pre office_Owner t delay office_Lines ships list omissions proof), [], 0, [], .tup [.bool (inquiry_Verify_0 office_Owner t delay office_Lines ships list omissions proof), .int .i64 (inquiry_Verify_1 office_Owner t delay office_Lines ships list omissions proof)]⟩ := by kernel_rfl
noncomputable def inquiry_Verify_eff : List U → Option Eff
  | [.i office_Owner, .i t, .i delay, .r office_Lines, .r ships, .r list, .r omissions, .r proof] => some ⟨some (inquiry_Verify_pre office_Owner t delay office_Lines ships list omissions proof), [], 0, [], .tup [.bool (inquiry_Verify_0 office_Owner t delay office_Lines ships list omissions proof), .int .i64 (inquiry_Verify_1 office_Owner t delay office_Lines ships list omissions proof)]⟩
  | _ => Option.none
noncomputable def K34 : Con := ext Tryz.prog K33 28 [.agg [.int .i64 0, .sl 0], .sl 1, .sl 2, .int .i64 0, .int .i64 0, .sl 3, .sl 4] [⟨0, 0, false, .row 29 [.int .i64, .int .i64, .int .i64, .int .u64] []⟩, ⟨1, 0, false, .nst 24 [.c (.int .i64), .s 29 [.int .i64, .int .i64, .int .i64, .int .u64]] []⟩, ⟨2, 0, false, .row 41 [.int .i64, .int .i64, .int .i64] []⟩, ⟨3, 0, false, .row 80 [.int .i64, .int .i64, .int .i64] []⟩, ⟨4, 0, false, .row 52 [.int .i64, .int .i64] []⟩] inquiry_Verify_eff
theorem K34_ok : ConOk Tryz.prog K34 := conOk_ext noSeq_ok K33_ok (n := 9) rfl rfl fun us x h => by
  unfold inquiry_Verify_eff at h
  split at h
  · cases h; exact ⟨some (inquiry_Verify_pre _ _ _ _ _ _ _ _), inquiry_Verify_col _ _ _ _ _ _ _ _, fun h => h⟩
  · cases h
end Go.Proofs.YtikhnofbbcmpeaaGreat
set_option maxRecDepth 100000
set_option linter.unusedVariables false
namespace Go.Proofs.YtikhnofbbcmpeaaGreat
open Go Go.Sy
noncomputable def ref08_Ints_l0_init (a b : List (List Int)) : List U :=
  [.b (false), .i ((0 : Int))]
noncomputable def ref08_Ints_l0_step (a b : List (List Int)) (y0 : List U) : Option (Nat × List U) :=
  (bif decide (gi y0 1 < (↑a.length : Int)) then guardP (inR (gi y0 1) a) (guardP (inR (gi y0 1) a) (guardP (inR (gi y0 1) b) (guardP (inR (gi y0 1) b) ((bif (a.getD (gi y0 1).toNat []).getD 0 (0 : Int) != (b.getD (gi y0 1).toNat []).getD 0 (0 : Int) then some (1, []) else some (0, [.b (gb y0 0), .i (IntKind.i64.wrap (gi y0 1 + (1 : Int)))])))))) else some (3, [.b (gb y0 0), .i (gi y0 1)]))
noncomputable def ref08_Ints_l0 (a b : List (List Int)) : Nat × List U := loopGet (ref08_Ints_l0_step a b) (ref08_Ints_l0_init a b)
noncomputable def ref08_Ints_0 (a b : List (List Int)) : Bool :=
  bif (↑a.length : Int) != (↑b.length : Int) then false else bif (ref08_Ints_l0 a b).fst.beq 1 then false else true
def ref08_Ints_pre (a b : List (List Int)) : Prop :=
  ((((↑a.length : Int) != (↑b.length : Int)) = false) → ((loopOk (ref08_Ints_l0_step a b) (ref08_Ints_l0_init a b))))
noncomputable def ref44_SameGaps_l0_init (a b : List (List Int)) : List U :=
  [.b (false), .i ((0 : Int))]
noncomputable def ref44_SameGaps_l0_step (a b : List (List Int)) (y0 : List U) : Option (Nat × List U) :=
  (bif decide (gi y0 1 < (↑a.length : Int)) then guardP (inR (gi y0 1) a) (guardP (inR (gi y0 1) a) (guardP (inR (gi y0 1) b) (guardP (inR (gi y0 1) b) ((bif !((a.getD (gi y0 1).toNat []).getD 0 (0 : Int) == (b.getD (gi y0 1).toNat []).getD 0 (0 : Int) &&
    ((a.getD (gi y0 1).toNat []).getD 1 (0 : Int) == (b.getD (gi y0 1).toNat []).getD 1 (0 : Int) && true)) then some (1, []) else some (0, [.b (gb y0 0), .i (IntKind.i64.wrap (gi y0 1 + (1 : Int)))])))))) else some (3, [.b (gb y0 0), .i (gi y0 1)]))
noncomputable def ref44_SameGaps_l0 (a b : List (List Int)) : Nat × List U := loopGet (ref44_SameGaps_l0_step a b) (ref44_SameGaps_l0_init a b)
noncomputable def ref44_SameGaps_0 (a b : List (List Int)) : Bool :=
  bif (↑a.length : Int) != (↑b.length : Int) then false else bif (ref44_SameGaps_l0 a b).fst.beq 1 then false else true
def ref44_SameGaps_pre (a b : List (List Int)) : Prop :=
  ((((↑a.length : Int) != (↑b.length : Int)) = false) → ((loopOk (ref44_SameGaps_l0_step a b) (ref44_SameGaps_l0_init a b))))
noncomputable def ref44_SameOmissions_l0_init (a b : List (List Int)) : List U :=
  [.b (false), .i ((0 : Int))]
noncomputable def ref44_SameOmissions_l0_step (a b : List (List Int)) (y0 : List U) : Option (Nat × List U) :=
  (bif decide (gi y0 1 < (↑a.length : Int)) then guardP (inR (gi y0 1) a) (guardP (inR (gi y0 1) a) (guardP (inR (gi y0 1) b) (guardP (inR (gi y0 1) b) ((bif !((a.getD (gi y0 1).toNat []).getD 0 (0 : Int) == (b.getD (gi y0 1).toNat []).getD 0 (0 : Int) &&
    ((a.getD (gi y0 1).toNat []).getD 1 (0 : Int) == (b.getD (gi y0 1).toNat []).getD 1 (0 : Int) &&
      ((a.getD (gi y0 1).toNat []).getD 2 (0 : Int) == (b.getD (gi y0 1).toNat []).getD 2 (0 : Int) && true))) then some (1, []) else some (0, [.b (gb y0 0), .i (IntKind.i64.wrap (gi y0 1 + (1 : Int)))])))))) else some (3, [.b (gb y0 0), .i (gi y0 1)]))
noncomputable def ref44_SameOmissions_l0 (a b : List (List Int)) : Nat × List U := loopGet (ref44_SameOmissions_l0_step a b) (ref44_SameOmissions_l0_init a b)
noncomputable def ref44_SameOmissions_0 (a b : List (List Int)) : Bool :=
  bif (↑a.length : Int) != (↑b.length : Int) then false else bif (ref44_SameOmissions_l0 a b).fst.beq 1 then false else true
def ref44_SameOmissions_pre (a b : List (List Int)) : Prop :=
  ((((↑a.length : Int) != (↑b.length : Int)) = false) → ((loopOk (ref44_SameOmissions_l0_step a b) (ref44_SameOmissions_l0_init a b))))
noncomputable def law44_log_s0 (owner : Int) (lines : List (List Int)) (y0 : List U) : Int :=
  inquiry_Add_2 (gi y0 1) ((lines.getD (gi y0 0).toNat []).getD 0 (0 : Int)) ((lines.getD (gi y0 0).toNat []).getD 1 (0 : Int))
  ((lines.getD (gi y0 0).toNat []).getD 2 (0 : Int)) (gr y0 2)
noncomputable def law44_log_s1 (owner : Int) (lines : List (List Int)) (y0 : List U) : Int :=
  inquiry_Add_1 (gi y0 1) ((lines.getD (gi y0 0).toNat []).getD 0 (0 : Int)) ((lines.getD (gi y0 0).toNat []).getD 1 (0 : Int))
  ((lines.getD (gi y0 0).toNat []).getD 2 (0 : Int)) (gr y0 2)
noncomputable def law44_log_s2 (owner : Int) (lines : List (List Int)) (y0 : List U) : List (List Int) :=
  inquiry_Add_0 (gi y0 1) ((lines.getD (gi y0 0).toNat []).getD 0 (0 : Int)) ((lines.getD (gi y0 0).toNat []).getD 1 (0 : Int))
  ((lines.getD (gi y0 0).toNat []).getD 2 (0 : Int)) (gr y0 2)
noncomputable def law44_log_l0_init (owner : Int) (lines : List (List Int)) : List U :=
  [.i ((0 : Int)), .i (owner), .r ([])]
noncomputable def law44_log_l0_step (owner : Int) (lines : List (List Int)) (y0 : List U) : Option (Nat × List U) :=
  (bif decide (gi y0 0 < (↑lines.length : Int)) then guardP (inR (gi y0 0) lines) (guardP (inR (gi y0 0) lines) (guardP (inR (gi y0 0) lines) (guardP (inR (gi y0 0) lines) (guardP (inR (gi y0 0) lines) (guardP (inR (gi y0 0) lines) (guardP (inR (gi y0 0) lines) (guardP (inR (gi y0 0) lines) (guardP (inR (gi y0 0) lines) (guardP (inquiry_Add_pre (gi y0 1) ((lines.getD (gi y0 0).toNat []).getD 0 (0 : Int)) ((lines.getD (gi y0 0).toNat []).getD 1 (0 : Int))
  ((lines.getD (gi y0 0).toNat []).getD 2 (0 : Int)) (gr y0 2)) ((bif (law44_log_s0 owner lines y0) != (0 : Int) then some (1, [.i (gi y0 1), .r (gr y0 2)]) else some (0, [.i (IntKind.i64.wrap (gi y0 0 + (1 : Int))), .i ((law44_log_s1 owner lines y0)), .r ((law44_log_s2 owner lines y0))])))))))))))) else some (3, [.i (gi y0 0), .i (gi y0 1), .r (gr y0 2)]))
noncomputable def law44_log_l0 (owner : Int) (lines : List (List Int)) : Nat × List U := loopGet (law44_log_l0_step owner lines) (law44_log_l0_init owner lines)
noncomputable def law44_log_0 (owner : Int) (lines : List (List Int)) : List (List Int) :=
  bif (law44_log_l0 owner lines).fst.beq 1 then [] else gr (law44_log_l0 owner lines).snd 2
noncomputable def law44_log_1 (owner : Int) (lines : List (List Int)) : Int :=
  bif (law44_log_l0 owner lines).fst.beq 1 then (0 : Int) else gi (law44_log_l0 owner lines).snd 1
def law44_log_pre (owner : Int) (lines : List (List Int)) : Prop :=
  ((loopOk (law44_log_l0_step owner lines) (law44_log_l0_init owner lines)))
noncomputable def law44_head_s0  : List (List Int) :=
  [[(5 : Int), (4 : Int), (0 : Int)], [(20 : Int), (5 : Int), (0 : Int)], [(40 : Int), (2 : Int), (9 : Int)]]
noncomputable def law44_head_s1  : List Int :=
  [law44_log_1 (1 : Int) [[(12 : Int), (3 : Int), (7 : Int)]], encL (law44_log_0 (1 : Int) [[(12 : Int), (3 : Int), (7 : Int)]])]
noncomputable def law44_head_s2  : List Int :=
  [(law44_head_s1), [law44_log_1 (2 : Int) [], encL (law44_log_0 (2 : Int) [])], [law44_log_1 (3 : Int) ((law44_head_s0)), encL (law44_log_0 (3 : Int) ((law44_head_s0)))]].getD
  (Int.toNat (0 : Int)) []
noncomputable def law44_head_s3  : List (List Int) :=
  [[(3 : Int), (7 : Int), (10 : Int)], [(2 : Int), (9 : Int), (30 : Int)], [(3 : Int), (9 : Int), (30 : Int)]]
noncomputable def law44_head_s4  : List Int :=
  [(law44_head_s1), [law44_log_1 (2 : Int) [], encL (law44_log_0 (2 : Int) [])], [law44_log_1 (3 : Int) ((law44_head_s0)), encL (law44_log_0 (3 : Int) ((law44_head_s0)))]].getD
  (Int.toNat (2 : Int)) []
noncomputable def law44_head_s5  : List (List Int) :=
  inquiry_Explain_0 (law44_log_1 (0 : Int) [[(10 : Int), (1 : Int), (7 : Int)]]) (50 : Int) (5 : Int) (law44_log_0 (0 : Int) [[(10 : Int), (1 : Int), (7 : Int)]])
  [(law44_head_s1), [law44_log_1 (2 : Int) [], encL (law44_log_0 (2 : Int) [])], [law44_log_1 (3 : Int) ((law44_head_s0)), encL (law44_log_0 (3 : Int) ((law44_head_s0)))]]
  ([(1 : Int), (7 : Int), (10 : Int)] :: [(2 : Int), (7 : Int), (10 : Int)] :: (law44_head_s3))
noncomputable def law44_head_s6  : List (List Int) :=
  inquiry_Explain_1 (law44_log_1 (0 : Int) [[(10 : Int), (1 : Int), (7 : Int)]]) (50 : Int) (5 : Int) (law44_log_0 (0 : Int) [[(10 : Int), (1 : Int), (7 : Int)]])
  [(law44_head_s1), [law44_log_1 (2 : Int) [], encL (law44_log_0 (2 : Int) [])], [law44_log_1 (3 : Int) ((law44_head_s0)), encL (law44_log_0 (3 : Int) ((law44_head_s0)))]]
  ([(1 : Int), (7 : Int), (10 : Int)] :: [(2 : Int), (7 : Int), (10 : Int)] :: (law44_head_s3))
noncomputable def law44_head_s7  : Int :=
  inquiry_Could_1 (law44_log_1 (0 : Int) [[(10 : Int), (1 : Int), (7 : Int)]]) (((law44_head_s2)).getD 0 (0 : Int)) (10 : Int) (law44_log_0 (0 : Int) [[(10 : Int), (1 : Int), (7 : Int)]])
  (decL (((law44_head_s2)).getD 1 (0 : Int))) ([(1 : Int), (7 : Int), (10 : Int)] :: [(2 : Int), (7 : Int), (10 : Int)] :: (law44_head_s3))
noncomputable def law44_head_s8  : Int :=
  inquiry_Could_1 (law44_log_1 (0 : Int) [[(10 : Int), (1 : Int), (7 : Int)]]) (((law44_head_s4)).getD 0 (0 : Int)) (10 : Int) (law44_log_0 (0 : Int) [[(10 : Int), (1 : Int), (7 : Int)]])
  (decL (((law44_head_s4)).getD 1 (0 : Int))) ([(1 : Int), (7 : Int), (10 : Int)] :: [(2 : Int), (7 : Int), (10 : Int)] :: (law44_head_s3))
noncomputable def law44_head_s9  : Int :=
  inquiry_Gaps_1 (law44_log_1 (0 : Int) [[(10 : Int), (1 : Int), (7 : Int)]]) (50 : Int) (5 : Int) (law44_log_0 (0 : Int) [[(10 : Int), (1 : Int), (7 : Int)]])
  [(law44_head_s1), [law44_log_1 (2 : Int) [], encL (law44_log_0 (2 : Int) [])], [law44_log_1 (3 : Int) ((law44_head_s0)), encL (law44_log_0 (3 : Int) ((law44_head_s0)))]]
  ([(1 : Int), (7 : Int), (10 : Int)] :: [(2 : Int), (7 : Int), (10 : Int)] :: (law44_head_s3))
noncomputable def law44_head_s10  : Int :=
  inquiry_Explain_2 (law44_log_1 (0 : Int) [[(10 : Int), (1 : Int), (7 : Int)]]) (50 : Int) (5 : Int) (law44_log_0 (0 : Int) [[(10 : Int), (1 : Int), (7 : Int)]])
  [(law44_head_s1), [law44_log_1 (2 : Int) [], encL (law44_log_0 (2 : Int) [])], [law44_log_1 (3 : Int) ((law44_head_s0)), encL (law44_log_0 (3 : Int) ((law44_head_s0)))]]
  ([(1 : Int), (7 : Int), (10 : Int)] :: [(2 : Int), (7 : Int), (10 : Int)] :: (law44_head_s3))
noncomputable def law44_head_s11  : Int :=
  inquiry_Verify_1 (law44_log_1 (0 : Int) [[(10 : Int), (1 : Int), (7 : Int)]]) (50 : Int) (5 : Int) (law44_log_0 (0 : Int) [[(10 : Int), (1 : Int), (7 : Int)]])
  [(law44_head_s1), [law44_log_1 (2 : Int) [], encL (law44_log_0 (2 : Int) [])], [law44_log_1 (3 : Int) ((law44_head_s0)), encL (law44_log_0 (3 : Int) ((law44_head_s0)))]]
  ([(1 : Int), (7 : Int), (10 : Int)] :: [(2 : Int), (7 : Int), (10 : Int)] :: (law44_head_s3)) ((law44_head_s5)) ((law44_head_s6))
noncomputable def law44_head_s12  : List (List Int) :=
  inquiry_Could_0 (law44_log_1 (0 : Int) [[(10 : Int), (1 : Int), (7 : Int)]]) (((law44_head_s2)).getD 0 (0 : Int)) (10 : Int) (law44_log_0 (0 : Int) [[(10 : Int), (1 : Int), (7 : Int)]])
  (decL (((law44_head_s2)).getD 1 (0 : Int))) ([(1 : Int), (7 : Int), (10 : Int)] :: [(2 : Int), (7 : Int), (10 : Int)] :: (law44_head_s3))
noncomputable def law44_head_s13  : List (List Int) :=
  inquiry_Could_0 (law44_log_1 (0 : Int) [[(10 : Int), (1 : Int), (7 : Int)]]) (((law44_head_s4)).getD 0 (0 : Int)) (10 : Int) (law44_log_0 (0 : Int) [[(10 : Int), (1 : Int), (7 : Int)]])
  (decL (((law44_head_s4)).getD 1 (0 : Int))) ([(1 : Int), (7 : Int), (10 : Int)] :: [(2 : Int), (7 : Int), (10 : Int)] :: (law44_head_s3))
noncomputable def law44_head_s14  : List (List Int) :=
  inquiry_Gaps_0 (law44_log_1 (0 : Int) [[(10 : Int), (1 : Int), (7 : Int)]]) (50 : Int) (5 : Int) (law44_log_0 (0 : Int) [[(10 : Int), (1 : Int), (7 : Int)]])
  [(law44_head_s1), [law44_log_1 (2 : Int) [], encL (law44_log_0 (2 : Int) [])], [law44_log_1 (3 : Int) ((law44_head_s0)), encL (law44_log_0 (3 : Int) ((law44_head_s0)))]]
  ([(1 : Int), (7 : Int), (10 : Int)] :: [(2 : Int), (7 : Int), (10 : Int)] :: (law44_head_s3))
noncomputable def law44_head_s15  : List (List Int) :=
  [[(2 : Int), (7 : Int)], [(2 : Int), (9 : Int)], [(3 : Int), (7 : Int)], [(3 : Int), (9 : Int)]]
noncomputable def law44_head_s16  : List (List Int) :=
  [[(1 : Int), (0 : Int), (9 : Int)], [(2 : Int), (2 : Int), (0 : Int)], [(2 : Int), (3 : Int), (0 : Int)]]
noncomputable def law44_head_0  : Bool :=
  bif
    ((law44_head_s7) == (0 : Int) && (law44_head_s8) == (0 : Int) && (law44_head_s9) == (0 : Int) && (law44_head_s10) == (0 : Int) && (law44_head_s11) == (0 : Int) &&
          inquiry_Shown_1 (((law44_head_s2)).getD 0 (0 : Int)) (12 : Int) (decL (((law44_head_s2)).getD 1 (0 : Int))) == (0 : Int) &&
        inquiry_Verify_0 (law44_log_1 (0 : Int) [[(10 : Int), (1 : Int), (7 : Int)]]) (50 : Int) (5 : Int) (law44_log_0 (0 : Int) [[(10 : Int), (1 : Int), (7 : Int)]])
          [(law44_head_s1), [law44_log_1 (2 : Int) [], encL (law44_log_0 (2 : Int) [])], [law44_log_1 (3 : Int) ((law44_head_s0)), encL (law44_log_0 (3 : Int) ((law44_head_s0)))]]
          ([(1 : Int), (7 : Int), (10 : Int)] :: [(2 : Int), (7 : Int), (10 : Int)] :: (law44_head_s3)) ((law44_head_s5)) ((law44_head_s6))) ==
      true then
  bif (ref08_Ints_0 ((law44_head_s12)) [[(7 : Int)]] && (↑((law44_head_s13)).length : Int) == (0 : Int)) == true then
    bif ref08_Ints_0 (inquiry_Shown_0 (((law44_head_s2)).getD 0 (0 : Int)) (12 : Int) (decL (((law44_head_s2)).getD 1 (0 : Int)))) [[(7 : Int)]] == true then
      bif ref44_SameGaps_0 ((law44_head_s14)) ((law44_head_s15)) == true then
        bif ref44_SameOmissions_0 ((law44_head_s5)) ((law44_head_s16)) == true then
          bif ref44_SameGaps_0 ((law44_head_s6)) [[(2 : Int), (7 : Int)], [(3 : Int), (7 : Int)], [(3 : Int), (9 : Int)]] == true then
            inquiry_Valid_0 (((law44_head_s4)).getD 0 (0 : Int)) (decL (((law44_head_s4)).getD 1 (0 : Int)))
          else false
        else false
      else false
    else false
  else false
else false
def law44_head_pre  : Prop :=
  (((law44_log_pre (1 : Int) [[(12 : Int), (3 : Int), (7 : Int)]]) ∧ ((law44_log_pre (2 : Int) []) ∧ ((law44_log_pre (3 : Int) ((law44_head_s0))) ∧ (law44_log_pre (0 : Int) [[(10 : Int), (1 : Int), (7 : Int)]])))) ∧ ((inR (0 : Int) [(law44_head_s1), [law44_log_1 (2 : Int) [], encL (law44_log_0 (2 : Int) [])], [law44_log_1 (3 : Int) ((law44_head_s0)), encL (law44_log_0 (3 : Int) ((law44_head_s0)))]]) ∧ ((inR (0 : Int) [(law44_head_s1), [law44_log_1 (2 : Int) [], encL (law44_log_0 (2 : Int) [])], [law44_log_1 (3 : Int) ((law44_head_s0)), encL (law44_log_0 (3 : Int) ((law44_head_s0)))]]) ∧ ((inquiry_Could_pre (law44_log_1 (0 : Int) [[(10 : Int), (1 : Int), (7 : Int)]]) (((law44_head_s2)).getD 0 (0 : Int)) (10 : Int) (law44_log_0 (0 : Int) [[(10 : Int), (1 : Int), (7 : Int)]])
  (decL (((law44_head_s2)).getD 1 (0 : Int))) ([(1 : Int), (7 : Int), (10 : Int)] :: [(2 : Int), (7 : Int), (10 : Int)] :: (law44_head_s3))) ∧ ((inR (2 : Int) [(law44_head_s1), [law44_log_1 (2 : Int) [], encL (law44_log_0 (2 : Int) [])], [law44_log_1 (3 : Int) ((law44_head_s0)), encL (law44_log_0 (3 : Int) ((law44_head_s0)))]]) ∧ ((inR (2 : Int) [(law44_head_s1), [law44_log_1 (2 : Int) [], encL (law44_log_0 (2 : Int) [])], [law44_log_1 (3 : Int) ((law44_head_s0)), encL (law44_log_0 (3 : Int) ((law44_head_s0)))]]) ∧ ((inquiry_Could_pre (law44_log_1 (0 : Int) [[(10 : Int), (1 : Int), (7 : Int)]]) (((law44_head_s4)).getD 0 (0 : Int)) (10 : Int) (law44_log_0 (0 : Int) [[(10 : Int), (1 : Int), (7 : Int)]])
  (decL (((law44_head_s4)).getD 1 (0 : Int))) ([(1 : Int), (7 : Int), (10 : Int)] :: [(2 : Int), (7 : Int), (10 : Int)] :: (law44_head_s3))) ∧ ((inquiry_Gaps_pre (law44_log_1 (0 : Int) [[(10 : Int), (1 : Int), (7 : Int)]]) (50 : Int) (5 : Int) (law44_log_0 (0 : Int) [[(10 : Int), (1 : Int), (7 : Int)]])
  [(law44_head_s1), [law44_log_1 (2 : Int) [], encL (law44_log_0 (2 : Int) [])], [law44_log_1 (3 : Int) ((law44_head_s0)), encL (law44_log_0 (3 : Int) ((law44_head_s0)))]]
  ([(1 : Int), (7 : Int), (10 : Int)] :: [(2 : Int), (7 : Int), (10 : Int)] :: (law44_head_s3))) ∧ ((inquiry_Explain_pre (law44_log_1 (0 : Int) [[(10 : Int), (1 : Int), (7 : Int)]]) (50 : Int) (5 : Int) (law44_log_0 (0 : Int) [[(10 : Int), (1 : Int), (7 : Int)]])
  [(law44_head_s1), [law44_log_1 (2 : Int) [], encL (law44_log_0 (2 : Int) [])], [law44_log_1 (3 : Int) ((law44_head_s0)), encL (law44_log_0 (3 : Int) ((law44_head_s0)))]]
  ([(1 : Int), (7 : Int), (10 : Int)] :: [(2 : Int), (7 : Int), (10 : Int)] :: (law44_head_s3))) ∧ ((inquiry_Verify_pre (law44_log_1 (0 : Int) [[(10 : Int), (1 : Int), (7 : Int)]]) (50 : Int) (5 : Int) (law44_log_0 (0 : Int) [[(10 : Int), (1 : Int), (7 : Int)]])
  [(law44_head_s1), [law44_log_1 (2 : Int) [], encL (law44_log_0 (2 : Int) [])], [law44_log_1 (3 : Int) ((law44_head_s0)), encL (law44_log_0 (3 : Int) ((law44_head_s0)))]]
  ([(1 : Int), (7 : Int), (10 : Int)] :: [(2 : Int), (7 : Int), (10 : Int)] :: (law44_head_s3)) ((law44_head_s5)) ((law44_head_s6))) ∧ ((inR (0 : Int) [(law44_head_s1), [law44_log_1 (2 : Int) [], encL (law44_log_0 (2 : Int) [])], [law44_log_1 (3 : Int) ((law44_head_s0)), encL (law44_log_0 (3 : Int) ((law44_head_s0)))]]) ∧ ((inR (0 : Int) [(law44_head_s1), [law44_log_1 (2 : Int) [], encL (law44_log_0 (2 : Int) [])], [law44_log_1 (3 : Int) ((law44_head_s0)), encL (law44_log_0 (3 : Int) ((law44_head_s0)))]]) ∧ ((inquiry_Shown_pre (((law44_head_s2)).getD 0 (0 : Int)) (12 : Int) (decL (((law44_head_s2)).getD 1 (0 : Int)))) ∧ (((((law44_head_s7) == (0 : Int) && (law44_head_s8) == (0 : Int) && (law44_head_s9) == (0 : Int) && (law44_head_s10) == (0 : Int) && (law44_head_s11) == (0 : Int) &&
        inquiry_Shown_1 (((law44_head_s2)).getD 0 (0 : Int)) (12 : Int) (decL (((law44_head_s2)).getD 1 (0 : Int))) == (0 : Int) &&
      inquiry_Verify_0 (law44_log_1 (0 : Int) [[(10 : Int), (1 : Int), (7 : Int)]]) (50 : Int) (5 : Int) (law44_log_0 (0 : Int) [[(10 : Int), (1 : Int), (7 : Int)]])
        [(law44_head_s1), [law44_log_1 (2 : Int) [], encL (law44_log_0 (2 : Int) [])], [law44_log_1 (3 : Int) ((law44_head_s0)), encL (law44_log_0 (3 : Int) ((law44_head_s0)))]]
        ([(1 : Int), (7 : Int), (10 : Int)] :: [(2 : Int), (7 : Int), (10 : Int)] :: (law44_head_s3)) ((law44_head_s5)) ((law44_head_s6))) ==
    true) =
  true) → ((ref08_Ints_pre ((law44_head_s12)) [[(7 : Int)]]) ∧ ((((ref08_Ints_0 ((law44_head_s12)) [[(7 : Int)]] && (↑((law44_head_s13)).length : Int) == (0 : Int)) == true) = true) → ((ref08_Ints_pre (inquiry_Shown_0 (((law44_head_s2)).getD 0 (0 : Int)) (12 : Int) (decL (((law44_head_s2)).getD 1 (0 : Int)))) [[(7 : Int)]]) ∧ (((ref08_Ints_0 (inquiry_Shown_0 (((law44_head_s2)).getD 0 (0 : Int)) (12 : Int) (decL (((law44_head_s2)).getD 1 (0 : Int)))) [[(7 : Int)]] == true) = true) → ((ref44_SameGaps_pre ((law44_head_s14)) ((law44_head_s15))) ∧ (((ref44_SameGaps_0 ((law44_head_s14)) ((law44_head_s15)) == true) = true) → ((ref44_SameOmissions_pre ((law44_head_s5)) ((law44_head_s16))) ∧ (((ref44_SameOmissions_0 ((law44_head_s5)) ((law44_head_s16)) == true) = true) → ((ref44_SameGaps_pre ((law44_head_s6)) [[(2 : Int), (7 : Int)], [(3 : Int), (7 : Int)], [(3 : Int), (9 : Int)]]) ∧ (((ref44_SameGaps_0 ((law44_head_s6)) [[(2 : Int), (7 : Int)], [(3 : Int), (7 : Int)], [(3 : Int), (9 : Int)]] = true) → (inR (2 : Int) [(law44_head_s1), [law44_log_1 (2 : Int) [], encL (law44_log_0 (2 : Int) [])], [law44_log_1 (3 : Int) ((law44_head_s0)), encL (law44_log_0 (3 : Int) ((law44_head_s0)))]])) ∧ (((ref44_SameGaps_0 ((law44_head_s6)) [[(2 : Int), (7 : Int)], [(3 : Int), (7 : Int)], [(3 : Int), (9 : Int)]] == true) = true) → ((inR (2 : Int) [(law44_head_s1), [law44_log_1 (2 : Int) [], encL (law44_log_0 (2 : Int) [])], [law44_log_1 (3 : Int) ((law44_head_s0)), encL (law44_log_0 (3 : Int) ((law44_head_s0)))]]) ∧ (inquiry_Valid_pre (((law44_head_s4)).getD 0 (0 : Int)) (decL (((law44_head_s4)).getD 1 (0 : Int))))))))))))))))))))))))))))))
end Go.Proofs.YtikhnofbbcmpeaaGreat
set_option maxRecDepth 100000
set_option linter.unusedVariables false
namespace Go.Proofs.YtikhnofbbcmpeaaGreat
open Go Go.Sy
theorem ref08_Ints_col (a b : List (List Int)) : collapse Tryz.prog 2 (execFn Tryz.prog K34 noSeq 9 37 [.sl 0, .sl 1] ⟨[⟨0, 2, false, .row 3 [.int .i64] a⟩, ⟨1, 2, false, .row 3 [.int .i64] b⟩], 2⟩) = some ⟨some (ref08_Ints_pre a b), [], 0, [], .bool (ref08_Ints_0 a b)⟩ := by kernel_rfl
noncomputable def ref08_Ints_eff : List U → Option Eff
  | [.r a, .r b] => some ⟨some (ref08_Ints_pre a b), [], 0, [], .bool (ref08_Ints_0 a b)⟩
  | _ => Option.none
noncomputable def K35 : Con := ext Tryz.prog K34 37 [.sl 0, .sl 1] [⟨0, 0, false, .row 3 [.int .i64] []⟩, ⟨1, 0, false, .row 3 [.int .i64] []⟩] ref08_Ints_eff
theorem K35_ok : ConOk Tryz.prog K35 := conOk_ext noSeq_ok K34_ok (n := 9) rfl rfl fun us x h => by
  unfold ref08_Ints_eff at h
  split at h
  · cases h; exact ⟨some (ref08_Ints_pre _ _), ref08_Ints_col _ _, fun h => h⟩
  · cases h
theorem ref44_SameGaps_col (a b : List (List Int)) : collapse Tryz.prog 2 (execFn Tryz.prog K35 noSeq 9 30 [.sl 0, .sl 1] ⟨[⟨0, 2, false, .row 52 [.int .i64, .int .i64] a⟩, ⟨1, 2, false, .row 52 [.int .i64, .int .i64] b⟩], 2⟩) = some ⟨some (ref44_SameGaps_pre a b), [], 0, [], .bool (ref44_SameGaps_0 a b)⟩ := by kernel_rfl
noncomputable def ref44_SameGaps_eff : List U → Option Eff
  | [.r a, .r b] => some ⟨some (ref44_SameGaps_pre a b), [], 0, [], .bool (ref44_SameGaps_0 a b)⟩
  | _ => Option.none
noncomputable def K36 : Con := ext Tryz.prog K35 30 [.sl 0, .sl 1] [⟨0, 0, false, .row 52 [.int .i64, .int .i64] []⟩, ⟨1, 0, false, .row 52 [.int .i64, .int .i64] []⟩] ref44_SameGaps_eff
theorem K36_ok : ConOk Tryz.prog K36 := conOk_ext noSeq_ok K35_ok (n := 9) rfl rfl fun us x h => by
  unfold ref44_SameGaps_eff at h
  split at h
  · cases h; exact ⟨some (ref44_SameGaps_pre _ _), ref44_SameGaps_col _ _, fun h => h⟩
  · cases h
theorem ref44_SameOmissions_col (a b : List (List Int)) : collapse Tryz.prog 2 (execFn Tryz.prog K36 noSeq 9 41 [.sl 0, .sl 1] ⟨[⟨0, 2, false, .row 80 [.int .i64, .int .i64, .int .i64] a⟩, ⟨1, 2, false, .row 80 [.int .i64, .int .i64, .int .i64] b⟩], 2⟩) = some ⟨some (ref44_SameOmissions_pre a b), [], 0, [], .bool (ref44_SameOmissions_0 a b)⟩ := by kernel_rfl
noncomputable def ref44_SameOmissions_eff : List U → Option Eff
  | [.r a, .r b] => some ⟨some (ref44_SameOmissions_pre a b), [], 0, [], .bool (ref44_SameOmissions_0 a b)⟩
  | _ => Option.none
noncomputable def K37 : Con := ext Tryz.prog K36 41 [.sl 0, .sl 1] [⟨0, 0, false, .row 80 [.int .i64, .int .i64, .int .i64] []⟩, ⟨1, 0, false, .row 80 [.int .i64, .int .i64, .int .i64] []⟩] ref44_SameOmissions_eff
theorem K37_ok : ConOk Tryz.prog K37 := conOk_ext noSeq_ok K36_ok (n := 9) rfl rfl fun us x h => by
  unfold ref44_SameOmissions_eff at h
  split at h
  · cases h; exact ⟨some (ref44_SameOmissions_pre _ _), ref44_SameOmissions_col _ _, fun h => h⟩
  · cases h
theorem law44_log_col (owner : Int) (lines : List (List Int)) : collapse Tryz.prog 1 (execFn Tryz.prog K37 noSeq 9 86 [.int .i64 owner, .sl 0] ⟨[⟨0, 1, false, .row 127 [.int .i64, .int .i64, .int .i64] lines⟩], 1⟩) = some ⟨some (law44_log_pre owner lines), [], 1, [⟨1, 1, true, .row 29 [.int .i64, .int .i64, .int .i64, .int .u64] (law44_log_0 owner lines)⟩], .agg [.int .i64 (law44_log_1 owner lines), .sl 1]⟩ := by kernel_rfl
noncomputable def law44_log_eff : List U → Option Eff
  | [.i owner, .r lines] => some ⟨some (law44_log_pre owner lines), [], 1, [⟨1, 1, true, .row 29 [.int .i64, .int .i64, .int .i64, .int .u64] (law44_log_0 owner lines)⟩], .agg [.int .i64 (law44_log_1 owner lines), .sl 1]⟩
  | _ => Option.none
noncomputable def K38 : Con := ext Tryz.prog K37 86 [.int .i64 0, .sl 0] [⟨0, 0, false, .row 127 [.int .i64, .int .i64, .int .i64] []⟩] law44_log_eff
theorem K38_ok : ConOk Tryz.prog K38 := conOk_ext noSeq_ok K37_ok (n := 9) rfl rfl fun us x h => by
  unfold law44_log_eff at h
  split at h
  · cases h; exact ⟨some (law44_log_pre _ _), law44_log_col _ _, fun h => h⟩
  · cases h
theorem law44_head_col  : collapse Tryz.prog 0 (execFn Tryz.prog K38 noSeq 9 12 [] ⟨[], 0⟩) = some ⟨some (law44_head_pre), [], 0, [], .bool (law44_head_0)⟩ := by kernel_rfl
noncomputable def law44_head_eff : List U → Option Eff
  | [] => some ⟨some (law44_head_pre), [], 0, [], .bool (law44_head_0)⟩
  | _ => Option.none
noncomputable def K39 : Con := ext Tryz.prog K38 12 [] [] law44_head_eff
theorem K39_ok : ConOk Tryz.prog K39 := conOk_ext noSeq_ok K38_ok (n := 9) rfl rfl fun us x h => by
  unfold law44_head_eff at h
  split at h
  · cases h; exact ⟨some (law44_head_pre), law44_head_col, fun h => h⟩
  · cases h
end Go.Proofs.YtikhnofbbcmpeaaGreat
set_option maxRecDepth 100000
set_option linter.unusedVariables false
namespace Go.Proofs.YtikhnofbbcmpeaaGreat
open Go Go.Sy
noncomputable def ref44_Off_l0_init (l_Owner time : Int) (l_Lines : List (List Int)) : List U :=
  [.b (false), .i ((0 : Int))]
noncomputable def ref44_Off_l0_step (l_Owner time : Int) (l_Lines : List (List Int)) (y0 : List U) : Option (Nat × List U) :=
  (bif decide (gi y0 1 < (↑l_Lines.length : Int)) then guardP (inR (gi y0 1) l_Lines) (guardP (inR (gi y0 1) l_Lines) (guardP (inR (gi y0 1) l_Lines) (guardP ((decide ((l_Lines.getD (gi y0 1).toNat []).getD 0 (0 : Int) ≤ time) = true) → (inR (gi y0 1) l_Lines)) (guardP ((decide ((l_Lines.getD (gi y0 1).toNat []).getD 0 (0 : Int) ≤ time) = true) → (inR (gi y0 1) l_Lines)) (guardP ((decide ((l_Lines.getD (gi y0 1).toNat []).getD 0 (0 : Int) ≤ time) = true) → (inR (gi y0 1) l_Lines)) (guardP ((decide ((l_Lines.getD (gi y0 1).toNat []).getD 0 (0 : Int) ≤ time) = true) → ((((l_Lines.getD (gi y0 1).toNat []).getD 1 (0 : Int) == (4 : Int)) = false) → (inR (gi y0 1) l_Lines))) (guardP ((decide ((l_Lines.getD (gi y0 1).toNat []).getD 0 (0 : Int) ≤ time) = true) → ((((l_Lines.getD (gi y0 1).toNat []).getD 1 (0 : Int) == (4 : Int)) = false) → (inR (gi y0 1) l_Lines))) (guardP ((decide ((l_Lines.getD (gi y0 1).toNat []).getD 0 (0 : Int) ≤ time) = true) → ((((l_Lines.getD (gi y0 1).toNat []).getD 1 (0 : Int) == (4 : Int)) = false) → (inR (gi y0 1) l_Lines))) ((bif decide ((l_Lines.getD (gi y0 1).toNat []).getD 0 (0 : Int) ≤ time) &&
  ((l_Lines.getD (gi y0 1).toNat []).getD 1 (0 : Int) == (4 : Int) || (l_Lines.getD (gi y0 1).toNat []).getD 1 (0 : Int) == (5 : Int)) then guardP (inR (gi y0 1) l_Lines) (guardP (inR (gi y0 1) l_Lines) (guardP (inR (gi y0 1) l_Lines) (some (0, [.b ((l_Lines.getD (gi y0 1).toNat []).getD 1 (0 : Int) == (4 : Int)), .i (IntKind.i64.wrap (gi y0 1 + (1 : Int)))])))) else some (0, [.b (gb y0 0), .i (IntKind.i64.wrap (gi y0 1 + (1 : Int)))]))))))))))) else some (3, [.b (gb y0 0), .i (gi y0 1)]))
noncomputable def ref44_Off_l0 (l_Owner time : Int) (l_Lines : List (List Int)) : Nat × List U := loopGet (ref44_Off_l0_step l_Owner time l_Lines) (ref44_Off_l0_init l_Owner time l_Lines)
noncomputable def ref44_Off_0 (l_Owner time : Int) (l_Lines : List (List Int)) : Bool :=
  gb (ref44_Off_l0 l_Owner time l_Lines).snd 0
def ref44_Off_pre (l_Owner time : Int) (l_Lines : List (List Int)) : Prop :=
  ((loopOk (ref44_Off_l0_step l_Owner time l_Lines) (ref44_Off_l0_init l_Owner time l_Lines)))
noncomputable def ref44_Has_l0_init (l_Owner kind item from_ until_ : Int) (l_Lines : List (List Int)) : List U :=
  [.b (false), .i ((0 : Int))]
noncomputable def ref44_Has_l0_step (l_Owner kind item from_ until_ : Int) (l_Lines : List (List Int)) (y0 : List U) : Option (Nat × List U) :=
  (bif decide (gi y0 1 < (↑l_Lines.length : Int)) then guardP (inR (gi y0 1) l_Lines) (guardP (inR (gi y0 1) l_Lines) ((bif (l_Lines.getD (gi y0 1).toNat []).getD 1 (0 : Int) == kind && (l_Lines.getD (gi y0 1).toNat []).getD 2 (0 : Int) == item &&
    decide (from_ ≤ (l_Lines.getD (gi y0 1).toNat []).getD 0 (0 : Int)) &&
  decide ((l_Lines.getD (gi y0 1).toNat []).getD 0 (0 : Int) ≤ until_) then some (1, []) else some (0, [.b (gb y0 0), .i (IntKind.i64.wrap (gi y0 1 + (1 : Int)))])))) else some (3, [.b (gb y0 0), .i (gi y0 1)]))
noncomputable def ref44_Has_l0 (l_Owner kind item from_ until_ : Int) (l_Lines : List (List Int)) : Nat × List U := loopGet (ref44_Has_l0_step l_Owner kind item from_ until_ l_Lines) (ref44_Has_l0_init l_Owner kind item from_ until_ l_Lines)
noncomputable def ref44_Has_0 (l_Owner kind item from_ until_ : Int) (l_Lines : List (List Int)) : Bool :=
  bif (ref44_Has_l0 l_Owner kind item from_ until_ l_Lines).fst.beq 1 then true else false
def ref44_Has_pre (l_Owner kind item from_ until_ : Int) (l_Lines : List (List Int)) : Prop :=
  ((loopOk (ref44_Has_l0_step l_Owner kind item from_ until_ l_Lines) (ref44_Has_l0_init l_Owner kind item from_ until_ l_Lines)))
noncomputable def law44_has_l0_init (n : Int) (list : List (List Int)) : List U :=
  [.b (false), .i ((0 : Int))]
noncomputable def law44_has_l0_step (n : Int) (list : List (List Int)) (y0 : List U) : Option (Nat × List U) :=
  (bif decide (gi y0 1 < (↑list.length : Int)) then guardP (inR (gi y0 1) list) (guardP (inR (gi y0 1) list) ((bif (list.getD (gi y0 1).toNat []).getD 0 (0 : Int) == n then some (1, []) else some (0, [.b (gb y0 0), .i (IntKind.i64.wrap (gi y0 1 + (1 : Int)))])))) else some (3, [.b (gb y0 0), .i (gi y0 1)]))
noncomputable def law44_has_l0 (n : Int) (list : List (List Int)) : Nat × List U := loopGet (law44_has_l0_step n list) (law44_has_l0_init n list)
noncomputable def law44_has_0 (n : Int) (list : List (List Int)) : Bool :=
  bif (law44_has_l0 n list).fst.beq 1 then true else false
def law44_has_pre (n : Int) (list : List (List Int)) : Prop :=
  ((loopOk (law44_has_l0_step n list) (law44_has_l0_init n list)))
end Go.Proofs.YtikhnofbbcmpeaaGreat
set_option maxRecDepth 100000
set_option linter.unusedVariables false
namespace Go.Proofs.YtikhnofbbcmpeaaGreat
open Go Go.Sy
theorem ref44_Off_col (l_Owner time : Int) (l_Lines : List (List Int)) : collapse Tryz.prog 1 (execFn Tryz.prog K39 noSeq 9 19 [.agg [.int .i64 l_Owner, .sl 0], .int .i64 time] ⟨[⟨0, 1, false, .row 29 [.int .i64, .int .i64, .int .i64, .int .u64] l_Lines⟩], 1⟩) = some ⟨some (ref44_Off_pre l_Owner time l_Lines), [], 0, [], .bool (ref44_Off_0 l_Owner time l_Lines)⟩ := by kernel_rfl
noncomputable def ref44_Off_eff : List U → Option Eff
  | [.i l_Owner, .i time, .r l_Lines] => some ⟨some (ref44_Off_pre l_Owner time l_Lines), [], 0, [], .bool (ref44_Off_0 l_Owner time l_Lines)⟩
  | _ => Option.none
noncomputable def K40 : Con := ext Tryz.prog K39 19 [.agg [.int .i64 0, .sl 0], .int .i64 0] [⟨0, 0, false, .row 29 [.int .i64, .int .i64, .int .i64, .int .u64] []⟩] ref44_Off_eff
theorem K40_ok : ConOk Tryz.prog K40 := conOk_ext noSeq_ok K39_ok (n := 9) rfl rfl fun us x h => by
  unfold ref44_Off_eff at h
  split at h
  · cases h; exact ⟨some (ref44_Off_pre _ _ _), ref44_Off_col _ _ _, fun h => h⟩
  · cases h
theorem ref44_Has_col (l_Owner kind item from_ until_ : Int) (l_Lines : List (List Int)) : collapse Tryz.prog 1 (execFn Tryz.prog K40 noSeq 9 20 [.agg [.int .i64 l_Owner, .sl 0], .int .i64 kind, .int .i64 item, .int .i64 from_, .int .i64 until_] ⟨[⟨0, 1, false, .row 29 [.int .i64, .int .i64, .int .i64, .int .u64] l_Lines⟩], 1⟩) = some ⟨some (ref44_Has_pre l_Owner kind item from_ until_ l_Lines), [], 0, [], .bool (ref44_Has_0 l_Owner kind item from_ until_ l_Lines)⟩ := by kernel_rfl
noncomputable def ref44_Has_eff : List U → Option Eff
  | [.i l_Owner, .i kind, .i item, .i from_, .i until_, .r l_Lines] => some ⟨some (ref44_Has_pre l_Owner kind item from_ until_ l_Lines), [], 0, [], .bool (ref44_Has_0 l_Owner kind item from_ until_ l_Lines)⟩
  | _ => Option.none
noncomputable def K41 : Con := ext Tryz.prog K40 20 [.agg [.int .i64 0, .sl 0], .int .i64 0, .int .i64 0, .int .i64 0, .int .i64 0] [⟨0, 0, false, .row 29 [.int .i64, .int .i64, .int .i64, .int .u64] []⟩] ref44_Has_eff
theorem K41_ok : ConOk Tryz.prog K41 := conOk_ext noSeq_ok K40_ok (n := 9) rfl rfl fun us x h => by
  unfold ref44_Has_eff at h
  split at h
  · cases h; exact ⟨some (ref44_Has_pre _ _ _ _ _ _), ref44_Has_col _ _ _ _ _ _, fun h => h⟩
  · cases h
theorem law44_has_col (n : Int) (list : List (List Int)) : collapse Tryz.prog 1 (execFn Tryz.prog K41 noSeq 9 18 [.sl 0, .int .i64 n] ⟨[⟨0, 1, false, .row 3 [.int .i64] list⟩], 1⟩) = some ⟨some (law44_has_pre n list), [], 0, [], .bool (law44_has_0 n list)⟩ := by kernel_rfl
noncomputable def law44_has_eff : List U → Option Eff
  | [.i n, .r list] => some ⟨some (law44_has_pre n list), [], 0, [], .bool (law44_has_0 n list)⟩
  | _ => Option.none
noncomputable def K42 : Con := ext Tryz.prog K41 18 [.sl 0, .int .i64 0] [⟨0, 0, false, .row 3 [.int .i64] []⟩] law44_has_eff
theorem K42_ok : ConOk Tryz.prog K42 := conOk_ext noSeq_ok K41_ok (n := 9) rfl rfl fun us x h => by
  unfold law44_has_eff at h
  split at h
  · cases h; exact ⟨some (law44_has_pre _ _), law44_has_col _ _, fun h => h⟩
  · cases h
end Go.Proofs.YtikhnofbbcmpeaaGreat
set_option maxRecDepth 100000
set_option linter.unusedVariables false
namespace Go.Proofs.YtikhnofbbcmpeaaGreat
open Go Go.Sy
noncomputable def ref44_Few_l0_init (office_Owner : Int) (office_Lines ships chances : List (List Int)) : List U :=
  [.b (false), .i ((0 : Int))]
noncomputable def ref44_Few_l0_step (office_Owner : Int) (office_Lines ships chances : List (List Int)) (y0 : List U) : Option (Nat × List U) :=
  (bif decide (gi y0 1 < (↑ships.length : Int)) then guardP (inR (gi y0 1) ships) (guardP (inR (gi y0 1) ships) (guardP (inR (gi y0 1) ships) (guardP ((decide ((↑(decL ((ships.getD (gi y0 1).toNat []).getD 1 (0 : Int))).length : Int) > (40 : Int)) = true) → (inR (gi y0 1) ships)) (guardP ((decide ((↑(decL ((ships.getD (gi y0 1).toNat []).getD 1 (0 : Int))).length : Int) > (40 : Int)) = true) → (inR (gi y0 1) ships)) ((bif decide ((↑(decL ((ships.getD (gi y0 1).toNat []).getD 1 (0 : Int))).length : Int) > (40 : Int)) == true then guardP (inR (gi y0 1) ships) ((bif decide ((↑(decL ((ships.getD (gi y0 1).toNat []).getD 1 (0 : Int))).length : Int) ≤ (200 : Int)) then some (1, []) else some (0, [.b (gb y0 0), .i (IntKind.i64.wrap (gi y0 1 + (1 : Int)))]))) else some (0, [.b (gb y0 0), .i (IntKind.i64.wrap (gi y0 1 + (1 : Int)))]))))))) else some (4, [.b (gb y0 0), .i (gi y0 1)]))
noncomputable def ref44_Few_l0 (office_Owner : Int) (office_Lines ships chances : List (List Int)) : Nat × List U := loopGet (ref44_Few_l0_step office_Owner office_Lines ships chances) (ref44_Few_l0_init office_Owner office_Lines ships chances)
noncomputable def ref44_Few_0 (office_Owner : Int) (office_Lines ships chances : List (List Int)) : Bool :=
  bif
    decide ((↑chances.length : Int) > (16 : Int)) && decide ((↑chances.length : Int) ≤ (200 : Int)) || decide ((↑ships.length : Int) > (20 : Int)) ||
      decide ((↑office_Lines.length : Int) > (40 : Int)) && decide ((↑office_Lines.length : Int) ≤ (200 : Int)) then
  false
else bif (ref44_Few_l0 office_Owner office_Lines ships chances).fst.beq 1 then false else true
def ref44_Few_pre (office_Owner : Int) (office_Lines ships chances : List (List Int)) : Prop :=
  (((decide ((↑chances.length : Int) > (16 : Int)) && decide ((↑chances.length : Int) ≤ (200 : Int)) || decide ((↑ships.length : Int) > (20 : Int)) ||
    decide ((↑office_Lines.length : Int) > (40 : Int)) && decide ((↑office_Lines.length : Int) ≤ (200 : Int))) =
  false) → ((loopOk (ref44_Few_l0_step office_Owner office_Lines ships chances) (ref44_Few_l0_init office_Owner office_Lines ships chances))))
end Go.Proofs.YtikhnofbbcmpeaaGreat
set_option maxRecDepth 100000
set_option linter.unusedVariables false
namespace Go.Proofs.YtikhnofbbcmpeaaGreat
open Go Go.Sy
theorem ref44_Few_col (office_Owner : Int) (office_Lines ships chances : List (List Int)) : collapse Tryz.prog 3 (execFn Tryz.prog K42 noSeq 9 21 [.agg [.int .i64 office_Owner, .sl 0], .sl 1, .sl 2] ⟨[⟨0, 3, false, .row 29 [.int .i64, .int .i64, .int .i64, .int .u64] office_Lines⟩, ⟨1, 3, false, .nst 24 [.c (.int .i64), .s 29 [.int .i64, .int .i64, .int .i64, .int .u64]] ships⟩, ⟨2, 3, false, .row 41 [.int .i64, .int .i64, .int .i64] chances⟩], 3⟩) = some ⟨some (ref44_Few_pre office_Owner office_Lines ships chances), [], 0, [], .bool (ref44_Few_0 office_Owner office_Lines ships chances)⟩ := by kernel_rfl
noncomputable def ref44_Few_eff : List U → Option Eff
  | [.i office_Owner, .r office_Lines, .r ships, .r chances] => some ⟨some (ref44_Few_pre office_Owner office_Lines ships chances), [], 0, [], .bool (ref44_Few_0 office_Owner office_Lines ships chances)⟩
  | _ => Option.none
noncomputable def K43 : Con := ext Tryz.prog K42 21 [.agg [.int .i64 0, .sl 0], .sl 1, .sl 2] [⟨0, 0, false, .row 29 [.int .i64, .int .i64, .int .i64, .int .u64] []⟩, ⟨1, 0, false, .nst 24 [.c (.int .i64), .s 29 [.int .i64, .int .i64, .int .i64, .int .u64]] []⟩, ⟨2, 0, false, .row 41 [.int .i64, .int .i64, .int .i64] []⟩] ref44_Few_eff
theorem K43_ok : ConOk Tryz.prog K43 := conOk_ext noSeq_ok K42_ok (n := 9) rfl rfl fun us x h => by
  unfold ref44_Few_eff at h
  split at h
  · cases h; exact ⟨some (ref44_Few_pre _ _ _ _), ref44_Few_col _ _ _ _, fun h => h⟩
  · cases h
end Go.Proofs.YtikhnofbbcmpeaaGreat
set_option maxRecDepth 100000
set_option linter.unusedVariables false
namespace Go.Proofs.YtikhnofbbcmpeaaGreat
open Go Go.Sy
noncomputable def law44_field_0 (x_Time x_Kind x_Item x_Sum which n : Int) : Int :=
  bif which.tmod (3 : Int) == (0 : Int) then n else bif which.tmod (3 : Int) == (1 : Int) then x_Time else x_Time
noncomputable def law44_field_1 (x_Time x_Kind x_Item x_Sum which n : Int) : Int :=
  bif which.tmod (3 : Int) == (0 : Int) then x_Kind else bif which.tmod (3 : Int) == (1 : Int) then n else x_Kind
noncomputable def law44_field_2 (x_Time x_Kind x_Item x_Sum which n : Int) : Int :=
  bif which.tmod (3 : Int) == (0 : Int) then x_Item else bif which.tmod (3 : Int) == (1 : Int) then x_Item else n
noncomputable def law44_field_3 (x_Time x_Kind x_Item x_Sum which n : Int) : Int :=
  bif which.tmod (3 : Int) == (0 : Int) then x_Sum else bif which.tmod (3 : Int) == (1 : Int) then x_Sum else x_Sum
def law44_field_pre (x_Time x_Kind x_Item x_Sum which n : Int) : Prop :=
  (((3 : Int) : Int) ≠ (0 : Int))
theorem law44_field_pre_ok (x_Time x_Kind x_Item x_Sum which n : Int) : law44_field_pre x_Time x_Kind x_Item x_Sum which n := by
  unfold law44_field_pre
  (first | (simp; done) | (simp; omega) | (simp [IntKind.wrap_i64]; done) | (simp [IntKind.wrap_i64]; omega))
noncomputable def law44_chained_s0 (l_Owner at_ x_Time x_Kind x_Item x_Sum : Int) (l_Lines : List (List Int)) : List (List Int) :=
  ([] ++ l_Lines).set at_.toNat (setEl 4 (([] ++ l_Lines).getD at_.toNat []) 0 [x_Time, x_Kind, x_Item, x_Sum])
noncomputable def law44_chained_s1 (l_Owner at_ x_Time x_Kind x_Item x_Sum : Int) (l_Lines : List (List Int)) (y0 : List U) : List (List Int) :=
  [[((gr y0 1).getD (gi y0 0).toNat []).getD 1 (0 : Int)], [((gr y0 1).getD (gi y0 0).toNat []).getD 2 (0 : Int)]]
noncomputable def law44_chained_s2 (l_Owner at_ x_Time x_Kind x_Item x_Sum : Int) (l_Lines : List (List Int)) (y0 : List U) : List (List Int) :=
  [IntKind.i64.wrap (((gr y0 1).getD (IntKind.i64.wrap (gi y0 0 - (1 : Int))).toNat []).getD 3 (0 : Int))] ::
  [((gr y0 1).getD (gi y0 0).toNat []).getD 0 (0 : Int)] :: (law44_chained_s1 l_Owner at_ x_Time x_Kind x_Item x_Sum l_Lines y0)
noncomputable def law44_chained_s3 (l_Owner at_ x_Time x_Kind x_Item x_Sum : Int) (l_Lines : List (List Int)) (y0 : List U) : List Int :=
  setEl 4 ((gr y0 1).getD (gi y0 0).toNat []) 3
  [codec_Digest_0 ([l_Owner] :: [IntKind.i64.wrap (0 : Int)] :: [((gr y0 1).getD (gi y0 0).toNat []).getD 0 (0 : Int)] :: (law44_chained_s1 l_Owner at_ x_Time x_Kind x_Item x_Sum l_Lines y0))]
noncomputable def law44_chained_l0_init (l_Owner at_ x_Time x_Kind x_Item x_Sum : Int) (l_Lines : List (List Int)) : List U :=
  [.i (at_), .r ((law44_chained_s0 l_Owner at_ x_Time x_Kind x_Item x_Sum l_Lines))]
noncomputable def law44_chained_l0_step (l_Owner at_ x_Time x_Kind x_Item x_Sum : Int) (l_Lines : List (List Int)) (y0 : List U) : Option (Nat × List U) :=
  (bif decide (gi y0 0 < (↑(gr y0 1).length : Int)) then (bif decide (gi y0 0 > (0 : Int)) then guardP (inR (IntKind.i64.wrap (gi y0 0 - (1 : Int))) (gr y0 1)) (guardP (inR (IntKind.i64.wrap (gi y0 0 - (1 : Int))) (gr y0 1)) (guardP (inR (IntKind.i64.wrap (gi y0 0 - (1 : Int))) (gr y0 1)) (guardP (inR (gi y0 0) (gr y0 1)) (guardP (inR (gi y0 0) (gr y0 1)) (guardP (codec_Digest_pre ([l_Owner] :: (law44_chained_s2 l_Owner at_ x_Time x_Kind x_Item x_Sum l_Lines y0))) (guardP (inR (gi y0 0) (gr y0 1)) (guardP (inR (gi y0 0) (gr y0 1)) (guardP (inR (gi y0 0) (gr y0 1)) (some (0, [.i (IntKind.i64.wrap (gi y0 0 + (1 : Int))), .r ((gr y0 1).set (gi y0 0).toNat (setEl 4 ((gr y0 1).getD (gi y0 0).toNat []) 3 [codec_Digest_0 ([l_Owner] :: (law44_chained_s2 l_Owner at_ x_Time x_Kind x_Item x_Sum l_Lines y0))]))])))))))))) else guardP (inR (gi y0 0) (gr y0 1)) (guardP (inR (gi y0 0) (gr y0 1)) (guardP (codec_Digest_pre ([l_Owner] :: [IntKind.i64.wrap (0 : Int)] :: [((gr y0 1).getD (gi y0 0).toNat []).getD 0 (0 : Int)] :: (law44_chained_s1 l_Owner at_ x_Time x_Kind x_Item x_Sum l_Lines y0))) (guardP (inR (gi y0 0) (gr y0 1)) (guardP (inR (gi y0 0) (gr y0 1)) (guardP (inR (gi y0 0) (gr y0 1)) (some (0, [.i (IntKind.i64.wrap (gi y0 0 + (1 : Int))), .r ((gr y0 1).set (gi y0 0).toNat ((law44_chained_s3 l_Owner at_ x_Time x_Kind x_Item x_Sum l_Lines y0)))])))))))) else some (3, [.i (gi y0 0), .r (gr y0 1)]))
noncomputable def law44_chained_l0 (l_Owner at_ x_Time x_Kind x_Item x_Sum : Int) (l_Lines : List (List Int)) : Nat × List U := loopGet (law44_chained_l0_step l_Owner at_ x_Time x_Kind x_Item x_Sum l_Lines) (law44_chained_l0_init l_Owner at_ x_Time x_Kind x_Item x_Sum l_Lines)
noncomputable def law44_chained_0 (l_Owner at_ x_Time x_Kind x_Item x_Sum : Int) (l_Lines : List (List Int)) : List (List Int) :=
  gr (law44_chained_l0 l_Owner at_ x_Time x_Kind x_Item x_Sum l_Lines).snd 1
noncomputable def law44_chained_1 (l_Owner at_ x_Time x_Kind x_Item x_Sum : Int) (l_Lines : List (List Int)) : Int :=
  l_Owner
def law44_chained_pre (l_Owner at_ x_Time x_Kind x_Item x_Sum : Int) (l_Lines : List (List Int)) : Prop :=
  ((fitsA 32 (0 + l_Lines.length)) ∧ ((inR at_ ([] ++ l_Lines)) ∧ ((inR at_ ([] ++ l_Lines)) ∧ ((loopOk (law44_chained_l0_step l_Owner at_ x_Time x_Kind x_Item x_Sum l_Lines) (law44_chained_l0_init l_Owner at_ x_Time x_Kind x_Item x_Sum l_Lines))))))
end Go.Proofs.YtikhnofbbcmpeaaGreat
set_option maxRecDepth 100000
set_option linter.unusedVariables false
namespace Go.Proofs.YtikhnofbbcmpeaaGreat
open Go Go.Sy
theorem law44_field_col (x_Time x_Kind x_Item x_Sum which n : Int) : collapse Tryz.prog 0 (execFn Tryz.prog K43 noSeq 9 14 [.agg [.int .i64 x_Time, .int .i64 x_Kind, .int .i64 x_Item, .int .u64 x_Sum], .int .u8 which, .int .i64 n] ⟨[], 0⟩) = some ⟨some (law44_field_pre x_Time x_Kind x_Item x_Sum which n), [], 0, [], .agg [.int .i64 (law44_field_0 x_Time x_Kind x_Item x_Sum which n), .int .i64 (law44_field_1 x_Time x_Kind x_Item x_Sum which n), .int .i64 (law44_field_2 x_Time x_Kind x_Item x_Sum which n), .int .u64 (law44_field_3 x_Time x_Kind x_Item x_Sum which n)]⟩ := by kernel_rfl
noncomputable def law44_field_eff : List U → Option Eff
  | [.i x_Time, .i x_Kind, .i x_Item, .i x_Sum, .i which, .i n] => some ⟨none, [], 0, [], .agg [.int .i64 (law44_field_0 x_Time x_Kind x_Item x_Sum which n), .int .i64 (law44_field_1 x_Time x_Kind x_Item x_Sum which n), .int .i64 (law44_field_2 x_Time x_Kind x_Item x_Sum which n), .int .u64 (law44_field_3 x_Time x_Kind x_Item x_Sum which n)]⟩
  | _ => Option.none
noncomputable def K44 : Con := ext Tryz.prog K43 14 [.agg [.int .i64 0, .int .i64 0, .int .i64 0, .int .u64 0], .int .u8 0, .int .i64 0] [] law44_field_eff
theorem K44_ok : ConOk Tryz.prog K44 := conOk_ext noSeq_ok K43_ok (n := 9) rfl rfl fun us x h => by
  unfold law44_field_eff at h
  split at h
  · rename_i x_Time x_Kind x_Item x_Sum which n; cases h; exact ⟨some (law44_field_pre x_Time x_Kind x_Item x_Sum which n), law44_field_col x_Time x_Kind x_Item x_Sum which n, fun _ => law44_field_pre_ok x_Time x_Kind x_Item x_Sum which n⟩
  · cases h
theorem law44_chained_col (l_Owner at_ x_Time x_Kind x_Item x_Sum : Int) (l_Lines : List (List Int)) : collapse Tryz.prog 1 (execFn Tryz.prog K44 noSeq 9 15 [.agg [.int .i64 l_Owner, .sl 0], .int .i64 at_, .agg [.int .i64 x_Time, .int .i64 x_Kind, .int .i64 x_Item, .int .u64 x_Sum]] ⟨[⟨0, 1, false, .row 29 [.int .i64, .int .i64, .int .i64, .int .u64] l_Lines⟩], 1⟩) = some ⟨some (law44_chained_pre l_Owner at_ x_Time x_Kind x_Item x_Sum l_Lines), [], 1, [⟨1, 1, true, .row 29 [.int .i64, .int .i64, .int .i64, .int .u64] (law44_chained_0 l_Owner at_ x_Time x_Kind x_Item x_Sum l_Lines)⟩], .agg [.int .i64 (law44_chained_1 l_Owner at_ x_Time x_Kind x_Item x_Sum l_Lines), .sl 1]⟩ := by kernel_rfl
noncomputable def law44_chained_eff : List U → Option Eff
  | [.i l_Owner, .i at_, .i x_Time, .i x_Kind, .i x_Item, .i x_Sum, .r l_Lines] => some ⟨some (law44_chained_pre l_Owner at_ x_Time x_Kind x_Item x_Sum l_Lines), [], 1, [⟨1, 1, true, .row 29 [.int .i64, .int .i64, .int .i64, .int .u64] (law44_chained_0 l_Owner at_ x_Time x_Kind x_Item x_Sum l_Lines)⟩], .agg [.int .i64 (law44_chained_1 l_Owner at_ x_Time x_Kind x_Item x_Sum l_Lines), .sl 1]⟩
  | _ => Option.none
noncomputable def K45 : Con := ext Tryz.prog K44 15 [.agg [.int .i64 0, .sl 0], .int .i64 0, .agg [.int .i64 0, .int .i64 0, .int .i64 0, .int .u64 0]] [⟨0, 0, false, .row 29 [.int .i64, .int .i64, .int .i64, .int .u64] []⟩] law44_chained_eff
theorem K45_ok : ConOk Tryz.prog K45 := conOk_ext noSeq_ok K44_ok (n := 9) rfl rfl fun us x h => by
  unfold law44_chained_eff at h
  split at h
  · cases h; exact ⟨some (law44_chained_pre _ _ _ _ _ _ _), law44_chained_col _ _ _ _ _ _ _, fun h => h⟩
  · cases h
end Go.Proofs.YtikhnofbbcmpeaaGreat
set_option maxRecDepth 100000
set_option linter.unusedVariables false
namespace Go.Proofs.YtikhnofbbcmpeaaGreat
open Go Go.Sy
noncomputable def law44_InquiryChains_s0 (l_Owner at_ which n sum : Int) (l_Lines : List (List Int)) : Int :=
  law44_field_0 ((l_Lines.getD ((IntKind.i64.wrap at_).tmod (↑l_Lines.length : Int)).toNat []).getD 0 (0 : Int))
  ((l_Lines.getD ((IntKind.i64.wrap at_).tmod (↑l_Lines.length : Int)).toNat []).getD 1 (0 : Int))
  ((l_Lines.getD ((IntKind.i64.wrap at_).tmod (↑l_Lines.length : Int)).toNat []).getD 2 (0 : Int))
  ((l_Lines.getD ((IntKind.i64.wrap at_).tmod (↑l_Lines.length : Int)).toNat []).getD 3 (0 : Int)) which n
noncomputable def law44_InquiryChains_s1 (l_Owner at_ which n sum : Int) (l_Lines : List (List Int)) : Int :=
  law44_field_1 ((l_Lines.getD ((IntKind.i64.wrap at_).tmod (↑l_Lines.length : Int)).toNat []).getD 0 (0 : Int))
  ((l_Lines.getD ((IntKind.i64.wrap at_).tmod (↑l_Lines.length : Int)).toNat []).getD 1 (0 : Int))
  ((l_Lines.getD ((IntKind.i64.wrap at_).tmod (↑l_Lines.length : Int)).toNat []).getD 2 (0 : Int))
  ((l_Lines.getD ((IntKind.i64.wrap at_).tmod (↑l_Lines.length : Int)).toNat []).getD 3 (0 : Int)) which n
noncomputable def law44_InquiryChains_s2 (l_Owner at_ which n sum : Int) (l_Lines : List (List Int)) : Int :=
  law44_field_2 ((l_Lines.getD ((IntKind.i64.wrap at_).tmod (↑l_Lines.length : Int)).toNat []).getD 0 (0 : Int))
  ((l_Lines.getD ((IntKind.i64.wrap at_).tmod (↑l_Lines.length : Int)).toNat []).getD 1 (0 : Int))
  ((l_Lines.getD ((IntKind.i64.wrap at_).tmod (↑l_Lines.length : Int)).toNat []).getD 2 (0 : Int))
  ((l_Lines.getD ((IntKind.i64.wrap at_).tmod (↑l_Lines.length : Int)).toNat []).getD 3 (0 : Int)) which n
noncomputable def law44_InquiryChains_s3 (l_Owner at_ which n sum : Int) (l_Lines : List (List Int)) : Int :=
  law44_field_3 ((l_Lines.getD ((IntKind.i64.wrap at_).tmod (↑l_Lines.length : Int)).toNat []).getD 0 (0 : Int))
  ((l_Lines.getD ((IntKind.i64.wrap at_).tmod (↑l_Lines.length : Int)).toNat []).getD 1 (0 : Int))
  ((l_Lines.getD ((IntKind.i64.wrap at_).tmod (↑l_Lines.length : Int)).toNat []).getD 2 (0 : Int))
  ((l_Lines.getD ((IntKind.i64.wrap at_).tmod (↑l_Lines.length : Int)).toNat []).getD 3 (0 : Int)) which n
noncomputable def law44_InquiryChains_s4 (l_Owner at_ which n sum : Int) (l_Lines : List (List Int)) : List Int :=
  setEl 4 (([] ++ l_Lines).getD ((IntKind.i64.wrap at_).tmod (↑l_Lines.length : Int)).toNat []) 0 [(law44_InquiryChains_s0 l_Owner at_ which n sum l_Lines), (law44_InquiryChains_s1 l_Owner at_ which n sum l_Lines), (law44_InquiryChains_s2 l_Owner at_ which n sum l_Lines), (law44_InquiryChains_s3 l_Owner at_ which n sum l_Lines)]
noncomputable def law44_InquiryChains_s5 (l_Owner at_ which n sum : Int) (l_Lines : List (List Int)) : List (List Int) :=
  ([] ++ l_Lines).set ((IntKind.i64.wrap at_).tmod (↑l_Lines.length : Int)).toNat (setEl 4 (([] ++ l_Lines).getD ((IntKind.i64.wrap at_).tmod (↑l_Lines.length : Int)).toNat []) 3 [sum])
noncomputable def law44_InquiryChains_l0_init (l_Owner at_ which n sum : Int) (l_Lines : List (List Int)) : List U :=
  [.b (law44_head_0 &&
    ((law44_InquiryChains_s0 l_Owner at_ which n sum l_Lines) == (l_Lines.getD ((IntKind.i64.wrap at_).tmod (↑l_Lines.length : Int)).toNat []).getD 0 (0 : Int) &&
        ((law44_InquiryChains_s1 l_Owner at_ which n sum l_Lines) == (l_Lines.getD ((IntKind.i64.wrap at_).tmod (↑l_Lines.length : Int)).toNat []).getD 1 (0 : Int) &&
          ((law44_InquiryChains_s2 l_Owner at_ which n sum l_Lines) == (l_Lines.getD ((IntKind.i64.wrap at_).tmod (↑l_Lines.length : Int)).toNat []).getD 2 (0 : Int) &&
            ((law44_InquiryChains_s3 l_Owner at_ which n sum l_Lines) == (l_Lines.getD ((IntKind.i64.wrap at_).tmod (↑l_Lines.length : Int)).toNat []).getD 3 (0 : Int) && true))) ||
      !inquiry_Valid_0 l_Owner (([] ++ l_Lines).set ((IntKind.i64.wrap at_).tmod (↑l_Lines.length : Int)).toNat ((law44_InquiryChains_s4 l_Owner at_ which n sum l_Lines)))) &&
  (sum == (l_Lines.getD ((IntKind.i64.wrap at_).tmod (↑l_Lines.length : Int)).toNat []).getD 3 (0 : Int) || !inquiry_Valid_0 l_Owner ((law44_InquiryChains_s5 l_Owner at_ which n sum l_Lines)))), .i ((IntKind.i64.wrap at_).tmod (↑l_Lines.length : Int))]
noncomputable def law44_InquiryChains_l0_step (l_Owner at_ which n sum : Int) (l_Lines : List (List Int)) (y0 : List U) : Option (Nat × List U) :=
  (bif decide
  (gi y0 1 <
    (↑(law44_chained_0 l_Owner ((IntKind.i64.wrap at_).tmod (↑l_Lines.length : Int)) ((law44_InquiryChains_s0 l_Owner at_ which n sum l_Lines)) ((law44_InquiryChains_s1 l_Owner at_ which n sum l_Lines)) ((law44_InquiryChains_s2 l_Owner at_ which n sum l_Lines)) ((law44_InquiryChains_s3 l_Owner at_ which n sum l_Lines)) l_Lines).length : Int)) then guardP ((gb y0 0 = true) → (inR (gi y0 1) (law44_chained_0 l_Owner ((IntKind.i64.wrap at_).tmod (↑l_Lines.length : Int)) ((law44_InquiryChains_s0 l_Owner at_ which n sum l_Lines)) ((law44_InquiryChains_s1 l_Owner at_ which n sum l_Lines)) ((law44_InquiryChains_s2 l_Owner at_ which n sum l_Lines)) ((law44_InquiryChains_s3 l_Owner at_ which n sum l_Lines)) l_Lines))) (guardP ((gb y0 0 = true) → (inR (gi y0 1) (law44_chained_0 l_Owner ((IntKind.i64.wrap at_).tmod (↑l_Lines.length : Int)) ((law44_InquiryChains_s0 l_Owner at_ which n sum l_Lines)) ((law44_InquiryChains_s1 l_Owner at_ which n sum l_Lines)) ((law44_InquiryChains_s2 l_Owner at_ which n sum l_Lines)) ((law44_InquiryChains_s3 l_Owner at_ which n sum l_Lines)) l_Lines))) (guardP ((gb y0 0 = true) → (inR (gi y0 1) (law44_chained_0 l_Owner ((IntKind.i64.wrap at_).tmod (↑l_Lines.length : Int)) ((law44_InquiryChains_s0 l_Owner at_ which n sum l_Lines)) ((law44_InquiryChains_s1 l_Owner at_ which n sum l_Lines)) ((law44_InquiryChains_s2 l_Owner at_ which n sum l_Lines)) ((law44_InquiryChains_s3 l_Owner at_ which n sum l_Lines)) l_Lines))) (guardP ((gb y0 0 = true) → (inR (gi y0 1) l_Lines)) (guardP ((gb y0 0 = true) → (inR (gi y0 1) l_Lines)) (guardP ((gb y0 0 = true) → (inR (gi y0 1) l_Lines)) (some (0, [.b (gb y0 0 &&
  ((law44_chained_0 l_Owner ((IntKind.i64.wrap at_).tmod (↑l_Lines.length : Int)) ((law44_InquiryChains_s0 l_Owner at_ which n sum l_Lines)) ((law44_InquiryChains_s1 l_Owner at_ which n sum l_Lines)) ((law44_InquiryChains_s2 l_Owner at_ which n sum l_Lines)) ((law44_InquiryChains_s3 l_Owner at_ which n sum l_Lines)) l_Lines).getD
          (gi y0 1).toNat []).getD
      3 (0 : Int) !=
    (l_Lines.getD (gi y0 1).toNat []).getD 3 (0 : Int)), .i (IntKind.i64.wrap (gi y0 1 + (1 : Int)))]))))))) else some (2, [.b (gb y0 0), .i (gi y0 1)]))
noncomputable def law44_InquiryChains_l0 (l_Owner at_ which n sum : Int) (l_Lines : List (List Int)) : Nat × List U := loopGet (law44_InquiryChains_l0_step l_Owner at_ which n sum l_Lines) (law44_InquiryChains_l0_init l_Owner at_ which n sum l_Lines)
noncomputable def law44_InquiryChains_0 (l_Owner at_ which n sum : Int) (l_Lines : List (List Int)) : Bool :=
  bif (↑l_Lines.length : Int) == (0 : Int) || !inquiry_Valid_0 l_Owner l_Lines then law44_head_0
else
  bif
      (law44_InquiryChains_s0 l_Owner at_ which n sum l_Lines) == (l_Lines.getD ((IntKind.i64.wrap at_).tmod (↑l_Lines.length : Int)).toNat []).getD 0 (0 : Int) &&
        ((law44_InquiryChains_s1 l_Owner at_ which n sum l_Lines) == (l_Lines.getD ((IntKind.i64.wrap at_).tmod (↑l_Lines.length : Int)).toNat []).getD 1 (0 : Int) &&
          ((law44_InquiryChains_s2 l_Owner at_ which n sum l_Lines) == (l_Lines.getD ((IntKind.i64.wrap at_).tmod (↑l_Lines.length : Int)).toNat []).getD 2 (0 : Int) &&
            ((law44_InquiryChains_s3 l_Owner at_ which n sum l_Lines) == (l_Lines.getD ((IntKind.i64.wrap at_).tmod (↑l_Lines.length : Int)).toNat []).getD 3 (0 : Int) && true))) then
    law44_head_0 &&
        ((law44_InquiryChains_s0 l_Owner at_ which n sum l_Lines) == (l_Lines.getD ((IntKind.i64.wrap at_).tmod (↑l_Lines.length : Int)).toNat []).getD 0 (0 : Int) &&
            ((law44_InquiryChains_s1 l_Owner at_ which n sum l_Lines) == (l_Lines.getD ((IntKind.i64.wrap at_).tmod (↑l_Lines.length : Int)).toNat []).getD 1 (0 : Int) &&
              ((law44_InquiryChains_s2 l_Owner at_ which n sum l_Lines) == (l_Lines.getD ((IntKind.i64.wrap at_).tmod (↑l_Lines.length : Int)).toNat []).getD 2 (0 : Int) &&
                ((law44_InquiryChains_s3 l_Owner at_ which n sum l_Lines) == (l_Lines.getD ((IntKind.i64.wrap at_).tmod (↑l_Lines.length : Int)).toNat []).getD 3 (0 : Int) && true))) ||
          !inquiry_Valid_0 l_Owner (([] ++ l_Lines).set ((IntKind.i64.wrap at_).tmod (↑l_Lines.length : Int)).toNat ((law44_InquiryChains_s4 l_Owner at_ which n sum l_Lines)))) &&
      (sum == (l_Lines.getD ((IntKind.i64.wrap at_).tmod (↑l_Lines.length : Int)).toNat []).getD 3 (0 : Int) || !inquiry_Valid_0 l_Owner ((law44_InquiryChains_s5 l_Owner at_ which n sum l_Lines)))
  else gb (law44_InquiryChains_l0 l_Owner at_ which n sum l_Lines).snd 0
def law44_InquiryChains_pre (l_Owner at_ which n sum : Int) (l_Lines : List (List Int)) : Prop :=
  ((law44_head_pre) ∧ (((((↑l_Lines.length : Int) == (0 : Int)) = false) → (inquiry_Valid_pre l_Owner l_Lines)) ∧ ((((↑l_Lines.length : Int) == (0 : Int) || !inquiry_Valid_0 l_Owner l_Lines) = false) → ((((↑l_Lines.length : Int) : Int) ≠ (0 : Int)) ∧ ((inR ((IntKind.i64.wrap at_).tmod (↑l_Lines.length : Int)) l_Lines) ∧ ((inR ((IntKind.i64.wrap at_).tmod (↑l_Lines.length : Int)) l_Lines) ∧ ((fitsA 32 (0 + l_Lines.length)) ∧ ((inR ((IntKind.i64.wrap at_).tmod (↑l_Lines.length : Int)) ([] ++ l_Lines)) ∧ ((inR ((IntKind.i64.wrap at_).tmod (↑l_Lines.length : Int)) ([] ++ l_Lines)) ∧ ((fitsA 32 (0 + l_Lines.length)) ∧ ((inR ((IntKind.i64.wrap at_).tmod (↑l_Lines.length : Int)) ([] ++ l_Lines)) ∧ ((inR ((IntKind.i64.wrap at_).tmod (↑l_Lines.length : Int)) ([] ++ l_Lines)) ∧ ((inR ((IntKind.i64.wrap at_).tmod (↑l_Lines.length : Int)) ([] ++ l_Lines)) ∧ (((law44_head_0 = true) → (inR ((IntKind.i64.wrap at_).tmod (↑l_Lines.length : Int)) l_Lines)) ∧ (((law44_head_0 = true) → (inR ((IntKind.i64.wrap at_).tmod (↑l_Lines.length : Int)) l_Lines)) ∧ (((law44_head_0 = true) → ((((law44_InquiryChains_s0 l_Owner at_ which n sum l_Lines) == (l_Lines.getD ((IntKind.i64.wrap at_).tmod (↑l_Lines.length : Int)).toNat []).getD 0 (0 : Int) &&
    ((law44_InquiryChains_s1 l_Owner at_ which n sum l_Lines) == (l_Lines.getD ((IntKind.i64.wrap at_).tmod (↑l_Lines.length : Int)).toNat []).getD 1 (0 : Int) &&
      ((law44_InquiryChains_s2 l_Owner at_ which n sum l_Lines) == (l_Lines.getD ((IntKind.i64.wrap at_).tmod (↑l_Lines.length : Int)).toNat []).getD 2 (0 : Int) &&
        ((law44_InquiryChains_s3 l_Owner at_ which n sum l_Lines) == (l_Lines.getD ((IntKind.i64.wrap at_).tmod (↑l_Lines.length : Int)).toNat []).getD 3 (0 : Int) && true)))) =
  false) → (inquiry_Valid_pre l_Owner (([] ++ l_Lines).set ((IntKind.i64.wrap at_).tmod (↑l_Lines.length : Int)).toNat ((law44_InquiryChains_s4 l_Owner at_ which n sum l_Lines)))))) ∧ ((((law44_head_0 &&
    ((law44_InquiryChains_s0 l_Owner at_ which n sum l_Lines) == (l_Lines.getD ((IntKind.i64.wrap at_).tmod (↑l_Lines.length : Int)).toNat []).getD 0 (0 : Int) &&
        ((law44_InquiryChains_s1 l_Owner at_ which n sum l_Lines) == (l_Lines.getD ((IntKind.i64.wrap at_).tmod (↑l_Lines.length : Int)).toNat []).getD 1 (0 : Int) &&
          ((law44_InquiryChains_s2 l_Owner at_ which n sum l_Lines) == (l_Lines.getD ((IntKind.i64.wrap at_).tmod (↑l_Lines.length : Int)).toNat []).getD 2 (0 : Int) &&
            ((law44_InquiryChains_s3 l_Owner at_ which n sum l_Lines) == (l_Lines.getD ((IntKind.i64.wrap at_).tmod (↑l_Lines.length : Int)).toNat []).getD 3 (0 : Int) && true))) ||
      !inquiry_Valid_0 l_Owner (([] ++ l_Lines).set ((IntKind.i64.wrap at_).tmod (↑l_Lines.length : Int)).toNat ((law44_InquiryChains_s4 l_Owner at_ which n sum l_Lines))))) =
  true) → (inR ((IntKind.i64.wrap at_).tmod (↑l_Lines.length : Int)) l_Lines)) ∧ ((((law44_head_0 &&
    ((law44_InquiryChains_s0 l_Owner at_ which n sum l_Lines) == (l_Lines.getD ((IntKind.i64.wrap at_).tmod (↑l_Lines.length : Int)).toNat []).getD 0 (0 : Int) &&
        ((law44_InquiryChains_s1 l_Owner at_ which n sum l_Lines) == (l_Lines.getD ((IntKind.i64.wrap at_).tmod (↑l_Lines.length : Int)).toNat []).getD 1 (0 : Int) &&
          ((law44_InquiryChains_s2 l_Owner at_ which n sum l_Lines) == (l_Lines.getD ((IntKind.i64.wrap at_).tmod (↑l_Lines.length : Int)).toNat []).getD 2 (0 : Int) &&
            ((law44_InquiryChains_s3 l_Owner at_ which n sum l_Lines) == (l_Lines.getD ((IntKind.i64.wrap at_).tmod (↑l_Lines.length : Int)).toNat []).getD 3 (0 : Int) && true))) ||
      !inquiry_Valid_0 l_Owner (([] ++ l_Lines).set ((IntKind.i64.wrap at_).tmod (↑l_Lines.length : Int)).toNat ((law44_InquiryChains_s4 l_Owner at_ which n sum l_Lines))))) =
  true) → (inR ((IntKind.i64.wrap at_).tmod (↑l_Lines.length : Int)) l_Lines)) ∧ ((((law44_head_0 &&
    ((law44_InquiryChains_s0 l_Owner at_ which n sum l_Lines) == (l_Lines.getD ((IntKind.i64.wrap at_).tmod (↑l_Lines.length : Int)).toNat []).getD 0 (0 : Int) &&
        ((law44_InquiryChains_s1 l_Owner at_ which n sum l_Lines) == (l_Lines.getD ((IntKind.i64.wrap at_).tmod (↑l_Lines.length : Int)).toNat []).getD 1 (0 : Int) &&
          ((law44_InquiryChains_s2 l_Owner at_ which n sum l_Lines) == (l_Lines.getD ((IntKind.i64.wrap at_).tmod (↑l_Lines.length : Int)).toNat []).getD 2 (0 : Int) &&
            ((law44_InquiryChains_s3 l_Owner at_ which n sum l_Lines) == (l_Lines.getD ((IntKind.i64.wrap at_).tmod (↑l_Lines.length : Int)).toNat []).getD 3 (0 : Int) && true))) ||
      !inquiry_Valid_0 l_Owner (([] ++ l_Lines).set ((IntKind.i64.wrap at_).tmod (↑l_Lines.length : Int)).toNat ((law44_InquiryChains_s4 l_Owner at_ which n sum l_Lines))))) =
  true) → (inR ((IntKind.i64.wrap at_).tmod (↑l_Lines.length : Int)) l_Lines)) ∧ ((((law44_head_0 &&
    ((law44_InquiryChains_s0 l_Owner at_ which n sum l_Lines) == (l_Lines.getD ((IntKind.i64.wrap at_).tmod (↑l_Lines.length : Int)).toNat []).getD 0 (0 : Int) &&
        ((law44_InquiryChains_s1 l_Owner at_ which n sum l_Lines) == (l_Lines.getD ((IntKind.i64.wrap at_).tmod (↑l_Lines.length : Int)).toNat []).getD 1 (0 : Int) &&
          ((law44_InquiryChains_s2 l_Owner at_ which n sum l_Lines) == (l_Lines.getD ((IntKind.i64.wrap at_).tmod (↑l_Lines.length : Int)).toNat []).getD 2 (0 : Int) &&
            ((law44_InquiryChains_s3 l_Owner at_ which n sum l_Lines) == (l_Lines.getD ((IntKind.i64.wrap at_).tmod (↑l_Lines.length : Int)).toNat []).getD 3 (0 : Int) && true))) ||
      !inquiry_Valid_0 l_Owner (([] ++ l_Lines).set ((IntKind.i64.wrap at_).tmod (↑l_Lines.length : Int)).toNat ((law44_InquiryChains_s4 l_Owner at_ which n sum l_Lines))))) =
  true) → (((sum == (l_Lines.getD ((IntKind.i64.wrap at_).tmod (↑l_Lines.length : Int)).toNat []).getD 3 (0 : Int)) = false) → (inquiry_Valid_pre l_Owner ((law44_InquiryChains_s5 l_Owner at_ which n sum l_Lines))))) ∧ ((inR ((IntKind.i64.wrap at_).tmod (↑l_Lines.length : Int)) l_Lines) ∧ ((inR ((IntKind.i64.wrap at_).tmod (↑l_Lines.length : Int)) l_Lines) ∧ ((((law44_InquiryChains_s0 l_Owner at_ which n sum l_Lines) == (l_Lines.getD ((IntKind.i64.wrap at_).tmod (↑l_Lines.length : Int)).toNat []).getD 0 (0 : Int) &&
    ((law44_InquiryChains_s1 l_Owner at_ which n sum l_Lines) == (l_Lines.getD ((IntKind.i64.wrap at_).tmod (↑l_Lines.length : Int)).toNat []).getD 1 (0 : Int) &&
      ((law44_InquiryChains_s2 l_Owner at_ which n sum l_Lines) == (l_Lines.getD ((IntKind.i64.wrap at_).tmod (↑l_Lines.length : Int)).toNat []).getD 2 (0 : Int) &&
        ((law44_InquiryChains_s3 l_Owner at_ which n sum l_Lines) == (l_Lines.getD ((IntKind.i64.wrap at_).tmod (↑l_Lines.length : Int)).toNat []).getD 3 (0 : Int) && true)))) =
  false) → ((law44_chained_pre l_Owner ((IntKind.i64.wrap at_).tmod (↑l_Lines.length : Int)) ((law44_InquiryChains_s0 l_Owner at_ which n sum l_Lines)) ((law44_InquiryChains_s1 l_Owner at_ which n sum l_Lines)) ((law44_InquiryChains_s2 l_Owner at_ which n sum l_Lines)) ((law44_InquiryChains_s3 l_Owner at_ which n sum l_Lines)) l_Lines) ∧ ((loopOk (law44_InquiryChains_l0_step l_Owner at_ which n sum l_Lines) (law44_InquiryChains_l0_init l_Owner at_ which n sum l_Lines)))))))))))))))))))))))))))
end Go.Proofs.YtikhnofbbcmpeaaGreat
set_option maxRecDepth 100000
set_option linter.unusedVariables false
namespace Go.Proofs.YtikhnofbbcmpeaaGreat
open Go Go.Sy
theorem law44_InquiryChains_col (l_Owner at_ which n sum : Int) (l_Lines : List (List Int)) : collapse Tryz.prog 1 (execFn Tryz.prog K45 noSeq 9 3 [.agg [.int .i64 l_Owner, .sl 0], .int .u8 at_, .int .u8 which, .int .i64 n, .int .u64 sum] ⟨[⟨0, 1, false, .row 29 [.int .i64, .int .i64, .int .i64, .int .u64] l_Lines⟩], 1⟩) = some ⟨some (law44_InquiryChains_pre l_Owner at_ which n sum l_Lines), [], 0, [], .bool (law44_InquiryChains_0 l_Owner at_ which n sum l_Lines)⟩ := by kernel_rfl
noncomputable def law44_InquiryChains_eff : List U → Option Eff
  | [.i l_Owner, .i at_, .i which, .i n, .i sum, .r l_Lines] => some ⟨some (law44_InquiryChains_pre l_Owner at_ which n sum l_Lines), [], 0, [], .bool (law44_InquiryChains_0 l_Owner at_ which n sum l_Lines)⟩
  | _ => Option.none
noncomputable def K46 : Con := ext Tryz.prog K45 3 [.agg [.int .i64 0, .sl 0], .int .u8 0, .int .u8 0, .int .i64 0, .int .u64 0] [⟨0, 0, false, .row 29 [.int .i64, .int .i64, .int .i64, .int .u64] []⟩] law44_InquiryChains_eff
theorem K46_ok : ConOk Tryz.prog K46 := conOk_ext noSeq_ok K45_ok (n := 9) rfl rfl fun us x h => by
  unfold law44_InquiryChains_eff at h
  split at h
  · cases h; exact ⟨some (law44_InquiryChains_pre _ _ _ _ _ _), law44_InquiryChains_col _ _ _ _ _ _, fun h => h⟩
  · cases h
end Go.Proofs.YtikhnofbbcmpeaaGreat
set_option linter.unusedVariables false
set_option maxRecDepth 100000
namespace Go.Proofs.YtikhnofbbcmpeaaGreat
open Go Go.Sy
def runL {σ : Type} (f : σ → List Int → σ ⊕ (Nat × List U)) : σ → List (List Int) → σ ⊕ (Nat × List U)
  | s, [] => .inl s
  | s, x :: r => match f s x with
    | .inl s' => runL f s' r
    | .inr o => .inr o
def goOn {σ : Type} (mk : σ → List U) : σ ⊕ (Nat × List U) → Option (Nat × List U)
  | .inl s => some (0, mk s)
  | .inr o => some (o.1 + 1, o.2)
def endL {σ : Type} (fin : σ → Nat × List U) : σ ⊕ (Nat × List U) → Nat × List U
  | .inl s => ((fin s).1 + 1, (fin s).2)
  | .inr o => (o.1 + 1, o.2)
theorem loop_list {σ : Type} {step : List U → Option (Nat × List U)} (l : List (List Int)) (mk : Nat → σ → List U) (f : σ → List Int → σ ⊕ (Nat × List U)) (I : Nat → σ → Prop) (fin : σ → Nat × List U) (k0 : Nat)
    (hs : ∀ i s (hi : i < l.length), k0 ≤ i → I i s → step (mk i s) = goOn (mk (i + 1)) (f s l[i]) ∧ ∀ s', f s l[i] = .inl s' → I (i + 1) s')
    (he : ∀ i s, i = max k0 l.length → I i s → step (mk i s) = some ((fin s).1 + 1, (fin s).2)) {s : σ} (h0 : I k0 s) :
    loopOk step (mk k0 s) ∧ loopGet step (mk k0 s) = endL fin (runL f s (l.drop k0)) := by
  have key : ∀ m i s, i + m = l.length → k0 ≤ i → I i s → iterO step (m + 1) (mk i s) = some (endL fin (runL f s (l.drop i))) := by
    intro m
    induction m with
    | zero =>
      intro i s hi hk h
      rw [List.drop_eq_nil_of_le (by omega)]
      exact iter_out (he i s (by omega) h)
    | succ m ih =>
      intro i s hi hk h
      obtain ⟨h1, h2⟩ := hs i s (by omega) hk h
      rw [List.drop_eq_getElem_cons (by omega : i < l.length)]
      unfold runL
      cases hf : f s l[i] with
      | inl s' =>
        rw [hf] at h1
        exact iter_next h1 (ih (i + 1) s' (by omega) (by omega) (h2 s' hf))
      | inr o =>
        rw [hf] at h1
        unfold iterO
        rw [h1]; rfl
  by_cases hk : k0 ≤ l.length
  · exact loop_is (key (l.length - k0) k0 s (by omega) (Nat.le_refl _) h0)
  · rw [List.drop_eq_nil_of_le (by omega)]
    exact loop_is (iter_out (he k0 s (by omega) h0))
theorem getD_at {l : List (List Int)} {i : Nat} (hi : i < l.length) : l.getD i [] = l[i] := by rw [List.getD_eq_getElem?_getD, List.getElem?_eq_getElem hi]; rfl
theorem getI_at {l : List (List Int)} {i : Nat} (hi : i < l.length) : l.getD (i : Int).toNat [] = l[i] := by rw [Int.toNat_natCast]; exact getD_at hi
theorem wrapS {i : Nat} (h : i < 9223372036854775807) : IntKind.i64.wrap ((i : Int) + 1) = ((i + 1 : Nat) : Int) := by
  rw [i64_wrap (by omega)]; rfl
theorem loop_any {step : List U → Option (Nat × List U)} {l : List (List Int)} {p : List Int → Bool} (m : Nat) (hs : ∀ i (hi : i < l.length), step [.i 0, .i i] = bif p l[i] then some (1, [.i i]) else some (0, [.i 0, .i ((i + 1 : Nat) : Int)]))
    (he : step [.i 0, .i l.length] = some (m + 2, [.i 0, .i l.length])) {init : List U} (hi : init = [.i 0, .i ((0 : Nat) : Int)]) :
    loopOk step init ∧ decide ((bif (loopGet step init).fst.beq 1 then gi (loopGet step init).snd 0 else (-1 : Int)) ≥ 0) = l.any p := by
  subst hi
  obtain ⟨h1, h2⟩ := loop_search (step := step) l.length (fun i => p (l.getD i [])) (fun i => [.i 0, .i i]) (fun i => [.i i]) 0 (m + 1) [.i 0, .i l.length]
    (fun i hi => by rw [hs i hi, getD_at hi]) he
  refine ⟨h1, ?_⟩
  rcases h2 with ⟨i, hi, hp, _, hg⟩ | ⟨hn, hg⟩
  · rw [hg]
    have : l.any p = true := List.any_eq_true.2 ⟨l[i], List.getElem_mem hi, by rw [← getD_at hi]; exact hp⟩
    rw [this]
    show decide ((bif true then gi [.i (i : Int)] 0 else (-1 : Int)) ≥ 0) = true
    rw [cond_true, gi_z]
    exact decide_eq_true (by omega)
  · rw [hg]
    have : l.any p = false := List.any_eq_false.2 fun x hx => by
      obtain ⟨i, hi, rfl⟩ := List.getElem_of_mem hx
      have := hn i hi
      simp only [getD_at hi] at this
      simp [this]
    rw [this]
    show decide ((bif Nat.beq (m + 1 + 1) 1 then gi [.i 0, .i (l.length : Int)] 0 else (-1 : Int)) ≥ 0) = false
    rfl
def mixD (h x : Int) : Int :=
  bXor IntKind.u64 (IntKind.u64.wrap (bXor IntKind.u64 h (IntKind.u64.wrap x) * 11507291218515648293)) ((IntKind.u64.wrap (bXor IntKind.u64 h (IntKind.u64.wrap x) * 11507291218515648293)).fdiv ((2 : Int) ^ min (Int.toNat (32 : Int)) IntKind.u64.bits))
def digF (l : List Int) : Int := l.foldl mixD (IntKind.u64.wrap (11400714819323198485 + IntKind.u64.wrap l.length))
theorem run_fold {σ : Type} (g : σ → List Int → σ) : ∀ (l : List (List Int)) (s : σ), runL (fun s x => .inl (g s x)) s l = .inl (l.foldl g s)
  | [], s => rfl
  | x :: r, s => run_fold g r (g s x)
theorem digest_is (l : List (List Int)) (hl : l.length ≤ 9223372036854775807) : codec_Digest_pre l ∧ codec_Digest_0 l = digF (l.map fun x => x.getD 0 0) := by
  obtain ⟨h1, h2⟩ := loop_list (step := codec_Digest_l0_step l) l (fun i (s : Int) => [.i s, .i i]) (fun s x => .inl (mixD s (x.getD 0 0))) (fun _ _ => True) (fun s => (1, [.i s, .i (l.length : Int)])) 0
    (fun i s hi _ _ => ⟨by
      unfold codec_Digest_l0_step codec_Digest_s0
      simp only [gi_z, gi_1, dlt hi, guardP_true (inR_of hi), guardP_true (show (0 : Int) ≤ 32 by decide), wrapS (show i < 9223372036854775807 by omega), getI_at hi]
      rfl, fun _ _ => trivial⟩)
    (fun i s hi _ => by
      have : i = l.length := by omega
      subst this
      unfold codec_Digest_l0_step
      simp only [gi_z, gi_1, dnlt]) (s := IntKind.u64.wrap (11400714819323198485 + IntKind.u64.wrap l.length)) trivial
  refine ⟨h1, ?_⟩
  unfold codec_Digest_0 codec_Digest_l0
  have hi : codec_Digest_l0_init l = [.i (IntKind.u64.wrap (11400714819323198485 + IntKind.u64.wrap l.length)), .i ((0 : Nat) : Int)] := rfl
  rw [hi, h2, List.drop_zero, run_fold]
  unfold digF
  rw [List.foldl_map, List.length_map]
  rfl
def sumF (owner last t k n : Int) : Int := digF [owner, IntKind.i64.wrap last, t, k, n]
theorem sum_is (owner last t k n s : Int) : inquiry_sum_pre owner last t k n s ∧ inquiry_sum_0 owner last t k n s = sumF owner last t k n := digest_is _ (by simp)
def clsF (k : Int) : Int := if k = 1 then 1 else if k = 2 ∨ k = 3 then 2 else if k = 4 ∨ k = 5 then 3 else 0
theorem bne {a b : Int} (h : ¬ a = b) : (a == b) = false := beq_eq_false_iff_ne.2 h
theorem class_is (k : Int) : inquiry_class_0 k = clsF k := by
  unfold inquiry_class_0 inquiry_class_s0 inquiry_class_s1 clsF
  by_cases h1 : k = 1
  · subst h1; rfl
  by_cases h2 : k = 2
  · subst h2; rfl
  by_cases h3 : k = 3
  · subst h3; rfl
  by_cases h4 : k = 4
  · subst h4; rfl
  by_cases h5 : k = 5
  · subst h5; rfl
  rw [bne h1, bne h2, bne h3, bne h4, bne h5, if_neg h1, if_neg (by simp [h2, h3]), if_neg (by simp [h4, h5])]
  rfl
def tmF (t : Int) : Bool := decide (0 ≤ t) && decide (t ≤ 10000000)
def itF (n : Int) : Bool := decide (1 ≤ n) && decide (n ≤ 10000)
def lnF (t k n : Int) : Bool := if clsF k = 0 then false else if clsF k = 3 then tmF t && n == 0 else tmF t && itF n
def ownF (owner k : Int) : Bool := (owner == 0) == (clsF k == 1)
theorem time_is (t : Int) : inquiry_time_0 t = tmF t := rfl
theorem item_is (t : Int) : inquiry_item_0 t = itF t := rfl
theorem line_is (t k n : Int) : inquiry_line_0 t k n = lnF t k n := by
  unfold inquiry_line_0 lnF
  rw [class_is, time_is, item_is]
  by_cases h0 : clsF k = 0
  · rw [h0]; rfl
  · by_cases h3 : clsF k = 3
    · rw [h3]; rfl
    · rw [bne h0, bne h3, if_neg h0, if_neg h3]; rfl
theorem own_is (o k : Int) : inquiry_own_0 o k = ownF o k := by unfold inquiry_own_0 ownF; rw [class_is]
end Go.Proofs.YtikhnofbbcmpeaaGreat
set_option linter.unusedVariables false
set_option maxRecDepth 100000
namespace Go.Proofs.YtikhnofbbcmpeaaGreat
open Go Go.Sy
abbrev col (x : List Int) (j : Nat) : Int := x.getD j 0
def vldF (o : Int) : Bool → Int → Int → List (List Int) → Bool
  | _, _, _, [] => true
  | off, last, now, x :: r =>
    if (!lnF (col x 0) (col x 1) (col x 2) || !ownF o (col x 1) || decide (col x 0 < now) || col x 3 != sumF o last (col x 0) (col x 1) (col x 2)) = true then false
    else if clsF (col x 1) = 3 then (if off = (col x 1 == 4) then false else vldF o (!off) (col x 3) (col x 0) r)
    else vldF o off (col x 3) (col x 0) r
def valF (o : Int) (l : List (List Int)) : Bool := decide (0 ≤ o) && decide (o ≤ 8) && decide (l.length ≤ 200) && vldF o false 0 0 l
def vStep (o : Int) (s : Bool × Int × Int) (x : List Int) : (Bool × Int × Int) ⊕ (Nat × List U) :=
  if (!lnF (col x 0) (col x 1) (col x 2) || !ownF o (col x 1) || decide (col x 0 < s.2.2) || col x 3 != sumF o s.2.1 (col x 0) (col x 1) (col x 2)) = true then .inr (0, [])
  else if clsF (col x 1) = 3 then (if s.1 = (col x 1 == 4) then .inr (1, []) else .inl (!s.1, col x 3, col x 0))
  else .inl (s.1, col x 3, col x 0)
theorem vStep_run (o : Int) (n : Int) : ∀ (l : List (List Int)) (s : Bool × Int × Int),
    (bif (endL (fun s : Bool × Int × Int => (4, [.b false, .b s.1, .i s.2.1, .i s.2.2, .i n])) (runL (vStep o) s l)).1.beq 1 then false else bif (endL (fun s : Bool × Int × Int => (4, [.b false, .b s.1, .i s.2.1, .i s.2.2, .i n])) (runL (vStep o) s l)).1.beq 2 then false else true) = vldF o s.1 s.2.1 s.2.2 l
  | [], s => rfl
  | x :: r, s => by
    unfold runL vldF
    by_cases h1 : (!lnF (col x 0) (col x 1) (col x 2) || !ownF o (col x 1) || decide (col x 0 < s.2.2) || col x 3 != sumF o s.2.1 (col x 0) (col x 1) (col x 2)) = true
    · have e : vStep o s x = .inr (0, []) := by unfold vStep; rw [if_pos h1]
      rw [e, if_pos h1]; rfl
    · rw [if_neg h1]
      by_cases h2 : clsF (col x 1) = 3
      · rw [if_pos h2]
        by_cases h3 : s.1 = (col x 1 == 4)
        · have e : vStep o s x = .inr (1, []) := by unfold vStep; rw [if_neg h1, if_pos h2, if_pos h3]
          rw [e, if_pos h3]; rfl
        · have e : vStep o s x = .inl (!s.1, col x 3, col x 0) := by unfold vStep; rw [if_neg h1, if_pos h2, if_neg h3]
          rw [e, if_neg h3]
          exact vStep_run o n r _
      · have e : vStep o s x = .inl (s.1, col x 3, col x 0) := by unfold vStep; rw [if_neg h1, if_neg h2]
        rw [e, if_neg h2]
        exact vStep_run o n r _
theorem valid_loop (o : Int) (l : List (List Int)) (hl : l.length ≤ 9223372036854775807) : loopOk (inquiry_Valid_l0_step o l) (inquiry_Valid_l0_init o l) ∧ inquiry_Valid_l0 o l = endL (fun s : Bool × Int × Int => (4, [.b false, .b s.1, .i s.2.1, .i s.2.2, .i l.length])) (runL (vStep o) (false, 0, 0) l) := by
  have h := loop_list (step := inquiry_Valid_l0_step o l) l (fun i (s : Bool × Int × Int) => [.b false, .b s.1, .i s.2.1, .i s.2.2, .i i]) (vStep o) (fun _ _ => True) (fun s => (4, [.b false, .b s.1, .i s.2.1, .i s.2.2, .i l.length])) 0
    (fun i s hi _ _ => ⟨by
      unfold inquiry_Valid_l0_step inquiry_Valid_s0
      simp only [gi_4, gi_3, gi_2, gi_1, gi_z, gb_1, gb_z, dlt hi, guardP_true (inR_of hi), wrapS (show i < 9223372036854775807 by omega), getI_at hi, line_is, own_is, (sum_is _ _ _ _ _ _).2, class_is]
      rw [guardP_true (fun _ => (sum_is _ _ _ _ _ _).1)]
      generalize l[i] = x
      unfold vStep
      cases h1 : (!lnF (col x 0) (col x 1) (col x 2) || !ownF o (col x 1) || decide (col x 0 < s.2.2) || col x 3 != sumF o s.2.1 (col x 0) (col x 1) (col x 2)) with
      | true => rw [if_pos rfl]; rfl
      | false =>
        rw [if_neg (by decide), cond_false]
        by_cases h2 : clsF (col x 1) = 3
        · rw [if_pos h2, h2]
          by_cases h3 : s.1 = (col x 1 == 4)
          · rw [if_pos h3, h3]; simp only [beq_self_eq_true, cond_true]; rfl
          · rw [if_neg h3]
            have : (s.1 == (col x 1 == 4)) = false := by simpa using h3
            rw [this]; rfl
        · rw [if_neg h2]
          rw [bne h2]; rfl, fun _ _ => trivial⟩)
    (fun i s hi _ => by
      have : i = l.length := by omega
      subst this
      unfold inquiry_Valid_l0_step
      simp only [gi_4, gi_3, gi_2, gi_1, gi_z, gb_1, gb_z, dnlt]) (s := (false, 0, 0)) trivial
  rw [List.drop_zero] at h
  exact h
theorem valid_is (o : Int) (l : List (List Int)) (hl : l.length ≤ 9223372036854775807) : inquiry_Valid_pre o l ∧ inquiry_Valid_0 o l = valF o l := by
  obtain ⟨h1, h2⟩ := valid_loop o l hl
  refine ⟨fun _ => h1, ?_⟩
  unfold inquiry_Valid_0 valF
  rw [h2]
  have := vStep_run o l.length l (false, 0, 0)
  rw [this]
  by_cases h0 : 0 ≤ o
  · by_cases h8 : o ≤ 8
    · by_cases h200 : l.length ≤ 200
      · simp [h0, h8, h200, show ¬ o < 0 by omega, show ¬ o > 8 by omega, show ¬ ((l.length : Int) > 200) by omega]
      · simp [h0, h8, h200, show ((l.length : Int) > 200) by omega]
    · simp [h8, show o > 8 by omega]
  · simp [h0, show o < 0 by omega]
def onF (t : Int) : Bool → List (List Int) → Bool
  | b, [] => b
  | b, x :: r => if col x 0 > t then b else onF t (if clsF (col x 1) = 3 then col x 1 == 5 else b) r
def onStep (t : Int) (s : Bool) (x : List Int) : Bool ⊕ (Nat × List U) := if col x 0 > t then .inr (2, [.b s]) else .inl (if clsF (col x 1) = 3 then col x 1 == 5 else s)
theorem onStep_run (t n : Int) : ∀ (l : List (List Int)) (s : Bool),
    (bif (endL (fun s : Bool => (3, [.i n, .b s])) (runL (onStep t) s l)).1.beq 3 then gb (endL (fun s : Bool => (3, [.i n, .b s])) (runL (onStep t) s l)).2 0 else gb (endL (fun s : Bool => (3, [.i n, .b s])) (runL (onStep t) s l)).2 1) = onF t s l
  | [], s => rfl
  | x :: r, s => by
    unfold runL onF
    by_cases h : col x 0 > t
    · have e : onStep t s x = .inr (2, [.b s]) := by unfold onStep; rw [if_pos h]
      rw [e, if_pos h]; rfl
    · have e : onStep t s x = .inl (if clsF (col x 1) = 3 then col x 1 == 5 else s) := by unfold onStep; rw [if_neg h]
      rw [e, if_neg h]
      exact onStep_run t n r _
theorem on_is (o t : Int) (l : List (List Int)) (hl : l.length ≤ 9223372036854775807) : inquiry_on_pre o t l ∧ inquiry_on_0 o t l = onF t true l := by
  obtain ⟨h1, h2⟩ := loop_list (step := inquiry_on_l0_step o t l) l (fun i (s : Bool) => [.i i, .b s]) (onStep t) (fun _ _ => True) (fun s => (3, [.i l.length, .b s])) 0
    (fun i s hi _ _ => ⟨by
      unfold inquiry_on_l0_step onStep
      simp only [gi_z, gb_1, gb_z, dlt hi, guardP_true (inR_of hi), wrapS (show i < 9223372036854775807 by omega), getI_at hi, class_is]
      generalize l[i] = x
      by_cases h1 : col x 0 > t
      · rw [if_pos h1, decide_eq_true h1]; rfl
      · rw [if_neg h1, decide_eq_false h1]
        by_cases h2 : clsF (col x 1) = 3
        · rw [if_pos h2, h2]; rfl
        · rw [if_neg h2, bne h2]; rfl, fun _ _ => trivial⟩)
    (fun i s hi _ => by
      have : i = l.length := by omega
      subst this
      unfold inquiry_on_l0_step
      simp only [gi_z, gb_1, gb_z, dnlt]) (s := true) trivial
  rw [List.drop_zero] at h2
  refine ⟨h1, ?_⟩
  unfold inquiry_on_0 inquiry_on_l0
  have hi : inquiry_on_l0_init o t l = [.i ((0 : Nat) : Int), .b true] := rfl
  rw [hi, h2]
  exact onStep_run t l.length l true
def lastF (j : Nat) (d : Int) (l : List (List Int)) : Int := match l.getLast? with | some x => col x j | none => d
theorem last_is (o : Int) (l : List (List Int)) (hl : l.length ≤ 9223372036854775807) : inquiry_last_pre o l ∧ inquiry_last_0 o l = lastF 0 (-1) l ∧ inquiry_last_1 o l = lastF 3 0 l := by
  unfold inquiry_last_pre inquiry_last_0 inquiry_last_s0 inquiry_last_1 inquiry_last_s1 lastF
  by_cases h : l.length = 0
  · have : l = [] := List.eq_nil_of_length_eq_zero h
    subst this
    refine ⟨fun h => ?_, rfl, rfl⟩
    simp at h
  · have hw : IntKind.i64.wrap ((l.length : Int) - 1) = ((l.length - 1 : Nat) : Int) := by rw [i64_wrap (by omega)]; omega
    have hr : inR (IntKind.i64.wrap ((l.length : Int) - 1)) l := by rw [hw]; exact inR_of (by omega)
    have hd : decide ((l.length : Int) > 0) = true := decide_eq_true (by omega)
    have hg : l.getLast? = some l[l.length - 1] := by rw [List.getLast?_eq_getElem?, List.getElem?_eq_getElem (by omega)]
    refine ⟨fun _ => ⟨hr, hr, hr, hr, hr, hr⟩, ?_, ?_⟩
    · rw [hd, cond_true, hw, getI_at (by omega), hg]
    · rw [hd, cond_true, hw, getI_at (by omega), hg]
def sentF (n t : Int) (l : List (List Int)) : Bool := l.any fun x => col x 2 == n && (decide (t < 0) || col x 0 == t)
theorem sent_is (o n t : Int) (l : List (List Int)) (hl : l.length ≤ 9223372036854775807) : inquiry_sent_pre o n t l ∧ inquiry_sent_0 o n t l = sentF n t l :=
  loop_any (step := inquiry_sent_l0_step o n t l) (p := fun x => col x 2 == n && (decide (t < 0) || col x 0 == t)) 1
    (fun i hi => by
      unfold inquiry_sent_l0_step
      simp only [gi_z, gi_1, dlt hi, guardP_true (inR_of hi), wrapS (show i < 9223372036854775807 by omega), getI_at hi])
    (by unfold inquiry_sent_l0_step; simp only [gi_z, gi_1, dnlt]) rfl
def badC (x : List Int) : Bool := !tmF (col x 2) || !itF (col x 1) || decide (col x 0 < 1) || decide (col x 0 > 8)
def chF (l : List (List Int)) : Bool := decide (l.length ≤ 200) && !l.any badC
theorem chances_is (l : List (List Int)) (hl : l.length ≤ 9223372036854775807) : inquiry_chances_pre l ∧ inquiry_chances_0 l = chF l := by
  obtain ⟨h1, h2⟩ := loop_any (step := inquiry_chances_l0_step l) (l := l) (p := badC) 1
    (fun i hi => by
      unfold inquiry_chances_l0_step
      simp only [gi_z, gi_1, dlt hi, guardP_true (inR_of hi), wrapS (show i < 9223372036854775807 by omega), getI_at hi, time_is, item_is]
      rfl)
    (by unfold inquiry_chances_l0_step; simp only [gi_z, gi_1, dnlt]) (init := inquiry_chances_l0_init l) rfl
  refine ⟨fun _ => h1, ?_⟩
  unfold inquiry_chances_0 chF inquiry_chances_l0
  rw [h2]
  congr 1
  exact decide_eq_decide.2 (by omega)
def hasN (n : Int) (l : List (List Int)) : Bool := l.any fun x => n == col x 0
theorem contains_is (n : Int) (l : List (List Int)) (hl : l.length ≤ 9223372036854775807) : slices_Contains_int_int_pre n l ∧ slices_Contains_int_int_0 n l = hasN n l :=
  loop_any (step := slices_Contains_int_int_l0_step n l) (p := fun x => n == col x 0) 1
    (fun i hi => by
      unfold slices_Contains_int_int_l0_step
      simp only [gi_z, gi_1, dlt hi, guardP_true (inR_of hi), wrapS (show i < 9223372036854775807 by omega), getI_at hi])
    (by unfold slices_Contains_int_int_l0_step; simp only [gi_z, gi_1, dnlt]) rfl
end Go.Proofs.YtikhnofbbcmpeaaGreat
set_option linter.unusedVariables false
set_option maxRecDepth 100000
namespace Go.Proofs.YtikhnofbbcmpeaaGreat
open Go Go.Sy
def onceL (l : List Int) : List Int := dd none (isort leI l)
theorem onceL_length (l : List Int) : (onceL l).length ≤ l.length := by
  unfold onceL
  refine Nat.le_trans (dd_length _ _) ?_
  rw [isort_length]; exact Nat.le_refl _
theorem once_is (s : List (List Int)) : List.take (compLen (sortNums s)).toNat (compNums (sortNums s)) = ofNums (onceL (nums s)) ∧ 0 ≤ compLen (sortNums s) ∧ compLen (sortNums s) ≤ ((compNums (sortNums s)).length : Int) := by
  have e1 : nums (sortNums s) = isort leI (nums s) := by unfold sortNums; rw [nums_ofNums]
  have hle := dd_length (isort leI (nums s)) none
  unfold compLen compNums
  rw [e1]
  refine ⟨?_, by omega, ?_⟩
  · unfold ofNums onceL
    rw [Int.toNat_natCast, List.map_append, List.take_left' (by simp)]
  · simp [ofNums]
    omega
theorem foldl_filter {α β : Type} (p : α → Bool) (g : α → β) : ∀ (l : List α) (s : List β), l.foldl (fun s x => if p x = true then s ++ [g x] else s) s = s ++ (l.filter p).map g
  | [], s => by simp
  | x :: r, s => by
    rw [List.foldl_cons, foldl_filter p g r]
    by_cases h : p x = true
    · rw [if_pos h, List.filter_cons_of_pos h]; simp
    · rw [if_neg h, List.filter_cons_of_neg h]
theorem len_if {α : Type} (c : Prop) [Decidable c] (s : List α) (a : α) : (if c then s ++ [a] else s).length ≤ s.length + 1 := by
  split
  · simp
  · omega
def shRaw (t : Int) : List (List Int) → List Int
  | [] => []
  | x :: r => if col x 0 > t then [] else if col x 1 = 3 then col x 2 :: shRaw t r else shRaw t r
theorem shRaw_length (t : Int) : ∀ l, (shRaw t l).length ≤ l.length
  | [] => Nat.le_refl _
  | x :: r => by
    have := shRaw_length t r
    unfold shRaw
    split
    · exact Nat.zero_le _
    · split <;> simp <;> omega
def shStep (t : Int) (s : List (List Int)) (x : List Int) : List (List Int) ⊕ (Nat × List U) := if col x 0 > t then .inr (2, [.r s]) else .inl (if col x 1 = 3 then s ++ [[col x 2]] else s)
theorem shStep_run (t n : Int) : ∀ (l : List (List Int)) (s : List (List Int)),
    (∃ b, endL (fun s : List (List Int) => (3, [.i n, .r s])) (runL (shStep t) s l) = if b = true then (3, [.r (s ++ ofNums (shRaw t l))]) else (4, [.i n, .r (s ++ ofNums (shRaw t l))]))
  | [], s => ⟨false, by simp [runL, endL, shRaw, ofNums]⟩
  | x :: r, s => by
    unfold runL shRaw
    by_cases h : col x 0 > t
    · have e : shStep t s x = .inr (2, [.r s]) := by unfold shStep; rw [if_pos h]
      exact ⟨true, by rw [e, if_pos h]; simp [endL, ofNums]⟩
    · have e : shStep t s x = .inl (if col x 1 = 3 then s ++ [[col x 2]] else s) := by unfold shStep; rw [if_neg h]
      rw [e, if_neg h]
      obtain ⟨b, hb⟩ := shStep_run t n r (if col x 1 = 3 then s ++ [[col x 2]] else s)
      refine ⟨b, ?_⟩
      simp only [hb]
      by_cases h3 : col x 1 = 3
      · simp only [if_pos h3, ofNums, List.map_cons, List.append_assoc, List.cons_append, List.nil_append]
      · simp only [if_neg h3]
theorem shown_is (o t : Int) (l : List (List Int)) (hl : l.length ≤ 1000000) : inquiry_shown_pre o t l ∧ inquiry_shown_0 o t l = ofNums (onceL (shRaw t l)) := by
  obtain ⟨h1, h2⟩ := loop_list (step := inquiry_shown_l0_step o t l) l (fun i (s : List (List Int)) => [.i i, .r s]) (shStep t) (fun i s => s.length ≤ i) (fun s => (3, [.i l.length, .r s])) 0
    (fun i s hi _ hI => by
      have hfit : fitsA 8 (s.length + [[col l[i] 2]].length) := by unfold fitsA maxLen; simp only [List.length_cons, List.length_nil]; omega
      refine ⟨?_, fun s' hs' => ?_⟩
      · unfold inquiry_shown_l0_step shStep
        simp only [gi_z, gr_1, gr_z, dlt hi, guardP_true (inR_of hi), wrapS (show i < 9223372036854775807 by omega), getI_at hi]
        rw [guardP_true hfit]
        generalize l[i] = x
        by_cases h1 : col x 0 > t
        · rw [if_pos h1, decide_eq_true h1]; rfl
        · rw [if_neg h1, decide_eq_false h1]
          by_cases h2 : x.getD 1 0 = 3
          · rw [if_pos h2, h2]; rfl
          · rw [if_neg h2, bne h2]; rfl
      · unfold shStep at hs'
        split at hs'
        · cases hs'
        · cases hs'
          exact Nat.le_trans (len_if _ _ _) (by omega))
    (fun i s hi _ => by
      have : i = l.length := by omega
      subst this
      unfold inquiry_shown_l0_step
      simp only [gi_z, gr_1, gr_z, dnlt]) (s := []) (Nat.zero_le _)
  rw [List.drop_zero] at h2
  obtain ⟨b, hb⟩ := shStep_run t l.length l []
  have hg : inquiry_shown_l0 o t l = if b = true then (3, [.r (ofNums (shRaw t l))]) else (4, [.i l.length, .r (ofNums (shRaw t l))]) := by
    unfold inquiry_shown_l0
    have hi : inquiry_shown_l0_init o t l = [.i ((0 : Nat) : Int), .r []] := rfl
    rw [hi, h2, hb, List.nil_append]
  have hlen : (ofNums (shRaw t l)).length < 4611686018427387904 := by
    have := shRaw_length t l
    simp [ofNums]; omega
  obtain ⟨o1, o2, o3⟩ := once_is (ofNums (shRaw t l))
  rw [nums_ofNums] at o1
  unfold inquiry_shown_pre inquiry_shown_0 inquiry_shown_s0
  rw [hg]
  cases b with
  | true =>
    rw [if_pos rfl]
    exact ⟨⟨h1, fun _ => ⟨hlen, o2, o3⟩, fun h => by cases h⟩, o1⟩
  | false =>
    rw [if_neg (by decide)]
    exact ⟨⟨h1, (fun h => by cases h), fun _ => ⟨hlen, o2, o3⟩⟩, o1⟩
def shownF (t : Int) (l : List (List Int)) : List Int := onceL (shRaw t l)
theorem Shown_is (o t : Int) (l : List (List Int)) (hl : l.length ≤ 9223372036854775807) : inquiry_Shown_pre o t l ∧ inquiry_Shown_0 o t l = (if (valF o l && tmF t) = true then ofNums (shownF t l) else []) ∧ inquiry_Shown_1 o t l = if (valF o l && tmF t) = true then 0 else 1 := by
  obtain ⟨v1, v2⟩ := valid_is o l hl
  unfold inquiry_Shown_pre inquiry_Shown_0 inquiry_Shown_1
  rw [v2, time_is]
  cases hv : valF o l with
  | false => exact ⟨⟨v1, fun h => by cases h⟩, rfl, rfl⟩
  | true =>
    have h200 : l.length ≤ 200 := by
      unfold valF at hv
      simp only [Bool.and_eq_true, decide_eq_true_eq] at hv
      exact hv.1.2
    obtain ⟨s1, s2⟩ := shown_is o t l (by omega)
    cases ht : tmF t with
    | false => exact ⟨⟨v1, fun h => by cases h⟩, rfl, rfl⟩
    | true => exact ⟨⟨v1, fun _ => s1⟩, s2, rfl⟩
theorem val_len {o : Int} {l : List (List Int)} (h : valF o l = true) : l.length ≤ 200 ∧ 0 ≤ o ∧ o ≤ 8 := by
  unfold valF at h
  simp only [Bool.and_eq_true, decide_eq_true_eq] at h
  exact ⟨h.1.2, h.1.1.1, h.1.1.2⟩
def coP (so t : Int) (office ship : List (List Int)) (c : List Int) : Bool := col c 0 == so && decide (col c 2 ≤ t) && sentF (col c 1) (col c 2) office && onF (col c 2) true ship
def coRaw (so t : Int) (office ship list : List (List Int)) : List Int := (list.filter (coP so t office ship)).map fun c => col c 1
def coOk (oo so t : Int) (office ship list : List (List Int)) : Bool := valF oo office && valF so ship && chF list && tmF t && oo == 0 && so != 0
theorem Could_is (oo so t : Int) (office ship list : List (List Int)) (h1 : office.length ≤ 9223372036854775807) (h2 : ship.length ≤ 9223372036854775807) (h3 : list.length ≤ 9223372036854775807) :
    inquiry_Could_pre oo so t office ship list ∧ inquiry_Could_0 oo so t office ship list = (if coOk oo so t office ship list = true then ofNums (onceL (coRaw so t office ship list)) else []) ∧ inquiry_Could_1 oo so t office ship list = if coOk oo so t office ship list = true then 0 else 1 := by
  obtain ⟨a1, a2⟩ := valid_is oo office h1
  obtain ⟨b1, b2⟩ := valid_is so ship h2
  obtain ⟨c1, c2⟩ := chances_is list h3
  unfold inquiry_Could_pre inquiry_Could_0 inquiry_Could_s0 inquiry_Could_1
  rw [a2, b2, c2, time_is]
  have e : (!valF oo office || !valF so ship || !chF list || !tmF t || oo != 0 || so == 0) = !coOk oo so t office ship list := by
    unfold coOk
    show (!valF oo office || !valF so ship || !chF list || !tmF t || !(oo == 0) || so == 0) = !(valF oo office && valF so ship && chF list && tmF t && oo == 0 && !(so == 0))
    cases valF oo office <;> cases valF so ship <;> cases chF list <;> cases tmF t <;> cases (oo == 0) <;> cases (so == 0) <;> rfl
  rw [e]
  cases hok : coOk oo so t office ship list with
  | false => exact ⟨⟨a1, fun _ => b1, fun _ => c1, fun h => by cases h⟩, rfl, rfl⟩
  | true =>
    have hlist : list.length ≤ 200 := by
      unfold coOk chF at hok
      simp only [Bool.and_eq_true, decide_eq_true_eq] at hok
      exact hok.1.1.1.2.1
    obtain ⟨g1, g2⟩ := loop_list (step := inquiry_Could_l0_step oo so t office ship list) list (fun i (s : List (List Int)) => [.i i, .r s]) (fun s x => .inl (if coP so t office ship x = true then s ++ [[col x 1]] else s)) (fun i s => s.length ≤ i) (fun s => (2, [.i list.length, .r s])) 0
      (fun i s hi _ hI => by
        have hfit : fitsA 8 (s.length + [[col list[i] 1]].length) := by unfold fitsA maxLen; simp only [List.length_cons, List.length_nil]; omega
        refine ⟨?_, fun s' hs' => ?_⟩
        · unfold inquiry_Could_l0_step
          simp only [gi_z, gr_1, gr_z, dlt hi, guardP_true (inR_of hi), wrapS (show i < 9223372036854775807 by omega), getI_at hi, (sent_is _ _ _ office h1).2, (on_is _ _ ship h2).2]
          rw [guardP_true (fun _ => (sent_is _ _ _ office h1).1), guardP_true (fun _ => (on_is _ _ ship h2).1), guardP_true hfit]
          generalize list[i] = x
          show (bif coP so t office ship x then _ else _) = _
          cases coP so t office ship x
          · rw [if_neg (by decide)]; rfl
          · rw [if_pos rfl]; rfl
        · cases hs'
          exact Nat.le_trans (len_if _ _ _) (by omega))
      (fun i s hi _ => by
        have : i = list.length := by omega
        subst this
        unfold inquiry_Could_l0_step
        simp only [gi_z, gr_1, gr_z, dnlt]) (s := []) (Nat.zero_le _)
    rw [List.drop_zero, run_fold, foldl_filter, List.nil_append] at g2
    have hg : inquiry_Could_l0 oo so t office ship list = (3, [.i list.length, .r (ofNums (coRaw so t office ship list))]) := by
      unfold inquiry_Could_l0
      have hi : inquiry_Could_l0_init oo so t office ship list = [.i ((0 : Nat) : Int), .r []] := rfl
      rw [hi, g2]
      unfold coRaw ofNums
      rw [List.map_map]
      rfl
    have hlen : (ofNums (coRaw so t office ship list)).length < 4611686018427387904 := by
      have := List.length_filter_le (coP so t office ship) list
      simp [ofNums, coRaw]; omega
    obtain ⟨o1, o2, o3⟩ := once_is (ofNums (coRaw so t office ship list))
    rw [nums_ofNums] at o1
    rw [hg]
    exact ⟨⟨a1, fun _ => b1, fun _ => c1, fun _ => ⟨g1, hlen, o2, o3⟩⟩, o1, rfl⟩
end Go.Proofs.YtikhnofbbcmpeaaGreat
set_option linter.unusedVariables false
set_option maxRecDepth 100000
namespace Go.Proofs.YtikhnofbbcmpeaaGreat
open Go Go.Sy
def bitOk (m k : Nat) : Bool := (bAnd IntKind.i64 ((m : Int).fdiv ((2 : Int) ^ min k IntKind.i64.bits)) 1 == 1) == m.testBit k
theorem bit_all : (List.range 512).all (fun m => (List.range 9).all fun k => bitOk m k) = true := by decide +kernel
theorem bit_is {m k : Nat} (hm : m < 512) (hk : k < 9) : (bAnd IntKind.i64 ((m : Int).fdiv ((2 : Int) ^ min k IntKind.i64.bits)) 1 == 1) = m.testBit k := by
  have := List.all_eq_true.1 (List.all_eq_true.1 bit_all m (List.mem_range.2 hm)) k (List.mem_range.2 hk)
  exact eq_of_beq this
def orOk (m k : Nat) : Bool := bOr IntKind.i64 (m : Int) (bShl IntKind.i64 1 (k : Int)) == ((m ||| 2 ^ k : Nat) : Int)
theorem or_all : (List.range 512).all (fun m => (List.range 9).all fun k => orOk m k) = true := by decide +kernel
theorem or_is' {m k : Nat} (hm : m < 512) (hk : k < 9) : bOr IntKind.i64 (m : Int) (bShl IntKind.i64 1 (k : Int)) = ((m ||| 2 ^ k : Nat) : Int) := by
  have := List.all_eq_true.1 (List.all_eq_true.1 or_all m (List.mem_range.2 hm)) k (List.mem_range.2 hk)
  exact eq_of_beq this
def subB (m a : Nat) : Bool := (List.range 9).all fun k => !m.testBit k || a.testBit k
theorem ofInt_bit {m : Nat} (hm : m < 512) (i : Nat) : (BitVec.ofInt 64 (m : Int)).getLsbD i = (decide (i < 64) && m.testBit i) := by
  have : BitVec.ofInt 64 (m : Int) = BitVec.ofNat 64 m := by
    apply BitVec.eq_of_toNat_eq
    simp
  rw [this, BitVec.getLsbD_ofNat]
theorem testBit_hi {m : Nat} (hm : m < 512) {i : Nat} (hi : 9 ≤ i) : m.testBit i = false := by
  refine Nat.testBit_lt_two_pow (Nat.lt_of_lt_of_le hm ?_)
  exact Nat.pow_le_pow_right (n := 2) (by omega) hi
theorem wrap_zero {n : Nat} (h : n < 18446744073709551616) : IntKind.i64.wrap (n : Int) = 0 ↔ n = 0 := by
  constructor
  · intro hw
    simp only [IntKind.wrap, IntKind.bits, IntKind.signed] at hw
    simp at hw
    split at hw <;> omega
  · rintro rfl; decide
theorem not_is {m a : Nat} (hm : m < 512) (ha : a < 512) : (bNot IntKind.i64 (m : Int) (a : Int) != 0) = !subB m a := by
  have key : (BitVec.ofInt 64 (m : Int) &&& ~~~(BitVec.ofInt 64 (a : Int))) = 0#64 ↔ subB m a = true := by
    constructor
    · intro h
      refine List.all_eq_true.2 fun k hk => ?_
      have hk := List.mem_range.1 hk
      have h1 := congrArg (fun v => v.getLsbD k) h
      simp only [BitVec.getLsbD_and, BitVec.getLsbD_not, ofInt_bit hm, ofInt_bit ha, BitVec.getLsbD_zero] at h1
      have h64 : k < 64 := by omega
      simp only [h64, decide_true, Bool.true_and] at h1
      cases h2 : m.testBit k <;> cases h3 : a.testBit k <;> simp_all
    · intro h
      apply BitVec.eq_of_getLsbD_eq
      intro i hi
      simp only [BitVec.getLsbD_and, BitVec.getLsbD_not, ofInt_bit hm, ofInt_bit ha, BitVec.getLsbD_zero]
      by_cases h9 : i < 9
      · have := List.all_eq_true.1 h i (List.mem_range.2 h9)
        cases h2 : m.testBit i <;> cases h3 : a.testBit i <;> simp_all
      · rw [testBit_hi hm (by omega)]; simp
  have hlt : (BitVec.ofInt 64 (m : Int) &&& ~~~(BitVec.ofInt 64 (a : Int))).toNat < 18446744073709551616 := BitVec.isLt _
  have e : bNot IntKind.i64 (m : Int) (a : Int) = IntKind.i64.wrap ((BitVec.ofInt 64 (m : Int) &&& ~~~(BitVec.ofInt 64 (a : Int))).toNat : Int) := rfl
  cases hs : subB m a with
  | true =>
    have := key.2 hs
    rw [e, this]; decide
  | false =>
    have hne : ¬ (BitVec.ofInt 64 (m : Int) &&& ~~~(BitVec.ofInt 64 (a : Int))) = 0#64 := fun h => by rw [key.1 h] at hs; cases hs
    have h0 : ¬ (BitVec.ofInt 64 (m : Int) &&& ~~~(BitVec.ofInt 64 (a : Int))).toNat = 0 := fun h => hne (BitVec.eq_of_toNat_eq h)
    have : ¬ bNot IntKind.i64 (m : Int) (a : Int) = 0 := fun h => h0 ((wrap_zero hlt).1 (e ▸ h))
    simp [this]
def ddF (p : List Int) : List (List Int) → List (List Int)
  | [] => []
  | x :: r => if x = p then ddF p r else x :: ddF x r
def ddR : List (List Int) → List (List Int)
  | [] => []
  | x :: r => x :: ddF x r
theorem ddF_snoc (x : List Int) : ∀ (l : List (List Int)) (p : List Int), ddF p (l ++ [x]) = if (l.getLast?.getD p) = x then ddF p l else ddF p l ++ [x]
  | [], p => by
    show (if x = p then ddF p [] else x :: ddF x []) = if p = x then ddF p [] else ddF p [] ++ [x]
    by_cases h : x = p
    · rw [if_pos h, if_pos h.symm]
    · rw [if_neg h, if_neg (fun e => h e.symm)]; rfl
  | y :: r, p => by
    have e : (y :: r).getLast?.getD p = r.getLast?.getD y := by
      cases r with
      | nil => rfl
      | cons a b => rw [List.getLast?_cons_cons]; cases h : (a :: b).getLast? with
        | none => simp at h
        | some z => rfl
    rw [List.cons_append, e]
    unfold ddF
    by_cases h : y = p
    · subst h
      rw [if_pos rfl, if_pos rfl]
      exact ddF_snoc x r y
    · rw [if_neg h, if_neg h, ddF_snoc x r y]
      split <;> rfl
theorem ddR_take {l : List (List Int)} {j : Nat} (h0 : 0 < j) (hj : j < l.length) : ddR (l.take (j + 1)) = if l[j] = l[j - 1] then ddR (l.take j) else ddR (l.take j) ++ [l[j]] := by
  cases l with
  | nil => simp at hj
  | cons x r =>
    obtain ⟨i, rfl⟩ : ∃ i, j = i + 1 := ⟨j - 1, by omega⟩
    have hi : i < r.length := by simpa using hj
    simp only [List.take_succ_cons, ddR]
    rw [List.take_succ_eq_append_getElem hi, ddF_snoc]
    have e1 : (x :: r)[i + 1] = r[i] := rfl
    have e2 : ((r.take i).getLast?.getD x) = (x :: r)[i + 1 - 1] := by
      cases i with
      | zero => rfl
      | succ i =>
        have hi' : i < r.length := by omega
        rw [List.take_succ_eq_append_getElem hi', List.getLast?_concat]
        rfl
    rw [e1, e2]
    by_cases h : r[i] = (x :: r)[i + 1 - 1]
    · rw [if_pos h, if_pos h.symm]
    · rw [if_neg h, if_neg (fun e => h e.symm)]; rfl
theorem ddR_one {l : List (List Int)} (h : 0 < l.length) : ddR (l.take 1) = [l[0]] := by
  cases l with
  | nil => simp at h
  | cons x r => rfl
theorem ddR_length_take (l : List (List Int)) : ∀ j, 0 < j → j ≤ l.length → (ddR (l.take j)).length ≤ j ∧ 0 < (ddR (l.take j)).length
  | 0, h, _ => by omega
  | 1, _, h => by rw [ddR_one (by omega)]; simp
  | j + 2, _, h => by
    obtain ⟨ih1, ih2⟩ := ddR_length_take l (j + 1) (by omega) (by omega)
    rw [ddR_take (by omega) (by omega)]
    split
    · omega
    · simp; omega
theorem ddR_same {l : List (List Int)} : ∀ j, 0 < j → j ≤ l.length → (∀ i (hi : i < l.length), 0 < i → i < j → l[i] ≠ l[i - 1]) → ddR (l.take j) = l.take j
  | 0, h, _, _ => by omega
  | 1, _, h, _ => by rw [ddR_one (by omega), List.take_succ_eq_append_getElem (by omega)]; simp
  | j + 2, _, h, hne => by
    rw [ddR_take (by omega) (by omega), if_neg (hne (j + 1) (by omega) (by omega) (by omega)), ddR_same (j + 1) (by omega) (by omega) (fun i hi h0 h1 => hne i hi h0 (by omega)), ← List.take_succ_eq_append_getElem]
end Go.Proofs.YtikhnofbbcmpeaaGreat
set_option linter.unusedVariables false
set_option maxRecDepth 100000
namespace Go.Proofs.YtikhnofbbcmpeaaGreat
open Go Go.Sy
def rOn (k : Nat) : List Int := [2, (k : Int), 0]
def lft (g : List Int) : List Int := if col g 2 = 0 then [3, col g 0, col g 1] else [1, 0, col g 1]
def cov (m : Nat) (g : List Int) : Bool := col g 3 != 0 && m.testBit (col g 0).toNat
def byRaw (m : Nat) (list : List (List Int)) : List (List Int) := ((List.range 9).filter m.testBit).map rOn ++ (list.filter fun g => !cov m g).map lft
def byF (m : Nat) (list : List (List Int)) : List (List Int) := ddR (isort (leL [0, 1, 2]) (byRaw m list))
def ShipsOk (list : List (List Int)) : Prop := ∀ g ∈ list, 0 ≤ col g 0 ∧ col g 0 ≤ 8
theorem lft_len (g : List Int) : (lft g).length = 3 := by unfold lft; split <;> rfl
theorem byRaw_len3 (m : Nat) (list : List (List Int)) : ∀ x ∈ byRaw m list, x.length = 3 := by
  intro x hx
  rcases List.mem_append.1 hx with hx | hx
  · obtain ⟨k, _, rfl⟩ := List.mem_map.1 hx; rfl
  · obtain ⟨g, _, rfl⟩ := List.mem_map.1 hx; exact lft_len g
theorem row3_ext {a b : List Int} (ha : a.length = 3) (hb : b.length = 3) (h0 : col a 0 = col b 0) (h1 : col a 1 = col b 1) (h2 : col a 2 = col b 2) : a = b := by
  match a, b, ha, hb with
  | [a0, a1, a2], [b0, b1, b2], _, _ =>
    have h0 : a0 = b0 := h0
    have h1 : a1 = b1 := h1
    have h2 : a2 = b2 := h2
    rw [h0, h1, h2]
theorem row3_beq {a b : List Int} (ha : a.length = 3) (hb : b.length = 3) : (col a 0 == col b 0 && (col a 1 == col b 1 && (col a 2 == col b 2 && true))) = decide (a = b) := by
  by_cases h : a = b
  · subst h; simp
  · rw [decide_eq_false h]
    cases hq : (col a 0 == col b 0 && (col a 1 == col b 1 && (col a 2 == col b 2 && true))) with
    | false => rfl
    | true =>
      simp only [Bool.and_eq_true, beq_iff_eq] at hq
      exact absurd (row3_ext ha hb hq.1 hq.2.1 hq.2.2.1) h
theorem by0_is {m : Nat} (hm : m < 512) (list : List (List Int)) : loopOk (inquiry_by_l0_step m list) (inquiry_by_l0_init m list) ∧ gr (inquiry_by_l0 m list).snd 1 = ((List.range 9).filter m.testBit).map rOn := by
  have hu : ∀ n, upto (fun i (s : List (List Int)) => if m.testBit i = true then s ++ [rOn i] else s) n [] = ((List.range n).filter m.testBit).map rOn := by
    intro n
    induction n with
    | zero => rfl
    | succ n ih =>
      show (if m.testBit n = true then upto _ n [] ++ [rOn n] else upto _ n []) = _
      rw [ih, List.range_succ, List.filter_append, List.map_append]
      cases hb : m.testBit n
      · simp [hb]
      · simp [hb]
  obtain ⟨h1, h2, _⟩ := loop_fold (step := inquiry_by_l0_step m list) 9 (fun i (s : List (List Int)) => [.i i, .r s]) (fun i s => if m.testBit i = true then s ++ [rOn i] else s) (fun i s => s.length ≤ i) 2 (fun s => [.i (9 : Nat), .r s])
    (fun i s hi hI => Nat.le_trans (len_if _ _ _) (by omega))
    (fun i s hi hI => by
      have hfit : fitsA 24 (s.length + [[(2 : Int), (i : Int), 0]].length) := by unfold fitsA maxLen; simp only [List.length_cons, List.length_nil]; omega
      unfold inquiry_by_l0_step
      simp only [gi_z, gr_1, gr_z, decide_eq_true (show (i : Int) < 9 by omega), cond_true, guardP_true (show (0 : Int) ≤ (i : Int) by omega), Int.toNat_natCast, bit_is hm hi, wrapS (show i < 9223372036854775807 by omega)]
      rw [guardP_true hfit]
      cases m.testBit i
      · rw [if_neg (by decide)]; rfl
      · rw [if_pos rfl]; rfl)
    (fun s hI => by
      unfold inquiry_by_l0_step
      simp only [gi_z, gr_1, gr_z]
      rfl) (s := []) (Nat.le_refl _)
  refine ⟨h1, ?_⟩
  have : inquiry_by_l0 m list = loopGet (inquiry_by_l0_step m list) [.i ((0 : Nat) : Int), .r []] := rfl
  rw [this, h2]
  show gr [.i (9 : Nat), .r (upto _ 9 [])] 1 = _
  rw [gr_1, gr_z, hu]
theorem by1_is {m : Nat} (hm : m < 512) {list : List (List Int)} (hs : ShipsOk list) (hl : list.length ≤ 1000000) : loopOk (inquiry_by_l1_step m list) (inquiry_by_l1_init m list) ∧ gr (inquiry_by_l1 m list).snd 1 = byRaw m list := by
  have h9 : (((List.range 9).filter m.testBit).map rOn).length ≤ 9 := by
    rw [List.length_map]
    exact Nat.le_trans (List.length_filter_le _ _) (by simp)
  obtain ⟨h1, h2⟩ := loop_list (step := inquiry_by_l1_step m list) list (fun i (s : List (List Int)) => [.i i, .r s]) (fun s x => .inl (if (!cov m x) = true then s ++ [lft x] else s)) (fun i s => s.length ≤ 9 + i) (fun s => (3, [.i list.length, .r s])) 0
    (fun i s hi _ hI => by
      have hfit : ∀ x : List Int, fitsA 24 (s.length + [x].length) := fun x => by unfold fitsA maxLen; simp only [List.length_cons, List.length_nil]; omega
      refine ⟨?_, fun s' hs' => ?_⟩
      · obtain ⟨q1, q2⟩ := hs _ (List.getElem_mem hi)
        unfold inquiry_by_l1_step inquiry_by_s0
        simp only [gi_z, gr_1, gr_z, dlt hi, guardP_true (inR_of hi), wrapS (show i < 9223372036854775807 by omega), getI_at hi]
        generalize hx : list[i] = x at *
        rw [guardP_true (fun _ => q1), guardP_true (hfit _), guardP_true (hfit _)]
        have hb := bit_is hm (show (col x 0).toNat < 9 by omega)
        have hb' : (bAnd IntKind.i64 ((m : Int).fdiv ((2 : Int) ^ min (x.getD 0 0).toNat IntKind.i64.bits)) 1 == 1) = m.testBit (col x 0).toNat := hb
        rw [hb']
        show (bif cov m x then _ else _) = _
        cases cov m x with
        | true => rw [if_neg (by decide)]; rfl
        | false =>
          rw [if_pos (show (!false) = true from rfl)]
          unfold lft
          by_cases h2 : x.getD 2 0 = 0
          · rw [if_pos h2, h2]; rfl
          · rw [if_neg h2]
            have : (x.getD 2 0 != 0) = true := by simpa using h2
            rw [this]; rfl
      · cases hs'
        exact Nat.le_trans (len_if _ _ _) (by omega))
    (fun i s hi _ => by
      have : i = list.length := by omega
      subst this
      unfold inquiry_by_l1_step
      simp only [gi_z, gr_1, gr_z, dnlt]) (s := ((List.range 9).filter m.testBit).map rOn) (by omega)
  have e : inquiry_by_l1_init m list = [.i ((0 : Nat) : Int), .r (((List.range 9).filter m.testBit).map rOn)] := by
    unfold inquiry_by_l1_init
    rw [(by0_is hm list).2]; rfl
  unfold inquiry_by_l1
  rw [e]
  refine ⟨h1, ?_⟩
  rw [h2, List.drop_zero, run_fold, foldl_filter]
  show gr [.i list.length, .r _] 1 = _
  rw [gr_1, gr_z]
  rfl
theorem setEl3 {a : List Int} (x y z : Int) : setEl 3 a 0 [x, y, z] = [x, y, z] := rfl
theorem by3_is {set : Int} {list T : List (List Int)} (hT : sortRows 3 [0, 1, 2] (gr (inquiry_by_l1 set list).snd 1) = T) (h3 : ∀ x ∈ T, x.length = 3) {k0 : Nat} (hk : 0 < k0) (hk' : k0 < T.length) (hlen : T.length ≤ 10000000) (hd : ddR (T.take (k0 + 1)) = T.take k0) :
    loopOk (inquiry_by_l3_step set list [.i k0]) (inquiry_by_l3_init set list [.i k0]) ∧ ∃ (k : Nat) (S : List (List Int)), inquiry_by_l3 set list [.i k0] = (3, [.i k, .i (T.length - k0 : Nat), .r S]) ∧ k ≤ T.length ∧ S.length = T.length ∧ S.take k = ddR T := by
  have h3at : ∀ j (hj : j < T.length), T[j].length = 3 := fun j hj => h3 _ (List.getElem_mem hj)
  let f : Nat → Nat × List (List Int) → Nat × List (List Int) := fun i s => if T.getD (k0 + (i + 1)) [] = T.getD (k0 + i) [] then s else (s.1 + 1, s.2.set s.1 (T.getD (k0 + (i + 1)) []))
  let I : Nat → Nat × List (List Int) → Prop := fun i s => s.1 = (ddR (T.take (k0 + i + 1))).length ∧ s.2.length = T.length ∧ s.2.take s.1 = ddR (T.take (k0 + i + 1)) ∧ (∀ p, k0 + i ≤ p → s.2[p]? = T[p]?) ∧ s.1 ≤ k0 + i
  have hI : ∀ i s, i < T.length - k0 - 1 → I i s → I (i + 1) (f i s) := by
    rintro i ⟨k, S⟩ hi ⟨q1, q2, q3, q4, q5⟩
    have q5 : k ≤ k0 + i := q5
    have q4 : ∀ p, k0 + i ≤ p → S[p]? = T[p]? := q4
    have hj : k0 + i + 1 < T.length := by omega
    have e1 : T.getD (k0 + (i + 1)) [] = T[k0 + i + 1] := getD_at (i := k0 + i + 1) hj
    have e2 : T.getD (k0 + i) [] = T[k0 + i] := getD_at (by omega)
    have hdt := ddR_take (l := T) (j := k0 + i + 1) (by omega) hj
    have hdl := ddR_length_take T (k0 + i + 1) (by omega) (by omega)
    show I (i + 1) (if T.getD (k0 + (i + 1)) [] = T.getD (k0 + i) [] then (k, S) else (k + 1, S.set k (T.getD (k0 + (i + 1)) [])))
    rw [e1, e2]
    have e3 : k0 + i + 1 - 1 = k0 + i := rfl
    by_cases h : T[k0 + i + 1] = T[k0 + i]
    · rw [if_pos h]
      rw [if_pos (by simpa using h)] at hdt
      refine ⟨?_, q2, ?_, fun p hp => q4 p (by omega), by show k ≤ k0 + (i + 1); omega⟩
      · rw [show k0 + (i + 1) + 1 = k0 + i + 1 + 1 by omega, hdt]; exact q1
      · rw [show k0 + (i + 1) + 1 = k0 + i + 1 + 1 by omega, hdt]; exact q3
    · rw [if_neg h]
      rw [if_neg (by simpa using h)] at hdt
      have q1 : k = _ := q1
      have q2 : S.length = T.length := q2
      have q3 : S.take k = _ := q3
      refine ⟨?_, by simp [q2], ?_, fun p hp => ?_, by show k + 1 ≤ k0 + (i + 1); omega⟩
      · rw [show k0 + (i + 1) + 1 = k0 + i + 1 + 1 by omega, hdt, List.length_append, ← q1]; rfl
      · show (S.set k T[k0 + i + 1]).take (k + 1) = _
        rw [show k0 + (i + 1) + 1 = k0 + i + 1 + 1 by omega, hdt, List.take_succ_eq_append_getElem (by simp; omega)]
        congr 1
        · rw [List.take_set_of_le (Nat.le_refl _), q3]
        · simp
      · show (S.set k T[k0 + i + 1])[p]? = _
        rw [List.getElem?_set_ne (by omega)]
        exact q4 p (by omega)
  obtain ⟨g1, g2, g3⟩ := loop_fold (step := inquiry_by_l3_step set list [.i k0]) (T.length - k0 - 1) (fun i (s : Nat × List (List Int)) => [.i s.1, .i ((i + 1 : Nat) : Int), .r s.2]) f I 2 (fun s => [.i s.1, .i (T.length - k0 : Nat), .r s.2]) hI
    (fun i s hi hIs => by
      obtain ⟨k, S⟩ := s
      obtain ⟨q1, q2, q3, q4, q5⟩ := hIs
      have q1 : k = _ := q1
      have q2 : S.length = T.length := q2
      have q4 : ∀ p, k0 + i ≤ p → S[p]? = T[p]? := q4
      have hj : k0 + i + 1 < T.length := by omega
      have hdl := ddR_length_take T (k0 + i + 1) (by omega) (by omega)
      have e1 : T.getD (k0 + (i + 1)) [] = T[k0 + i + 1] := getD_at (i := k0 + i + 1) hj
      have e2 : T.getD (k0 + i) [] = T[k0 + i] := getD_at (by omega)
      have s1 : S.getD (k0 + i + 1) [] = T[k0 + i + 1] := by rw [List.getD_eq_getElem?_getD, q4 _ (by omega), List.getElem?_eq_getElem hj]; rfl
      have s2 : S.getD (k0 + i) [] = T[k0 + i] := by rw [List.getD_eq_getElem?_getD, q4 _ (by omega), List.getElem?_eq_getElem (by omega)]; rfl
      have hw1 : IntKind.i64.wrap (((i + 1 : Nat) : Int) - 1) = ((i : Nat) : Int) := by rw [i64_wrap (by omega)]; omega
      have hw2 : IntKind.i64.wrap ((k : Int) + 1) = ((k + 1 : Nat) : Int) := wrapS (by omega)
      have hw3 : IntKind.i64.wrap (((i + 1 : Nat) : Int) + 1) = ((i + 1 + 1 : Nat) : Int) := wrapS (by omega)
      unfold inquiry_by_l3_step inquiry_by_s8 inquiry_by_s4 inquiry_by_s5 inquiry_by_s6 inquiry_by_s7
      rw [hT]
      simp only [gi_z, gi_1, gr_2, gr_1, gr_z, boundsA, shI, loN, Int.toNat_natCast, hw1, hw2, hw3]
      rw [decide_eq_true (by omega), cond_true, guardP_true (by omega), guardP_true (by unfold inR; omega), guardP_true (by omega), guardP_true (by unfold inR; omega)]
      rw [show ((k0 : Int) + ((i + 1 : Nat) : Int)).toNat = k0 + i + 1 by omega, show ((k0 : Int) + ((i : Nat) : Int)).toNat = k0 + i by omega, s1, s2]
      have hq := row3_beq (h3at (k0 + i + 1) hj) (h3at (k0 + i) (by omega))
      rw [hq]
      show _ = some (0, [U.i (f i (k, S)).1, U.i ((i + 1 + 1 : Nat) : Int), U.r (f i (k, S)).2])
      have ef : f i (k, S) = if T.getD (k0 + (i + 1)) [] = T.getD (k0 + i) [] then (k, S) else (k + 1, S.set k (T.getD (k0 + (i + 1)) [])) := rfl
      rw [ef, e1, e2]
      by_cases h : T[k0 + i + 1] = T[k0 + i]
      · rw [if_pos h, decide_eq_true h]; rfl
      · rw [if_neg h, decide_eq_false h]
        simp only [Bool.not_false, cond_true]
        rw [guardP_true (by omega), guardP_true (by unfold inR; omega), guardP_true (by unfold inR; omega), guardP_true (by unfold inR; omega), setEl3]
        rw [row3_ext (a := [col T[k0 + i + 1] 0, col T[k0 + i + 1] 1, col T[k0 + i + 1] 2]) (b := T[k0 + i + 1]) rfl (h3at _ hj) rfl rfl rfl])
    (fun s hIs => by
      obtain ⟨k, S⟩ := s
      unfold inquiry_by_l3_step inquiry_by_s4
      rw [hT]
      simp only [gi_z, gi_1, gr_2, gr_1, gr_z, boundsA, loN, Int.toNat_natCast]
      rw [decide_eq_false (by omega), cond_false, show T.length - k0 - 1 + 1 = T.length - k0 by omega]) (s := (k0, T))
    ⟨by rw [Nat.add_zero, hd, List.length_take]; show k0 = _; omega, rfl, by rw [Nat.add_zero, hd], fun p _ => rfl, Nat.le_refl _⟩
  have ei : inquiry_by_l3_init set list [.i k0] = [.i k0, .i ((0 + 1 : Nat) : Int), .r T] := by
    unfold inquiry_by_l3_init
    rw [hT]; rfl
  unfold inquiry_by_l3
  rw [ei]
  refine ⟨g1, _, _, g2, ?_, g3.2.1, ?_⟩
  · have := g3.1
    rw [this]
    rw [show k0 + (T.length - k0 - 1) + 1 = T.length by omega]
    exact (ddR_length_take T T.length (by omega) (Nat.le_refl _)).1
  · have := g3.2.2.1
    rw [show k0 + (T.length - k0 - 1) + 1 = T.length by omega, List.take_length] at this
    exact this
theorem by2_is {set : Int} {list T : List (List Int)} (hT : sortRows 3 [0, 1, 2] (gr (inquiry_by_l1 set list).snd 1) = T) (h3 : ∀ x ∈ T, x.length = 3) (h2 : 2 ≤ T.length) (hlen : T.length ≤ 10000000) :
    loopOk (inquiry_by_l2_step set list) (inquiry_by_l2_init set list) ∧
    (((inquiry_by_l2 set list).1 = 1 ∧ 0 ≤ gi (inquiry_by_l2 set list).2 0 ∧ gi (inquiry_by_l2 set list).2 0 ≤ ((gr (inquiry_by_l2 set list).2 1).length : Int) ∧ (gr (inquiry_by_l2 set list).2 1).take (gi (inquiry_by_l2 set list).2 0).toNat = ddR T) ∨ ((inquiry_by_l2 set list).1 = 3 ∧ ddR T = T)) := by
  have h3at : ∀ j (hj : j < T.length), T[j].length = 3 := fun j hj => h3 _ (List.getElem_mem hj)
  refine loop_for (step := inquiry_by_l2_step set list) (T.length - 1) (fun i xs => xs = [.i ((i + 1 : Nat) : Int)] ∧ ∀ j (hj : j < T.length), 0 < j → j < i + 1 → T[j] ≠ T[j - 1])
    (fun r => (r.1 = 1 ∧ 0 ≤ gi r.2 0 ∧ gi r.2 0 ≤ ((gr r.2 1).length : Int) ∧ (gr r.2 1).take (gi r.2 0).toNat = ddR T) ∨ (r.1 = 3 ∧ ddR T = T)) (fun i xs hi hinv => ?_) (fun xs hinv => ?_) ⟨rfl, fun j hj h0 h1 => by omega⟩
  · obtain ⟨rfl, hne⟩ := hinv
    have hj : i + 1 < T.length := by omega
    have hw1 : IntKind.i64.wrap (((i + 1 : Nat) : Int) - 1) = ((i : Nat) : Int) := by rw [i64_wrap (by omega)]; omega
    have hw3 : IntKind.i64.wrap (((i + 1 : Nat) : Int) + 1) = ((i + 1 + 1 : Nat) : Int) := wrapS (by omega)
    have hstep : inquiry_by_l2_step set list [.i ((i + 1 : Nat) : Int)] = bif decide (T[i + 1] = T[i]) then guardP ((0 : Int) ≤ ((i + 1 : Nat) : Int) ∧ ((i + 1 : Nat) : Int) ≤ (T.length : Int)) (guardP ((loopOk (inquiry_by_l3_step set list [.i ((i + 1 : Nat) : Int)]) (inquiry_by_l3_init set list [.i ((i + 1 : Nat) : Int)]))) (guardP (((0 : Int) ≤ gi (inquiry_by_l3 set list [.i ((i + 1 : Nat) : Int)]).snd 0) ∧ (gi (inquiry_by_l3 set list [.i ((i + 1 : Nat) : Int)]).snd 0 ≤ (↑(gr (inquiry_by_l3 set list [.i ((i + 1 : Nat) : Int)]).snd 2).length : Int))) (guardP (((↑(loN (boundsA (↑(gr (inquiry_by_l3 set list [.i ((i + 1 : Nat) : Int)]).snd 2).length : Int) (some (gi (inquiry_by_l3 set list [.i ((i + 1 : Nat) : Int)]).snd 0)) none).snd.fst) : Int) ≤ (inquiry_by_s9 set list [.i ((i + 1 : Nat) : Int)])) ∧ ((inquiry_by_s9 set list [.i ((i + 1 : Nat) : Int)]) ≤ (↑(gr (inquiry_by_l3 set list [.i ((i + 1 : Nat) : Int)]).snd 2).length : Int))) (guardP (((0 : Int) ≤ gi (inquiry_by_l3 set list [.i ((i + 1 : Nat) : Int)]).snd 0) ∧ (gi (inquiry_by_l3 set list [.i ((i + 1 : Nat) : Int)]).snd 0 ≤ (↑((inquiry_by_s11 set list [.i ((i + 1 : Nat) : Int)]) ++ List.drop ((inquiry_by_s9 set list [.i ((i + 1 : Nat) : Int)])).toNat (gr (inquiry_by_l3 set list [.i ((i + 1 : Nat) : Int)]).snd 2)).length : Int))) (some (1, [U.i ((inquiry_by_s12 set list [.i ((i + 1 : Nat) : Int)])), U.r ((inquiry_by_s11 set list [.i ((i + 1 : Nat) : Int)]) ++ List.drop ((inquiry_by_s9 set list [.i ((i + 1 : Nat) : Int)])).toNat (gr (inquiry_by_l3 set list [.i ((i + 1 : Nat) : Int)]).snd 2))])))))) else some (0, [U.i ((i + 1 + 1 : Nat) : Int)]) := by
      unfold inquiry_by_l2_step inquiry_by_s1 inquiry_by_s2 inquiry_by_s3
      rw [hT]
      simp only [gi_z, hw1, hw3]
      rw [decide_eq_true (by omega), cond_true, guardP_true (inR_of hj), guardP_true (inR_of hj), guardP_true (inR_of (by omega)), guardP_true (inR_of (by omega)), getI_at hj, getI_at (show i < T.length by omega), row3_beq (h3at _ hj) (h3at _ (by omega))]
    by_cases h : T[i + 1] = T[i]
    · right
      have hd : ddR (T.take (i + 1 + 1)) = T.take (i + 1) := by
        rw [ddR_take (by omega) hj, if_pos (by simpa using h)]
        exact ddR_same (i + 1) (by omega) (by omega) hne
      obtain ⟨g1, k, S, g2, g3, g4, g5⟩ := by3_is hT h3 (by omega) hj hlen hd
      refine ⟨0, [.i k, .r (S.take k ++ List.replicate (S.length - k) [0, 0, 0] ++ S.drop S.length)], ?_, .inl ⟨rfl, ?_, ?_, ?_⟩⟩
      · rw [hstep, decide_eq_true h, cond_true, guardP_true (by omega), guardP_true g1]
        unfold inquiry_by_s12 inquiry_by_s11 inquiry_by_s10 inquiry_by_s9
        rw [g2]
        simp only [gi_z, gr_2, gr_1, gr_z, boundsA, loN, Option.getD_some, Int.toNat_natCast]
        rw [guardP_true (by omega), guardP_true (by omega), guardP_true (by simp; omega)]
      · rw [gi_z]; omega
      · rw [gi_z, gr_1, gr_z]; simp; omega
      · rw [gi_z, gr_1, gr_z, Int.toNat_natCast, List.append_assoc, List.take_append_of_le_length (by simp; omega), List.take_take, Nat.min_self, g5]
    · left
      refine ⟨[.i ((i + 1 + 1 : Nat) : Int)], ?_, rfl, fun j hj' h0 h1 => ?_⟩
      · rw [hstep, decide_eq_false h]; rfl
      · by_cases e : j = i + 1
        · subst e; simpa using h
        · exact hne j hj' h0 (by omega)
  · obtain ⟨rfl, hne⟩ := hinv
    refine ⟨2, [.i ((T.length - 1 + 1 : Nat) : Int)], ?_, .inr ⟨rfl, ?_⟩⟩
    · unfold inquiry_by_l2_step
      rw [hT]
      simp only [gi_z]
      rw [decide_eq_false (by omega)]; rfl
    · have := ddR_same T.length (by omega) (Nat.le_refl _) (fun j hj h0 h1 => hne j hj h0 (by omega))
      rwa [List.take_length] at this
theorem by_is {m : Nat} (hm : m < 512) {list : List (List Int)} (hs : ShipsOk list) (hl : list.length ≤ 1000000) : inquiry_by_pre m list ∧ inquiry_by_0 m list = byF m list := by
  obtain ⟨a1, _⟩ := by0_is hm list
  obtain ⟨b1, b2⟩ := by1_is hm hs hl
  have hraw : (byRaw m list).length ≤ 1000009 := by
    unfold byRaw
    rw [List.length_append, List.length_map, List.length_map]
    have h1 : ((List.range 9).filter m.testBit).length ≤ 9 := Nat.le_trans (List.length_filter_le _ _) (by simp)
    have h2 := List.length_filter_le (fun g => !cov m g) list
    omega
  have hT : sortRows 3 [0, 1, 2] (gr (inquiry_by_l1 m list).snd 1) = isort (leL [0, 1, 2]) (byRaw m list) := by
    rw [b2]
    unfold sortRows
    rw [map_norm (byRaw_len3 m list)]
  have h3 : ∀ x ∈ isort (leL [0, 1, 2]) (byRaw m list), x.length = 3 := fun x hx => byRaw_len3 m list x (isort_mem.1 hx)
  have hTl : (isort (leL [0, 1, 2]) (byRaw m list)).length = (byRaw m list).length := isort_length _
  unfold inquiry_by_pre inquiry_by_0 inquiry_by_s14 inquiry_by_s13
  rw [hT]
  have key : (isort (leL [0, 1, 2]) (byRaw m list)).length < 2 → ddR (isort (leL [0, 1, 2]) (byRaw m list)) = isort (leL [0, 1, 2]) (byRaw m list) := by
    intro h
    generalize isort (leL [0, 1, 2]) (byRaw m list) = T at *
    match T, h with
    | [], _ => rfl
    | [x], _ => rfl
  by_cases h2 : (isort (leL [0, 1, 2]) (byRaw m list)).length < 2
  · refine ⟨⟨a1, b1, by rw [b2]; omega, fun h => ?_⟩, ?_⟩
    · rw [decide_eq_true (by omega)] at h; cases h
    · rw [decide_eq_true (by omega), cond_true]
      exact (key h2).symm
  · obtain ⟨c1, c2⟩ := by2_is hT h3 (by omega) (by omega)
    rw [decide_eq_false (by omega), cond_false]
    rcases c2 with ⟨d1, d2, d3, d4⟩ | ⟨d1, d2⟩
    · refine ⟨⟨a1, b1, by rw [b2]; omega, fun _ => ⟨c1, fun _ => ⟨d2, d3⟩⟩⟩, ?_⟩
      rw [d1]
      exact d4
    · refine ⟨⟨a1, b1, by rw [b2]; omega, fun _ => ⟨c1, fun h => by rw [d1] at h; cases h⟩⟩, ?_⟩
      rw [d1]
      exact d2.symm
end Go.Proofs.YtikhnofbbcmpeaaGreat
set_option linter.unusedVariables false
set_option maxRecDepth 100000
namespace Go.Proofs.YtikhnofbbcmpeaaGreat
open Go Go.Sy
noncomputable def cmpL : List (List Int) → List (List Int) → Int
  | [], [] => 0
  | [], _ :: _ => -1
  | _ :: _, [] => 1
  | x :: r, y :: r' => if cfO x y = 0 then cmpL r r' else cfO x y
noncomputable def better (x b : List (List Int)) : Bool := decide (x.length < b.length) || (x.length == b.length && decide (cmpL x b < 0))
def allF (list : List (List Int)) : Nat := list.foldl (fun a g => if col g 3 != 0 then a ||| 2 ^ (col g 0).toNat else a) 0
theorem all_gen : ∀ (list : List (List Int)) (a : Nat), ShipsOk list → a < 512 → (list.foldl (fun a g => if col g 3 != 0 then a ||| 2 ^ (col g 0).toNat else a) a) < 512 ∧ ∀ k, (list.foldl (fun a g => if col g 3 != 0 then a ||| 2 ^ (col g 0).toNat else a) a).testBit k = (a.testBit k || list.any fun g => col g 3 != 0 && decide ((col g 0).toNat = k))
  | [], a, _, ha => ⟨ha, fun k => by simp⟩
  | g :: r, a, hs, ha => by
    obtain ⟨q1, q2⟩ := hs g List.mem_cons_self
    have hr : ShipsOk r := fun x hx => hs x (List.mem_cons_of_mem _ hx)
    rw [List.foldl_cons]
    cases h3 : (col g 3 != 0) with
    | false =>
      rw [if_neg (by decide)]
      obtain ⟨g1, g2⟩ := all_gen r a hr ha
      refine ⟨g1, fun k => ?_⟩
      rw [g2, List.any_cons, h3, Bool.false_and, Bool.false_or]
    | true =>
      rw [if_pos rfl]
      have hlt : a ||| 2 ^ (col g 0).toNat < 512 := Nat.or_lt_two_pow (n := 9) ha (Nat.pow_lt_pow_right (by omega) (by omega))
      obtain ⟨g1, g2⟩ := all_gen r _ hr hlt
      refine ⟨g1, fun k => ?_⟩
      rw [g2, List.any_cons, h3, Bool.true_and, Nat.testBit_or, Nat.testBit_two_pow, Bool.or_assoc]
theorem all_spec {list : List (List Int)} (hs : ShipsOk list) : allF list < 512 ∧ ∀ k, (allF list).testBit k = list.any fun g => col g 3 != 0 && decide ((col g 0).toNat = k) := by
  obtain ⟨h1, h2⟩ := all_gen list 0 hs (by omega)
  refine ⟨h1, fun k => ?_⟩
  have := h2 k
  rw [Nat.zero_testBit, Bool.false_or] at this
  exact this
theorem few0_is {list : List (List Int)} (hs : ShipsOk list) (hl : list.length ≤ 1000000) : loopOk (inquiry_fewest_l0_step list) (inquiry_fewest_l0_init list) ∧ gi (inquiry_fewest_l0 list).snd 0 = ((allF list : Nat) : Int) := by
  have hin : ∀ (l : List (List Int)) (a : Nat), ShipsOk l → a < 512 → runL (fun (s : Nat) x => .inl (if col x 3 != 0 then s ||| 2 ^ (col x 0).toNat else s)) a l = (.inl (l.foldl (fun a g => if col g 3 != 0 then a ||| 2 ^ (col g 0).toNat else a) a) : Nat ⊕ (Nat × List U)) := fun l a _ _ => run_fold _ l a
  obtain ⟨h1, h2⟩ := loop_list (step := inquiry_fewest_l0_step list) list (fun i (s : Nat) => [.i (s : Int), .i i]) (fun s x => .inl (if col x 3 != 0 then s ||| 2 ^ (col x 0).toNat else s)) (fun i s => s < 512) (fun s => (2, [.i (s : Int), .i list.length])) 0
    (fun i s hi _ hI => by
      obtain ⟨q1, q2⟩ := hs _ (List.getElem_mem hi)
      refine ⟨?_, fun s' hs' => ?_⟩
      · unfold inquiry_fewest_l0_step
        simp only [gi_z, gi_1, dlt hi, guardP_true (inR_of hi), wrapS (show i < 9223372036854775807 by omega), getI_at hi]
        generalize hx : list[i] = x at *
        rw [guardP_true q1]
        have hb := or_is' hI (show (col x 0).toNat < 9 by omega)
        rw [Int.toNat_of_nonneg q1] at hb
        have hb' : bOr IntKind.i64 (s : Int) (bShl IntKind.i64 1 (x.getD 0 0)) = ((s ||| 2 ^ (col x 0).toNat : Nat) : Int) := hb
        rw [hb']
        show (bif col x 3 != 0 then _ else _) = _
        cases (col x 3 != 0)
        · rw [if_neg (by decide)]; rfl
        · rw [if_pos rfl]; rfl
      · cases hs'
        split
        · exact Nat.or_lt_two_pow (n := 9) hI (Nat.pow_lt_pow_right (by omega) (by omega))
        · exact hI)
    (fun i s hi _ => by
      have : i = list.length := by omega
      subst this
      unfold inquiry_fewest_l0_step
      simp only [gi_z, gi_1, dnlt]) (s := 0) (by omega)
  refine ⟨h1, ?_⟩
  have : inquiry_fewest_l0 list = loopGet (inquiry_fewest_l0_step list) [.i ((0 : Nat) : Int), .i ((0 : Nat) : Int)] := rfl
  rw [this, h2, List.drop_zero, run_fold]
  exact gi_z _ _
theorem cmpL_first : ∀ {x b : List (List Int)} {i : Nat} (hx : i < x.length) (hb : i < b.length), (∀ j (h1 : j < x.length) (h2 : j < b.length), j < i → cfO x[j] b[j] = 0) → cfO x[i] b[i] ≠ 0 → cmpL x b = cfO x[i] b[i]
  | x :: r, y :: r', 0, _, _, _, h => by
    unfold cmpL
    exact if_neg h
  | x :: r, y :: r', i + 1, hx, hb, h0, h => by
    unfold cmpL
    have e : cfO x y = 0 := h0 0 (by simp) (by simp) (by omega)
    rw [if_pos e]
    exact cmpL_first (by simpa using hx) (by simpa using hb) (fun j h1 h2 h3 => h0 (j + 1) (by simpa using h1) (by simpa using h2) (by omega)) h
theorem cmpL_same : ∀ {x b : List (List Int)}, x.length = b.length → (∀ j (h1 : j < x.length) (h2 : j < b.length), cfO x[j] b[j] = 0) → cmpL x b = 0
  | [], [], _, _ => rfl
  | x :: r, y :: r', hl, h0 => by
    unfold cmpL
    have e : cfO x y = 0 := h0 0 (by simp) (by simp)
    rw [if_pos e]
    exact cmpL_same (by simpa using hl) fun j h1 h2 => h0 (j + 1) (by simpa using h1) (by simpa using h2)
theorem few2_is {list : List (List Int)} {m : Nat} {b x : List (List Int)} (hby : inquiry_by_0 m list = x) (hl : x.length ≤ 9223372036854775807) (hlen : x.length = b.length) :
    loopOk (inquiry_fewest_l2_step list [.i m, .r b]) (inquiry_fewest_l2_init list [.i m, .r b]) ∧
    (bif (inquiry_fewest_l2 list [.i m, .r b]).fst.beq 1 then (1 : Int) else bif (inquiry_fewest_l2 list [.i m, .r b]).fst.beq 2 then gi (inquiry_fewest_l2 list [.i m, .r b]).snd 0 else (inquiry_fewest_s1 list [.i m, .r b])) = cmpL x b := by
  have hs1 : inquiry_fewest_s1 list [.i m, .r b] = 0 := by
    unfold inquiry_fewest_s1
    simp only [gi_z, gr_1, gr_z, hby]
    rw [decide_eq_false (by omega)]; rfl
  rw [hs1]
  obtain ⟨h1, h2⟩ := loop_search (step := inquiry_fewest_l2_step list [.i m, .r b]) x.length (fun i => cfO (x.getD i []) (b.getD i []) != 0) (fun i => [.i 0, .i i]) (fun i => [.i (cfO (x.getD i []) (b.getD i []))]) 1 3 [.i 0, .i x.length]
    (fun i hi => by
      unfold inquiry_fewest_l2_step inquiry_fewest_s0
      simp only [gi_z, gi_1, gr_1, gr_z]
      rw [hby, dlt hi, guardP_true (inR_of hi), guardP_true (inR_of hi), decide_eq_false (show ¬ ((i : Int) ≥ (b.length : Int)) by omega), cond_false, guardP_true (inR_of (by omega)), guardP_true (inR_of (by omega)), guardP_true (compare_is _ _ _ _ _ _).1, wrapS (show i < 9223372036854775807 by omega), Int.toNat_natCast]
      rfl)
    (by
      unfold inquiry_fewest_l2_step
      simp only [gi_z, gi_1]
      rw [hby, dnlt])
  have hi : inquiry_fewest_l2_init list [.i m, .r b] = [.i 0, .i ((0 : Nat) : Int)] := rfl
  unfold inquiry_fewest_l2
  rw [hi]
  refine ⟨h1, ?_⟩
  rcases h2 with ⟨i, hi, hp, hn, hg⟩ | ⟨hn, hg⟩
  · rw [hg]
    show gi [.i (cfO (x.getD i []) (b.getD i []))] 0 = _
    rw [gi_z, getD_at hi, getD_at (by omega)]
    refine (cmpL_first hi (by omega) (fun j q1 q2 q3 => ?_) ?_).symm
    · have := hn j q3
      rw [getD_at q1, getD_at q2] at this
      simpa using this
    · rw [getD_at hi, getD_at (show i < b.length by omega)] at hp
      simpa using hp
  · rw [hg]
    show (0 : Int) = _
    refine (cmpL_same hlen fun j q1 q2 => ?_).symm
    have := hn j q1
    rw [getD_at q1, getD_at q2] at this
    simpa using this
noncomputable def fewStep (list : List (List Int)) (i : Nat) (b : List (List Int)) : List (List Int) := if subB i (allF list) = true then (if better (byF i list) b = true then byF i list else b) else b
noncomputable def fewF (list : List (List Int)) : List (List Int) := upto (fewStep list) (allF list + 1) (byF 0 list)
theorem cmpI (a b : Nat) : (cmp_Compare_int_0 (a : Int) (b : Int) < 0 ↔ a < b) ∧ (cmp_Compare_int_0 (a : Int) (b : Int) = 0 ↔ a = b) := by
  rw [cmpC]
  by_cases h1 : a < b
  · rw [if_pos (by omega)]; omega
  · rw [if_neg (by omega)]
    by_cases h2 : b < a
    · rw [if_pos (by omega)]; omega
    · rw [if_neg (by omega)]; omega
theorem byF_length_le (m : Nat) (list : List (List Int)) : (byF m list).length ≤ list.length + 9 := by
  unfold byF
  have h1 : ∀ l : List (List Int), (ddR l).length ≤ l.length := fun l => by
    cases l with
    | nil => exact Nat.le_refl _
    | cons x r =>
      have := (ddR_length_take (x :: r) (x :: r).length (by simp) (Nat.le_refl _)).1
      rwa [List.take_length] at this
  refine Nat.le_trans (h1 _) ?_
  rw [isort_length]
  unfold byRaw
  rw [List.length_append, List.length_map, List.length_map]
  have h1 : ((List.range 9).filter m.testBit).length ≤ 9 := Nat.le_trans (List.length_filter_le _ _) (by simp)
  have h2 := List.length_filter_le (fun g => !cov m g) list
  omega
theorem fewest_is {list : List (List Int)} (hs : ShipsOk list) (hl : list.length ≤ 1000000) : inquiry_fewest_pre list ∧ inquiry_fewest_0 list = fewF list := by
  obtain ⟨a1, a2⟩ := few0_is hs hl
  obtain ⟨hall, _⟩ := all_spec hs
  obtain ⟨b1, b2⟩ := by_is (m := 0) (by omega) hs hl
  have hw : IntKind.i64.wrap (gi (inquiry_fewest_l0 list).snd 0 + 1) = ((allF list + 1 : Nat) : Int) := by rw [a2]; exact wrapS (by omega)
  obtain ⟨g1, g2, _⟩ := loop_fold (step := inquiry_fewest_l1_step list) (allF list + 1) (fun i (b : List (List Int)) => [.i i, .r b]) (fewStep list) (fun _ _ => True) 3 (fun b => [.i (allF list + 1 : Nat), .r b]) (fun _ _ _ _ => trivial)
    (fun i b hi _ => by
      have hi5 : i < 512 := by omega
      obtain ⟨c1, c2⟩ := by_is hi5 hs hl
      have hxl := byF_length_le i list
      unfold inquiry_fewest_l1_step
      simp only [gi_z, gr_1, gr_z]
      rw [hw, decide_eq_true (by omega), cond_true, a2, not_is hi5 hall, wrapS (by omega)]
      unfold fewStep
      cases hsub : subB i (allF list) with
      | false => rw [if_neg (by decide)]; rfl
      | true =>
        rw [if_pos rfl, Bool.not_true, cond_false, guardP_true c1, c2]
        have hloop : (decide (cmp_Compare_int_0 (↑(byF i list).length : Int) (↑b.length : Int) < (0 : Int)) = false) → (((cmp_Compare_int_0 (↑(byF i list).length : Int) (↑b.length : Int) == (0 : Int)) = true) → ((loopOk (inquiry_fewest_l2_step list [.i i, .r b]) (inquiry_fewest_l2_init list [.i i, .r b])))) := fun _ he => by
          have := (cmpI _ _).2.1 (by simpa using he)
          exact (few2_is c2 (by omega) this).1
        rw [guardP_true hloop]
        have hcond : (decide (cmp_Compare_int_0 (↑(byF i list).length : Int) (↑b.length : Int) < (0 : Int)) || cmp_Compare_int_0 (↑(byF i list).length : Int) (↑b.length : Int) == (0 : Int) && decide ((bif (inquiry_fewest_l2 list [.i i, .r b]).fst.beq 1 then (1 : Int) else bif (inquiry_fewest_l2 list [.i i, .r b]).fst.beq 2 then gi (inquiry_fewest_l2 list [.i i, .r b]).snd 0 else (inquiry_fewest_s1 list [.i i, .r b])) < (0 : Int))) = better (byF i list) b := by
          unfold better
          by_cases he : (byF i list).length = b.length
          · rw [(few2_is c2 (by omega) he).2]
            have e1 : (cmp_Compare_int_0 (↑(byF i list).length : Int) (↑b.length : Int) == 0) = ((byF i list).length == b.length) := by rw [(cmpI _ _).2.2 he, he]; simp
            rw [e1]
            congr 1
            exact decide_eq_decide.2 (cmpI _ _).1
          · have e1 : (cmp_Compare_int_0 (↑(byF i list).length : Int) (↑b.length : Int) == 0) = false := by
              simpa using fun h => he ((cmpI _ _).2.1 h)
            have e2 : ((byF i list).length == b.length) = false := by simpa using he
            rw [e1, e2, Bool.false_and, Bool.false_and]
            congr 1
            exact decide_eq_decide.2 (cmpI _ _).1
        rw [hcond]
        cases better (byF i list) b
        · rw [if_neg (by decide)]; rfl
        · rw [if_pos rfl]; rfl)
    (fun b _ => by
      unfold inquiry_fewest_l1_step
      simp only [gi_z, gr_1, gr_z]
      rw [hw, decide_eq_false (by omega)]; rfl) (s := byF 0 list) trivial
  have hi : inquiry_fewest_l1_init list = [.i ((0 : Nat) : Int), .r (byF 0 list)] := by
    unfold inquiry_fewest_l1_init
    have := b2
    rw [show (inquiry_by_0 (0 : Int) list) = byF 0 list from this]; rfl
  unfold inquiry_fewest_pre inquiry_fewest_0 inquiry_fewest_l1
  rw [hi]
  refine ⟨⟨a1, b1, g1⟩, ?_⟩
  rw [g2]
  show gr [.i (allF list + 1 : Nat), .r (upto (fewStep list) (allF list + 1) (byF 0 list))] 1 = _
  rw [gr_1, gr_z]
  rfl
end Go.Proofs.YtikhnofbbcmpeaaGreat
set_option linter.unusedVariables false
set_option maxRecDepth 100000
namespace Go.Proofs.YtikhnofbbcmpeaaGreat
open Go Go.Sy
abbrev ALog := Int × List (List Int)
noncomputable def logOf (x : List Int) : ALog := (col x 0, decL (col x 1))
noncomputable def logsOf (ships : List (List Int)) : List ALog := ships.map logOf
def LenOk (ships : List (List Int)) : Prop := ∀ x ∈ ships, (decL (col x 1)).length ≤ 9223372036854775807
def risF : Int → List ALog → Bool
  | _, [] => true
  | b, x :: r => valF x.1 x.2 && decide (b < x.1) && risF x.1 r
noncomputable def rowO (x : List Int) : List Int := [col x 0, col x 0, encL (decL (col x 1))]
def findLog (s : Int) (logs : List ALog) : Option ALog := logs.find? fun x => x.1 == s
theorem findRow_rowO (s : Int) : ∀ ships : List (List Int), findRow 1 [s] (ships.map rowO) = (findLog s (logsOf ships)).map fun x => [x.1, encL x.2]
  | [] => rfl
  | x :: r => by
    have ih := findRow_rowO s r
    unfold findRow findLog logsOf at *
    rw [List.map_cons, List.map_cons, List.find?_cons, List.find?_cons]
    by_cases h : col x 0 = s
    · have e1 : decide (List.take 1 (rowO x) = [s]) = true := decide_eq_true (by show [col x 0] = [s]; rw [h])
      have e2 : ((logOf x).1 == s) = true := by show (col x 0 == s) = true; rw [h]; simp
      rw [e1, e2]; rfl
    · have e1 : decide (List.take 1 (rowO x) = [s]) = false := decide_eq_false (by show ¬ [col x 0] = [s]; simpa using h)
      have e2 : ((logOf x).1 == s) = false := by show (col x 0 == s) = false; simpa using h
      rw [e1, e2]; exact ih
noncomputable def opStep (ow t delay : Int) (s : Int × List (List Int)) (x : List Int) : (Int × List (List Int)) ⊕ (Nat × List U) :=
  if (!valF (col x 0) (decL (col x 1)) || decide (col x 0 ≤ s.1)) = true then .inr (0, [.i ow, .i t, .i delay, .r s.2]) else .inl (col x 0, putRow 1 [col x 0] [col x 0, encL (decL (col x 1))] s.2)
theorem op_run (ow t delay : Int) : ∀ (r pre : List (List Int)) (b : Int), (∀ x ∈ pre, col x 0 ≤ b) →
    (risF b (logsOf r) = true → ∃ b', runL (opStep ow t delay) (b, pre.map rowO) r = .inl (b', (pre ++ r).map rowO)) ∧
    (risF b (logsOf r) = false → ∃ rows, runL (opStep ow t delay) (b, pre.map rowO) r = .inr (0, [.i ow, .i t, .i delay, .r rows]))
  | [], pre, b, _ => ⟨fun _ => ⟨b, by simp [runL]⟩, fun h => by simp [logsOf, risF] at h⟩
  | x :: r, pre, b, hpre => by
    have ex : logsOf (x :: r) = logOf x :: logsOf r := rfl
    have er : risF b (logOf x :: logsOf r) = (valF (col x 0) (decL (col x 1)) && decide (b < col x 0) && risF (col x 0) (logsOf r)) := rfl
    rw [ex, er]
    by_cases hv : (!valF (col x 0) (decL (col x 1)) || decide (col x 0 ≤ b)) = true
    · have e : opStep ow t delay (b, pre.map rowO) x = .inr (0, [.i ow, .i t, .i delay, .r (pre.map rowO)]) := by unfold opStep; rw [if_pos hv]
      have hf : (valF (col x 0) (decL (col x 1)) && decide (b < col x 0)) = false := by
        rcases Bool.or_eq_true_iff.1 hv with h | h
        · have : valF (col x 0) (decL (col x 1)) = false := by simpa using h
          rw [this]; rfl
        · have : decide (b < col x 0) = false := decide_eq_false (by have := of_decide_eq_true h; omega)
          rw [this, Bool.and_false]
      rw [hf]
      refine ⟨(fun h => by cases h), fun _ => ⟨pre.map rowO, ?_⟩⟩
      unfold runL
      rw [e]
    · have e0 : opStep ow t delay (b, pre.map rowO) x = .inl (col x 0, putRow 1 [col x 0] [col x 0, encL (decL (col x 1))] (pre.map rowO)) := by unfold opStep; rw [if_neg hv]
      have hv' : valF (col x 0) (decL (col x 1)) = true ∧ b < col x 0 := by
        simp only [Bool.or_eq_true, Bool.not_eq_true', decide_eq_true_eq, not_or] at hv
        exact ⟨by simpa using hv.1, by omega⟩
      have hno : (findRow 1 [col x 0] (pre.map rowO)).isSome = false := by
        rw [findRow_rowO]
        have : findLog (col x 0) (logsOf pre) = none := by
          unfold findLog logsOf
          rw [List.find?_eq_none]
          intro y hy
          obtain ⟨z, hz, rfl⟩ := List.mem_map.1 hy
          have := hpre z hz
          show ¬ (col z 0 == col x 0) = true
          intro h
          have h := eq_of_beq h
          omega
        rw [this]; rfl
      have e : opStep ow t delay (b, pre.map rowO) x = .inl (col x 0, (pre ++ [x]).map rowO) := by
        rw [e0]
        unfold putRow
        rw [hno, cond_false, List.map_append]
        rfl
      have hf : (valF (col x 0) (decL (col x 1)) && decide (b < col x 0)) = true := by rw [hv'.1, decide_eq_true hv'.2]; rfl
      rw [hf, Bool.true_and]
      obtain ⟨i1, i2⟩ := op_run ow t delay r (pre ++ [x]) (col x 0) (fun y hy => by
        rcases List.mem_append.1 hy with hy | hy
        · have := hpre y hy; omega
        · rw [List.mem_singleton.1 hy]; exact Int.le_refl _)
      unfold runL
      rw [e]
      refine ⟨fun h => ?_, fun h => i2 h⟩
      obtain ⟨b', hb⟩ := i1 h
      exact ⟨b', by show runL (opStep ow t delay) (col x 0, (pre ++ [x]).map rowO) r = _; rw [hb, List.append_assoc]; rfl⟩
theorem op0_is {ow t delay : Int} {office ships list : List (List Int)} (hs : ships.length ≤ 9223372036854775807) (hd : LenOk ships) :
    loopOk (inquiry_Gaps_l0_step ow t delay office ships list) (inquiry_Gaps_l0_init ow t delay office ships list) ∧
    (risF 0 (logsOf ships) = true → (inquiry_Gaps_l0 ow t delay office ships list).1.beq 1 = false ∧ gr (inquiry_Gaps_l0 ow t delay office ships list).2 3 = ships.map rowO) ∧
    (risF 0 (logsOf ships) = false → (inquiry_Gaps_l0 ow t delay office ships list).1.beq 1 = true) := by
  obtain ⟨h1, h2⟩ := loop_list (step := inquiry_Gaps_l0_step ow t delay office ships list) ships (fun i (s : Int × List (List Int)) => [.b false, .i s.1, .i i, .r s.2]) (opStep ow t delay) (fun _ _ => True) (fun s => (2, [.b false, .i s.1, .i ships.length, .r s.2])) 0
    (fun i s hi _ _ => ⟨by
      unfold inquiry_Gaps_l0_step inquiry_Gaps_s0
      simp only [gi_2, gi_1, gi_z, gb_z, gr_3, gr_z, dlt hi, guardP_true (inR_of hi), wrapS (show i < 9223372036854775807 by omega), getI_at hi]
      have hx := hd _ (List.getElem_mem hi)
      generalize ships[i] = x at *
      obtain ⟨v1, v2⟩ := valid_is (col x 0) (decL (col x 1)) hx
      rw [guardP_true v1, v2]
      unfold opStep
      cases h : (!valF (col x 0) (decL (col x 1)) || decide (col x 0 ≤ s.1)) with
      | true => rw [if_pos rfl]; rfl
      | false => rw [if_neg (by decide)]; rfl, fun _ _ => trivial⟩)
    (fun i s hi _ => by
      have : i = ships.length := by omega
      subst this
      unfold inquiry_Gaps_l0_step
      simp only [gi_2, gi_1, gi_z, gb_z, gr_3, gr_z, dnlt]) (s := (0, [])) trivial
  have hi : inquiry_Gaps_l0_init ow t delay office ships list = [.b false, .i 0, .i ((0 : Nat) : Int), .r []] := rfl
  unfold inquiry_Gaps_l0
  rw [hi]
  have g := op_run ow t delay ships [] 0 (fun x hx => by cases hx)
  simp only [List.map_nil, List.nil_append] at g
  obtain ⟨g1, g2⟩ := g
  refine ⟨h1, fun h => ?_, fun h => ?_⟩
  · obtain ⟨b', hb⟩ := g1 h
    rw [h2, List.drop_zero, hb]
    refine ⟨rfl, ?_⟩
    show gr [.b false, .i b', .i ships.length, .r (ships.map rowO)] 3 = _
    rw [gr_3, gr_z]
  · obtain ⟨rows, hr⟩ := g2 h
    rw [h2, List.drop_zero, hr]; rfl
def noShip (logs : List ALog) (c : List Int) : Bool := !(findLog (col c 0) logs).isSome
theorem op1_is {ow t delay : Int} {office ships list : List (List Int)} (hl : list.length ≤ 9223372036854775807) (hs : ships.length ≤ 9223372036854775807) (hd : LenOk ships) (hr : risF 0 (logsOf ships) = true) :
    loopOk (inquiry_Gaps_l1_step ow t delay office ships list) (inquiry_Gaps_l1_init ow t delay office ships list) ∧
    decide ((bif (inquiry_Gaps_l1 ow t delay office ships list).fst.beq 1 then gi (inquiry_Gaps_l1 ow t delay office ships list).snd 0 else (-1 : Int)) ≥ (0 : Int)) = list.any (noShip (logsOf ships)) := by
  have hrows := ((op0_is (ow := ow) (t := t) (delay := delay) (office := office) (list := list) hs hd).2.1 hr).2
  refine loop_any (step := inquiry_Gaps_l1_step ow t delay office ships list) (l := list) (p := noShip (logsOf ships)) 1 (fun i hi => ?_) ?_ rfl
  · unfold inquiry_Gaps_l1_step
    simp only [gi_1, gi_z, dlt hi, guardP_true (inR_of hi), wrapS (show i < 9223372036854775807 by omega), getI_at hi]
    rw [show (inquiry_Gaps_l0 ow t delay office ships list).snd = (inquiry_Gaps_l0 ow t delay office ships list).2 from rfl, hrows, findRow_rowO]
    unfold noShip
    rw [Option.isSome_map]
  · unfold inquiry_Gaps_l1_step
    simp only [gi_1, gi_z, dnlt]
def caseOk (ow t delay : Int) (office : List (List Int)) (logs : List ALog) (list : List (List Int)) : Bool :=
  valF ow office && ow == 0 && chF list && tmF t && decide (0 ≤ delay) && decide (delay ≤ 100000) && risF 0 logs && !list.any (noShip logs)
def caseOk1 (ow t delay : Int) (office list : List (List Int)) : Bool := valF ow office && ow == 0 && chF list && tmF t && decide (0 ≤ delay) && decide (delay ≤ 100000)
theorem case_eq (ow t delay : Int) (office : List (List Int)) (logs : List ALog) (list : List (List Int)) : caseOk ow t delay office logs list = (caseOk1 ow t delay office list && risF 0 logs && !list.any (noShip logs)) := rfl
theorem case1_is {ow t delay : Int} {office list : List (List Int)} (ho : office.length ≤ 9223372036854775807) (hl : list.length ≤ 9223372036854775807) :
    (!inquiry_Valid_0 ow office || ow != (0 : Int) || !inquiry_chances_0 list || !inquiry_time_0 t || decide (delay < (0 : Int)) || decide (delay > (100000 : Int))) = !caseOk1 ow t delay office list := by
  rw [(valid_is ow office ho).2, (chances_is list hl).2, time_is]
  have e1 : decide (delay < 0) = !decide (0 ≤ delay) := by
    by_cases h : delay < 0
    · rw [decide_eq_true h, decide_eq_false (by omega)]; rfl
    · rw [decide_eq_false h, decide_eq_true (by omega)]; rfl
  have e2 : decide (delay > 100000) = !decide (delay ≤ 100000) := by
    by_cases h : delay > 100000
    · rw [decide_eq_true h, decide_eq_false (by omega)]; rfl
    · rw [decide_eq_false h, decide_eq_true (by omega)]; rfl
  rw [e1, e2]
  unfold caseOk1
  show (!valF ow office || !(ow == 0) || !chF list || !tmF t || !decide (0 ≤ delay) || !decide (delay ≤ 100000)) = _
  cases valF ow office <;> cases (ow == 0) <;> cases chF list <;> cases tmF t <;> cases decide (0 ≤ delay) <;> cases decide (delay ≤ 100000) <;> rfl
theorem wf_of {n : Int} (h0 : -1000000000 ≤ n) (h1 : n ≤ 1000000000) : (Lit.int .i64 n).wf = true := by
  have e1 : IntKind.i64.min = -9223372036854775808 := by decide
  have e2 : IntKind.i64.max = 9223372036854775807 := by decide
  unfold Lit.wf
  simp only [e1, e2, Bool.and_eq_true, decide_eq_true_eq]
  omega
def shipL (logs : List ALog) (c : List Int) : List (List Int) := ((findLog (col c 0) logs).getD (0, [])).2
def skipF (logs : List ALog) (tm dl : Int) (c : List Int) : Bool := decide (col c 2 + dl > tm) || (shownF tm (shipL logs c)).contains (col c 1)
def offF (logs : List ALog) (c : List Int) : Bool := decide (lastF 0 (-1) (shipL logs c) < col c 2) || !onF (col c 2) true (shipL logs c)
def updF (logs : List ALog) (c g : List Int) : List Int := [col g 0, col g 1, b2 (col g 2 != 0), b2 (col g 3 != 0 && offF logs c)]
def stepF (office : List (List Int)) (logs : List ALog) (tm dl : Int) (gs : List (List Int)) (c : List Int) : List (List Int) :=
  bif skipF logs tm dl c then gs else
  bif gs.any (gKeyIs c) then gs.map fun g => bif gKeyIs c g then updF logs c g else g
  else gs ++ [updF logs c [col c 0, col c 1, b2 (!sentF (col c 1) (-1) office), 1]]
def gapsF (office : List (List Int)) (logs : List ALog) (tm dl : Int) (list : List (List Int)) : List (List Int) := (sortG (list.foldl (stepF office logs tm dl) [])).map gNorm
theorem hasN_nums (n : Int) (l : List Int) : hasN n (ofNums l) = l.contains n := by
  unfold hasN ofNums
  rw [List.any_map, List.contains_eq_any_beq]
  rfl
theorem ris_val : ∀ {logs : List ALog} {b : Int}, risF b logs = true → ∀ x ∈ logs, valF x.1 x.2 = true ∧ b < x.1
  | [], _, _, x, hx => by cases hx
  | y :: r, b, h, x, hx => by
    unfold risF at h
    simp only [Bool.and_eq_true, decide_eq_true_eq] at h
    rcases List.mem_cons.1 hx with rfl | hx
    · exact h.1
    · have := ris_val h.2 x hx
      exact ⟨this.1, by omega⟩
theorem shipL_len {logs : List ALog} (h : risF 0 logs = true) (c : List Int) : (shipL logs c).length ≤ 200 := by
  unfold shipL findLog
  cases hf : logs.find? fun x => x.1 == col c 0 with
  | none => simp
  | some x => exact (val_len (ris_val h x (List.mem_of_find?_eq_some hf)).1).1
theorem gShip_is (ships : List (List Int)) (c : List Int) : gSl (ships.map rowO) c = shipL (logsOf ships) c := by
  unfold gSl gShip shipL
  rw [findRow_rowO]
  cases findLog (c.getD 0 0) (logsOf ships) with
  | none => exact dec_enc _
  | some x => exact dec_enc _
theorem ch_len {list : List (List Int)} (h : chF list = true) : list.length ≤ 200 ∧ ∀ c ∈ list, 0 ≤ col c 2 ∧ col c 2 ≤ 10000000 ∧ 1 ≤ col c 1 ∧ col c 1 ≤ 10000 ∧ 1 ≤ col c 0 ∧ col c 0 ≤ 8 := by
  unfold chF at h
  simp only [Bool.and_eq_true, decide_eq_true_eq, Bool.not_eq_true'] at h
  refine ⟨h.1, fun c hc => ?_⟩
  have := List.any_eq_false.1 h.2 c hc
  unfold badC tmF itF at this
  simp only [Bool.not_eq_true, Bool.or_eq_false_iff, Bool.not_eq_false', Bool.and_eq_true, decide_eq_true_eq, decide_eq_false_iff_not] at this
  omega
theorem gaps_is {ow t delay : Int} {office ships list : List (List Int)} (ho : office.length ≤ 9223372036854775807) (hc : caseOk1 ow t delay office list = true) (hr : risF 0 (logsOf ships) = true) :
    inquest_gaps_pre ow t delay office (ships.map rowO) list ∧ inquest_gaps_0 ow t delay office (ships.map rowO) list = gapsF office (logsOf ships) t delay list := by
  unfold caseOk1 at hc
  simp only [Bool.and_eq_true, decide_eq_true_eq] at hc
  obtain ⟨⟨⟨⟨⟨hv, h0⟩, hch⟩, htm⟩, hd0⟩, hd1⟩ := hc
  obtain ⟨hlen, hcs⟩ := ch_len hch
  have eskip : ∀ c ∈ list, gSkip (ships.map rowO) t delay c = skipF (logsOf ships) t delay c ∧ GPre office (ships.map rowO) ow t delay c := by
    intro c hc
    obtain ⟨q1, q2, q3, q4, q5, q6⟩ := hcs c hc
    have hsl := shipL_len hr c
    have hsh := shown_is (gSo (ships.map rowO) c) t (shipL (logsOf ships) c) (by omega)
    have hcn := contains_is (col c 1) (ofNums (shownF t (shipL (logsOf ships) c))) (by
      have h1 := onceL_length (shRaw t (shipL (logsOf ships) c))
      have h2 := shRaw_length t (shipL (logsOf ships) c)
      unfold ofNums shownF
      rw [List.length_map]
      omega)
    have elate : gLate t delay c = decide (col c 2 + delay > t) := by
      unfold gLate
      have q1' : 0 ≤ c.getD 2 0 := q1
      have q2' : c.getD 2 0 ≤ 10000000 := q2
      rw [i64_wrap (by omega)]
    have e : gSkip (ships.map rowO) t delay c = skipF (logsOf ships) t delay c := by
      unfold gSkip skipF
      rw [elate, gShip_is, hsh.2]
      congr 1
      exact hcn.2.trans (hasN_nums _ _)
    refine ⟨e, ⟨wf_of (n := col c 0) (by omega) (by omega), wf_of (n := col c 1) (by omega) (by omega), fun _ => ?_, fun _ => ?_⟩⟩
    · rw [gShip_is]
      exact ⟨hsh.1, by rw [hsh.2]; exact hcn.1⟩
    · rw [gShip_is]
      exact ⟨(sent_is _ _ _ office ho).1, (last_is _ _ (by omega)).1, (on_is _ _ _ (by omega)).1⟩
  refine ⟨⟨by omega, fun c hc => (eskip c hc).2⟩, ?_⟩
  unfold inquest_gaps_0 gapsF
  congr 2
  have key : ∀ (l : List (List Int)) (gs : List (List Int)), (∀ c ∈ l, c ∈ list) → l.foldl (gStep office (ships.map rowO) ow t delay) gs = l.foldl (stepF office (logsOf ships) t delay) gs := by
    intro l
    induction l with
    | nil => intro gs _; rfl
    | cons c r ih =>
      intro gs hl
      rw [List.foldl_cons, List.foldl_cons]
      have hcm := hl c List.mem_cons_self
      have hsl := shipL_len hr c
      have e : gStep office (ships.map rowO) ow t delay gs c = stepF office (logsOf ships) t delay gs c := by
        have eu : ∀ g, gUpd (ships.map rowO) c g = updF (logsOf ships) c g := fun g => by
          unfold gUpd updF offF
          rw [gShip_is, (last_is _ _ (by omega)).2.1, (on_is _ _ _ (by omega)).2]
        unfold gStep stepF
        rw [(eskip c hcm).1, (sent_is _ _ _ office ho).2]
        simp only [eu]
      rw [e]
      exact ih _ fun x hx => hl x (List.mem_cons_of_mem _ hx)
  exact key list [] fun c h => h
end Go.Proofs.YtikhnofbbcmpeaaGreat
set_option linter.unusedVariables false
set_option maxRecDepth 100000
namespace Go.Proofs.YtikhnofbbcmpeaaGreat
open Go Go.Sy
abbrev Key := Int × Int
def kOf (g : List Int) : Key := (col g 0, col g 1)
def ltK (a b : Key) : Prop := a.1 < b.1 ∨ (a.1 = b.1 ∧ a.2 < b.2)
def cntF (logs : List ALog) (tm dl : Int) (c : List Int) : Bool := !skipF logs tm dl c
def mkG (office : List (List Int)) (logs : List ALog) (tm dl : Int) (list : List (List Int)) (k : Key) : List Int :=
  [k.1, k.2, b2 (!sentF k.2 (-1) office), b2 (list.all fun c => !(cntF logs tm dl c && decide (kOf c = k)) || offF logs c)]
theorem b2_b (b : Bool) : b2 (b2 b != 0) = b2 b := by cases b <;> rfl
theorem gKeyIs_iff (c g : List Int) : gKeyIs c g = decide (kOf c = kOf g) := by
  unfold gKeyIs kOf
  by_cases h : (col c 0, col c 1) = (col g 0, col g 1)
  · rw [decide_eq_true h]
    obtain ⟨h1, h2⟩ := Prod.mk.inj h
    rw [show g.getD 0 0 = c.getD 0 0 from h1.symm, show g.getD 1 0 = c.getD 1 0 from h2.symm]
    simp
  · rw [decide_eq_false h]
    cases hb : (g.getD 0 0 == c.getD 0 0 && g.getD 1 0 == c.getD 1 0) with
    | false => rfl
    | true =>
      rw [Bool.and_eq_true, beq_iff_eq, beq_iff_eq] at hb
      exact absurd (Prod.ext hb.1.symm hb.2.symm) h
theorem fold_spec (office : List (List Int)) (logs : List ALog) (tm dl : Int) : ∀ (r done : List (List Int)) (ks : List Key), ks.Nodup → (∀ k, k ∈ ks ↔ ∃ c ∈ done, cntF logs tm dl c = true ∧ kOf c = k) →
    ∃ ks' : List Key, ks'.Nodup ∧ (∀ k, k ∈ ks' ↔ ∃ c ∈ done ++ r, cntF logs tm dl c = true ∧ kOf c = k) ∧ r.foldl (stepF office logs tm dl) (ks.map (mkG office logs tm dl done)) = ks'.map (mkG office logs tm dl (done ++ r))
  | [], done, ks, hn, hk => ⟨ks, hn, by simpa using hk, by simp⟩
  | c :: r, done, ks, hn, hk => by
    rw [List.foldl_cons]
    have emk : ∀ k, cntF logs tm dl c = false ∨ kOf c ≠ k → mkG office logs tm dl (done ++ [c]) k = mkG office logs tm dl done k := fun k h => by
      unfold mkG
      have : (!(cntF logs tm dl c && decide (kOf c = k)) || offF logs c) = true := by
        rcases h with h | h
        · rw [h]; rfl
        · rw [decide_eq_false h, Bool.and_false]; rfl
      rw [List.all_append, List.all_cons, List.all_nil, this, Bool.true_and, Bool.and_true]
    cases hs : skipF logs tm dl c with
    | true =>
      have hc : cntF logs tm dl c = false := by unfold cntF; rw [hs]; rfl
      have e : stepF office logs tm dl (ks.map (mkG office logs tm dl done)) c = ks.map (mkG office logs tm dl (done ++ [c])) := by
        unfold stepF
        rw [hs, cond_true]
        exact List.map_congr_left fun k _ => (emk k (.inl hc)).symm
      rw [e]
      have hk' : ∀ k, k ∈ ks ↔ ∃ x ∈ done ++ [c], cntF logs tm dl x = true ∧ kOf x = k := fun k => by
        rw [hk]
        constructor
        · rintro ⟨x, hx, h⟩; exact ⟨x, List.mem_append.2 (.inl hx), h⟩
        · rintro ⟨x, hx, h⟩
          rcases List.mem_append.1 hx with hx | hx
          · exact ⟨x, hx, h⟩
          · rw [List.mem_singleton.1 hx, hc] at h
            cases h.1
      have := fold_spec office logs tm dl r (done ++ [c]) ks hn hk'
      simpa [List.append_assoc] using this
    | false =>
      have hc : cntF logs tm dl c = true := by unfold cntF; rw [hs]; rfl
      have hkey : ∀ k, kOf (mkG office logs tm dl done k) = k := fun k => rfl
      have hany : (ks.map (mkG office logs tm dl done)).any (gKeyIs c) = decide (kOf c ∈ ks) := by
        rw [List.any_map]
        by_cases h : kOf c ∈ ks
        · rw [decide_eq_true h, List.any_eq_true]
          exact ⟨kOf c, h, by show gKeyIs c (mkG office logs tm dl done (kOf c)) = true; rw [gKeyIs_iff, hkey]; exact decide_eq_true rfl⟩
        · rw [decide_eq_false h, List.any_eq_false]
          intro k hk'
          show ¬ gKeyIs c (mkG office logs tm dl done k) = true
          rw [gKeyIs_iff, hkey]
          intro h'
          exact h ((of_decide_eq_true h') ▸ hk')
      by_cases hin : kOf c ∈ ks
      · have e : stepF office logs tm dl (ks.map (mkG office logs tm dl done)) c = ks.map (mkG office logs tm dl (done ++ [c])) := by
          unfold stepF
          rw [hs, cond_false, hany, decide_eq_true hin, cond_true, List.map_map]
          refine List.map_congr_left fun k _ => ?_
          show (bif gKeyIs c (mkG office logs tm dl done k) then updF logs c (mkG office logs tm dl done k) else mkG office logs tm dl done k) = _
          rw [gKeyIs_iff, hkey]
          by_cases h : kOf c = k
          · rw [decide_eq_true h, cond_true]
            show [k.1, k.2, b2 (b2 (!sentF k.2 (-1) office) != 0), b2 (b2 (done.all fun c => !(cntF logs tm dl c && decide (kOf c = k)) || offF logs c) != 0 && offF logs c)] = _
            rw [b2_b, b2_ne]
            unfold mkG
            rw [List.all_append, List.all_cons, List.all_nil, hc, decide_eq_true h, Bool.and_true]
            rfl
          · rw [decide_eq_false h, cond_false]
            exact (emk k (.inr h)).symm
        rw [e]
        have hk' : ∀ k, k ∈ ks ↔ ∃ x ∈ done ++ [c], cntF logs tm dl x = true ∧ kOf x = k := fun k => by
          constructor
          · intro h
            obtain ⟨x, hx, h⟩ := (hk k).1 h
            exact ⟨x, List.mem_append.2 (.inl hx), h⟩
          · rintro ⟨x, hx, h⟩
            rcases List.mem_append.1 hx with hx | hx
            · exact (hk k).2 ⟨x, hx, h⟩
            · rw [List.mem_singleton.1 hx] at h
              exact h.2 ▸ hin
        have := fold_spec office logs tm dl r (done ++ [c]) ks hn hk'
        simpa [List.append_assoc] using this
      · have e : stepF office logs tm dl (ks.map (mkG office logs tm dl done)) c = (ks ++ [kOf c]).map (mkG office logs tm dl (done ++ [c])) := by
          unfold stepF
          rw [hs, cond_false, hany, decide_eq_false hin, cond_false, List.map_append]
          congr 1
          · exact List.map_congr_left fun k hk' => (emk k (.inr fun h => hin (h ▸ hk'))).symm
          · show [[col c 0, col c 1, b2 (b2 (!sentF (col c 1) (-1) office) != 0), b2 (true && offF logs c)]] = [mkG office logs tm dl (done ++ [c]) (kOf c)]
            rw [b2_b]
            unfold mkG
            have hall : (done.all fun c' => !(cntF logs tm dl c' && decide (kOf c' = kOf c)) || offF logs c') = true := by
              rw [List.all_eq_true]
              intro x hx
              cases h1 : cntF logs tm dl x with
              | false => rfl
              | true =>
                have : ¬ kOf x = kOf c := fun h => hin ((hk _).2 ⟨x, hx, h1, h⟩)
                rw [decide_eq_false this]; rfl
            rw [List.all_append, List.all_cons, List.all_nil, hall, hc, decide_eq_true rfl]
            simp [kOf]
        rw [e]
        have hk' : ∀ k, k ∈ ks ++ [kOf c] ↔ ∃ x ∈ done ++ [c], cntF logs tm dl x = true ∧ kOf x = k := fun k => by
          rw [List.mem_append, hk, List.mem_singleton]
          constructor
          · rintro (⟨x, hx, h⟩ | h)
            · exact ⟨x, List.mem_append.2 (.inl hx), h⟩
            · exact ⟨c, by simp, hc, h.symm⟩
          · rintro ⟨x, hx, h⟩
            rcases List.mem_append.1 hx with hx | hx
            · exact .inl ⟨x, hx, h⟩
            · rw [List.mem_singleton.1 hx] at h
              exact .inr h.2.symm
        have hn' : (ks ++ [kOf c]).Nodup := List.nodup_append.2 ⟨hn, by simp, fun a ha b hb e => hin (by rw [List.mem_singleton.1 hb] at e; exact e ▸ ha)⟩
        have := fold_spec office logs tm dl r (done ++ [c]) (ks ++ [kOf c]) hn' hk'
        simpa [List.append_assoc] using this
theorem gapsF_spec (office : List (List Int)) (logs : List ALog) (tm dl : Int) (list : List (List Int)) : ∃ ks : List Key, ks.Pairwise ltK ∧ (∀ k, k ∈ ks ↔ ∃ c ∈ list, cntF logs tm dl c = true ∧ kOf c = k) ∧ gapsF office logs tm dl list = ks.map (mkG office logs tm dl list) := by
  obtain ⟨ks, h1, h2, h3⟩ := fold_spec office logs tm dl list [] [] List.nodup_nil (by simp)
  have h2 : ∀ k, k ∈ ks ↔ ∃ c ∈ list, cntF logs tm dl c = true ∧ kOf c = k := h2
  have h3 : list.foldl (stepF office logs tm dl) [] = ks.map (mkG office logs tm dl list) := h3
  have hp := isort_perm (le := leL [0, 1]) (ks.map (mkG office logs tm dl list))
  have hsort := isort_sorted (leL_total [0, 1]) (leL_trans [0, 1]) (ks.map (mkG office logs tm dl list))
  have hmem : ∀ g ∈ isort (leL [0, 1]) (ks.map (mkG office logs tm dl list)), mkG office logs tm dl list (kOf g) = g ∧ kOf g ∈ ks := fun g hg => by
    obtain ⟨k, hk, rfl⟩ := List.mem_map.1 (hp.mem_iff.1 hg)
    exact ⟨rfl, hk⟩
  have hks : ((isort (leL [0, 1]) (ks.map (mkG office logs tm dl list))).map kOf).Perm ks := by
    have := hp.map kOf
    rw [List.map_map] at this
    have e : ks.map (kOf ∘ mkG office logs tm dl list) = ks := (List.map_congr_left fun k _ => rfl).trans (List.map_id ks)
    rwa [e] at this
  refine ⟨(isort (leL [0, 1]) (ks.map (mkG office logs tm dl list))).map kOf, ?_, fun k => by rw [hks.mem_iff, h2], ?_⟩
  · have hnd : ((isort (leL [0, 1]) (ks.map (mkG office logs tm dl list))).map kOf).Nodup := hks.nodup_iff.2 h1
    rw [List.pairwise_map]
    have hne : (isort (leL [0, 1]) (ks.map (mkG office logs tm dl list))).Pairwise fun a b => kOf a ≠ kOf b := by
      rw [← List.pairwise_map]
      exact hnd
    refine (List.Pairwise.and hsort hne).imp fun {a b} h => ?_
    obtain ⟨h1, h2⟩ := h
    unfold leL at h1
    show col a 0 < col b 0 ∨ (col a 0 = col b 0 ∧ col a 1 < col b 1)
    by_cases e0 : a.getD 0 0 = b.getD 0 0
    · rw [if_pos e0] at h1
      unfold leL at h1
      by_cases e1 : a.getD 1 0 = b.getD 1 0
      · exact absurd (Prod.ext e0 e1) h2
      · rw [if_neg e1] at h1
        exact .inr ⟨e0, of_decide_eq_true h1⟩
    · rw [if_neg e0] at h1
      exact .inl (of_decide_eq_true h1)
  · unfold gapsF sortG
    rw [h3, List.map_map]
    refine List.map_congr_left fun g hg => ?_
    obtain ⟨e, _⟩ := hmem g hg
    show gNorm g = mkG office logs tm dl list (kOf g)
    rw [e]
    rw [← e]
    show [_, _, b2 (b2 _ != 0), b2 (b2 _ != 0)] = _
    rw [b2_b, b2_b]
    rfl
def GapsOk (gs : List (List Int)) : Prop := ∀ g ∈ gs, gNorm g = g
theorem gapsF_ok {office : List (List Int)} {logs : List ALog} {tm dl : Int} {list : List (List Int)} (hch : chF list = true) : ShipsOk (gapsF office logs tm dl list) ∧ GapsOk (gapsF office logs tm dl list) ∧ (gapsF office logs tm dl list).length ≤ list.length := by
  obtain ⟨ks, h1, h2, h3⟩ := gapsF_spec office logs tm dl list
  obtain ⟨hlen, hcs⟩ := ch_len hch
  rw [h3]
  refine ⟨fun g hg => ?_, fun g hg => ?_, ?_⟩
  · obtain ⟨k, hk, rfl⟩ := List.mem_map.1 hg
    obtain ⟨c, hc, _, rfl⟩ := (h2 k).1 hk
    have := hcs c hc
    show 0 ≤ col c 0 ∧ col c 0 ≤ 8
    omega
  · obtain ⟨k, hk, rfl⟩ := List.mem_map.1 hg
    show [_, _, b2 (b2 _ != 0), b2 (b2 _ != 0)] = _
    rw [b2_b, b2_b]
    rfl
  · have hl : ∀ (l : List (List Int)) (gs : List (List Int)), (l.foldl (stepF office logs tm dl) gs).length ≤ gs.length + l.length := by
      intro l
      induction l with
      | nil => intro gs; simp
      | cons c r ih =>
        intro gs
        rw [List.foldl_cons]
        refine Nat.le_trans (ih _) ?_
        have : (stepF office logs tm dl gs c).length ≤ gs.length + 1 := by
          unfold stepF
          cases skipF logs tm dl c
          · rw [cond_false]
            cases gs.any (gKeyIs c)
            · rw [cond_false]; simp
            · rw [cond_true]; simp
          · rw [cond_true]; omega
        simp only [List.length_cons]
        omega
    rw [← h3]
    unfold gapsF sortG
    rw [List.length_map, isort_length]
    simpa using hl list []
end Go.Proofs.YtikhnofbbcmpeaaGreat
