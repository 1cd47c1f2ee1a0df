/- Written by program (wip/sygen.py): what the Go functions compute, as the executor reads it off their code. -/
import Derived.Test.YtcbgjecpnhjlpaaSyD
import Derived.Test.YtcbgjecpnhjlpaaSySo
import Derived.Test.YtcbgjecpnhjlpaaBitemp1D
import Derived.Test.YtcbgjecpnhjlpaaBitempCD
set_option maxRecDepth 100000
set_option linter.unusedVariables false
namespace Go.Proofs.Ytcbgjecpnhjlpaa
open Go Go.Sy
noncomputable def bitemp_cover_s0 (r_Item r_Value r_From r_Until r_Known : Int) (h : List (List Int)) (y0 : List U) : List Int :=
  [(h.getD (gi y0 0).toNat []).getD 2 (0 : Int), imin ((h.getD (gi y0 0).toNat []).getD 3 (0 : Int)) r_From, (h.getD (gi y0 0).toNat []).getD 4 (0 : Int)]
noncomputable def bitemp_cover_s1 (r_Item r_Value r_From r_Until r_Known : Int) (h : List (List Int)) (y0 : List U) : List (List Int) :=
  gr y0 1 ++ [(h.getD (gi y0 0).toNat []).getD 0 (0 : Int) :: (h.getD (gi y0 0).toNat []).getD 1 (0 : Int) :: (bitemp_cover_s0 r_Item r_Value r_From r_Until r_Known h y0)]
noncomputable def bitemp_cover_s2 (r_Item r_Value r_From r_Until r_Known : Int) (h : List (List Int)) (y0 : List U) : List Int :=
  [imax ((h.getD (gi y0 0).toNat []).getD 2 (0 : Int)) r_Until, (h.getD (gi y0 0).toNat []).getD 3 (0 : Int),
  (h.getD (gi y0 0).toNat []).getD 4 (0 : Int)]
noncomputable def bitemp_cover_s3 (r_Item r_Value r_From r_Until r_Known : Int) (h : List (List Int)) (y0 : List U) : List (List Int) :=
  (bitemp_cover_s1 r_Item r_Value r_From r_Until r_Known h y0) ++ [(h.getD (gi y0 0).toNat []).getD 0 (0 : Int) :: (h.getD (gi y0 0).toNat []).getD 1 (0 : Int) :: (bitemp_cover_s2 r_Item r_Value r_From r_Until r_Known h y0)]
noncomputable def bitemp_cover_s4 (r_Item r_Value r_From r_Until r_Known : Int) (h : List (List Int)) (y0 : List U) : List (List Int) :=
  gr y0 1 ++ [(h.getD (gi y0 0).toNat []).getD 0 (0 : Int) :: (h.getD (gi y0 0).toNat []).getD 1 (0 : Int) :: (bitemp_cover_s2 r_Item r_Value r_From r_Until r_Known h y0)]
noncomputable def bitemp_cover_l0_init (r_Item r_Value r_From r_Until r_Known : Int) (h : List (List Int)) : List U :=
  [.i ((0 : Int)), .r ([])]
noncomputable def bitemp_cover_l0_step (r_Item r_Value r_From r_Until r_Known : Int) (h : List (List Int)) (y0 : List U) : Option (Nat × List U) :=
  (bif decide (gi y0 0 < (↑h.length : Int)) then guardP (inR (gi y0 0) h) (guardP (inR (gi y0 0) h) ((bif decide ((h.getD (gi y0 0).toNat []).getD 2 (0 : Int) < imin ((h.getD (gi y0 0).toNat []).getD 3 (0 : Int)) r_From) then guardP (fitsA 40
  ((gr y0 1).length + [(h.getD (gi y0 0).toNat []).getD 0 (0 : Int) :: (h.getD (gi y0 0).toNat []).getD 1 (0 : Int) :: (bitemp_cover_s0 r_Item r_Value r_From r_Until r_Known h y0)].length)) ((bif decide (imax ((h.getD (gi y0 0).toNat []).getD 2 (0 : Int)) r_Until < (h.getD (gi y0 0).toNat []).getD 3 (0 : Int)) then guardP (fitsA 40
  (((bitemp_cover_s1 r_Item r_Value r_From r_Until r_Known h y0)).length + [(h.getD (gi y0 0).toNat []).getD 0 (0 : Int) :: (h.getD (gi y0 0).toNat []).getD 1 (0 : Int) :: (bitemp_cover_s2 r_Item r_Value r_From r_Until r_Known h y0)].length)) (some (0, [.i (IntKind.i64.wrap (gi y0 0 + (1 : Int))), .r ((bitemp_cover_s3 r_Item r_Value r_From r_Until r_Known h y0))])) else some (0, [.i (IntKind.i64.wrap (gi y0 0 + (1 : Int))), .r ((bitemp_cover_s1 r_Item r_Value r_From r_Until r_Known h y0))]))) else (bif decide (imax ((h.getD (gi y0 0).toNat []).getD 2 (0 : Int)) r_Until < (h.getD (gi y0 0).toNat []).getD 3 (0 : Int)) then guardP (fitsA 40
  ((gr y0 1).length + [(h.getD (gi y0 0).toNat []).getD 0 (0 : Int) :: (h.getD (gi y0 0).toNat []).getD 1 (0 : Int) :: (bitemp_cover_s2 r_Item r_Value r_From r_Until r_Known h y0)].length)) (some (0, [.i (IntKind.i64.wrap (gi y0 0 + (1 : Int))), .r ((bitemp_cover_s4 r_Item r_Value r_From r_Until r_Known h y0))])) else some (0, [.i (IntKind.i64.wrap (gi y0 0 + (1 : Int))), .r (gr y0 1)]))))) else some (5, [.i (gi y0 0), .r (gr y0 1)]))
noncomputable def bitemp_cover_l0 (r_Item r_Value r_From r_Until r_Known : Int) (h : List (List Int)) : Nat × List U := loopGet (bitemp_cover_l0_step r_Item r_Value r_From r_Until r_Known h) (bitemp_cover_l0_init r_Item r_Value r_From r_Until r_Known h)
noncomputable def bitemp_cover_0 (r_Item r_Value r_From r_Until r_Known : Int) (h : List (List Int)) : List (List Int) :=
  sortRows 5 [2] (gr (bitemp_cover_l0 r_Item r_Value r_From r_Until r_Known h).snd 1 ++ [[r_Item, r_Value, r_From, r_Until, r_Known]])
def bitemp_cover_pre (r_Item r_Value r_From r_Until r_Known : Int) (h : List (List Int)) : Prop :=
  (((loopOk (bitemp_cover_l0_step r_Item r_Value r_From r_Until r_Known h) (bitemp_cover_l0_init r_Item r_Value r_From r_Until r_Known h))) ∧ ((fitsA 40 ((gr (bitemp_cover_l0 r_Item r_Value r_From r_Until r_Known h).snd 1).length + [[r_Item, r_Value, r_From, r_Until, r_Known]].length)) ∧ ((gr (bitemp_cover_l0 r_Item r_Value r_From r_Until r_Known h).snd 1 ++ [[r_Item, r_Value, r_From, r_Until, r_Known]] ≠ []) ∧ (((gr (bitemp_cover_l0 r_Item r_Value r_From r_Until r_Known h).snd 1 ++ [[r_Item, r_Value, r_From, r_Until, r_Known]]).length < 4611686018427387904) ∧ (List.Pairwise (fun x1 x2 => x1 ≠ x2) (List.map (fun r => r.getD 2 (0 : Int)) (gr (bitemp_cover_l0 r_Item r_Value r_From r_Until r_Known h).snd 1 ++ [[r_Item, r_Value, r_From, r_Until, r_Known]])))))))
noncomputable def bitemp_history_s0 (item at_ : Int) (list : List (List Int)) (y0 : List U) : List (List Int) :=
  bitemp_cover_0 ((list.getD (gi y0 0).toNat []).getD 0 (0 : Int)) ((list.getD (gi y0 0).toNat []).getD 1 (0 : Int))
  ((list.getD (gi y0 0).toNat []).getD 2 (0 : Int)) ((list.getD (gi y0 0).toNat []).getD 3 (0 : Int)) at_ (gr y0 1)
noncomputable def bitemp_history_l0_init (item at_ : Int) (list : List (List Int)) : List U :=
  [.i ((0 : Int)), .r ([])]
noncomputable def bitemp_history_l0_step (item at_ : Int) (list : List (List Int)) (y0 : List U) : Option (Nat × List U) :=
  (bif decide (gi y0 0 < (↑list.length : Int)) then guardP (inR (gi y0 0) list) (guardP (inR (gi y0 0) list) ((bif ((list.getD (gi y0 0).toNat []).getD 0 (0 : Int) == item && decide ((list.getD (gi y0 0).toNat []).getD 4 (0 : Int) ≤ at_)) == true then guardP (bitemp_cover_pre ((list.getD (gi y0 0).toNat []).getD 0 (0 : Int)) ((list.getD (gi y0 0).toNat []).getD 1 (0 : Int))
  ((list.getD (gi y0 0).toNat []).getD 2 (0 : Int)) ((list.getD (gi y0 0).toNat []).getD 3 (0 : Int)) at_ (gr y0 1)) (some (0, [.i (IntKind.i64.wrap (gi y0 0 + (1 : Int))), .r ((bitemp_history_s0 item at_ list y0))])) else some (0, [.i (IntKind.i64.wrap (gi y0 0 + (1 : Int))), .r (gr y0 1)])))) else some (3, [.i (gi y0 0), .r (gr y0 1)]))
noncomputable def bitemp_history_l0 (item at_ : Int) (list : List (List Int)) : Nat × List U := loopGet (bitemp_history_l0_step item at_ list) (bitemp_history_l0_init item at_ list)
noncomputable def bitemp_history_0 (item at_ : Int) (list : List (List Int)) : List (List Int) :=
  bitemp_join_0 (gr (bitemp_history_l0 item at_ list).snd 1)
def bitemp_history_pre (item at_ : Int) (list : List (List Int)) : Prop :=
  (((loopOk (bitemp_history_l0_step item at_ list) (bitemp_history_l0_init item at_ list))) ∧ (bitemp_join_pre (gr (bitemp_history_l0 item at_ list).snd 1)))
noncomputable def bitemp_History_0 (item known : Int) (list : List (List Int)) : List (List Int) :=
  bif !bitemp_Valid_0 list || !bitemp_isItem_0 item || !bitemp_isTime_0 known then [] else bitemp_history_0 item known list
noncomputable def bitemp_History_1 (item known : Int) (list : List (List Int)) : Int :=
  bif !bitemp_Valid_0 list || !bitemp_isItem_0 item || !bitemp_isTime_0 known then (1 : Int) else (0 : Int)
def bitemp_History_pre (item known : Int) (list : List (List Int)) : Prop :=
  ((bitemp_Valid_pre list) ∧ (((!bitemp_Valid_0 list || !bitemp_isItem_0 item || !bitemp_isTime_0 known) = false) → (bitemp_history_pre item known list)))
noncomputable def bitemp_Changed_l0_init (item time : Int) (list : List (List Int)) : List U :=
  [.b (false), .i ((0 : Int)), .i ((0 : Int)), .i ((0 : Int)), .i ((0 : Int)), .i ((0 : Int)), .i ((0 : Int)), .r ([])]
noncomputable def bitemp_Changed_l0_step (item time : Int) (list : List (List Int)) (y0 : List U) : Option (Nat × List U) :=
  (bif decide (gi y0 1 < (↑list.length : Int)) then guardP (inR (gi y0 1) list) (guardP (inR (gi y0 1) list) (guardP ((decide (IntKind.i64.wrap (gi y0 1 + (1 : Int)) < (↑list.length : Int)) = true) → (inR (IntKind.i64.wrap (gi y0 1 + (1 : Int))) list)) (guardP ((decide (IntKind.i64.wrap (gi y0 1 + (1 : Int)) < (↑list.length : Int)) = true) → (inR (IntKind.i64.wrap (gi y0 1 + (1 : Int))) list)) (guardP ((decide (IntKind.i64.wrap (gi y0 1 + (1 : Int)) < (↑list.length : Int)) = true) → (inR (IntKind.i64.wrap (gi y0 1 + (1 : Int))) list)) ((bif decide (IntKind.i64.wrap (gi y0 1 + (1 : Int)) < (↑list.length : Int)) &&
  (list.getD (IntKind.i64.wrap (gi y0 1 + (1 : Int))).toNat []).getD 4 (0 : Int) == (list.getD (gi y0 1).toNat []).getD 4 (0 : Int) then some (0, [.b (gb y0 0), .i (IntKind.i64.wrap (gi y0 1 + (1 : Int))), .i (gi y0 2), .i (gi y0 3), .i (gi y0 4), .i (gi y0 5), .i (gi y0 6), .r (gr y0 7)]) else guardP (bitemp_holds_pre item time ((list.getD (gi y0 1).toNat []).getD 4 (0 : Int)) list) ((bif !bitemp_holds_5 item time ((list.getD (gi y0 1).toNat []).getD 4 (0 : Int)) list == gb y0 0 ||
  bitemp_holds_1 item time ((list.getD (gi y0 1).toNat []).getD 4 (0 : Int)) list != gi y0 3 then guardP (fitsA 8 ((gr y0 7).length + [[(list.getD (gi y0 1).toNat []).getD 4 (0 : Int)]].length)) (some (0, [.b (bitemp_holds_5 item time ((list.getD (gi y0 1).toNat []).getD 4 (0 : Int)) list), .i (IntKind.i64.wrap (gi y0 1 + (1 : Int))), .i (bitemp_holds_0 item time ((list.getD (gi y0 1).toNat []).getD 4 (0 : Int)) list), .i (bitemp_holds_1 item time ((list.getD (gi y0 1).toNat []).getD 4 (0 : Int)) list), .i (bitemp_holds_2 item time ((list.getD (gi y0 1).toNat []).getD 4 (0 : Int)) list), .i (bitemp_holds_3 item time ((list.getD (gi y0 1).toNat []).getD 4 (0 : Int)) list), .i (bitemp_holds_4 item time ((list.getD (gi y0 1).toNat []).getD 4 (0 : Int)) list), .r (gr y0 7 ++ [[(list.getD (gi y0 1).toNat []).getD 4 (0 : Int)]])])) else some (0, [.b (bitemp_holds_5 item time ((list.getD (gi y0 1).toNat []).getD 4 (0 : Int)) list), .i (IntKind.i64.wrap (gi y0 1 + (1 : Int))), .i (bitemp_holds_0 item time ((list.getD (gi y0 1).toNat []).getD 4 (0 : Int)) list), .i (bitemp_holds_1 item time ((list.getD (gi y0 1).toNat []).getD 4 (0 : Int)) list), .i (bitemp_holds_2 item time ((list.getD (gi y0 1).toNat []).getD 4 (0 : Int)) list), .i (bitemp_holds_3 item time ((list.getD (gi y0 1).toNat []).getD 4 (0 : Int)) list), .i (bitemp_holds_4 item time ((list.getD (gi y0 1).toNat []).getD 4 (0 : Int)) list), .r (gr y0 7)]))))))))) else some (4, [.b (gb y0 0), .i (gi y0 1), .i (gi y0 2), .i (gi y0 3), .i (gi y0 4), .i (gi y0 5), .i (gi y0 6), .r (gr y0 7)]))
noncomputable def bitemp_Changed_l0 (item time : Int) (list : List (List Int)) : Nat × List U := loopGet (bitemp_Changed_l0_step item time list) (bitemp_Changed_l0_init item time list)
noncomputable def bitemp_Changed_0 (item time : Int) (list : List (List Int)) : List (List Int) :=
  bif !bitemp_Valid_0 list || !bitemp_isItem_0 item || !bitemp_isTime_0 time then [] else gr (bitemp_Changed_l0 item time list).snd 7
noncomputable def bitemp_Changed_1 (item time : Int) (list : List (List Int)) : Int :=
  bif !bitemp_Valid_0 list || !bitemp_isItem_0 item || !bitemp_isTime_0 time then (1 : Int) else (0 : Int)
def bitemp_Changed_pre (item time : Int) (list : List (List Int)) : Prop :=
  ((bitemp_Valid_pre list) ∧ (((!bitemp_Valid_0 list || !bitemp_isItem_0 item || !bitemp_isTime_0 time) = false) → ((loopOk (bitemp_Changed_l0_step item time list) (bitemp_Changed_l0_init item time list)))))
noncomputable def bitemp_Knew_l1_init (item from_ until_ value : Int) (list : List (List Int)) (y0 : List U) : List U :=
  [.i ((0 : Int)), .i ((0 : Int))]
noncomputable def bitemp_Knew_l1_step (item from_ until_ value : Int) (list : List (List Int)) (y0 : List U) (y1 : List U) : Option (Nat × List U) :=
  (bif decide (gi y1 1 < (↑(bitemp_history_0 item ((list.getD (gi y0 2).toNat []).getD 4 (0 : Int)) list).length : Int)) then guardP (inR (gi y1 1) (bitemp_history_0 item ((list.getD (gi y0 2).toNat []).getD 4 (0 : Int)) list)) (guardP (inR (gi y1 1) (bitemp_history_0 item ((list.getD (gi y0 2).toNat []).getD 4 (0 : Int)) list)) ((bif decide (((bitemp_history_0 item ((list.getD (gi y0 2).toNat []).getD 4 (0 : Int)) list).getD (gi y1 1).toNat []).getD 2 (0 : Int) ≤ from_) &&
    decide (until_ ≤ ((bitemp_history_0 item ((list.getD (gi y0 2).toNat []).getD 4 (0 : Int)) list).getD (gi y1 1).toNat []).getD 3 (0 : Int)) &&
  ((bitemp_history_0 item ((list.getD (gi y0 2).toNat []).getD 4 (0 : Int)) list).getD (gi y1 1).toNat []).getD 1 (0 : Int) == value then some (1, [.i (gi y1 1)]) else some (0, [.i (gi y1 0), .i (IntKind.i64.wrap (gi y1 1 + (1 : Int)))])))) else some (3, [.i (gi y1 0), .i (gi y1 1)]))
noncomputable def bitemp_Knew_l1 (item from_ until_ value : Int) (list : List (List Int)) (y0 : List U) : Nat × List U := loopGet (bitemp_Knew_l1_step item from_ until_ value list y0) (bitemp_Knew_l1_init item from_ until_ value list y0)
noncomputable def bitemp_Knew_l0_init (item from_ until_ value : Int) (list : List (List Int)) : List U :=
  [.i ((0 : Int)), .i ((0 : Int)), .i ((0 : Int))]
noncomputable def bitemp_Knew_l0_step (item from_ until_ value : Int) (list : List (List Int)) (y0 : List U) : Option (Nat × List U) :=
  (bif decide (gi y0 2 < (↑list.length : Int)) then guardP (inR (gi y0 2) list) (guardP (inR (gi y0 2) list) (guardP (bitemp_history_pre item ((list.getD (gi y0 2).toNat []).getD 4 (0 : Int)) list) (guardP ((loopOk (bitemp_Knew_l1_step item from_ until_ value list y0) (bitemp_Knew_l1_init item from_ until_ value list y0))) ((bif decide ((bif (bitemp_Knew_l1 item from_ until_ value list y0).fst.beq 1 then gi (bitemp_Knew_l1 item from_ until_ value list y0).snd 0 else (-1 : Int)) ≥ (0 : Int)) then some (1, [.i ((list.getD (gi y0 2).toNat []).getD 4 (0 : Int))]) else some (0, [.i (gi y0 0), .i (gi y0 1), .i (IntKind.i64.wrap (gi y0 2 + (1 : Int)))])))))) else some (3, [.i (gi y0 0), .i (gi y0 1), .i (gi y0 2)]))
noncomputable def bitemp_Knew_l0 (item from_ until_ value : Int) (list : List (List Int)) : Nat × List U := loopGet (bitemp_Knew_l0_step item from_ until_ value list) (bitemp_Knew_l0_init item from_ until_ value list)
noncomputable def bitemp_Knew_0 (item from_ until_ value : Int) (list : List (List Int)) : Int :=
  bif !bitemp_Valid_0 list || !bitemp_isItem_0 item || !bitemp_isTime_0 from_ || !bitemp_isTime_0 until_ || decide (from_ ≥ until_) || !bitemp_isValue_0 value then (0 : Int)
else bif (bitemp_Knew_l0 item from_ until_ value list).fst.beq 1 then gi (bitemp_Knew_l0 item from_ until_ value list).snd 0 else (0 : Int)
noncomputable def bitemp_Knew_1 (item from_ until_ value : Int) (list : List (List Int)) : Int :=
  bif !bitemp_Valid_0 list || !bitemp_isItem_0 item || !bitemp_isTime_0 from_ || !bitemp_isTime_0 until_ || decide (from_ ≥ until_) || !bitemp_isValue_0 value then (1 : Int)
else bif (bitemp_Knew_l0 item from_ until_ value list).fst.beq 1 then (0 : Int) else (4 : Int)
def bitemp_Knew_pre (item from_ until_ value : Int) (list : List (List Int)) : Prop :=
  ((bitemp_Valid_pre list) ∧ (((!bitemp_Valid_0 list || !bitemp_isItem_0 item || !bitemp_isTime_0 from_ || !bitemp_isTime_0 until_ || decide (from_ ≥ until_) || !bitemp_isValue_0 value) = false) → ((loopOk (bitemp_Knew_l0_step item from_ until_ value list) (bitemp_Knew_l0_init item from_ until_ value list)))))
noncomputable def bitemp_Merge_l1_init (a b : List (List Int)) (y0 : List U) : List U :=
  [.i ((0 : Int)), .i ((0 : Int))]
noncomputable def bitemp_Merge_l1_step (a b : List (List Int)) (y0 : List U) (y1 : List U) : Option (Nat × List U) :=
  (bif decide (gi y1 1 < (↑a.length : Int)) then guardP (inR (gi y1 1) a) (guardP (inR (gi y1 1) a) ((bif bitemp_lie_0 ((a.getD (gi y1 1).toNat []).getD 0 (0 : Int)) ((a.getD (gi y1 1).toNat []).getD 1 (0 : Int))
  ((a.getD (gi y1 1).toNat []).getD 2 (0 : Int)) ((a.getD (gi y1 1).toNat []).getD 3 (0 : Int)) ((a.getD (gi y1 1).toNat []).getD 4 (0 : Int))
  ((b.getD (gi y0 1).toNat []).getD 0 (0 : Int)) ((b.getD (gi y0 1).toNat []).getD 1 (0 : Int)) ((b.getD (gi y0 1).toNat []).getD 2 (0 : Int))
  ((b.getD (gi y0 1).toNat []).getD 3 (0 : Int)) ((b.getD (gi y0 1).toNat []).getD 4 (0 : Int)) then some (1, [.i (gi y1 1)]) else some (0, [.i (gi y1 0), .i (IntKind.i64.wrap (gi y1 1 + (1 : Int)))])))) else some (3, [.i (gi y1 0), .i (gi y1 1)]))
noncomputable def bitemp_Merge_l1 (a b : List (List Int)) (y0 : List U) : Nat × List U := loopGet (bitemp_Merge_l1_step a b y0) (bitemp_Merge_l1_init a b y0)
noncomputable def bitemp_Merge_l2_init (a b : List (List Int)) (y0 : List U) : List U :=
  [.i ((0 : Int)), .i ((0 : Int))]
noncomputable def bitemp_Merge_l2_step (a b : List (List Int)) (y0 : List U) (y2 : List U) : Option (Nat × List U) :=
  (bif decide (gi y2 1 < (↑a.length : Int)) then guardP (inR (gi y2 1) a) (guardP (inR (gi y2 1) a) ((bif (b.getD (gi y0 1).toNat []).getD 0 (0 : Int) == (a.getD (gi y2 1).toNat []).getD 0 (0 : Int) &&
  ((b.getD (gi y0 1).toNat []).getD 1 (0 : Int) == (a.getD (gi y2 1).toNat []).getD 1 (0 : Int) &&
    ((b.getD (gi y0 1).toNat []).getD 2 (0 : Int) == (a.getD (gi y2 1).toNat []).getD 2 (0 : Int) &&
      ((b.getD (gi y0 1).toNat []).getD 3 (0 : Int) == (a.getD (gi y2 1).toNat []).getD 3 (0 : Int) &&
        ((b.getD (gi y0 1).toNat []).getD 4 (0 : Int) == (a.getD (gi y2 1).toNat []).getD 4 (0 : Int) && true)))) then some (1, [.i (gi y2 1)]) else some (0, [.i (gi y2 0), .i (IntKind.i64.wrap (gi y2 1 + (1 : Int)))])))) else some (3, [.i (gi y2 0), .i (gi y2 1)]))
noncomputable def bitemp_Merge_l2 (a b : List (List Int)) (y0 : List U) : Nat × List U := loopGet (bitemp_Merge_l2_step a b y0) (bitemp_Merge_l2_init a b y0)
noncomputable def bitemp_Merge_s0 (a b : List (List Int)) (y0 : List U) : List Int :=
  [(b.getD (gi y0 1).toNat []).getD 2 (0 : Int), (b.getD (gi y0 1).toNat []).getD 3 (0 : Int), (b.getD (gi y0 1).toNat []).getD 4 (0 : Int)]
noncomputable def bitemp_Merge_s1 (a b : List (List Int)) (y0 : List U) : List (List Int) :=
  gr y0 2 ++ [(b.getD (gi y0 1).toNat []).getD 0 (0 : Int) :: (b.getD (gi y0 1).toNat []).getD 1 (0 : Int) :: (bitemp_Merge_s0 a b y0)]
noncomputable def bitemp_Merge_l0_init (a b : List (List Int)) : List U :=
  [.i ((0 : Int)), .i ((0 : Int)), .r ([] ++ a)]
noncomputable def bitemp_Merge_l0_step (a b : List (List Int)) (y0 : List U) : Option (Nat × List U) :=
  (bif decide (gi y0 1 < (↑b.length : Int)) then guardP (inR (gi y0 1) b) (guardP (inR (gi y0 1) b) (guardP ((loopOk (bitemp_Merge_l1_step a b y0) (bitemp_Merge_l1_init a b y0))) ((bif decide ((bif (bitemp_Merge_l1 a b y0).fst.beq 1 then gi (bitemp_Merge_l1 a b y0).snd 0 else (-1 : Int)) ≥ (0 : Int)) then some (1, []) else guardP ((loopOk (bitemp_Merge_l2_step a b y0) (bitemp_Merge_l2_init a b y0))) ((bif !decide ((bif (bitemp_Merge_l2 a b y0).fst.beq 1 then gi (bitemp_Merge_l2 a b y0).snd 0 else (-1 : Int)) ≥ (0 : Int)) then guardP (fitsA 40
  ((gr y0 2).length + [(b.getD (gi y0 1).toNat []).getD 0 (0 : Int) :: (b.getD (gi y0 1).toNat []).getD 1 (0 : Int) :: (bitemp_Merge_s0 a b y0)].length)) (some (0, [.i (gi y0 0), .i (IntKind.i64.wrap (gi y0 1 + (1 : Int))), .r ((bitemp_Merge_s1 a b y0))])) else some (0, [.i (gi y0 0), .i (IntKind.i64.wrap (gi y0 1 + (1 : Int))), .r (gr y0 2)]))))))) else some (4, [.i (gi y0 0), .i (gi y0 1), .r (gr y0 2)]))
noncomputable def bitemp_Merge_l0 (a b : List (List Int)) : Nat × List U := loopGet (bitemp_Merge_l0_step a b) (bitemp_Merge_l0_init a b)
noncomputable def bitemp_Merge_s2 (a b : List (List Int)) : List (List Int) :=
  bif decide ((↑(gr (bitemp_Merge_l0 a b).snd 2).length : Int) > (200 : Int)) then [] else stabRows 5 4 (gr (bitemp_Merge_l0 a b).snd 2)
noncomputable def bitemp_Merge_0 (a b : List (List Int)) : List (List Int) :=
  bif !bitemp_Valid_0 a || !bitemp_Valid_0 b then [] else bif (bitemp_Merge_l0 a b).fst.beq 1 then [] else (bitemp_Merge_s2 a b)
noncomputable def bitemp_Merge_s3 (a b : List (List Int)) : Int :=
  bif (bitemp_Merge_l0 a b).fst.beq 1 then (18 : Int) else bif decide ((↑(gr (bitemp_Merge_l0 a b).snd 2).length : Int) > (200 : Int)) then (2 : Int) else (0 : Int)
noncomputable def bitemp_Merge_1 (a b : List (List Int)) : Int :=
  bif !bitemp_Valid_0 a || !bitemp_Valid_0 b then (1 : Int) else (bitemp_Merge_s3 a b)
def bitemp_Merge_pre (a b : List (List Int)) : Prop :=
  ((bitemp_Valid_pre a) ∧ ((((!bitemp_Valid_0 a) = false) → (bitemp_Valid_pre b)) ∧ (((!bitemp_Valid_0 a || !bitemp_Valid_0 b) = false) → ((((a = []) → ((True) ∧ (([] ++ a = []) ∧ (True)))) ∧ (fitsA 40 (0 + a.length))) ∧ (((loopOk (bitemp_Merge_l0_step a b) (bitemp_Merge_l0_init a b))) ∧ (((bitemp_Merge_l0 a b).fst.beq 1 = false) → ((decide ((↑(gr (bitemp_Merge_l0 a b).snd 2).length : Int) > (200 : Int)) = false) → ((gr (bitemp_Merge_l0 a b).snd 2).length < 1152921504606846976))))))))
end Go.Proofs.Ytcbgjecpnhjlpaa
