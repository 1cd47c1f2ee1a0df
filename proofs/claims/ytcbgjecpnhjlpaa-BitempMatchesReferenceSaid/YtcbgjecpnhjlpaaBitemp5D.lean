/- Written by program (wip/sygen.py): what the Go functions compute, as the executor reads it off their code. -/
import Derived.Test.YtcbgjecpnhjlpaaSyD
import Derived.Test.YtcbgjecpnhjlpaaSySo
import Derived.Test.YtcbgjecpnhjlpaaBitemp1D
import Derived.Test.YtcbgjecpnhjlpaaBitempCD
import Derived.Test.YtcbgjecpnhjlpaaBitemp2D
import Derived.Test.YtcbgjecpnhjlpaaBitemp4D
set_option maxRecDepth 100000
set_option linter.unusedVariables false
namespace Go.Proofs.Ytcbgjecpnhjlpaa
open Go Go.Sy
noncomputable def ref27_Time_0 (t : Int) : Bool :=
  decide (t ≥ (0 : Int)) && decide (t ≤ (10000000 : Int))
noncomputable def ref27_Item_0 (n : Int) : Bool :=
  decide (n ≥ (1 : Int)) && decide (n ≤ (100000 : Int))
noncomputable def ref27_Value_0 (v : Int) : Bool :=
  decide (v ≥ (-1000000000000 : Int)) && decide (v ≤ (1000000000000 : Int))
noncomputable def ref27_Row_0 (r_Item r_Value r_From r_Until r_Known : Int) : Bool :=
  ref27_Item_0 r_Item && ref27_Value_0 r_Value && ref27_Time_0 r_From && ref27_Time_0 r_Until && ref27_Time_0 r_Known && decide (r_From < r_Until)
noncomputable def ref27_Valid_l0_init (list : List (List Int)) : List U :=
  [.b (false), .i ((0 : Int))]
noncomputable def ref27_Valid_l0_step (list : List (List Int)) (y0 : List U) : Option (Nat × List U) :=
  (bif decide (gi y0 1 < (↑list.length : Int)) then guardP (inR (gi y0 1) list) (guardP (inR (gi y0 1) list) (guardP (((!ref27_Row_0 ((list.getD (gi y0 1).toNat []).getD 0 (0 : Int)) ((list.getD (gi y0 1).toNat []).getD 1 (0 : Int))
      ((list.getD (gi y0 1).toNat []).getD 2 (0 : Int)) ((list.getD (gi y0 1).toNat []).getD 3 (0 : Int))
      ((list.getD (gi y0 1).toNat []).getD 4 (0 : Int))) =
  false) → ((decide (gi y0 1 > (0 : Int)) = true) → (inR (gi y0 1) list))) (guardP (((!ref27_Row_0 ((list.getD (gi y0 1).toNat []).getD 0 (0 : Int)) ((list.getD (gi y0 1).toNat []).getD 1 (0 : Int))
      ((list.getD (gi y0 1).toNat []).getD 2 (0 : Int)) ((list.getD (gi y0 1).toNat []).getD 3 (0 : Int))
      ((list.getD (gi y0 1).toNat []).getD 4 (0 : Int))) =
  false) → ((decide (gi y0 1 > (0 : Int)) = true) → (inR (gi y0 1) list))) (guardP (((!ref27_Row_0 ((list.getD (gi y0 1).toNat []).getD 0 (0 : Int)) ((list.getD (gi y0 1).toNat []).getD 1 (0 : Int))
      ((list.getD (gi y0 1).toNat []).getD 2 (0 : Int)) ((list.getD (gi y0 1).toNat []).getD 3 (0 : Int))
      ((list.getD (gi y0 1).toNat []).getD 4 (0 : Int))) =
  false) → ((decide (gi y0 1 > (0 : Int)) = true) → (inR (gi y0 1) list))) (guardP (((!ref27_Row_0 ((list.getD (gi y0 1).toNat []).getD 0 (0 : Int)) ((list.getD (gi y0 1).toNat []).getD 1 (0 : Int))
      ((list.getD (gi y0 1).toNat []).getD 2 (0 : Int)) ((list.getD (gi y0 1).toNat []).getD 3 (0 : Int))
      ((list.getD (gi y0 1).toNat []).getD 4 (0 : Int))) =
  false) → ((decide (gi y0 1 > (0 : Int)) = true) → (inR (IntKind.i64.wrap (gi y0 1 - (1 : Int))) list))) (guardP (((!ref27_Row_0 ((list.getD (gi y0 1).toNat []).getD 0 (0 : Int)) ((list.getD (gi y0 1).toNat []).getD 1 (0 : Int))
      ((list.getD (gi y0 1).toNat []).getD 2 (0 : Int)) ((list.getD (gi y0 1).toNat []).getD 3 (0 : Int))
      ((list.getD (gi y0 1).toNat []).getD 4 (0 : Int))) =
  false) → ((decide (gi y0 1 > (0 : Int)) = true) → (inR (IntKind.i64.wrap (gi y0 1 - (1 : Int))) list))) (guardP (((!ref27_Row_0 ((list.getD (gi y0 1).toNat []).getD 0 (0 : Int)) ((list.getD (gi y0 1).toNat []).getD 1 (0 : Int))
      ((list.getD (gi y0 1).toNat []).getD 2 (0 : Int)) ((list.getD (gi y0 1).toNat []).getD 3 (0 : Int))
      ((list.getD (gi y0 1).toNat []).getD 4 (0 : Int))) =
  false) → ((decide (gi y0 1 > (0 : Int)) = true) → (inR (IntKind.i64.wrap (gi y0 1 - (1 : Int))) list))) ((bif !ref27_Row_0 ((list.getD (gi y0 1).toNat []).getD 0 (0 : Int)) ((list.getD (gi y0 1).toNat []).getD 1 (0 : Int))
      ((list.getD (gi y0 1).toNat []).getD 2 (0 : Int)) ((list.getD (gi y0 1).toNat []).getD 3 (0 : Int))
      ((list.getD (gi y0 1).toNat []).getD 4 (0 : Int)) ||
  decide (gi y0 1 > (0 : Int)) &&
    decide ((list.getD (gi y0 1).toNat []).getD 4 (0 : Int) < (list.getD (IntKind.i64.wrap (gi y0 1 - (1 : Int))).toNat []).getD 4 (0 : Int)) then some (1, []) else some (0, [.b (gb y0 0), .i (IntKind.i64.wrap (gi y0 1 + (1 : Int)))])))))))))) else some (3, [.b (gb y0 0), .i (gi y0 1)]))
noncomputable def ref27_Valid_l0 (list : List (List Int)) : Nat × List U := loopGet (ref27_Valid_l0_step list) (ref27_Valid_l0_init list)
noncomputable def ref27_Valid_0 (list : List (List Int)) : Bool :=
  bif decide ((↑list.length : Int) > (200 : Int)) then false else bif (ref27_Valid_l0 list).fst.beq 1 then false else true
def ref27_Valid_pre (list : List (List Int)) : Prop :=
  ((decide ((↑list.length : Int) > (200 : Int)) = false) → ((loopOk (ref27_Valid_l0_step list) (ref27_Valid_l0_init list))))
noncomputable def ref27_Say_s0 (r_Item r_Value r_From r_Until r_Known : Int) (list : List (List Int)) (y0 : List U) : List Int :=
  [(list.getD (gi y0 1).toNat []).getD 2 (0 : Int), (list.getD (gi y0 1).toNat []).getD 3 (0 : Int), (list.getD (gi y0 1).toNat []).getD 4 (0 : Int)]
noncomputable def ref27_Say_s1 (r_Item r_Value r_From r_Until r_Known : Int) (list : List (List Int)) (y0 : List U) : List (List Int) :=
  gr y0 2 ++ [(list.getD (gi y0 1).toNat []).getD 0 (0 : Int) :: (list.getD (gi y0 1).toNat []).getD 1 (0 : Int) :: (ref27_Say_s0 r_Item r_Value r_From r_Until r_Known list y0)]
noncomputable def ref27_Say_l0_init (r_Item r_Value r_From r_Until r_Known : Int) (list : List (List Int)) : List U :=
  [.i ((0 : Int)), .i ((0 : Int)), .r ([])]
noncomputable def ref27_Say_l0_step (r_Item r_Value r_From r_Until r_Known : Int) (list : List (List Int)) (y0 : List U) : Option (Nat × List U) :=
  (bif decide (gi y0 1 < (↑list.length : Int)) then guardP (inR (gi y0 1) list) (guardP (inR (gi y0 1) list) (guardP (inR (gi y0 1) list) ((bif decide ((list.getD (gi y0 1).toNat []).getD 4 (0 : Int) > r_Known) then some (1, []) else guardP (inR (gi y0 1) list) (guardP (inR (gi y0 1) list) (guardP (fitsA 40
  ((gr y0 2).length + [(list.getD (gi y0 1).toNat []).getD 0 (0 : Int) :: (list.getD (gi y0 1).toNat []).getD 1 (0 : Int) :: (ref27_Say_s0 r_Item r_Value r_From r_Until r_Known list y0)].length)) (some (0, [.i (gi y0 0), .i (IntKind.i64.wrap (gi y0 1 + (1 : Int))), .r ((ref27_Say_s1 r_Item r_Value r_From r_Until r_Known list y0))])))))))) else some (3, [.i (gi y0 0), .i (gi y0 1), .r (gr y0 2)]))
noncomputable def ref27_Say_l0 (r_Item r_Value r_From r_Until r_Known : Int) (list : List (List Int)) : Nat × List U := loopGet (ref27_Say_l0_step r_Item r_Value r_From r_Until r_Known list) (ref27_Say_l0_init r_Item r_Value r_From r_Until r_Known list)
noncomputable def ref27_Say_s2 (r_Item r_Value r_From r_Until r_Known : Int) (list : List (List Int)) : List (List Int) :=
  bif (ref27_Say_l0 r_Item r_Value r_From r_Until r_Known list).fst.beq 1 then [] else gr (ref27_Say_l0 r_Item r_Value r_From r_Until r_Known list).snd 2 ++ [[r_Item, r_Value, r_From, r_Until, r_Known]]
noncomputable def ref27_Say_0 (r_Item r_Value r_From r_Until r_Known : Int) (list : List (List Int)) : List (List Int) :=
  bif !ref27_Valid_0 list || !ref27_Row_0 r_Item r_Value r_From r_Until r_Known then [] else bif (↑list.length : Int) == (200 : Int) then [] else (ref27_Say_s2 r_Item r_Value r_From r_Until r_Known list)
noncomputable def ref27_Say_1 (r_Item r_Value r_From r_Until r_Known : Int) (list : List (List Int)) : Int :=
  bif !ref27_Valid_0 list || !ref27_Row_0 r_Item r_Value r_From r_Until r_Known then (1 : Int)
else bif (↑list.length : Int) == (200 : Int) then (2 : Int) else bif (ref27_Say_l0 r_Item r_Value r_From r_Until r_Known list).fst.beq 1 then (13 : Int) else (0 : Int)
def ref27_Say_pre (r_Item r_Value r_From r_Until r_Known : Int) (list : List (List Int)) : Prop :=
  ((ref27_Valid_pre list) ∧ (((!ref27_Valid_0 list || !ref27_Row_0 r_Item r_Value r_From r_Until r_Known) = false) → ((((↑list.length : Int) == (200 : Int)) = false) → (((loopOk (ref27_Say_l0_step r_Item r_Value r_From r_Until r_Known list) (ref27_Say_l0_init r_Item r_Value r_From r_Until r_Known list))) ∧ (((ref27_Say_l0 r_Item r_Value r_From r_Until r_Known list).fst.beq 1 = false) → (fitsA 40 ((gr (ref27_Say_l0 r_Item r_Value r_From r_Until r_Known list).snd 2).length + [[r_Item, r_Value, r_From, r_Until, r_Known]].length)))))))
noncomputable def ref27_at_l0_init (item time known : Int) (list : List (List Int)) : List U :=
  [.i ((0 : Int)), .b (false), .i (IntKind.i64.wrap ((↑list.length : Int) - (1 : Int)))]
noncomputable def ref27_at_l0_step (item time known : Int) (list : List (List Int)) (y0 : List U) : Option (Nat × List U) :=
  (bif decide (gi y0 2 ≥ (0 : Int)) then guardP (inR (gi y0 2) list) (guardP (inR (gi y0 2) list) ((bif (list.getD (gi y0 2).toNat []).getD 0 (0 : Int) == item && decide ((list.getD (gi y0 2).toNat []).getD 2 (0 : Int) ≤ time) &&
    decide (time < (list.getD (gi y0 2).toNat []).getD 3 (0 : Int)) &&
  decide ((list.getD (gi y0 2).toNat []).getD 4 (0 : Int) ≤ known) then some (1, [.i ((list.getD (gi y0 2).toNat []).getD 1 (0 : Int))]) else some (0, [.i (gi y0 0), .b (gb y0 1), .i (IntKind.i64.wrap (gi y0 2 - (1 : Int)))])))) else some (3, [.i (gi y0 0), .b (gb y0 1), .i (gi y0 2)]))
noncomputable def ref27_at_l0 (item time known : Int) (list : List (List Int)) : Nat × List U := loopGet (ref27_at_l0_step item time known list) (ref27_at_l0_init item time known list)
noncomputable def ref27_at_0 (item time known : Int) (list : List (List Int)) : Int :=
  bif (ref27_at_l0 item time known list).fst.beq 1 then gi (ref27_at_l0 item time known list).snd 0 else (0 : Int)
noncomputable def ref27_at_1 (item time known : Int) (list : List (List Int)) : Bool :=
  bif (ref27_at_l0 item time known list).fst.beq 1 then true else false
def ref27_at_pre (item time known : Int) (list : List (List Int)) : Prop :=
  ((loopOk (ref27_at_l0_step item time known list) (ref27_at_l0_init item time known list)))
noncomputable def ref27_At_0 (item time known : Int) (list : List (List Int)) : Int :=
  bif !ref27_Valid_0 list || !ref27_Item_0 item || !ref27_Time_0 time || !ref27_Time_0 known then (0 : Int) else bif !ref27_at_1 item time known list then (0 : Int) else ref27_at_0 item time known list
noncomputable def ref27_At_1 (item time known : Int) (list : List (List Int)) : Int :=
  bif !ref27_Valid_0 list || !ref27_Item_0 item || !ref27_Time_0 time || !ref27_Time_0 known then (1 : Int) else bif !ref27_at_1 item time known list then (4 : Int) else (0 : Int)
def ref27_At_pre (item time known : Int) (list : List (List Int)) : Prop :=
  ((ref27_Valid_pre list) ∧ (((!ref27_Valid_0 list || !ref27_Item_0 item || !ref27_Time_0 time || !ref27_Time_0 known) = false) → (ref27_at_pre item time known list)))
noncomputable def ref27_put_l0_init (n : Int) (l : List (List Int)) : List U :=
  [.i ((0 : Int)), .r ([])]
noncomputable def ref27_put_l0_step (n : Int) (l : List (List Int)) (y0 : List U) : Option (Nat × List U) :=
  guardP ((decide (gi y0 0 < (↑l.length : Int)) = true) → (inR (gi y0 0) l)) (guardP ((decide (gi y0 0 < (↑l.length : Int)) = true) → (inR (gi y0 0) l)) ((bif decide (gi y0 0 < (↑l.length : Int)) && decide ((l.getD (gi y0 0).toNat []).getD 0 (0 : Int) < n) then guardP (inR (gi y0 0) l) (guardP (inR (gi y0 0) l) (guardP (fitsA 8 ((gr y0 1).length + [[(l.getD (gi y0 0).toNat []).getD 0 (0 : Int)]].length)) (some (0, [.i (IntKind.i64.wrap (gi y0 0 + (1 : Int))), .r (gr y0 1 ++ [[(l.getD (gi y0 0).toNat []).getD 0 (0 : Int)]])])))) else some (2, [.i (gi y0 0), .r (gr y0 1)]))))
noncomputable def ref27_put_l0 (n : Int) (l : List (List Int)) : Nat × List U := loopGet (ref27_put_l0_step n l) (ref27_put_l0_init n l)
noncomputable def ref27_put_l1_init (n : Int) (l : List (List Int)) : List U :=
  [.i (gi (ref27_put_l0 n l).snd 0), .r (gr (ref27_put_l0 n l).snd 1 ++ [[n]])]
noncomputable def ref27_put_l1_step (n : Int) (l : List (List Int)) (y1 : List U) : Option (Nat × List U) :=
  (bif decide (gi y1 0 < (↑l.length : Int)) then guardP (inR (gi y1 0) l) (guardP (inR (gi y1 0) l) ((bif (l.getD (gi y1 0).toNat []).getD 0 (0 : Int) != n then guardP (inR (gi y1 0) l) (guardP (inR (gi y1 0) l) (guardP (fitsA 8 ((gr y1 1).length + [[(l.getD (gi y1 0).toNat []).getD 0 (0 : Int)]].length)) (some (0, [.i (IntKind.i64.wrap (gi y1 0 + (1 : Int))), .r (gr y1 1 ++ [[(l.getD (gi y1 0).toNat []).getD 0 (0 : Int)]])])))) else some (0, [.i (IntKind.i64.wrap (gi y1 0 + (1 : Int))), .r (gr y1 1)])))) else some (3, [.i (gi y1 0), .r (gr y1 1)]))
noncomputable def ref27_put_l1 (n : Int) (l : List (List Int)) : Nat × List U := loopGet (ref27_put_l1_step n l) (ref27_put_l1_init n l)
noncomputable def ref27_put_0 (n : Int) (l : List (List Int)) : List (List Int) :=
  gr (ref27_put_l1 n l).snd 1
def ref27_put_pre (n : Int) (l : List (List Int)) : Prop :=
  (((loopOk (ref27_put_l0_step n l) (ref27_put_l0_init n l))) ∧ ((fitsA 8 ((gr (ref27_put_l0 n l).snd 1).length + [[n]].length)) ∧ ((loopOk (ref27_put_l1_step n l) (ref27_put_l1_init n l)))))
noncomputable def ref27_ends_l0_init (item : Int) (list : List (List Int)) : List U :=
  [.i ((0 : Int)), .r ([])]
noncomputable def ref27_ends_l0_step (item : Int) (list : List (List Int)) (y0 : List U) : Option (Nat × List U) :=
  (bif decide (gi y0 0 < (↑list.length : Int)) then guardP (inR (gi y0 0) list) (guardP (inR (gi y0 0) list) (guardP (inR (gi y0 0) list) ((bif (list.getD (gi y0 0).toNat []).getD 0 (0 : Int) == item then guardP (inR (gi y0 0) list) (guardP (inR (gi y0 0) list) (guardP (inR (gi y0 0) list) (guardP (ref27_put_pre ((list.getD (gi y0 0).toNat []).getD 2 (0 : Int)) (gr y0 1)) (guardP (inR (gi y0 0) list) (guardP (inR (gi y0 0) list) (guardP (inR (gi y0 0) list) (guardP (ref27_put_pre ((list.getD (gi y0 0).toNat []).getD 3 (0 : Int)) (ref27_put_0 ((list.getD (gi y0 0).toNat []).getD 2 (0 : Int)) (gr y0 1))) (some (0, [.i (IntKind.i64.wrap (gi y0 0 + (1 : Int))), .r (ref27_put_0 ((list.getD (gi y0 0).toNat []).getD 3 (0 : Int)) (ref27_put_0 ((list.getD (gi y0 0).toNat []).getD 2 (0 : Int)) (gr y0 1)))]))))))))) else some (0, [.i (IntKind.i64.wrap (gi y0 0 + (1 : Int))), .r (gr y0 1)]))))) else some (3, [.i (gi y0 0), .r (gr y0 1)]))
noncomputable def ref27_ends_l0 (item : Int) (list : List (List Int)) : Nat × List U := loopGet (ref27_ends_l0_step item list) (ref27_ends_l0_init item list)
noncomputable def ref27_ends_0 (item : Int) (list : List (List Int)) : List (List Int) :=
  gr (ref27_ends_l0 item list).snd 1
def ref27_ends_pre (item : Int) (list : List (List Int)) : Prop :=
  ((loopOk (ref27_ends_l0_step item list) (ref27_ends_l0_init item list)))
noncomputable def ref27_History_s0 (item known : Int) (list : List (List Int)) (y0 : List U) : List Int :=
  setEl 5 ((gr y0 1).getD (IntKind.i64.wrap ((↑(gr y0 1).length : Int) - (1 : Int))).toNat []) 3
  [((ref27_ends_0 item list).getD (IntKind.i64.wrap (gi y0 0 + (1 : Int))).toNat []).getD 0 (0 : Int)]
noncomputable def ref27_History_s1 (item known : Int) (list : List (List Int)) (y0 : List U) : List Int :=
  [((ref27_ends_0 item list).getD (gi y0 0).toNat []).getD 0 (0 : Int),
  ((ref27_ends_0 item list).getD (IntKind.i64.wrap (gi y0 0 + (1 : Int))).toNat []).getD 0 (0 : Int), known]
noncomputable def ref27_History_l0_init (item known : Int) (list : List (List Int)) : List U :=
  [.i ((0 : Int)), .r ([])]
noncomputable def ref27_History_l0_step (item known : Int) (list : List (List Int)) (y0 : List U) : Option (Nat × List U) :=
  (bif decide (IntKind.i64.wrap (gi y0 0 + (1 : Int)) < (↑(ref27_ends_0 item list).length : Int)) then guardP (inR (gi y0 0) (ref27_ends_0 item list)) (guardP (inR (gi y0 0) (ref27_ends_0 item list)) (guardP (ref27_at_pre item (((ref27_ends_0 item list).getD (gi y0 0).toNat []).getD 0 (0 : Int)) known list) (guardP (((ref27_at_1 item (((ref27_ends_0 item list).getD (gi y0 0).toNat []).getD 0 (0 : Int)) known list && decide ((↑(gr y0 1).length : Int) > (0 : Int))) = true) → (inR (IntKind.i64.wrap ((↑(gr y0 1).length : Int) - (1 : Int))) (gr y0 1))) (guardP (((ref27_at_1 item (((ref27_ends_0 item list).getD (gi y0 0).toNat []).getD 0 (0 : Int)) known list && decide ((↑(gr y0 1).length : Int) > (0 : Int))) = true) → (inR (IntKind.i64.wrap ((↑(gr y0 1).length : Int) - (1 : Int))) (gr y0 1))) (guardP (((ref27_at_1 item (((ref27_ends_0 item list).getD (gi y0 0).toNat []).getD 0 (0 : Int)) known list && decide ((↑(gr y0 1).length : Int) > (0 : Int))) = true) → (inR (IntKind.i64.wrap ((↑(gr y0 1).length : Int) - (1 : Int))) (gr y0 1))) (guardP (((ref27_at_1 item (((ref27_ends_0 item list).getD (gi y0 0).toNat []).getD 0 (0 : Int)) known list && decide ((↑(gr y0 1).length : Int) > (0 : Int))) = true) → (inR (gi y0 0) (ref27_ends_0 item list))) (guardP (((ref27_at_1 item (((ref27_ends_0 item list).getD (gi y0 0).toNat []).getD 0 (0 : Int)) known list && decide ((↑(gr y0 1).length : Int) > (0 : Int))) = true) → (inR (gi y0 0) (ref27_ends_0 item list))) (guardP (((ref27_at_1 item (((ref27_ends_0 item list).getD (gi y0 0).toNat []).getD 0 (0 : Int)) known list && decide ((↑(gr y0 1).length : Int) > (0 : Int)) &&
    ((gr y0 1).getD (IntKind.i64.wrap ((↑(gr y0 1).length : Int) - (1 : Int))).toNat []).getD 3 (0 : Int) ==
      ((ref27_ends_0 item list).getD (gi y0 0).toNat []).getD 0 (0 : Int)) =
  true) → (inR (IntKind.i64.wrap ((↑(gr y0 1).length : Int) - (1 : Int))) (gr y0 1))) (guardP (((ref27_at_1 item (((ref27_ends_0 item list).getD (gi y0 0).toNat []).getD 0 (0 : Int)) known list && decide ((↑(gr y0 1).length : Int) > (0 : Int)) &&
    ((gr y0 1).getD (IntKind.i64.wrap ((↑(gr y0 1).length : Int) - (1 : Int))).toNat []).getD 3 (0 : Int) ==
      ((ref27_ends_0 item list).getD (gi y0 0).toNat []).getD 0 (0 : Int)) =
  true) → (inR (IntKind.i64.wrap ((↑(gr y0 1).length : Int) - (1 : Int))) (gr y0 1))) (guardP (((ref27_at_1 item (((ref27_ends_0 item list).getD (gi y0 0).toNat []).getD 0 (0 : Int)) known list && decide ((↑(gr y0 1).length : Int) > (0 : Int)) &&
    ((gr y0 1).getD (IntKind.i64.wrap ((↑(gr y0 1).length : Int) - (1 : Int))).toNat []).getD 3 (0 : Int) ==
      ((ref27_ends_0 item list).getD (gi y0 0).toNat []).getD 0 (0 : Int)) =
  true) → (inR (IntKind.i64.wrap ((↑(gr y0 1).length : Int) - (1 : Int))) (gr y0 1))) ((bif ref27_at_1 item (((ref27_ends_0 item list).getD (gi y0 0).toNat []).getD 0 (0 : Int)) known list && decide ((↑(gr y0 1).length : Int) > (0 : Int)) &&
    ((gr y0 1).getD (IntKind.i64.wrap ((↑(gr y0 1).length : Int) - (1 : Int))).toNat []).getD 3 (0 : Int) ==
      ((ref27_ends_0 item list).getD (gi y0 0).toNat []).getD 0 (0 : Int) &&
  ((gr y0 1).getD (IntKind.i64.wrap ((↑(gr y0 1).length : Int) - (1 : Int))).toNat []).getD 1 (0 : Int) ==
    ref27_at_0 item (((ref27_ends_0 item list).getD (gi y0 0).toNat []).getD 0 (0 : Int)) known list then guardP (inR (IntKind.i64.wrap (gi y0 0 + (1 : Int))) (ref27_ends_0 item list)) (guardP (inR (IntKind.i64.wrap (gi y0 0 + (1 : Int))) (ref27_ends_0 item list)) (guardP (inR (IntKind.i64.wrap ((↑(gr y0 1).length : Int) - (1 : Int))) (gr y0 1)) (guardP (inR (IntKind.i64.wrap ((↑(gr y0 1).length : Int) - (1 : Int))) (gr y0 1)) (guardP (inR (IntKind.i64.wrap ((↑(gr y0 1).length : Int) - (1 : Int))) (gr y0 1)) (some (0, [.i (IntKind.i64.wrap (gi y0 0 + (1 : Int))), .r ((gr y0 1).set (IntKind.i64.wrap ((↑(gr y0 1).length : Int) - (1 : Int))).toNat ((ref27_History_s0 item known list y0)))])))))) else (bif ref27_at_1 item (((ref27_ends_0 item list).getD (gi y0 0).toNat []).getD 0 (0 : Int)) known list then guardP (inR (gi y0 0) (ref27_ends_0 item list)) (guardP (inR (gi y0 0) (ref27_ends_0 item list)) (guardP (inR (IntKind.i64.wrap (gi y0 0 + (1 : Int))) (ref27_ends_0 item list)) (guardP (inR (IntKind.i64.wrap (gi y0 0 + (1 : Int))) (ref27_ends_0 item list)) (guardP (fitsA 40 ((gr y0 1).length + [item :: ref27_at_0 item (((ref27_ends_0 item list).getD (gi y0 0).toNat []).getD 0 (0 : Int)) known list :: (ref27_History_s1 item known list y0)].length)) (some (0, [.i (IntKind.i64.wrap (gi y0 0 + (1 : Int))), .r (gr y0 1 ++ [item :: ref27_at_0 item (((ref27_ends_0 item list).getD (gi y0 0).toNat []).getD 0 (0 : Int)) known list :: (ref27_History_s1 item known list y0)])])))))) else some (0, [.i (IntKind.i64.wrap (gi y0 0 + (1 : Int))), .r (gr y0 1)])))))))))))))) else some (4, [.i (gi y0 0), .r (gr y0 1)]))
noncomputable def ref27_History_l0 (item known : Int) (list : List (List Int)) : Nat × List U := loopGet (ref27_History_l0_step item known list) (ref27_History_l0_init item known list)
noncomputable def ref27_History_0 (item known : Int) (list : List (List Int)) : List (List Int) :=
  bif !ref27_Valid_0 list || !ref27_Item_0 item || !ref27_Time_0 known then [] else gr (ref27_History_l0 item known list).snd 1
noncomputable def ref27_History_1 (item known : Int) (list : List (List Int)) : Int :=
  bif !ref27_Valid_0 list || !ref27_Item_0 item || !ref27_Time_0 known then (1 : Int) else (0 : Int)
def ref27_History_pre (item known : Int) (list : List (List Int)) : Prop :=
  ((ref27_Valid_pre list) ∧ (((!ref27_Valid_0 list || !ref27_Item_0 item || !ref27_Time_0 known) = false) → ((ref27_ends_pre item list) ∧ ((loopOk (ref27_History_l0_step item known list) (ref27_History_l0_init item known list))))))
noncomputable def ref27_Changed_l0_init (item time : Int) (list : List (List Int)) : List U :=
  [.i ((0 : Int)), .r ([])]
noncomputable def ref27_Changed_l0_step (item time : Int) (list : List (List Int)) (y0 : List U) : Option (Nat × List U) :=
  (bif decide (gi y0 0 < (↑list.length : Int)) then guardP (inR (gi y0 0) list) (guardP (inR (gi y0 0) list) (guardP (inR (gi y0 0) list) (guardP (ref27_at_pre item time ((list.getD (gi y0 0).toNat []).getD 4 (0 : Int)) list) (guardP (ref27_at_pre item time (IntKind.i64.wrap ((list.getD (gi y0 0).toNat []).getD 4 (0 : Int) - (1 : Int))) list) ((bif !ref27_at_1 item time ((list.getD (gi y0 0).toNat []).getD 4 (0 : Int)) list ==
      ref27_at_1 item time (IntKind.i64.wrap ((list.getD (gi y0 0).toNat []).getD 4 (0 : Int) - (1 : Int))) list ||
  ref27_at_0 item time ((list.getD (gi y0 0).toNat []).getD 4 (0 : Int)) list !=
    ref27_at_0 item time (IntKind.i64.wrap ((list.getD (gi y0 0).toNat []).getD 4 (0 : Int) - (1 : Int))) list then guardP (ref27_put_pre ((list.getD (gi y0 0).toNat []).getD 4 (0 : Int)) (gr y0 1)) (some (0, [.i (IntKind.i64.wrap (gi y0 0 + (1 : Int))), .r (ref27_put_0 ((list.getD (gi y0 0).toNat []).getD 4 (0 : Int)) (gr y0 1))])) else some (0, [.i (IntKind.i64.wrap (gi y0 0 + (1 : Int))), .r (gr y0 1)]))))))) else some (3, [.i (gi y0 0), .r (gr y0 1)]))
noncomputable def ref27_Changed_l0 (item time : Int) (list : List (List Int)) : Nat × List U := loopGet (ref27_Changed_l0_step item time list) (ref27_Changed_l0_init item time list)
noncomputable def ref27_Changed_0 (item time : Int) (list : List (List Int)) : List (List Int) :=
  bif !ref27_Valid_0 list || !ref27_Item_0 item || !ref27_Time_0 time then [] else gr (ref27_Changed_l0 item time list).snd 1
noncomputable def ref27_Changed_1 (item time : Int) (list : List (List Int)) : Int :=
  bif !ref27_Valid_0 list || !ref27_Item_0 item || !ref27_Time_0 time then (1 : Int) else (0 : Int)
def ref27_Changed_pre (item time : Int) (list : List (List Int)) : Prop :=
  ((ref27_Valid_pre list) ∧ (((!ref27_Valid_0 list || !ref27_Item_0 item || !ref27_Time_0 time) = false) → ((loopOk (ref27_Changed_l0_step item time list) (ref27_Changed_l0_init item time list)))))
noncomputable def ref27_all_l0_init (item from_ until_ value known : Int) (list : List (List Int)) : List U :=
  [.b (false), .i ((0 : Int))]
noncomputable def ref27_all_l0_step (item from_ until_ value known : Int) (list : List (List Int)) (y0 : List U) : Option (Nat × List U) :=
  (bif decide (gi y0 1 < (↑(ref27_put_0 from_ (ref27_ends_0 item list)).length : Int)) then guardP (inR (gi y0 1) (ref27_put_0 from_ (ref27_ends_0 item list))) (guardP (inR (gi y0 1) (ref27_put_0 from_ (ref27_ends_0 item list))) (guardP (ref27_at_pre item (((ref27_put_0 from_ (ref27_ends_0 item list)).getD (gi y0 1).toNat []).getD 0 (0 : Int)) known list) (guardP (inR (gi y0 1) (ref27_put_0 from_ (ref27_ends_0 item list))) (guardP (inR (gi y0 1) (ref27_put_0 from_ (ref27_ends_0 item list))) (guardP ((decide (((ref27_put_0 from_ (ref27_ends_0 item list)).getD (gi y0 1).toNat []).getD 0 (0 : Int) ≥ from_) = true) → (inR (gi y0 1) (ref27_put_0 from_ (ref27_ends_0 item list)))) (guardP ((decide (((ref27_put_0 from_ (ref27_ends_0 item list)).getD (gi y0 1).toNat []).getD 0 (0 : Int) ≥ from_) = true) → (inR (gi y0 1) (ref27_put_0 from_ (ref27_ends_0 item list)))) ((bif decide (((ref27_put_0 from_ (ref27_ends_0 item list)).getD (gi y0 1).toNat []).getD 0 (0 : Int) ≥ from_) &&
    decide (((ref27_put_0 from_ (ref27_ends_0 item list)).getD (gi y0 1).toNat []).getD 0 (0 : Int) < until_) &&
  (!ref27_at_1 item (((ref27_put_0 from_ (ref27_ends_0 item list)).getD (gi y0 1).toNat []).getD 0 (0 : Int)) known list ||
    ref27_at_0 item (((ref27_put_0 from_ (ref27_ends_0 item list)).getD (gi y0 1).toNat []).getD 0 (0 : Int)) known list != value) then some (1, []) else some (0, [.b (gb y0 0), .i (IntKind.i64.wrap (gi y0 1 + (1 : Int)))]))))))))) else some (3, [.b (gb y0 0), .i (gi y0 1)]))
noncomputable def ref27_all_l0 (item from_ until_ value known : Int) (list : List (List Int)) : Nat × List U := loopGet (ref27_all_l0_step item from_ until_ value known list) (ref27_all_l0_init item from_ until_ value known list)
noncomputable def ref27_all_0 (item from_ until_ value known : Int) (list : List (List Int)) : Bool :=
  bif (ref27_all_l0 item from_ until_ value known list).fst.beq 1 then false else true
def ref27_all_pre (item from_ until_ value known : Int) (list : List (List Int)) : Prop :=
  ((ref27_ends_pre item list) ∧ ((ref27_put_pre from_ (ref27_ends_0 item list)) ∧ ((loopOk (ref27_all_l0_step item from_ until_ value known list) (ref27_all_l0_init item from_ until_ value known list)))))
noncomputable def ref27_Knew_l0_init (item from_ until_ value : Int) (list : List (List Int)) : List U :=
  [.i ((0 : Int)), .i ((0 : Int)), .i ((0 : Int))]
noncomputable def ref27_Knew_l0_step (item from_ until_ value : Int) (list : List (List Int)) (y0 : List U) : Option (Nat × List U) :=
  (bif decide (gi y0 2 < (↑list.length : Int)) then guardP (inR (gi y0 2) list) (guardP (inR (gi y0 2) list) (guardP (inR (gi y0 2) list) (guardP (ref27_all_pre item from_ until_ value ((list.getD (gi y0 2).toNat []).getD 4 (0 : Int)) list) ((bif ref27_all_0 item from_ until_ value ((list.getD (gi y0 2).toNat []).getD 4 (0 : Int)) list then guardP (inR (gi y0 2) list) (guardP (inR (gi y0 2) list) (guardP (inR (gi y0 2) list) (some (1, [.i ((list.getD (gi y0 2).toNat []).getD 4 (0 : Int))])))) else some (0, [.i (gi y0 0), .i (gi y0 1), .i (IntKind.i64.wrap (gi y0 2 + (1 : Int)))])))))) else some (3, [.i (gi y0 0), .i (gi y0 1), .i (gi y0 2)]))
noncomputable def ref27_Knew_l0 (item from_ until_ value : Int) (list : List (List Int)) : Nat × List U := loopGet (ref27_Knew_l0_step item from_ until_ value list) (ref27_Knew_l0_init item from_ until_ value list)
noncomputable def ref27_Knew_0 (item from_ until_ value : Int) (list : List (List Int)) : Int :=
  bif !ref27_Valid_0 list || !ref27_Item_0 item || !ref27_Time_0 from_ || !ref27_Time_0 until_ || !ref27_Value_0 value || decide (from_ ≥ until_) then (0 : Int)
else bif (ref27_Knew_l0 item from_ until_ value list).fst.beq 1 then gi (ref27_Knew_l0 item from_ until_ value list).snd 0 else (0 : Int)
noncomputable def ref27_Knew_1 (item from_ until_ value : Int) (list : List (List Int)) : Int :=
  bif !ref27_Valid_0 list || !ref27_Item_0 item || !ref27_Time_0 from_ || !ref27_Time_0 until_ || !ref27_Value_0 value || decide (from_ ≥ until_) then (1 : Int)
else bif (ref27_Knew_l0 item from_ until_ value list).fst.beq 1 then (0 : Int) else (4 : Int)
def ref27_Knew_pre (item from_ until_ value : Int) (list : List (List Int)) : Prop :=
  ((ref27_Valid_pre list) ∧ (((!ref27_Valid_0 list || !ref27_Item_0 item || !ref27_Time_0 from_ || !ref27_Time_0 until_ || !ref27_Value_0 value || decide (from_ ≥ until_)) = false) → ((loopOk (ref27_Knew_l0_step item from_ until_ value list) (ref27_Knew_l0_init item from_ until_ value list)))))
noncomputable def ref27_lie_0 (a_Item a_Value a_From a_Until a_Known b_Item b_Value b_From b_Until b_Known : Int) : Bool :=
  a_Item == b_Item && a_Known == b_Known && a_Value != b_Value && decide (a_From < b_Until) && decide (b_From < a_Until)
noncomputable def ref27_Merge_l1_init (a b : List (List Int)) (y0 : List U) : List U :=
  [.i (gi y0 0), .i ((0 : Int))]
noncomputable def ref27_Merge_l1_step (a b : List (List Int)) (y0 : List U) (y1 : List U) : Option (Nat × List U) :=
  (bif decide (gi y1 1 < (↑b.length : Int)) then guardP (inR (gi y0 1) a) (guardP (inR (gi y0 1) a) (guardP (inR (gi y1 1) b) (guardP (inR (gi y1 1) b) ((bif ref27_lie_0 ((a.getD (gi y0 1).toNat []).getD 0 (0 : Int)) ((a.getD (gi y0 1).toNat []).getD 1 (0 : Int)) ((a.getD (gi y0 1).toNat []).getD 2 (0 : Int))
  ((a.getD (gi y0 1).toNat []).getD 3 (0 : Int)) ((a.getD (gi y0 1).toNat []).getD 4 (0 : Int)) ((b.getD (gi y1 1).toNat []).getD 0 (0 : Int))
  ((b.getD (gi y1 1).toNat []).getD 1 (0 : Int)) ((b.getD (gi y1 1).toNat []).getD 2 (0 : Int)) ((b.getD (gi y1 1).toNat []).getD 3 (0 : Int))
  ((b.getD (gi y1 1).toNat []).getD 4 (0 : Int)) then some (1, []) else some (0, [.i (gi y1 0), .i (IntKind.i64.wrap (gi y1 1 + (1 : Int)))])))))) else some (3, [.i (gi y1 0), .i (gi y1 1)]))
noncomputable def ref27_Merge_l1 (a b : List (List Int)) (y0 : List U) : Nat × List U := loopGet (ref27_Merge_l1_step a b y0) (ref27_Merge_l1_init a b y0)
noncomputable def ref27_Merge_l0_init (a b : List (List Int)) : List U :=
  [.i ((0 : Int)), .i ((0 : Int))]
noncomputable def ref27_Merge_l0_step (a b : List (List Int)) (y0 : List U) : Option (Nat × List U) :=
  (bif decide (gi y0 1 < (↑a.length : Int)) then guardP ((loopOk (ref27_Merge_l1_step a b y0) (ref27_Merge_l1_init a b y0))) ((bif (ref27_Merge_l1 a b y0).fst.beq 1 then some (1, []) else some (0, [.i (gi (ref27_Merge_l1 a b y0).snd 0), .i (IntKind.i64.wrap (gi y0 1 + (1 : Int)))]))) else some (3, [.i (gi y0 0), .i (gi y0 1)]))
noncomputable def ref27_Merge_l0 (a b : List (List Int)) : Nat × List U := loopGet (ref27_Merge_l0_step a b) (ref27_Merge_l0_init a b)
noncomputable def ref27_Merge_s0 (a b : List (List Int)) (y3 : List U) : List Int :=
  [(b.getD (gi y3 0).toNat []).getD 2 (0 : Int), (b.getD (gi y3 0).toNat []).getD 3 (0 : Int), (b.getD (gi y3 0).toNat []).getD 4 (0 : Int)]
noncomputable def ref27_Merge_s1 (a b : List (List Int)) (y3 : List U) : List (List Int) :=
  gr y3 1 ++ [(b.getD (gi y3 0).toNat []).getD 0 (0 : Int) :: (b.getD (gi y3 0).toNat []).getD 1 (0 : Int) :: (ref27_Merge_s0 a b y3)]
noncomputable def ref27_Merge_l3_init (a b : List (List Int)) (y2 : List U) : List U :=
  [.i (gi y2 0), .r (gr y2 2)]
noncomputable def ref27_Merge_l3_step (a b : List (List Int)) (y2 : List U) (y3 : List U) : Option (Nat × List U) :=
  guardP ((decide (gi y3 0 < (↑b.length : Int)) = true) → (inR (gi y3 0) b)) (guardP ((decide (gi y3 0 < (↑b.length : Int)) = true) → (inR (gi y3 0) b)) (guardP ((decide (gi y3 0 < (↑b.length : Int)) = true) → (inR (gi y3 0) b)) (guardP ((decide (gi y3 0 < (↑b.length : Int)) = true) → (inR (gi y2 1) a)) (guardP ((decide (gi y3 0 < (↑b.length : Int)) = true) → (inR (gi y2 1) a)) (guardP ((decide (gi y3 0 < (↑b.length : Int)) = true) → (inR (gi y2 1) a)) ((bif decide (gi y3 0 < (↑b.length : Int)) && decide ((b.getD (gi y3 0).toNat []).getD 4 (0 : Int) < (a.getD (gi y2 1).toNat []).getD 4 (0 : Int)) then guardP (inR (gi y3 0) b) (guardP (inR (gi y3 0) b) (guardP (ref27_Has_pre ((b.getD (gi y3 0).toNat []).getD 0 (0 : Int)) ((b.getD (gi y3 0).toNat []).getD 1 (0 : Int))
  ((b.getD (gi y3 0).toNat []).getD 2 (0 : Int)) ((b.getD (gi y3 0).toNat []).getD 3 (0 : Int)) ((b.getD (gi y3 0).toNat []).getD 4 (0 : Int)) a) ((bif !ref27_Has_0 ((b.getD (gi y3 0).toNat []).getD 0 (0 : Int)) ((b.getD (gi y3 0).toNat []).getD 1 (0 : Int))
    ((b.getD (gi y3 0).toNat []).getD 2 (0 : Int)) ((b.getD (gi y3 0).toNat []).getD 3 (0 : Int)) ((b.getD (gi y3 0).toNat []).getD 4 (0 : Int)) a then guardP (inR (gi y3 0) b) (guardP (inR (gi y3 0) b) (guardP (fitsA 40
  ((gr y3 1).length + [(b.getD (gi y3 0).toNat []).getD 0 (0 : Int) :: (b.getD (gi y3 0).toNat []).getD 1 (0 : Int) :: (ref27_Merge_s0 a b y3)].length)) (some (0, [.i (IntKind.i64.wrap (gi y3 0 + (1 : Int))), .r ((ref27_Merge_s1 a b y3))])))) else some (0, [.i (IntKind.i64.wrap (gi y3 0 + (1 : Int))), .r (gr y3 1)]))))) else some (3, [.i (gi y3 0), .r (gr y3 1)]))))))))
noncomputable def ref27_Merge_l3 (a b : List (List Int)) (y2 : List U) : Nat × List U := loopGet (ref27_Merge_l3_step a b y2) (ref27_Merge_l3_init a b y2)
noncomputable def ref27_Merge_s2 (a b : List (List Int)) (y2 : List U) : List Int :=
  [(a.getD (gi y2 1).toNat []).getD 2 (0 : Int), (a.getD (gi y2 1).toNat []).getD 3 (0 : Int), (a.getD (gi y2 1).toNat []).getD 4 (0 : Int)]
noncomputable def ref27_Merge_s3 (a b : List (List Int)) (y2 : List U) : List (List Int) :=
  gr (ref27_Merge_l3 a b y2).snd 1 ++ [(a.getD (gi y2 1).toNat []).getD 0 (0 : Int) :: (a.getD (gi y2 1).toNat []).getD 1 (0 : Int) :: (ref27_Merge_s2 a b y2)]
noncomputable def ref27_Merge_l2_init (a b : List (List Int)) : List U :=
  [.i ((0 : Int)), .i ((0 : Int)), .r ([])]
noncomputable def ref27_Merge_l2_step (a b : List (List Int)) (y2 : List U) : Option (Nat × List U) :=
  (bif decide (gi y2 1 < (↑a.length : Int)) then guardP ((loopOk (ref27_Merge_l3_step a b y2) (ref27_Merge_l3_init a b y2))) (guardP (inR (gi y2 1) a) (guardP (inR (gi y2 1) a) (guardP (fitsA 40
  ((gr (ref27_Merge_l3 a b y2).snd 1).length +
    [(a.getD (gi y2 1).toNat []).getD 0 (0 : Int) :: (a.getD (gi y2 1).toNat []).getD 1 (0 : Int) :: (ref27_Merge_s2 a b y2)].length)) (some (0, [.i (gi (ref27_Merge_l3 a b y2).snd 0), .i (IntKind.i64.wrap (gi y2 1 + (1 : Int))), .r ((ref27_Merge_s3 a b y2))]))))) else some (2, [.i (gi y2 0), .i (gi y2 1), .r (gr y2 2)]))
noncomputable def ref27_Merge_l2 (a b : List (List Int)) : Nat × List U := loopGet (ref27_Merge_l2_step a b) (ref27_Merge_l2_init a b)
noncomputable def ref27_Merge_s4 (a b : List (List Int)) (y4 : List U) : List Int :=
  [(b.getD (gi y4 0).toNat []).getD 2 (0 : Int), (b.getD (gi y4 0).toNat []).getD 3 (0 : Int), (b.getD (gi y4 0).toNat []).getD 4 (0 : Int)]
noncomputable def ref27_Merge_s5 (a b : List (List Int)) (y4 : List U) : List (List Int) :=
  gr y4 1 ++ [(b.getD (gi y4 0).toNat []).getD 0 (0 : Int) :: (b.getD (gi y4 0).toNat []).getD 1 (0 : Int) :: (ref27_Merge_s4 a b y4)]
noncomputable def ref27_Merge_l4_init (a b : List (List Int)) : List U :=
  [.i (gi (ref27_Merge_l2 a b).snd 0), .r (gr (ref27_Merge_l2 a b).snd 2)]
noncomputable def ref27_Merge_l4_step (a b : List (List Int)) (y4 : List U) : Option (Nat × List U) :=
  (bif decide (gi y4 0 < (↑b.length : Int)) then guardP (inR (gi y4 0) b) (guardP (inR (gi y4 0) b) (guardP (ref27_Has_pre ((b.getD (gi y4 0).toNat []).getD 0 (0 : Int)) ((b.getD (gi y4 0).toNat []).getD 1 (0 : Int))
  ((b.getD (gi y4 0).toNat []).getD 2 (0 : Int)) ((b.getD (gi y4 0).toNat []).getD 3 (0 : Int)) ((b.getD (gi y4 0).toNat []).getD 4 (0 : Int)) a) ((bif !ref27_Has_0 ((b.getD (gi y4 0).toNat []).getD 0 (0 : Int)) ((b.getD (gi y4 0).toNat []).getD 1 (0 : Int))
    ((b.getD (gi y4 0).toNat []).getD 2 (0 : Int)) ((b.getD (gi y4 0).toNat []).getD 3 (0 : Int)) ((b.getD (gi y4 0).toNat []).getD 4 (0 : Int)) a then guardP (inR (gi y4 0) b) (guardP (inR (gi y4 0) b) (guardP (fitsA 40
  ((gr y4 1).length + [(b.getD (gi y4 0).toNat []).getD 0 (0 : Int) :: (b.getD (gi y4 0).toNat []).getD 1 (0 : Int) :: (ref27_Merge_s4 a b y4)].length)) (some (0, [.i (IntKind.i64.wrap (gi y4 0 + (1 : Int))), .r ((ref27_Merge_s5 a b y4))])))) else some (0, [.i (IntKind.i64.wrap (gi y4 0 + (1 : Int))), .r (gr y4 1)]))))) else some (3, [.i (gi y4 0), .r (gr y4 1)]))
noncomputable def ref27_Merge_l4 (a b : List (List Int)) : Nat × List U := loopGet (ref27_Merge_l4_step a b) (ref27_Merge_l4_init a b)
noncomputable def ref27_Merge_s6 (a b : List (List Int)) : List (List Int) :=
  bif decide ((↑(gr (ref27_Merge_l4 a b).snd 1).length : Int) > (200 : Int)) then [] else gr (ref27_Merge_l4 a b).snd 1
noncomputable def ref27_Merge_0 (a b : List (List Int)) : List (List Int) :=
  bif !ref27_Valid_0 a || !ref27_Valid_0 b then [] else bif (ref27_Merge_l0 a b).fst.beq 1 then [] else (ref27_Merge_s6 a b)
noncomputable def ref27_Merge_s7 (a b : List (List Int)) : Int :=
  bif (ref27_Merge_l0 a b).fst.beq 1 then (18 : Int) else bif decide ((↑(gr (ref27_Merge_l4 a b).snd 1).length : Int) > (200 : Int)) then (2 : Int) else (0 : Int)
noncomputable def ref27_Merge_1 (a b : List (List Int)) : Int :=
  bif !ref27_Valid_0 a || !ref27_Valid_0 b then (1 : Int) else (ref27_Merge_s7 a b)
def ref27_Merge_pre (a b : List (List Int)) : Prop :=
  ((ref27_Valid_pre a) ∧ ((ref27_Valid_pre b) ∧ (((!ref27_Valid_0 a || !ref27_Valid_0 b) = false) → (((loopOk (ref27_Merge_l0_step a b) (ref27_Merge_l0_init a b))) ∧ (((ref27_Merge_l0 a b).fst.beq 1 = false) → (((loopOk (ref27_Merge_l2_step a b) (ref27_Merge_l2_init a b))) ∧ ((loopOk (ref27_Merge_l4_step a b) (ref27_Merge_l4_init a b)))))))))
noncomputable def law27_BitempMatchesReference_0 (r_Item r_Value r_From r_Until r_Known item time known value : Int) (list other : List (List Int)) : Bool :=
  bif decide ((↑list.length : Int) > (60 : Int)) && decide ((↑list.length : Int) ≤ (200 : Int)) || decide ((↑other.length : Int) > (60 : Int)) && decide ((↑other.length : Int) ≤ (200 : Int)) then
  law27_head_0
else
  law27_head_0 && bitemp_Valid_0 list == ref27_Valid_0 list && ref27_Same_0 (bitemp_Say_0 r_Item r_Value r_From r_Until r_Known list) (ref27_Say_0 r_Item r_Value r_From r_Until r_Known list) &&
                        bitemp_Say_1 r_Item r_Value r_From r_Until r_Known list == ref27_Say_1 r_Item r_Value r_From r_Until r_Known list &&
                      bitemp_At_0 item time known list == ref27_At_0 item time known list &&
                    bitemp_At_1 item time known list == ref27_At_1 item time known list &&
                  ref27_Same_0 (bitemp_History_0 item known list) (ref27_History_0 item known list) &&
                bitemp_History_1 item known list == ref27_History_1 item known list &&
              ref27_Ints_0 (bitemp_Changed_0 item time list) (ref27_Changed_0 item time list) &&
            bitemp_Changed_1 item time list == ref27_Changed_1 item time list &&
          bitemp_Knew_0 item time known value list == ref27_Knew_0 item time known value list &&
        bitemp_Knew_1 item time known value list == ref27_Knew_1 item time known value list &&
      ref27_Same_0 (bitemp_Merge_0 list other) (ref27_Merge_0 list other) &&
    bitemp_Merge_1 list other == ref27_Merge_1 list other
def law27_BitempMatchesReference_pre (r_Item r_Value r_From r_Until r_Known item time known value : Int) (list other : List (List Int)) : Prop :=
  ((law27_head_pre) ∧ (((decide ((↑list.length : Int) > (60 : Int)) && decide ((↑list.length : Int) ≤ (200 : Int)) || decide ((↑other.length : Int) > (60 : Int)) && decide ((↑other.length : Int) ≤ (200 : Int))) = false) → (((law27_head_0 = true) → (bitemp_Valid_pre list)) ∧ (((law27_head_0 = true) → (ref27_Valid_pre list)) ∧ ((bitemp_Say_pre r_Item r_Value r_From r_Until r_Known list) ∧ ((ref27_Say_pre r_Item r_Value r_From r_Until r_Known list) ∧ ((((law27_head_0 && bitemp_Valid_0 list == ref27_Valid_0 list) = true) → (ref27_Same_pre (bitemp_Say_0 r_Item r_Value r_From r_Until r_Known list) (ref27_Say_0 r_Item r_Value r_From r_Until r_Known list))) ∧ ((bitemp_At_pre item time known list) ∧ ((ref27_At_pre item time known list) ∧ ((bitemp_History_pre item known list) ∧ ((ref27_History_pre item known list) ∧ ((((law27_head_0 && bitemp_Valid_0 list == ref27_Valid_0 list && ref27_Same_0 (bitemp_Say_0 r_Item r_Value r_From r_Until r_Known list) (ref27_Say_0 r_Item r_Value r_From r_Until r_Known list) &&
        bitemp_Say_1 r_Item r_Value r_From r_Until r_Known list == ref27_Say_1 r_Item r_Value r_From r_Until r_Known list &&
      bitemp_At_0 item time known list == ref27_At_0 item time known list &&
    bitemp_At_1 item time known list == ref27_At_1 item time known list) =
  true) → (ref27_Same_pre (bitemp_History_0 item known list) (ref27_History_0 item known list))) ∧ ((bitemp_Changed_pre item time list) ∧ ((ref27_Changed_pre item time list) ∧ ((((law27_head_0 && bitemp_Valid_0 list == ref27_Valid_0 list && ref27_Same_0 (bitemp_Say_0 r_Item r_Value r_From r_Until r_Known list) (ref27_Say_0 r_Item r_Value r_From r_Until r_Known list) &&
            bitemp_Say_1 r_Item r_Value r_From r_Until r_Known list == ref27_Say_1 r_Item r_Value r_From r_Until r_Known list &&
          bitemp_At_0 item time known list == ref27_At_0 item time known list &&
        bitemp_At_1 item time known list == ref27_At_1 item time known list &&
      ref27_Same_0 (bitemp_History_0 item known list) (ref27_History_0 item known list) &&
    bitemp_History_1 item known list == ref27_History_1 item known list) =
  true) → (ref27_Ints_pre (bitemp_Changed_0 item time list) (ref27_Changed_0 item time list))) ∧ ((bitemp_Knew_pre item time known value list) ∧ ((ref27_Knew_pre item time known value list) ∧ ((bitemp_Merge_pre list other) ∧ ((ref27_Merge_pre list other) ∧ (((law27_head_0 && bitemp_Valid_0 list == ref27_Valid_0 list && ref27_Same_0 (bitemp_Say_0 r_Item r_Value r_From r_Until r_Known list) (ref27_Say_0 r_Item r_Value r_From r_Until r_Known list) &&
                    bitemp_Say_1 r_Item r_Value r_From r_Until r_Known list == ref27_Say_1 r_Item r_Value r_From r_Until r_Known list &&
                  bitemp_At_0 item time known list == ref27_At_0 item time known list &&
                bitemp_At_1 item time known list == ref27_At_1 item time known list &&
              ref27_Same_0 (bitemp_History_0 item known list) (ref27_History_0 item known list) &&
            bitemp_History_1 item known list == ref27_History_1 item known list &&
          ref27_Ints_0 (bitemp_Changed_0 item time list) (ref27_Changed_0 item time list) &&
        bitemp_Changed_1 item time list == ref27_Changed_1 item time list &&
      bitemp_Knew_0 item time known value list == ref27_Knew_0 item time known value list &&
    bitemp_Knew_1 item time known value list == ref27_Knew_1 item time known value list) =
  true) → (ref27_Same_pre (bitemp_Merge_0 list other) (ref27_Merge_0 list other))))))))))))))))))))))
end Go.Proofs.Ytcbgjecpnhjlpaa
