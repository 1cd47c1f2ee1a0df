/- Written by program (wip/sygen.py): what the Go functions compute, as the executor reads it off their code. -/
import Derived.Test.YtcbgjecpnhjlpaaSyD
set_option maxRecDepth 100000
set_option linter.unusedVariables false
namespace Go.Proofs.Ytcbgjecpnhjlpaa
open Go Go.Sy
noncomputable def bitemp_isTime_0 (t : Int) : Bool :=
  decide (t ≥ (0 : Int)) && decide (t ≤ (10000000 : Int))
noncomputable def bitemp_isItem_0 (n : Int) : Bool :=
  decide (n ≥ (1 : Int)) && decide (n ≤ (100000 : Int))
noncomputable def bitemp_isValue_0 (v : Int) : Bool :=
  decide (v ≥ (-1000000000000 : Int)) && decide (v ≤ (1000000000000 : Int))
noncomputable def bitemp_isRow_0 (r_Item r_Value r_From r_Until r_Known : Int) : Bool :=
  bitemp_isItem_0 r_Item && bitemp_isValue_0 r_Value && bitemp_isTime_0 r_From && bitemp_isTime_0 r_Until && decide (r_From < r_Until) && bitemp_isTime_0 r_Known
noncomputable def cmp_Compare_int_s0 (x y : Int) : Int :=
  bif x != x then bif y != y then (0 : Int) else (-1 : Int) else bif y != y then (1 : Int) else bif decide (x < y) then (-1 : Int) else bif decide (x > y) then (1 : Int) else (0 : Int)
noncomputable def cmp_Compare_int_0 (x y : Int) : Int :=
  (cmp_Compare_int_s0 x y)
noncomputable def bitemp_Valid_l0_init (list : List (List Int)) : List U :=
  [.i ((0 : Int)), .i ((0 : Int))]
noncomputable def bitemp_Valid_l0_step (list : List (List Int)) (y0 : List U) : Option (Nat × List U) :=
  (bif decide (gi y0 1 < (↑list.length : Int)) then guardP (inR (gi y0 1) list) (guardP (inR (gi y0 1) list) ((bif !bitemp_isRow_0 ((list.getD (gi y0 1).toNat []).getD 0 (0 : Int)) ((list.getD (gi y0 1).toNat []).getD 1 (0 : Int))
    ((list.getD (gi y0 1).toNat []).getD 2 (0 : Int)) ((list.getD (gi y0 1).toNat []).getD 3 (0 : Int))
    ((list.getD (gi y0 1).toNat []).getD 4 (0 : Int)) then some (1, [.i (gi y0 1)]) else some (0, [.i (gi y0 0), .i (IntKind.i64.wrap (gi y0 1 + (1 : Int)))])))) else some (3, [.i (gi y0 0), .i (gi y0 1)]))
noncomputable def bitemp_Valid_l0 (list : List (List Int)) : Nat × List U := loopGet (bitemp_Valid_l0_step list) (bitemp_Valid_l0_init list)
noncomputable def bitemp_Valid_l1_init (list : List (List Int)) : List U :=
  [.b (false), .i (IntKind.i64.wrap ((↑list.length : Int) - (1 : Int)))]
noncomputable def bitemp_Valid_l1_step (list : List (List Int)) (y1 : List U) : Option (Nat × List U) :=
  (bif decide (gi y1 1 > (0 : Int)) then guardP (inR (gi y1 1) list) (guardP (inR (gi y1 1) list) (guardP (inR (IntKind.i64.wrap (gi y1 1 - (1 : Int))) list) (guardP (inR (IntKind.i64.wrap (gi y1 1 - (1 : Int))) list) ((bif decide
  (cmp_Compare_int_0 ((list.getD (gi y1 1).toNat []).getD 4 (0 : Int)) ((list.getD (IntKind.i64.wrap (gi y1 1 - (1 : Int))).toNat []).getD 4 (0 : Int)) < (0 : Int)) then some (1, []) else some (0, [.b (gb y1 0), .i (IntKind.i64.wrap (gi y1 1 - (1 : Int)))])))))) else some (3, [.b (gb y1 0), .i (gi y1 1)]))
noncomputable def bitemp_Valid_l1 (list : List (List Int)) : Nat × List U := loopGet (bitemp_Valid_l1_step list) (bitemp_Valid_l1_init list)
noncomputable def bitemp_Valid_0 (list : List (List Int)) : Bool :=
  decide ((↑list.length : Int) ≤ (200 : Int)) && !decide ((bif (bitemp_Valid_l0 list).fst.beq 1 then gi (bitemp_Valid_l0 list).snd 0 else (-1 : Int)) ≥ (0 : Int)) &&
  bif (bitemp_Valid_l1 list).fst.beq 1 then false else true
def bitemp_Valid_pre (list : List (List Int)) : Prop :=
  (((decide ((↑list.length : Int) ≤ (200 : Int)) = true) → ((loopOk (bitemp_Valid_l0_step list) (bitemp_Valid_l0_init list)))) ∧ (((decide ((↑list.length : Int) ≤ (200 : Int)) && !decide ((bif (bitemp_Valid_l0 list).fst.beq 1 then gi (bitemp_Valid_l0 list).snd 0 else (-1 : Int)) ≥ (0 : Int))) = true) → ((loopOk (bitemp_Valid_l1_step list) (bitemp_Valid_l1_init list)))))
noncomputable def bitemp_Say_s0 (r_Item r_Value r_From r_Until r_Known : Int) (list : List (List Int)) : List (List Int) :=
  bif decide ((↑list.length : Int) > (0 : Int)) && decide ((list.getD (IntKind.i64.wrap ((↑list.length : Int) - (1 : Int))).toNat []).getD 4 (0 : Int) > r_Known) then []
else [] ++ list ++ [[r_Item, r_Value, r_From, r_Until, r_Known]]
noncomputable def bitemp_Say_0 (r_Item r_Value r_From r_Until r_Known : Int) (list : List (List Int)) : List (List Int) :=
  bif !bitemp_Valid_0 list || !bitemp_isRow_0 r_Item r_Value r_From r_Until r_Known then [] else bif (↑list.length : Int) == (200 : Int) then [] else (bitemp_Say_s0 r_Item r_Value r_From r_Until r_Known list)
noncomputable def bitemp_Say_s1 (r_Item r_Value r_From r_Until r_Known : Int) (list : List (List Int)) : Int :=
  bif decide ((↑list.length : Int) > (0 : Int)) && decide ((list.getD (IntKind.i64.wrap ((↑list.length : Int) - (1 : Int))).toNat []).getD 4 (0 : Int) > r_Known) then (13 : Int) else (0 : Int)
noncomputable def bitemp_Say_1 (r_Item r_Value r_From r_Until r_Known : Int) (list : List (List Int)) : Int :=
  bif !bitemp_Valid_0 list || !bitemp_isRow_0 r_Item r_Value r_From r_Until r_Known then (1 : Int) else bif (↑list.length : Int) == (200 : Int) then (2 : Int) else (bitemp_Say_s1 r_Item r_Value r_From r_Until r_Known list)
def bitemp_Say_pre (r_Item r_Value r_From r_Until r_Known : Int) (list : List (List Int)) : Prop :=
  ((bitemp_Valid_pre list) ∧ (((!bitemp_Valid_0 list || !bitemp_isRow_0 r_Item r_Value r_From r_Until r_Known) = false) → ((((↑list.length : Int) == (200 : Int)) = false) → (((decide ((↑list.length : Int) > (0 : Int)) = true) → (inR (IntKind.i64.wrap ((↑list.length : Int) - (1 : Int))) list)) ∧ (((decide ((↑list.length : Int) > (0 : Int)) = true) → (inR (IntKind.i64.wrap ((↑list.length : Int) - (1 : Int))) list)) ∧ (((decide ((↑list.length : Int) > (0 : Int)) = true) → (inR (IntKind.i64.wrap ((↑list.length : Int) - (1 : Int))) list)) ∧ (((decide ((↑list.length : Int) > (0 : Int)) && decide ((list.getD (IntKind.i64.wrap ((↑list.length : Int) - (1 : Int))).toNat []).getD 4 (0 : Int) > r_Known)) = false) → ((((list = []) → ((True) ∧ (([] ++ list = []) ∧ (True)))) ∧ (fitsA 40 (0 + list.length))) ∧ (fitsA 40 (([] ++ list).length + [[r_Item, r_Value, r_From, r_Until, r_Known]].length))))))))))
noncomputable def bitemp_holds_l0_init (item time known : Int) (list : List (List Int)) : List U :=
  [.i (IntKind.i64.wrap ((↑list.length : Int) - (1 : Int)))]
noncomputable def bitemp_holds_l0_step (item time known : Int) (list : List (List Int)) (y0 : List U) : Option (Nat × List U) :=
  (bif decide (gi y0 0 ≥ (0 : Int)) then guardP (inR (gi y0 0) list) (guardP (inR (gi y0 0) list) ((bif (list.getD (gi y0 0).toNat []).getD 0 (0 : Int) == item && decide ((list.getD (gi y0 0).toNat []).getD 4 (0 : Int) ≤ known) &&
    decide ((list.getD (gi y0 0).toNat []).getD 2 (0 : Int) ≤ time) &&
  decide (time < (list.getD (gi y0 0).toNat []).getD 3 (0 : Int)) then some (1, [.i ((list.getD (gi y0 0).toNat []).getD 0 (0 : Int)), .i ((list.getD (gi y0 0).toNat []).getD 1 (0 : Int)), .i ((list.getD (gi y0 0).toNat []).getD 2 (0 : Int)), .i ((list.getD (gi y0 0).toNat []).getD 3 (0 : Int)), .i ((list.getD (gi y0 0).toNat []).getD 4 (0 : Int))]) else some (0, [.i (IntKind.i64.wrap (gi y0 0 - (1 : Int)))])))) else some (3, [.i (gi y0 0)]))
noncomputable def bitemp_holds_l0 (item time known : Int) (list : List (List Int)) : Nat × List U := loopGet (bitemp_holds_l0_step item time known list) (bitemp_holds_l0_init item time known list)
noncomputable def bitemp_holds_0 (item time known : Int) (list : List (List Int)) : Int :=
  bif (bitemp_holds_l0 item time known list).fst.beq 1 then gi (bitemp_holds_l0 item time known list).snd 0 else (0 : Int)
noncomputable def bitemp_holds_1 (item time known : Int) (list : List (List Int)) : Int :=
  bif (bitemp_holds_l0 item time known list).fst.beq 1 then gi (bitemp_holds_l0 item time known list).snd 1 else (0 : Int)
noncomputable def bitemp_holds_2 (item time known : Int) (list : List (List Int)) : Int :=
  bif (bitemp_holds_l0 item time known list).fst.beq 1 then gi (bitemp_holds_l0 item time known list).snd 2 else (0 : Int)
noncomputable def bitemp_holds_3 (item time known : Int) (list : List (List Int)) : Int :=
  bif (bitemp_holds_l0 item time known list).fst.beq 1 then gi (bitemp_holds_l0 item time known list).snd 3 else (0 : Int)
noncomputable def bitemp_holds_4 (item time known : Int) (list : List (List Int)) : Int :=
  bif (bitemp_holds_l0 item time known list).fst.beq 1 then gi (bitemp_holds_l0 item time known list).snd 4 else (0 : Int)
noncomputable def bitemp_holds_5 (item time known : Int) (list : List (List Int)) : Bool :=
  bif (bitemp_holds_l0 item time known list).fst.beq 1 then true else false
def bitemp_holds_pre (item time known : Int) (list : List (List Int)) : Prop :=
  ((loopOk (bitemp_holds_l0_step item time known list) (bitemp_holds_l0_init item time known list)))
noncomputable def bitemp_At_0 (item time known : Int) (list : List (List Int)) : Int :=
  bif !bitemp_Valid_0 list || !bitemp_isItem_0 item || !bitemp_isTime_0 time || !bitemp_isTime_0 known then (0 : Int)
else bif !bitemp_holds_5 item time known list then (0 : Int) else bitemp_holds_1 item time known list
noncomputable def bitemp_At_1 (item time known : Int) (list : List (List Int)) : Int :=
  bif !bitemp_Valid_0 list || !bitemp_isItem_0 item || !bitemp_isTime_0 time || !bitemp_isTime_0 known then (1 : Int) else bif !bitemp_holds_5 item time known list then (4 : Int) else (0 : Int)
def bitemp_At_pre (item time known : Int) (list : List (List Int)) : Prop :=
  ((bitemp_Valid_pre list) ∧ (((!bitemp_Valid_0 list || !bitemp_isItem_0 item || !bitemp_isTime_0 time || !bitemp_isTime_0 known) = false) → (bitemp_holds_pre item time known list)))
noncomputable def bitemp_join_s0 (h : List (List Int)) (y0 : List U) : List Int :=
  setEl 5 ((gr y0 1).getD (IntKind.i64.wrap ((↑(gr y0 1).length : Int) - (1 : Int))).toNat []) 3 [(h.getD (gi y0 0).toNat []).getD 3 (0 : Int)]
noncomputable def bitemp_join_s1 (h : List (List Int)) (y0 : List U) : List Int :=
  [(h.getD (gi y0 0).toNat []).getD 2 (0 : Int), (h.getD (gi y0 0).toNat []).getD 3 (0 : Int), (h.getD (gi y0 0).toNat []).getD 4 (0 : Int)]
noncomputable def bitemp_join_s2 (h : List (List Int)) (y0 : List U) : List (List Int) :=
  gr y0 1 ++ [(h.getD (gi y0 0).toNat []).getD 0 (0 : Int) :: (h.getD (gi y0 0).toNat []).getD 1 (0 : Int) :: (bitemp_join_s1 h y0)]
noncomputable def bitemp_join_l0_init (h : List (List Int)) : List U :=
  [.i ((0 : Int)), .r ([])]
noncomputable def bitemp_join_l0_step (h : List (List Int)) (y0 : List U) : Option (Nat × List U) :=
  (bif decide (gi y0 0 < (↑h.length : Int)) then guardP (inR (gi y0 0) h) (guardP (inR (gi y0 0) h) (guardP ((decide ((↑(gr y0 1).length : Int) > (0 : Int)) = true) → (inR (IntKind.i64.wrap ((↑(gr y0 1).length : Int) - (1 : Int))) (gr y0 1))) (guardP ((decide ((↑(gr y0 1).length : Int) > (0 : Int)) = true) → (inR (IntKind.i64.wrap ((↑(gr y0 1).length : Int) - (1 : Int))) (gr y0 1))) (guardP ((decide ((↑(gr y0 1).length : Int) > (0 : Int)) = true) → (inR (IntKind.i64.wrap ((↑(gr y0 1).length : Int) - (1 : Int))) (gr y0 1))) (guardP (((decide ((↑(gr y0 1).length : Int) > (0 : Int)) &&
    ((gr y0 1).getD (IntKind.i64.wrap ((↑(gr y0 1).length : Int) - (1 : Int))).toNat []).getD 3 (0 : Int) == (h.getD (gi y0 0).toNat []).getD 2 (0 : Int)) =
  true) → (inR (IntKind.i64.wrap ((↑(gr y0 1).length : Int) - (1 : Int))) (gr y0 1))) (guardP (((decide ((↑(gr y0 1).length : Int) > (0 : Int)) &&
    ((gr y0 1).getD (IntKind.i64.wrap ((↑(gr y0 1).length : Int) - (1 : Int))).toNat []).getD 3 (0 : Int) == (h.getD (gi y0 0).toNat []).getD 2 (0 : Int)) =
  true) → (inR (IntKind.i64.wrap ((↑(gr y0 1).length : Int) - (1 : Int))) (gr y0 1))) (guardP (((decide ((↑(gr y0 1).length : Int) > (0 : Int)) &&
    ((gr y0 1).getD (IntKind.i64.wrap ((↑(gr y0 1).length : Int) - (1 : Int))).toNat []).getD 3 (0 : Int) == (h.getD (gi y0 0).toNat []).getD 2 (0 : Int)) =
  true) → (inR (IntKind.i64.wrap ((↑(gr y0 1).length : Int) - (1 : Int))) (gr y0 1))) ((bif decide ((↑(gr y0 1).length : Int) > (0 : Int)) &&
    ((gr y0 1).getD (IntKind.i64.wrap ((↑(gr y0 1).length : Int) - (1 : Int))).toNat []).getD 3 (0 : Int) == (h.getD (gi y0 0).toNat []).getD 2 (0 : Int) &&
  ((gr y0 1).getD (IntKind.i64.wrap ((↑(gr y0 1).length : Int) - (1 : Int))).toNat []).getD 1 (0 : Int) == (h.getD (gi y0 0).toNat []).getD 1 (0 : Int) then guardP (inR (IntKind.i64.wrap ((↑(gr y0 1).length : Int) - (1 : Int))) (gr y0 1)) (guardP (inR (IntKind.i64.wrap ((↑(gr y0 1).length : Int) - (1 : Int))) (gr y0 1)) (guardP (inR (IntKind.i64.wrap ((↑(gr y0 1).length : Int) - (1 : Int))) (gr y0 1)) (some (0, [.i (IntKind.i64.wrap (gi y0 0 + (1 : Int))), .r ((gr y0 1).set (IntKind.i64.wrap ((↑(gr y0 1).length : Int) - (1 : Int))).toNat ((bitemp_join_s0 h y0)))])))) else guardP (fitsA 40
  ((gr y0 1).length + [(h.getD (gi y0 0).toNat []).getD 0 (0 : Int) :: (h.getD (gi y0 0).toNat []).getD 1 (0 : Int) :: (bitemp_join_s1 h y0)].length)) (some (0, [.i (IntKind.i64.wrap (gi y0 0 + (1 : Int))), .r ((bitemp_join_s2 h y0))]))))))))))) else some (3, [.i (gi y0 0), .r (gr y0 1)]))
noncomputable def bitemp_join_l0 (h : List (List Int)) : Nat × List U := loopGet (bitemp_join_l0_step h) (bitemp_join_l0_init h)
noncomputable def bitemp_join_0 (h : List (List Int)) : List (List Int) :=
  gr (bitemp_join_l0 h).snd 1
def bitemp_join_pre (h : List (List Int)) : Prop :=
  ((loopOk (bitemp_join_l0_step h) (bitemp_join_l0_init h)))
noncomputable def bitemp_lie_0 (a_Item a_Value a_From a_Until a_Known b_Item b_Value b_From b_Until b_Known : Int) : Bool :=
  a_Item == b_Item && a_Known == b_Known && a_Value != b_Value && decide (imax a_From b_From < imin a_Until b_Until)
noncomputable def ref27_Has_l0_init (r_Item r_Value r_From r_Until r_Known : Int) (list : List (List Int)) : List U :=
  [.b (false), .i ((0 : Int))]
noncomputable def ref27_Has_l0_step (r_Item r_Value r_From r_Until r_Known : Int) (list : List (List Int)) (y0 : List U) : Option (Nat × List U) :=
  (bif decide (gi y0 1 < (↑list.length : Int)) then guardP (inR (gi y0 1) list) (guardP (inR (gi y0 1) list) ((bif (list.getD (gi y0 1).toNat []).getD 0 (0 : Int) == r_Item &&
  ((list.getD (gi y0 1).toNat []).getD 1 (0 : Int) == r_Value &&
    ((list.getD (gi y0 1).toNat []).getD 2 (0 : Int) == r_From &&
      ((list.getD (gi y0 1).toNat []).getD 3 (0 : Int) == r_Until && ((list.getD (gi y0 1).toNat []).getD 4 (0 : Int) == r_Known && true)))) then some (1, []) else some (0, [.b (gb y0 0), .i (IntKind.i64.wrap (gi y0 1 + (1 : Int)))])))) else some (3, [.b (gb y0 0), .i (gi y0 1)]))
noncomputable def ref27_Has_l0 (r_Item r_Value r_From r_Until r_Known : Int) (list : List (List Int)) : Nat × List U := loopGet (ref27_Has_l0_step r_Item r_Value r_From r_Until r_Known list) (ref27_Has_l0_init r_Item r_Value r_From r_Until r_Known list)
noncomputable def ref27_Has_0 (r_Item r_Value r_From r_Until r_Known : Int) (list : List (List Int)) : Bool :=
  bif (ref27_Has_l0 r_Item r_Value r_From r_Until r_Known list).fst.beq 1 then true else false
def ref27_Has_pre (r_Item r_Value r_From r_Until r_Known : Int) (list : List (List Int)) : Prop :=
  ((loopOk (ref27_Has_l0_step r_Item r_Value r_From r_Until r_Known list) (ref27_Has_l0_init r_Item r_Value r_From r_Until r_Known list)))
noncomputable def ref27_Same_l0_init (a b : List (List Int)) : List U :=
  [.b (false), .i ((0 : Int))]
noncomputable def ref27_Same_l0_step (a b : List (List Int)) (y0 : List U) : Option (Nat × List U) :=
  (bif decide (gi y0 1 < (↑a.length : Int)) then guardP (inR (gi y0 1) a) (guardP (inR (gi y0 1) a) (guardP (inR (gi y0 1) b) (guardP (inR (gi y0 1) b) ((bif !((a.getD (gi y0 1).toNat []).getD 0 (0 : Int) == (b.getD (gi y0 1).toNat []).getD 0 (0 : Int) &&
    ((a.getD (gi y0 1).toNat []).getD 1 (0 : Int) == (b.getD (gi y0 1).toNat []).getD 1 (0 : Int) &&
      ((a.getD (gi y0 1).toNat []).getD 2 (0 : Int) == (b.getD (gi y0 1).toNat []).getD 2 (0 : Int) &&
        ((a.getD (gi y0 1).toNat []).getD 3 (0 : Int) == (b.getD (gi y0 1).toNat []).getD 3 (0 : Int) &&
          ((a.getD (gi y0 1).toNat []).getD 4 (0 : Int) == (b.getD (gi y0 1).toNat []).getD 4 (0 : Int) && true))))) then some (1, []) else some (0, [.b (gb y0 0), .i (IntKind.i64.wrap (gi y0 1 + (1 : Int)))])))))) else some (3, [.b (gb y0 0), .i (gi y0 1)]))
noncomputable def ref27_Same_l0 (a b : List (List Int)) : Nat × List U := loopGet (ref27_Same_l0_step a b) (ref27_Same_l0_init a b)
noncomputable def ref27_Same_0 (a b : List (List Int)) : Bool :=
  bif (↑a.length : Int) != (↑b.length : Int) then false else bif (ref27_Same_l0 a b).fst.beq 1 then false else true
def ref27_Same_pre (a b : List (List Int)) : Prop :=
  ((((↑a.length : Int) != (↑b.length : Int)) = false) → ((loopOk (ref27_Same_l0_step a b) (ref27_Same_l0_init a b))))
noncomputable def ref27_Ints_l0_init (a b : List (List Int)) : List U :=
  [.b (false), .i ((0 : Int))]
noncomputable def ref27_Ints_l0_step (a b : List (List Int)) (y0 : List U) : Option (Nat × List U) :=
  (bif decide (gi y0 1 < (↑a.length : Int)) then guardP (inR (gi y0 1) a) (guardP (inR (gi y0 1) a) (guardP (inR (gi y0 1) b) (guardP (inR (gi y0 1) b) ((bif (a.getD (gi y0 1).toNat []).getD 0 (0 : Int) != (b.getD (gi y0 1).toNat []).getD 0 (0 : Int) then some (1, []) else some (0, [.b (gb y0 0), .i (IntKind.i64.wrap (gi y0 1 + (1 : Int)))])))))) else some (3, [.b (gb y0 0), .i (gi y0 1)]))
noncomputable def ref27_Ints_l0 (a b : List (List Int)) : Nat × List U := loopGet (ref27_Ints_l0_step a b) (ref27_Ints_l0_init a b)
noncomputable def ref27_Ints_0 (a b : List (List Int)) : Bool :=
  bif (↑a.length : Int) != (↑b.length : Int) then false else bif (ref27_Ints_l0 a b).fst.beq 1 then false else true
def ref27_Ints_pre (a b : List (List Int)) : Prop :=
  ((((↑a.length : Int) != (↑b.length : Int)) = false) → ((loopOk (ref27_Ints_l0_step a b) (ref27_Ints_l0_init a b))))
noncomputable def law27_rows_s0  : List (List Int) :=
  [[(1 : Int), (7 : Int), (20 : Int), (25 : Int), (40 : Int)], [(2 : Int), (9 : Int), (0 : Int), (100 : Int), (50 : Int)]]
noncomputable def law27_rows_0  : List (List Int) :=
  [(1 : Int), (5 : Int), (10 : Int), (30 : Int), (12 : Int)] :: (law27_rows_s0)
end Go.Proofs.Ytcbgjecpnhjlpaa
