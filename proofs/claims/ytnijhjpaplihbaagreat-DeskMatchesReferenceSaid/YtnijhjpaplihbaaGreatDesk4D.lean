/- Parts of other texts (wip/strip.py). -/
import Derived.Test.YtnijhjpaplihbaaGreatDesk3D
import Derived.Test.YtnijhjpaplihbaaGreatDeskS
set_option maxRecDepth 100000
set_option linter.unusedVariables false
namespace Go.Proofs.YtnijhjpaplihbaaGreat
open Go Go.Sy
noncomputable def xap  : List Int :=
 [xaN (0 : Int) (10 : Int) (0 : Int) (10 : Int), xaM (0 : Int) (10 : Int) (0 : Int) (10 : Int), xaL (0 : Int) (10 : Int) (0 : Int) (10 : Int),
 xaK (0 : Int) (10 : Int) (0 : Int) (10 : Int)]
noncomputable def xh0  : Int :=
 xiY (1 : Int) (xaN (2 : Int) (3 : Int) (2 : Int) (3 : Int)) (xaM (2 : Int) (3 : Int) (2 : Int) (3 : Int)) (xaL (2 : Int) (3 : Int) (2 : Int) (3 : Int))
 (xaK (2 : Int) (3 : Int) (2 : Int) (3 : Int))
noncomputable def xv1  : Int :=
 xiX (1 : Int) (xaN (2 : Int) (3 : Int) (2 : Int) (3 : Int)) (xaM (2 : Int) (3 : Int) (2 : Int) (3 : Int)) (xaL (2 : Int) (3 : Int) (2 : Int) (3 : Int))
 (xaK (2 : Int) (3 : Int) (2 : Int) (3 : Int))
noncomputable def xv0  : Int :=
 xiW (1 : Int) (xaN (2 : Int) (3 : Int) (2 : Int) (3 : Int)) (xaM (2 : Int) (3 : Int) (2 : Int) (3 : Int)) (xaL (2 : Int) (3 : Int) (2 : Int) (3 : Int))
 (xaK (2 : Int) (3 : Int) (2 : Int) (3 : Int))
noncomputable def xvZ  : Int :=
 xiV (1 : Int) (xaN (2 : Int) (3 : Int) (2 : Int) (3 : Int)) (xaM (2 : Int) (3 : Int) (2 : Int) (3 : Int)) (xaL (2 : Int) (3 : Int) (2 : Int) (3 : Int))
 (xaK (2 : Int) (3 : Int) (2 : Int) (3 : Int))
noncomputable def xvY  : Int :=
 xiU (1 : Int) (xaN (2 : Int) (3 : Int) (2 : Int) (3 : Int)) (xaM (2 : Int) (3 : Int) (2 : Int) (3 : Int)) (xaL (2 : Int) (3 : Int) (2 : Int) (3 : Int))
 (xaK (2 : Int) (3 : Int) (2 : Int) (3 : Int))
noncomputable def xhZ  : List Int :=
 [(1 : Int), (xv1), (xv0), (xvZ), (xvY), (1 : Int), (0 : Int), (0 : Int), (1 : Int), (0 : Int)]
noncomputable def xvX  : Int :=
 xiY (2 : Int) (xaN (3 : Int) (9 : Int) (3 : Int) (3 : Int)) (xaM (3 : Int) (9 : Int) (3 : Int) (3 : Int)) (xaL (3 : Int) (9 : Int) (3 : Int) (3 : Int))
 (xaK (3 : Int) (9 : Int) (3 : Int) (3 : Int))
noncomputable def xvW  : Int :=
 xiX (2 : Int) (xaN (3 : Int) (9 : Int) (3 : Int) (3 : Int)) (xaM (3 : Int) (9 : Int) (3 : Int) (3 : Int)) (xaL (3 : Int) (9 : Int) (3 : Int) (3 : Int))
 (xaK (3 : Int) (9 : Int) (3 : Int) (3 : Int))
noncomputable def xvV  : Int :=
 xiW (2 : Int) (xaN (3 : Int) (9 : Int) (3 : Int) (3 : Int)) (xaM (3 : Int) (9 : Int) (3 : Int) (3 : Int)) (xaL (3 : Int) (9 : Int) (3 : Int) (3 : Int))
 (xaK (3 : Int) (9 : Int) (3 : Int) (3 : Int))
noncomputable def xur  : Int :=
 xiV (2 : Int) (xaN (3 : Int) (9 : Int) (3 : Int) (3 : Int)) (xaM (3 : Int) (9 : Int) (3 : Int) (3 : Int)) (xaL (3 : Int) (9 : Int) (3 : Int) (3 : Int))
 (xaK (3 : Int) (9 : Int) (3 : Int) (3 : Int))
noncomputable def xuq  : Int :=
 xiU (2 : Int) (xaN (3 : Int) (9 : Int) (3 : Int) (3 : Int)) (xaM (3 : Int) (9 : Int) (3 : Int) (3 : Int)) (xaL (3 : Int) (9 : Int) (3 : Int) (3 : Int))
 (xaK (3 : Int) (9 : Int) (3 : Int) (3 : Int))
noncomputable def xup  : List Int :=
 [(1 : Int), (xvW), (xvV), (xur), (xuq), (1 : Int), (0 : Int), (0 : Int), (1 : Int), (0 : Int)]
noncomputable def xuo  : Int :=
 xiY (3 : Int) (xaN (20 : Int) (30 : Int) (0 : Int) (10 : Int)) (xaM (20 : Int) (30 : Int) (0 : Int) (10 : Int)) (xaL (20 : Int) (30 : Int) (0 : Int) (10 : Int))
 (xaK (20 : Int) (30 : Int) (0 : Int) (10 : Int))
noncomputable def xun  : Int :=
 xiX (3 : Int) (xaN (20 : Int) (30 : Int) (0 : Int) (10 : Int)) (xaM (20 : Int) (30 : Int) (0 : Int) (10 : Int)) (xaL (20 : Int) (30 : Int) (0 : Int) (10 : Int))
 (xaK (20 : Int) (30 : Int) (0 : Int) (10 : Int))
noncomputable def xum  : Int :=
 xiW (3 : Int) (xaN (20 : Int) (30 : Int) (0 : Int) (10 : Int)) (xaM (20 : Int) (30 : Int) (0 : Int) (10 : Int)) (xaL (20 : Int) (30 : Int) (0 : Int) (10 : Int))
 (xaK (20 : Int) (30 : Int) (0 : Int) (10 : Int))
noncomputable def xul  : Int :=
 xiV (3 : Int) (xaN (20 : Int) (30 : Int) (0 : Int) (10 : Int)) (xaM (20 : Int) (30 : Int) (0 : Int) (10 : Int)) (xaL (20 : Int) (30 : Int) (0 : Int) (10 : Int))
 (xaK (20 : Int) (30 : Int) (0 : Int) (10 : Int))
noncomputable def xuk  : Int :=
 xiU (3 : Int) (xaN (20 : Int) (30 : Int) (0 : Int) (10 : Int)) (xaM (20 : Int) (30 : Int) (0 : Int) (10 : Int)) (xaL (20 : Int) (30 : Int) (0 : Int) (10 : Int))
 (xaK (20 : Int) (30 : Int) (0 : Int) (10 : Int))
noncomputable def xuj  : List Int :=
 [(1 : Int), (xun), (xum), (xul), (xuk), (1 : Int), (0 : Int), (0 : Int), (1 : Int), (0 : Int)]
noncomputable def xan  : List (List Int) :=
 [(1 : Int) :: (xh0) :: (5 : Int) :: (xhZ), (1 : Int) :: (xvX) :: (5 : Int) :: (xup),
 (1 : Int) :: (xuo) :: (5 : Int) :: (xuj)]
noncomputable def xdT  : List (List Int) :=
 [[(3 : Int), (3 : Int)], [(3 : Int), (3 : Int)], [(3 : Int), (3 : Int)], [(3 : Int), (3 : Int)]]
noncomputable def xcB  : Int :=
 xbw (0 : Int) [(xap)] [[(0 : Int), (100 : Int), (0 : Int), (0 : Int), (0 : Int), (0 : Int)]]
 (cutV ((xan)) (xaz (↑3 : Int) none (some (2 : Int))).snd.fst (xaz (↑3 : Int) none (some (2 : Int))).snd.snd) []
noncomputable def xcA  : Int :=
 xbw (0 : Int) [(xap)] [[(0 : Int), (100 : Int), (0 : Int), (0 : Int), (0 : Int), (0 : Int)]] ((xan)) []
noncomputable def xcz  : Int :=
 xda (0 : Int) (1 : Int) [(xap)] [[(0 : Int), (100 : Int), (0 : Int), (0 : Int), (0 : Int), (0 : Int)]] ((xan))
noncomputable def xcy  : Int :=
 xda (0 : Int) (0 : Int) [(xap)] [[(0 : Int), (100 : Int), (0 : Int), (0 : Int), (0 : Int), (0 : Int)]] ((xan))
noncomputable def xcx  : Int :=
 xci (0 : Int) (1 : Int) [(xap)] [[(0 : Int), (100 : Int), (0 : Int), (0 : Int), (0 : Int), (0 : Int)]]
 (cutV ((xan)) (xaz (↑3 : Int) none (some (2 : Int))).snd.fst (xaz (↑3 : Int) none (some (2 : Int))).snd.snd)
noncomputable def xcw  : Int :=
 xci (0 : Int) (2 : Int) [(xap)] [[(0 : Int), (100 : Int), (0 : Int), (0 : Int), (0 : Int), (0 : Int)]]
 (cutV ((xan)) (xaz (↑3 : Int) none (some (2 : Int))).snd.fst (xaz (↑3 : Int) none (some (2 : Int))).snd.snd)
noncomputable def xcv  : Int :=
 xdW (0 : Int) (1 : Int) [(xap)] [[(0 : Int), (100 : Int), (0 : Int), (0 : Int), (0 : Int), (0 : Int)]] ((xan))
noncomputable def xcu  : Int :=
 xcP (0 : Int) [(xap)] [[(0 : Int), (100 : Int), (0 : Int), (0 : Int), (0 : Int), (0 : Int)]] ((xan)) [[(2 : Int)]] ((xdT))
noncomputable def xct  : Int :=
 xcP (0 : Int) [(xap)] [[(0 : Int), (100 : Int), (0 : Int), (0 : Int), (0 : Int), (0 : Int)]] ((xan)) [] ((xdT))
noncomputable def xcs  : Int :=
 xbw (0 : Int) [(xap)] [[(0 : Int), (100 : Int), (0 : Int), (0 : Int), (0 : Int), (0 : Int)]]
 [(1 : Int) :: (xh0) :: (5 : Int) :: (xhZ), (1 : Int) :: (xh0) :: (5 : Int) :: (xhZ)] []
noncomputable def xcr  : List (List Int) :=
 xcb (0 : Int) [(xap)] [[(0 : Int), (100 : Int), (0 : Int), (0 : Int), (0 : Int), (0 : Int)]]
 (cutV ((xan)) (xaz (↑3 : Int) none (some (2 : Int))).snd.fst (xaz (↑3 : Int) none (some (2 : Int))).snd.snd) []
noncomputable def xaZ  : List Int :=
 [xaN (3 : Int) (3 : Int) (3 : Int) (3 : Int), xaM (3 : Int) (3 : Int) (3 : Int) (3 : Int), xaL (3 : Int) (3 : Int) (3 : Int) (3 : Int),
 xaK (3 : Int) (3 : Int) (3 : Int) (3 : Int)]
noncomputable def xcq  : List (List Int) :=
 xdb (0 : Int) (1 : Int) [(xap)] [[(0 : Int), (100 : Int), (0 : Int), (0 : Int), (0 : Int), (0 : Int)]] ((xan))
noncomputable def xdS  : List (List Int) :=
 xdX (0 : Int) (1 : Int) [(xap)] [[(0 : Int), (100 : Int), (0 : Int), (0 : Int), (0 : Int), (0 : Int)]] ((xan))
noncomputable def xgd  : Int :=
 xcm (0 : Int) (1 : Int) [(xap)] [[(0 : Int), (100 : Int), (0 : Int), (0 : Int), (0 : Int), (0 : Int)]]
 (cutV ((xan)) (xaz (↑3 : Int) none (some (2 : Int))).snd.fst (xaz (↑3 : Int) none (some (2 : Int))).snd.snd)
noncomputable def xgc  : Int :=
 xcl (0 : Int) (1 : Int) [(xap)] [[(0 : Int), (100 : Int), (0 : Int), (0 : Int), (0 : Int), (0 : Int)]]
 (cutV ((xan)) (xaz (↑3 : Int) none (some (2 : Int))).snd.fst (xaz (↑3 : Int) none (some (2 : Int))).snd.snd)
noncomputable def xgb  : Int :=
 xck (0 : Int) (1 : Int) [(xap)] [[(0 : Int), (100 : Int), (0 : Int), (0 : Int), (0 : Int), (0 : Int)]]
 (cutV ((xan)) (xaz (↑3 : Int) none (some (2 : Int))).snd.fst (xaz (↑3 : Int) none (some (2 : Int))).snd.snd)
noncomputable def xga  : Int :=
 xcj (0 : Int) (1 : Int) [(xap)] [[(0 : Int), (100 : Int), (0 : Int), (0 : Int), (0 : Int), (0 : Int)]]
 (cutV ((xan)) (xaz (↑3 : Int) none (some (2 : Int))).snd.fst (xaz (↑3 : Int) none (some (2 : Int))).snd.snd)
noncomputable def xf9  : Int :=
 xcm (0 : Int) (2 : Int) [(xap)] [[(0 : Int), (100 : Int), (0 : Int), (0 : Int), (0 : Int), (0 : Int)]]
 (cutV ((xan)) (xaz (↑3 : Int) none (some (2 : Int))).snd.fst (xaz (↑3 : Int) none (some (2 : Int))).snd.snd)
noncomputable def xf8  : Int :=
 xcl (0 : Int) (2 : Int) [(xap)] [[(0 : Int), (100 : Int), (0 : Int), (0 : Int), (0 : Int), (0 : Int)]]
 (cutV ((xan)) (xaz (↑3 : Int) none (some (2 : Int))).snd.fst (xaz (↑3 : Int) none (some (2 : Int))).snd.snd)
noncomputable def xf7  : Int :=
 xck (0 : Int) (2 : Int) [(xap)] [[(0 : Int), (100 : Int), (0 : Int), (0 : Int), (0 : Int), (0 : Int)]]
 (cutV ((xan)) (xaz (↑3 : Int) none (some (2 : Int))).snd.fst (xaz (↑3 : Int) none (some (2 : Int))).snd.snd)
noncomputable def xf6  : Int :=
 xcj (0 : Int) (2 : Int) [(xap)] [[(0 : Int), (100 : Int), (0 : Int), (0 : Int), (0 : Int), (0 : Int)]]
 (cutV ((xan)) (xaz (↑3 : Int) none (some (2 : Int))).snd.fst (xaz (↑3 : Int) none (some (2 : Int))).snd.snd)
noncomputable def xkM  : List (List Int) :=
 xcn (0 : Int) (1 : Int) [(xap)] [[(0 : Int), (100 : Int), (0 : Int), (0 : Int), (0 : Int), (0 : Int)]] ((xan))
noncomputable def xdU  : Bool :=
 bif
  (xcB) == (0 : Int) && (xcA) == (18 : Int) && (xcz) == (0 : Int) && (xcy) == (18 : Int) && (xcx) == (0 : Int) &&
        (xcw) == (0 : Int) &&
       (xcv) == (0 : Int) &&
      (xcu) == (0 : Int) &&
     (xct) == (0 : Int) &&
    (xcs) == (5 : Int) &&
   xaS ((xcr)) [(xaZ)] then
 bif
   xbe ((xcq)) [[(2 : Int)]] && xaS ((xdS)) [(xaZ)] &&
     ((xgd) == xaN (2 : Int) (9 : Int) (2 : Int) (3 : Int) && ((xgc) == xaM (2 : Int) (9 : Int) (2 : Int) (3 : Int) && true) &&
      ((xgb) == xaL (2 : Int) (9 : Int) (2 : Int) (3 : Int) && ((xga) == xaK (2 : Int) (9 : Int) (2 : Int) (3 : Int) && true) && true)) &&
    ((xf9) == xaN (0 : Int) (10 : Int) (0 : Int) (10 : Int) && ((xf8) == xaM (0 : Int) (10 : Int) (0 : Int) (10 : Int) && true) &&
     ((xf7) == xaL (0 : Int) (10 : Int) (0 : Int) (10 : Int) && ((xf6) == xaK (0 : Int) (10 : Int) (0 : Int) (10 : Int) && true) && true)) then
  xbe ((xkM)) [[(2 : Int)]] &&
    xb3 (0 : Int) [(xap)] [[(0 : Int), (100 : Int), (0 : Int), (0 : Int), (0 : Int), (0 : Int)]] ((xan)) [[(2 : Int)]] ((xdT)) &&
   !xb3 (0 : Int) [(xap)] [[(0 : Int), (100 : Int), (0 : Int), (0 : Int), (0 : Int), (0 : Int)]] ((xan)) [] ((xdT))
 else false
else false
def xge  : Prop :=
 ((((0 : Int) ≤ (2 : Int)) ∧ ((2 : Int) ≤ (↑3 : Int))) ∧ (((((↑(loN (xaz (↑3 : Int) none (some (2 : Int))).snd.fst) : Int) ≤ (xaz (↑3 : Int) none (some (2 : Int))).snd.snd) ∧ ((xaz (↑3 : Int) none (some (2 : Int))).snd.snd ≤ (↑3 : Int))) ∧ (xbx (0 : Int) [(xap)] [[(0 : Int), (100 : Int), (0 : Int), (0 : Int), (0 : Int), (0 : Int)]]
 (cutV ((xan)) (xaz (↑3 : Int) none (some (2 : Int))).snd.fst (xaz (↑3 : Int) none (some (2 : Int))).snd.snd) [])) ∧ ((xbx (0 : Int) [(xap)] [[(0 : Int), (100 : Int), (0 : Int), (0 : Int), (0 : Int), (0 : Int)]] ((xan)) []) ∧ ((xcc (0 : Int) (1 : Int) [(xap)] [[(0 : Int), (100 : Int), (0 : Int), (0 : Int), (0 : Int), (0 : Int)]] ((xan))) ∧ ((xcc (0 : Int) (0 : Int) [(xap)] [[(0 : Int), (100 : Int), (0 : Int), (0 : Int), (0 : Int), (0 : Int)]] ((xan))) ∧ ((((0 : Int) ≤ (2 : Int)) ∧ ((2 : Int) ≤ (↑3 : Int))) ∧ (((((↑(loN (xaz (↑3 : Int) none (some (2 : Int))).snd.fst) : Int) ≤ (xaz (↑3 : Int) none (some (2 : Int))).snd.snd) ∧ ((xaz (↑3 : Int) none (some (2 : Int))).snd.snd ≤ (↑3 : Int))) ∧ (xc9 (0 : Int) (1 : Int) [(xap)] [[(0 : Int), (100 : Int), (0 : Int), (0 : Int), (0 : Int), (0 : Int)]]
 (cutV ((xan)) (xaz (↑3 : Int) none (some (2 : Int))).snd.fst (xaz (↑3 : Int) none (some (2 : Int))).snd.snd))) ∧ ((((0 : Int) ≤ (2 : Int)) ∧ ((2 : Int) ≤ (↑3 : Int))) ∧ (((((↑(loN (xaz (↑3 : Int) none (some (2 : Int))).snd.fst) : Int) ≤ (xaz (↑3 : Int) none (some (2 : Int))).snd.snd) ∧ ((xaz (↑3 : Int) none (some (2 : Int))).snd.snd ≤ (↑3 : Int))) ∧ (xc9 (0 : Int) (2 : Int) [(xap)] [[(0 : Int), (100 : Int), (0 : Int), (0 : Int), (0 : Int), (0 : Int)]]
 (cutV ((xan)) (xaz (↑3 : Int) none (some (2 : Int))).snd.fst (xaz (↑3 : Int) none (some (2 : Int))).snd.snd))) ∧ ((xdV (0 : Int) (1 : Int) [(xap)] [[(0 : Int), (100 : Int), (0 : Int), (0 : Int), (0 : Int), (0 : Int)]] ((xan))) ∧ ((xdc (0 : Int) [(xap)] [[(0 : Int), (100 : Int), (0 : Int), (0 : Int), (0 : Int), (0 : Int)]] ((xan)) [[(2 : Int)]] ((xdT))) ∧ ((xdc (0 : Int) [(xap)] [[(0 : Int), (100 : Int), (0 : Int), (0 : Int), (0 : Int), (0 : Int)]] ((xan)) [] ((xdT))) ∧ ((xbx (0 : Int) [(xap)] [[(0 : Int), (100 : Int), (0 : Int), (0 : Int), (0 : Int), (0 : Int)]]
 [(1 : Int) :: (xh0) :: (5 : Int) :: (xhZ), (1 : Int) :: (xh0) :: (5 : Int) :: (xhZ)] []) ∧ (((((xcB) == (0 : Int) && (xcA) == (18 : Int) && (xcz) == (0 : Int) && (xcy) == (18 : Int) && (xcx) == (0 : Int) &&
       (xcw) == (0 : Int) &&
      (xcv) == (0 : Int) &&
     (xcu) == (0 : Int) &&
    (xct) == (0 : Int) &&
   (xcs) == (5 : Int) &&
  xaS ((xcr)) [(xaZ)]) =
 true) → ((((xbe ((xcq)) [[(2 : Int)]] && xaS ((xdS)) [(xaZ)] &&
   ((xgd) == xaN (2 : Int) (9 : Int) (2 : Int) (3 : Int) && ((xgc) == xaM (2 : Int) (9 : Int) (2 : Int) (3 : Int) && true) &&
    ((xgb) == xaL (2 : Int) (9 : Int) (2 : Int) (3 : Int) && ((xga) == xaK (2 : Int) (9 : Int) (2 : Int) (3 : Int) && true) && true)) &&
  ((xf9) == xaN (0 : Int) (10 : Int) (0 : Int) (10 : Int) && ((xf8) == xaM (0 : Int) (10 : Int) (0 : Int) (10 : Int) && true) &&
   ((xf7) == xaL (0 : Int) (10 : Int) (0 : Int) (10 : Int) && ((xf6) == xaK (0 : Int) (10 : Int) (0 : Int) (10 : Int) && true) && true))) =
 true) → (((((xcB) == (0 : Int) && (xcA) == (18 : Int) && (xcz) == (0 : Int) && (xcy) == (18 : Int) && (xcx) == (0 : Int) &&
      (xcw) == (0 : Int) &&
     (xcv) == (0 : Int) &&
    (xcu) == (0 : Int) &&
   (xct) == (0 : Int) &&
  (xcs) == (5 : Int)) =
 true) → (xby ((xcr)) [(xaZ)])) ∧ ((((xcB) == (0 : Int) && (xcA) == (18 : Int) && (xcz) == (0 : Int) && (xcy) == (18 : Int) && (xcx) == (0 : Int) &&
       (xcw) == (0 : Int) &&
      (xcv) == (0 : Int) &&
     (xcu) == (0 : Int) &&
    (xct) == (0 : Int) &&
   (xcs) == (5 : Int) &&
  xaS ((xcr)) [(xaZ)]) =
 true) ∧ (((true = true) → (xb7 ((xcq)) [[(2 : Int)]])) ∧ (((xbe ((xcq)) [[(2 : Int)]] = true) → (xby ((xdS)) [(xaZ)])) ∧ (((xbe ((xcq)) [[(2 : Int)]] && xaS ((xdS)) [(xaZ)] &&
   ((xgd) == xaN (2 : Int) (9 : Int) (2 : Int) (3 : Int) && ((xgc) == xaM (2 : Int) (9 : Int) (2 : Int) (3 : Int) && true) &&
    ((xgb) == xaL (2 : Int) (9 : Int) (2 : Int) (3 : Int) && ((xga) == xaK (2 : Int) (9 : Int) (2 : Int) (3 : Int) && true) && true)) &&
  ((xf9) == xaN (0 : Int) (10 : Int) (0 : Int) (10 : Int) && ((xf8) == xaM (0 : Int) (10 : Int) (0 : Int) (10 : Int) && true) &&
   ((xf7) == xaL (0 : Int) (10 : Int) (0 : Int) (10 : Int) && ((xf6) == xaK (0 : Int) (10 : Int) (0 : Int) (10 : Int) && true) && true))) =
 true) ∧ ((true = true) → (xb7 ((xkM)) [[(2 : Int)]])))))))) ∧ (((xbe ((xcq)) [[(2 : Int)]] && xaS ((xdS)) [(xaZ)] &&
   ((xgd) == xaN (2 : Int) (9 : Int) (2 : Int) (3 : Int) && ((xgc) == xaM (2 : Int) (9 : Int) (2 : Int) (3 : Int) && true) &&
    ((xgb) == xaL (2 : Int) (9 : Int) (2 : Int) (3 : Int) && ((xga) == xaK (2 : Int) (9 : Int) (2 : Int) (3 : Int) && true) && true)) &&
  ((xf9) == xaN (0 : Int) (10 : Int) (0 : Int) (10 : Int) && ((xf8) == xaM (0 : Int) (10 : Int) (0 : Int) (10 : Int) && true) &&
   ((xf7) == xaL (0 : Int) (10 : Int) (0 : Int) (10 : Int) && ((xf6) == xaK (0 : Int) (10 : Int) (0 : Int) (10 : Int) && true) && true))) =
 false) → (((((xcB) == (0 : Int) && (xcA) == (18 : Int) && (xcz) == (0 : Int) && (xcy) == (18 : Int) && (xcx) == (0 : Int) &&
      (xcw) == (0 : Int) &&
     (xcv) == (0 : Int) &&
    (xcu) == (0 : Int) &&
   (xct) == (0 : Int) &&
  (xcs) == (5 : Int)) =
 true) → (xby ((xcr)) [(xaZ)])) ∧ ((((xcB) == (0 : Int) && (xcA) == (18 : Int) && (xcz) == (0 : Int) && (xcy) == (18 : Int) && (xcx) == (0 : Int) &&
       (xcw) == (0 : Int) &&
      (xcv) == (0 : Int) &&
     (xcu) == (0 : Int) &&
    (xct) == (0 : Int) &&
   (xcs) == (5 : Int) &&
  xaS ((xcr)) [(xaZ)]) =
 true) ∧ (((true = true) → (xb7 ((xcq)) [[(2 : Int)]])) ∧ (((xbe ((xcq)) [[(2 : Int)]] = true) → (xby ((xdS)) [(xaZ)])) ∧ ((xbe ((xcq)) [[(2 : Int)]] && xaS ((xdS)) [(xaZ)] &&
   ((xgd) == xaN (2 : Int) (9 : Int) (2 : Int) (3 : Int) && ((xgc) == xaM (2 : Int) (9 : Int) (2 : Int) (3 : Int) && true) &&
    ((xgb) == xaL (2 : Int) (9 : Int) (2 : Int) (3 : Int) && ((xga) == xaK (2 : Int) (9 : Int) (2 : Int) (3 : Int) && true) && true)) &&
  ((xf9) == xaN (0 : Int) (10 : Int) (0 : Int) (10 : Int) && ((xf8) == xaM (0 : Int) (10 : Int) (0 : Int) (10 : Int) && true) &&
   ((xf7) == xaL (0 : Int) (10 : Int) (0 : Int) (10 : Int) && ((xf6) == xaK (0 : Int) (10 : Int) (0 : Int) (10 : Int) && true) && true))) =
 false)))))))) ∧ ((((xcB) == (0 : Int) && (xcA) == (18 : Int) && (xcz) == (0 : Int) && (xcy) == (18 : Int) && (xcx) == (0 : Int) &&
       (xcw) == (0 : Int) &&
      (xcv) == (0 : Int) &&
     (xcu) == (0 : Int) &&
    (xct) == (0 : Int) &&
   (xcs) == (5 : Int) &&
  xaS ((xcr)) [(xaZ)]) =
 false) → (((((xcB) == (0 : Int) && (xcA) == (18 : Int) && (xcz) == (0 : Int) && (xcy) == (18 : Int) && (xcx) == (0 : Int) &&
      (xcw) == (0 : Int) &&
     (xcv) == (0 : Int) &&
    (xcu) == (0 : Int) &&
   (xct) == (0 : Int) &&
  (xcs) == (5 : Int)) =
 true) → (xby ((xcr)) [(xaZ)])) ∧ (((xcB) == (0 : Int) && (xcA) == (18 : Int) && (xcz) == (0 : Int) && (xcy) == (18 : Int) && (xcx) == (0 : Int) &&
       (xcw) == (0 : Int) &&
      (xcv) == (0 : Int) &&
     (xcu) == (0 : Int) &&
    (xct) == (0 : Int) &&
   (xcs) == (5 : Int) &&
  xaS ((xcr)) [(xaZ)]) =
 false)))))))))))))))))
end Go.Proofs.YtnijhjpaplihbaaGreat
