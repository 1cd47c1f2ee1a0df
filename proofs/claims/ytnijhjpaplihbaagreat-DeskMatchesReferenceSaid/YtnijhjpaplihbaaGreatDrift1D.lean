/- Written by program (wip/sygen.py): what the Go functions compute, as the executor reads it off their code. -/
import Derived.Test.YtnijhjpaplihbaaGreatSyD
set_option maxRecDepth 100000
set_option linter.unusedVariables false
namespace Go.Proofs.YtnijhjpaplihbaaGreat
open Go Go.Sy
noncomputable def xaw (b4 b5 : Int) : Bool :=
 decide ((-1000000000000 : Int) ≤ b4) && decide (b4 ≤ b5) && decide (b5 ≤ (1000000000000 : Int))
noncomputable def xd4 (a b : Int) : Int :=
 imin a b
noncomputable def xd3 (a b : Int) : Int :=
 imax a b
noncomputable def xdD (b4 b5 b6 b7 : Int) : Int :=
 bif !xaw b4 b5 || !xaw b6 b7 then (0 : Int) else bif decide (imin b5 b7 < imax b4 b6) then (0 : Int) else imax b4 b6
noncomputable def xdC (b4 b5 b6 b7 : Int) : Int :=
 bif !xaw b4 b5 || !xaw b6 b7 then (0 : Int) else bif decide (imin b5 b7 < imax b4 b6) then (0 : Int) else imin b5 b7
noncomputable def xa5 (b4 b5 b6 b7 : Int) : Int :=
 bif !xaw b4 b5 || !xaw b6 b7 then (1 : Int) else bif decide (imin b5 b7 < imax b4 b6) then (4 : Int) else (0 : Int)
noncomputable def xcZ (b4 b5 b6 b7 : Int) : Int :=
 bif !xaw b4 b5 || !xaw b6 b7 then (0 : Int) else xd4 b4 b6
noncomputable def xcY (b4 b5 b6 b7 : Int) : Int :=
 bif !xaw b4 b5 || !xaw b6 b7 then (0 : Int) else xd3 b5 b7
noncomputable def xau (b4 b5 b6 b7 : Int) : Int :=
 bif !xaw b4 b5 || !xaw b6 b7 then (1 : Int) else (0 : Int)
noncomputable def xbd (b4 b5 b6 b7 : Int) : Bool :=
 xau b4 b5 b6 b7 == (0 : Int) && (xcZ b4 b5 b6 b7 == b6 && (xcY b4 b5 b6 b7 == b7 && true))
noncomputable def xbu (b4 b5 b6 b7 : Int) : Int :=
 xau b4 b5 b6 b7
noncomputable def xac (a4 a5 a6 a7 : Int) : Bool :=
 xbu a4 a5 (-1000000 : Int) (1000000 : Int) == (0 : Int) && xbu a6 a7 (-1000000 : Int) (1000000 : Int) == (0 : Int) &&
  xbd a4 a5 (-1000000 : Int) (1000000 : Int) &&
 xbd a6 a7 (-1000000 : Int) (1000000 : Int)
noncomputable def xiI (b2 b3 a4 a5 a6 a7 : Int) : Bool :=
 (bif !xac b2 b2 b3 b3 || !xac a4 a5 a6 a7 then (1 : Int)
  else
   bif imax (xau b2 b2 a4 a5) (xau b3 b3 a6 a7) != (0 : Int) then imax (xau b2 b2 a4 a5) (xau b3 b3 a6 a7) else (0 : Int)) ==
  (0 : Int) &&
 ((bif !xac b2 b2 b3 b3 || !xac a4 a5 a6 a7 then (0 : Int)
    else bif imax (xau b2 b2 a4 a5) (xau b3 b3 a6 a7) != (0 : Int) then (0 : Int) else xcZ b2 b2 a4 a5) ==
    a4 &&
   ((bif !xac b2 b2 b3 b3 || !xac a4 a5 a6 a7 then (0 : Int)
     else bif imax (xau b2 b2 a4 a5) (xau b3 b3 a6 a7) != (0 : Int) then (0 : Int) else xcY b2 b2 a4 a5) ==
     a5 &&
    true) &&
  ((bif !xac b2 b2 b3 b3 || !xac a4 a5 a6 a7 then (0 : Int)
     else bif imax (xau b2 b2 a4 a5) (xau b3 b3 a6 a7) != (0 : Int) then (0 : Int) else xcZ b3 b3 a6 a7) ==
     a6 &&
    ((bif !xac b2 b2 b3 b3 || !xac a4 a5 a6 a7 then (0 : Int)
      else bif imax (xau b2 b2 a4 a5) (xau b3 b3 a6 a7) != (0 : Int) then (0 : Int) else xcY b3 b3 a6 a7) ==
      a7 &&
     true) &&
   true))
noncomputable def xqY (b2 b3 a4 a5 a6 a7 : Int) : Int :=
 bif !xac b2 b2 b3 b3 || !xac a4 a5 a6 a7 then (1 : Int)
else bif imax (xau b2 b2 a4 a5) (xau b3 b3 a6 a7) != (0 : Int) then imax (xau b2 b2 a4 a5) (xau b3 b3 a6 a7) else (0 : Int)
noncomputable def xeP (a8 a9 b0 b1 a4 a5 a6 a7 : Int) : Int :=
 bif !xac a8 a9 b0 b1 || !xac a4 a5 a6 a7 then (0 : Int)
else bif imax (xa5 a8 a9 a4 a5) (xa5 b0 b1 a6 a7) != (0 : Int) then (0 : Int) else xdD a8 a9 a4 a5
noncomputable def xf0 (a8 a9 b0 b1 a4 a5 a6 a7 : Int) : Int :=
 bif !xac a8 a9 b0 b1 || !xac a4 a5 a6 a7 then (0 : Int)
else bif imax (xa5 a8 a9 a4 a5) (xa5 b0 b1 a6 a7) != (0 : Int) then (0 : Int) else xdC a8 a9 a4 a5
noncomputable def xfZ (a8 a9 b0 b1 a4 a5 a6 a7 : Int) : Int :=
 bif !xac a8 a9 b0 b1 || !xac a4 a5 a6 a7 then (0 : Int)
else bif imax (xa5 a8 a9 a4 a5) (xa5 b0 b1 a6 a7) != (0 : Int) then (0 : Int) else xdD b0 b1 a6 a7
noncomputable def xfY (a8 a9 b0 b1 a4 a5 a6 a7 : Int) : Int :=
 bif !xac a8 a9 b0 b1 || !xac a4 a5 a6 a7 then (0 : Int)
else bif imax (xa5 a8 a9 a4 a5) (xa5 b0 b1 a6 a7) != (0 : Int) then (0 : Int) else xdC b0 b1 a6 a7
noncomputable def xfX (a8 a9 b0 b1 a4 a5 a6 a7 : Int) : Int :=
 bif !xac a8 a9 b0 b1 || !xac a4 a5 a6 a7 then (1 : Int)
else
 bif imax (xa5 a8 a9 a4 a5) (xa5 b0 b1 a6 a7) != (0 : Int) then
  imax (xa5 a8 a9 a4 a5) (xa5 b0 b1 a6 a7)
 else (0 : Int)
noncomputable def xhg (a8 a9 b0 b1 a4 a5 a6 a7 : Int) : Int :=
 bif !xac a8 a9 b0 b1 || !xac a4 a5 a6 a7 then (0 : Int)
else bif imax (xau a8 a9 a4 a5) (xau b0 b1 a6 a7) != (0 : Int) then (0 : Int) else xcZ a8 a9 a4 a5
noncomputable def xhf (a8 a9 b0 b1 a4 a5 a6 a7 : Int) : Int :=
 bif !xac a8 a9 b0 b1 || !xac a4 a5 a6 a7 then (0 : Int)
else bif imax (xau a8 a9 a4 a5) (xau b0 b1 a6 a7) != (0 : Int) then (0 : Int) else xcY a8 a9 a4 a5
noncomputable def xhe (a8 a9 b0 b1 a4 a5 a6 a7 : Int) : Int :=
 bif !xac a8 a9 b0 b1 || !xac a4 a5 a6 a7 then (0 : Int)
else bif imax (xau a8 a9 a4 a5) (xau b0 b1 a6 a7) != (0 : Int) then (0 : Int) else xcZ b0 b1 a6 a7
noncomputable def xhd (a8 a9 b0 b1 a4 a5 a6 a7 : Int) : Int :=
 bif !xac a8 a9 b0 b1 || !xac a4 a5 a6 a7 then (0 : Int)
else bif imax (xau a8 a9 a4 a5) (xau b0 b1 a6 a7) != (0 : Int) then (0 : Int) else xcY b0 b1 a6 a7
noncomputable def xf1 (a8 a9 b0 b1 a4 a5 a6 a7 : Int) : Int :=
 bif !xac a8 a9 b0 b1 || !xac a4 a5 a6 a7 then (1 : Int)
else
 bif imax (xau a8 a9 a4 a5) (xau b0 b1 a6 a7) != (0 : Int) then
  imax (xau a8 a9 a4 a5) (xau b0 b1 a6 a7)
 else (0 : Int)
noncomputable def xkp (a b : List (List Int)) : List U :=
 [.b (false), .i ((0 : Int))]
noncomputable def xez (a b : List (List Int)) (y0 : List U) : Option (Nat × List U) :=
 (bif decide (gi y0 1 < (↑a.length : Int)) then xab (inR (gi y0 1) a) (xab (inR (gi y0 1) a) (xab (inR (gi y0 1) b) (xab (inR (gi y0 1) b) ((bif !((a.getD (gi y0 1).toNat []).getD 0 (0 : Int) == (b.getD (gi y0 1).toNat []).getD 0 (0 : Int) &&
   ((a.getD (gi y0 1).toNat []).getD 1 (0 : Int) == (b.getD (gi y0 1).toNat []).getD 1 (0 : Int) && true) &&
  ((a.getD (gi y0 1).toNat []).getD 2 (0 : Int) == (b.getD (gi y0 1).toNat []).getD 2 (0 : Int) &&
    ((a.getD (gi y0 1).toNat []).getD 3 (0 : Int) == (b.getD (gi y0 1).toNat []).getD 3 (0 : Int) && true) &&
   true)) then some (1, []) else some (0, [.b (gb y0 0), .i (IntKind.i64.wrap (gi y0 1 + (1 : Int)))])))))) else some (3, [.b (gb y0 0), .i (gi y0 1)]))
noncomputable def xlH (a b : List (List Int)) : Nat × List U := xaC (xez a b) (xkp a b)
noncomputable def xaS (a b : List (List Int)) : Bool :=
 bif (↑a.length : Int) != (↑b.length : Int) then false else bif (xlH a b).fst.beq 1 then false else true
def xby (a b : List (List Int)) : Prop :=
 ((((↑a.length : Int) != (↑b.length : Int)) = false) → ((xay (xez a b) (xkp a b))))
noncomputable def xjZ (a1 : List (List Int)) : List U :=
 [.i ((0 : Int)), .i ((0 : Int))]
noncomputable def xed (a1 : List (List Int)) (y0 : List U) : Option (Nat × List U) :=
 (bif decide (gi y0 1 < (↑a1.length : Int)) then xab (inR (gi y0 1) a1) (xab (inR (gi y0 1) a1) ((bif !xac ((a1.getD (gi y0 1).toNat []).getD 0 (0 : Int)) ((a1.getD (gi y0 1).toNat []).getD 1 (0 : Int))
  ((a1.getD (gi y0 1).toNat []).getD 2 (0 : Int)) ((a1.getD (gi y0 1).toNat []).getD 3 (0 : Int)) then some (1, [.i (gi y0 1)]) else some (0, [.i (gi y0 0), .i (IntKind.i64.wrap (gi y0 1 + (1 : Int)))])))) else some (3, [.i (gi y0 0), .i (gi y0 1)]))
noncomputable def xiD (a1 : List (List Int)) : Nat × List U := xaC (xed a1) (xjZ a1)
noncomputable def xbk (a1 : List (List Int)) : Bool :=
 decide ((↑a1.length : Int) > (0 : Int)) && decide ((↑a1.length : Int) ≤ (16 : Int)) &&
 !decide ((bif (xiD a1).fst.beq 1 then gi (xiD a1).snd 0 else (-1 : Int)) ≥ (0 : Int))
def xcJ (a1 : List (List Int)) : Prop :=
 (((decide ((↑a1.length : Int) > (0 : Int)) && decide ((↑a1.length : Int) ≤ (16 : Int))) = true) → ((xay (xed a1) (xjZ a1))))
noncomputable def xij (a1 : List (List Int)) : List U :=
 [.b (false), .i ((0 : Int)), .i ((0 : Int))]
noncomputable def xcX (a1 : List (List Int)) (y0 : List U) : Option (Nat × List U) :=
 (bif decide (gi y0 2 < (↑a1.length : Int)) then xab (inR (gi y0 2) a1) (xab (inR (gi y0 2) a1) ((bif xbu ((a1.getD (gi y0 2).toNat []).getD 2 (0 : Int)) ((a1.getD (gi y0 2).toNat []).getD 3 (0 : Int)) (-1000 : Int) (1000 : Int) != (0 : Int) ||
      xbu ((a1.getD (gi y0 2).toNat []).getD 4 (0 : Int)) ((a1.getD (gi y0 2).toNat []).getD 5 (0 : Int)) (-1000 : Int) (1000 : Int) != (0 : Int) ||
     !xbd ((a1.getD (gi y0 2).toNat []).getD 2 (0 : Int)) ((a1.getD (gi y0 2).toNat []).getD 3 (0 : Int)) (-1000 : Int) (1000 : Int) ||
    !xbd ((a1.getD (gi y0 2).toNat []).getD 4 (0 : Int)) ((a1.getD (gi y0 2).toNat []).getD 5 (0 : Int)) (-1000 : Int) (1000 : Int) ||
   decide ((a1.getD (gi y0 2).toNat []).getD 0 (0 : Int) < gi y0 1) ||
  decide ((a1.getD (gi y0 2).toNat []).getD 1 (0 : Int) ≤ (a1.getD (gi y0 2).toNat []).getD 0 (0 : Int)) ||
 decide ((a1.getD (gi y0 2).toNat []).getD 1 (0 : Int) > (10000000 : Int)) then some (1, []) else some (0, [.b (gb y0 0), .i ((a1.getD (gi y0 2).toNat []).getD 1 (0 : Int)), .i (IntKind.i64.wrap (gi y0 2 + (1 : Int)))])))) else some (3, [.b (gb y0 0), .i (gi y0 1), .i (gi y0 2)]))
noncomputable def xiw (a1 : List (List Int)) : Nat × List U := xaC (xcX a1) (xij a1)
noncomputable def xbb (a1 : List (List Int)) : Bool :=
 bif (xiw a1).fst.beq 1 then false else decide ((↑a1.length : Int) ≤ (60 : Int))
def xdq (a1 : List (List Int)) : Prop :=
 ((xay (xcX a1) (xij a1)))
noncomputable def xfs (a3 a2 : Int) (a0 : List (List Int)) : List U :=
 [.i ((0 : Int)), .i (IntKind.i64.wrap (a2 - a3)), .i ((0 : Int)), .i ((0 : Int)), .i ((0 : Int)), .i ((0 : Int))]
noncomputable def xd1 (a3 a2 : Int) (a0 : List (List Int)) (y0 : List U) : Option (Nat × List U) :=
 (bif decide (gi y0 0 < (↑a0.length : Int)) then xab (inR (gi y0 0) a0) (xab (inR (gi y0 0) a0) ((bif decide
  (IntKind.i64.wrap (imin ((a0.getD (gi y0 0).toNat []).getD 1 (0 : Int)) a2 - imax ((a0.getD (gi y0 0).toNat []).getD 0 (0 : Int)) a3) >
   (0 : Int)) ==
 true then some (0, [.i (IntKind.i64.wrap (gi y0 0 + (1 : Int))), .i (IntKind.i64.wrap
 (gi y0 1 -
  IntKind.i64.wrap (imin ((a0.getD (gi y0 0).toNat []).getD 1 (0 : Int)) a2 - imax ((a0.getD (gi y0 0).toNat []).getD 0 (0 : Int)) a3))), .i (IntKind.i64.wrap
 (gi y0 2 +
  IntKind.i64.wrap
   (IntKind.i64.wrap (imin ((a0.getD (gi y0 0).toNat []).getD 1 (0 : Int)) a2 - imax ((a0.getD (gi y0 0).toNat []).getD 0 (0 : Int)) a3) *
    (a0.getD (gi y0 0).toNat []).getD 4 (0 : Int)))), .i (IntKind.i64.wrap
 (gi y0 3 +
  IntKind.i64.wrap
   (IntKind.i64.wrap (imin ((a0.getD (gi y0 0).toNat []).getD 1 (0 : Int)) a2 - imax ((a0.getD (gi y0 0).toNat []).getD 0 (0 : Int)) a3) *
    (a0.getD (gi y0 0).toNat []).getD 5 (0 : Int)))), .i (IntKind.i64.wrap
 (gi y0 4 +
  IntKind.i64.wrap
   (IntKind.i64.wrap (imin ((a0.getD (gi y0 0).toNat []).getD 1 (0 : Int)) a2 - imax ((a0.getD (gi y0 0).toNat []).getD 0 (0 : Int)) a3) *
    (a0.getD (gi y0 0).toNat []).getD 2 (0 : Int)))), .i (IntKind.i64.wrap
 (gi y0 5 +
  IntKind.i64.wrap
   (IntKind.i64.wrap (imin ((a0.getD (gi y0 0).toNat []).getD 1 (0 : Int)) a2 - imax ((a0.getD (gi y0 0).toNat []).getD 0 (0 : Int)) a3) *
    (a0.getD (gi y0 0).toNat []).getD 3 (0 : Int))))]) else some (0, [.i (IntKind.i64.wrap (gi y0 0 + (1 : Int))), .i (gi y0 1), .i (gi y0 2), .i (gi y0 3), .i (gi y0 4), .i (gi y0 5)])))) else some (3, [.i (gi y0 0), .i (gi y0 1), .i (gi y0 2), .i (gi y0 3), .i (gi y0 4), .i (gi y0 5)]))
noncomputable def xdl (a3 a2 : Int) (a0 : List (List Int)) : Nat × List U := xaC (xd1 a3 a2 a0) (xfs a3 a2 a0)
noncomputable def xbY (a3 a2 : Int) (a0 : List (List Int)) : Int :=
 bif !xbb a0 || decide (a3 < (0 : Int)) || decide (a2 < a3) || decide (a2 > (10000000 : Int)) then (0 : Int)
else bif decide (gi (xdl a3 a2 a0).snd 1 > (0 : Int)) then (0 : Int) else gi (xdl a3 a2 a0).snd 4
noncomputable def xbX (a3 a2 : Int) (a0 : List (List Int)) : Int :=
 bif !xbb a0 || decide (a3 < (0 : Int)) || decide (a2 < a3) || decide (a2 > (10000000 : Int)) then (0 : Int)
else bif decide (gi (xdl a3 a2 a0).snd 1 > (0 : Int)) then (0 : Int) else gi (xdl a3 a2 a0).snd 5
noncomputable def xbW (a3 a2 : Int) (a0 : List (List Int)) : Int :=
 bif !xbb a0 || decide (a3 < (0 : Int)) || decide (a2 < a3) || decide (a2 > (10000000 : Int)) then (0 : Int)
else bif decide (gi (xdl a3 a2 a0).snd 1 > (0 : Int)) then (0 : Int) else gi (xdl a3 a2 a0).snd 2
noncomputable def xbV (a3 a2 : Int) (a0 : List (List Int)) : Int :=
 bif !xbb a0 || decide (a3 < (0 : Int)) || decide (a2 < a3) || decide (a2 > (10000000 : Int)) then (0 : Int)
else bif decide (gi (xdl a3 a2 a0).snd 1 > (0 : Int)) then (0 : Int) else gi (xdl a3 a2 a0).snd 3
noncomputable def xee (a3 a2 : Int) (a0 : List (List Int)) : Int :=
 bif !xbb a0 || decide (a3 < (0 : Int)) || decide (a2 < a3) || decide (a2 > (10000000 : Int)) then (1 : Int)
else bif decide (gi (xdl a3 a2 a0).snd 1 > (0 : Int)) then (4 : Int) else (0 : Int)
def xfK (a3 a2 : Int) (a0 : List (List Int)) : Prop :=
 ((xdq a0) ∧ (((!xbb a0 || decide (a3 < (0 : Int)) || decide (a2 < a3) || decide (a2 > (10000000 : Int))) = false) → ((xay (xd1 a3 a2 a0) (xfs a3 a2 a0)))))
noncomputable def xbH (b2 b3 : Int) : Bool :=
 xac b2 b2 b3 b3
noncomputable def xe3 (a3 a2 b2 b3 b8 b9 : Int) (a0 : List (List Int)) : Bool :=
 bif !xbH b2 b3 || !xbH b8 b9 then false
else
 bif xee a3 a2 a0 != (0 : Int) then false
 else
  decide (xbY a3 a2 a0 ≤ IntKind.i64.wrap ((100 : Int) * IntKind.i64.wrap (b8 - b2))) &&
     decide (IntKind.i64.wrap ((100 : Int) * IntKind.i64.wrap (b8 - b2)) ≤ xbX a3 a2 a0) &&
    decide (xbW a3 a2 a0 ≤ IntKind.i64.wrap ((100 : Int) * IntKind.i64.wrap (b9 - b3))) &&
   decide (IntKind.i64.wrap ((100 : Int) * IntKind.i64.wrap (b9 - b3)) ≤ xbV a3 a2 a0)
noncomputable def xhj (a3 a2 b2 b3 b8 b9 : Int) (a0 : List (List Int)) : Int :=
 bif !xbH b2 b3 || !xbH b8 b9 then (1 : Int) else bif xee a3 a2 a0 != (0 : Int) then xee a3 a2 a0 else (0 : Int)
def xdF (a3 a2 b2 b3 b8 b9 : Int) (a0 : List (List Int)) : Prop :=
 (((!xbH b2 b3 || !xbH b8 b9) = false) → (xfK a3 a2 a0))
noncomputable def xh2 (a3 a2 : Int) (a1 a0 : List (List Int)) : List U :=
 [.i ((0 : Int)), .i ((0 : Int)), .r ([])]
noncomputable def xdp (a3 a2 : Int) (a1 a0 : List (List Int)) (y0 : List U) : Option (Nat × List U) :=
 (bif decide (gi y0 1 < (↑a1.length : Int)) then xab (inR (gi y0 1) a1) (xab (inR (gi y0 1) a1) (xab ((((decide (IntKind.i64.wrap (IntKind.i64.wrap ((100 : Int) * (a1.getD (gi y0 1).toNat []).getD 0 (0 : Int)) + xbY a3 a2 a0) < (0 : Int)) = true) → (((100 : Int) : Int) ≠ (0 : Int))) ∧ ((decide (IntKind.i64.wrap (IntKind.i64.wrap ((100 : Int) * (a1.getD (gi y0 1).toNat []).getD 0 (0 : Int)) + xbY a3 a2 a0) < (0 : Int)) = false) → (((100 : Int) : Int) ≠ (0 : Int)))) ∧ (((decide
  (IntKind.i64.wrap ((0 : Int) - IntKind.i64.wrap (IntKind.i64.wrap ((100 : Int) * (a1.getD (gi y0 1).toNat []).getD 1 (0 : Int)) + xbX a3 a2 a0)) <
   (0 : Int)) =
 true) → (((100 : Int) : Int) ≠ (0 : Int))) ∧ ((decide
  (IntKind.i64.wrap ((0 : Int) - IntKind.i64.wrap (IntKind.i64.wrap ((100 : Int) * (a1.getD (gi y0 1).toNat []).getD 1 (0 : Int)) + xbX a3 a2 a0)) <
   (0 : Int)) =
 false) → (((100 : Int) : Int) ≠ (0 : Int))))) (xab ((((decide (IntKind.i64.wrap (IntKind.i64.wrap ((100 : Int) * (a1.getD (gi y0 1).toNat []).getD 2 (0 : Int)) + xbW a3 a2 a0) < (0 : Int)) = true) → (((100 : Int) : Int) ≠ (0 : Int))) ∧ ((decide (IntKind.i64.wrap (IntKind.i64.wrap ((100 : Int) * (a1.getD (gi y0 1).toNat []).getD 2 (0 : Int)) + xbW a3 a2 a0) < (0 : Int)) = false) → (((100 : Int) : Int) ≠ (0 : Int)))) ∧ (((decide
  (IntKind.i64.wrap ((0 : Int) - IntKind.i64.wrap (IntKind.i64.wrap ((100 : Int) * (a1.getD (gi y0 1).toNat []).getD 3 (0 : Int)) + xbV a3 a2 a0)) <
   (0 : Int)) =
 true) → (((100 : Int) : Int) ≠ (0 : Int))) ∧ ((decide
  (IntKind.i64.wrap ((0 : Int) - IntKind.i64.wrap (IntKind.i64.wrap ((100 : Int) * (a1.getD (gi y0 1).toNat []).getD 3 (0 : Int)) + xbV a3 a2 a0)) <
   (0 : Int)) =
 false) → (((100 : Int) : Int) ≠ (0 : Int))))) ((bif !xac
  (bif decide (IntKind.i64.wrap (IntKind.i64.wrap ((100 : Int) * (a1.getD (gi y0 1).toNat []).getD 0 (0 : Int)) + xbY a3 a2 a0) < (0 : Int)) then
   IntKind.i64.wrap
    ((0 : Int) -
     IntKind.i64.wrap
      ((IntKind.i64.wrap
         ((99 : Int) - IntKind.i64.wrap (IntKind.i64.wrap ((100 : Int) * (a1.getD (gi y0 1).toNat []).getD 0 (0 : Int)) + xbY a3 a2 a0))).tdiv
       (100 : Int)))
  else IntKind.i64.wrap ((IntKind.i64.wrap (IntKind.i64.wrap ((100 : Int) * (a1.getD (gi y0 1).toNat []).getD 0 (0 : Int)) + xbY a3 a2 a0)).tdiv (100 : Int)))
  (IntKind.i64.wrap
   ((0 : Int) -
    bif
      decide
       (IntKind.i64.wrap ((0 : Int) - IntKind.i64.wrap (IntKind.i64.wrap ((100 : Int) * (a1.getD (gi y0 1).toNat []).getD 1 (0 : Int)) + xbX a3 a2 a0)) <
        (0 : Int)) then
     IntKind.i64.wrap
      ((0 : Int) -
       IntKind.i64.wrap
        ((IntKind.i64.wrap
           ((99 : Int) -
            IntKind.i64.wrap
             ((0 : Int) - IntKind.i64.wrap (IntKind.i64.wrap ((100 : Int) * (a1.getD (gi y0 1).toNat []).getD 1 (0 : Int)) + xbX a3 a2 a0)))).tdiv
         (100 : Int)))
    else
     IntKind.i64.wrap
      ((IntKind.i64.wrap
         ((0 : Int) - IntKind.i64.wrap (IntKind.i64.wrap ((100 : Int) * (a1.getD (gi y0 1).toNat []).getD 1 (0 : Int)) + xbX a3 a2 a0))).tdiv
       (100 : Int))))
  (bif decide (IntKind.i64.wrap (IntKind.i64.wrap ((100 : Int) * (a1.getD (gi y0 1).toNat []).getD 2 (0 : Int)) + xbW a3 a2 a0) < (0 : Int)) then
   IntKind.i64.wrap
    ((0 : Int) -
     IntKind.i64.wrap
      ((IntKind.i64.wrap
         ((99 : Int) - IntKind.i64.wrap (IntKind.i64.wrap ((100 : Int) * (a1.getD (gi y0 1).toNat []).getD 2 (0 : Int)) + xbW a3 a2 a0))).tdiv
       (100 : Int)))
  else IntKind.i64.wrap ((IntKind.i64.wrap (IntKind.i64.wrap ((100 : Int) * (a1.getD (gi y0 1).toNat []).getD 2 (0 : Int)) + xbW a3 a2 a0)).tdiv (100 : Int)))
  (IntKind.i64.wrap
   ((0 : Int) -
    bif
      decide
       (IntKind.i64.wrap ((0 : Int) - IntKind.i64.wrap (IntKind.i64.wrap ((100 : Int) * (a1.getD (gi y0 1).toNat []).getD 3 (0 : Int)) + xbV a3 a2 a0)) <
        (0 : Int)) then
     IntKind.i64.wrap
      ((0 : Int) -
       IntKind.i64.wrap
        ((IntKind.i64.wrap
           ((99 : Int) -
            IntKind.i64.wrap
             ((0 : Int) - IntKind.i64.wrap (IntKind.i64.wrap ((100 : Int) * (a1.getD (gi y0 1).toNat []).getD 3 (0 : Int)) + xbV a3 a2 a0)))).tdiv
         (100 : Int)))
    else
     IntKind.i64.wrap
      ((IntKind.i64.wrap
         ((0 : Int) - IntKind.i64.wrap (IntKind.i64.wrap ((100 : Int) * (a1.getD (gi y0 1).toNat []).getD 3 (0 : Int)) + xbV a3 a2 a0))).tdiv
       (100 : Int)))) then some (1, []) else xab (xcI 32
 ((gr y0 2).length +
  [[bif decide (IntKind.i64.wrap (IntKind.i64.wrap ((100 : Int) * (a1.getD (gi y0 1).toNat []).getD 0 (0 : Int)) + xbY a3 a2 a0) < (0 : Int)) then
      IntKind.i64.wrap
       ((0 : Int) -
        IntKind.i64.wrap
         ((IntKind.i64.wrap
            ((99 : Int) - IntKind.i64.wrap (IntKind.i64.wrap ((100 : Int) * (a1.getD (gi y0 1).toNat []).getD 0 (0 : Int)) + xbY a3 a2 a0))).tdiv
          (100 : Int)))
     else
      IntKind.i64.wrap
       ((IntKind.i64.wrap (IntKind.i64.wrap ((100 : Int) * (a1.getD (gi y0 1).toNat []).getD 0 (0 : Int)) + xbY a3 a2 a0)).tdiv (100 : Int)),
     IntKind.i64.wrap
      ((0 : Int) -
       bif
         decide
          (IntKind.i64.wrap
            ((0 : Int) - IntKind.i64.wrap (IntKind.i64.wrap ((100 : Int) * (a1.getD (gi y0 1).toNat []).getD 1 (0 : Int)) + xbX a3 a2 a0)) <
           (0 : Int)) then
        IntKind.i64.wrap
         ((0 : Int) -
          IntKind.i64.wrap
           ((IntKind.i64.wrap
              ((99 : Int) -
               IntKind.i64.wrap
                ((0 : Int) -
                 IntKind.i64.wrap (IntKind.i64.wrap ((100 : Int) * (a1.getD (gi y0 1).toNat []).getD 1 (0 : Int)) + xbX a3 a2 a0)))).tdiv
            (100 : Int)))
       else
        IntKind.i64.wrap
         ((IntKind.i64.wrap
            ((0 : Int) - IntKind.i64.wrap (IntKind.i64.wrap ((100 : Int) * (a1.getD (gi y0 1).toNat []).getD 1 (0 : Int)) + xbX a3 a2 a0))).tdiv
          (100 : Int))),
     bif decide (IntKind.i64.wrap (IntKind.i64.wrap ((100 : Int) * (a1.getD (gi y0 1).toNat []).getD 2 (0 : Int)) + xbW a3 a2 a0) < (0 : Int)) then
      IntKind.i64.wrap
       ((0 : Int) -
        IntKind.i64.wrap
         ((IntKind.i64.wrap
            ((99 : Int) - IntKind.i64.wrap (IntKind.i64.wrap ((100 : Int) * (a1.getD (gi y0 1).toNat []).getD 2 (0 : Int)) + xbW a3 a2 a0))).tdiv
          (100 : Int)))
     else
      IntKind.i64.wrap
       ((IntKind.i64.wrap (IntKind.i64.wrap ((100 : Int) * (a1.getD (gi y0 1).toNat []).getD 2 (0 : Int)) + xbW a3 a2 a0)).tdiv (100 : Int)),
     IntKind.i64.wrap
      ((0 : Int) -
       bif
         decide
          (IntKind.i64.wrap
            ((0 : Int) - IntKind.i64.wrap (IntKind.i64.wrap ((100 : Int) * (a1.getD (gi y0 1).toNat []).getD 3 (0 : Int)) + xbV a3 a2 a0)) <
           (0 : Int)) then
        IntKind.i64.wrap
         ((0 : Int) -
          IntKind.i64.wrap
           ((IntKind.i64.wrap
              ((99 : Int) -
               IntKind.i64.wrap
                ((0 : Int) -
                 IntKind.i64.wrap (IntKind.i64.wrap ((100 : Int) * (a1.getD (gi y0 1).toNat []).getD 3 (0 : Int)) + xbV a3 a2 a0)))).tdiv
            (100 : Int)))
       else
        IntKind.i64.wrap
         ((IntKind.i64.wrap
            ((0 : Int) - IntKind.i64.wrap (IntKind.i64.wrap ((100 : Int) * (a1.getD (gi y0 1).toNat []).getD 3 (0 : Int)) + xbV a3 a2 a0))).tdiv
          (100 : Int)))]].length)) (some (0, [.i (gi y0 0), .i (IntKind.i64.wrap (gi y0 1 + (1 : Int))), .r (gr y0 2 ++
 [[bif decide (IntKind.i64.wrap (IntKind.i64.wrap ((100 : Int) * (a1.getD (gi y0 1).toNat []).getD 0 (0 : Int)) + xbY a3 a2 a0) < (0 : Int)) then
    IntKind.i64.wrap
     ((0 : Int) -
      IntKind.i64.wrap
       ((IntKind.i64.wrap
          ((99 : Int) - IntKind.i64.wrap (IntKind.i64.wrap ((100 : Int) * (a1.getD (gi y0 1).toNat []).getD 0 (0 : Int)) + xbY a3 a2 a0))).tdiv
        (100 : Int)))
   else
    IntKind.i64.wrap ((IntKind.i64.wrap (IntKind.i64.wrap ((100 : Int) * (a1.getD (gi y0 1).toNat []).getD 0 (0 : Int)) + xbY a3 a2 a0)).tdiv (100 : Int)),
   IntKind.i64.wrap
    ((0 : Int) -
     bif
       decide
        (IntKind.i64.wrap
          ((0 : Int) - IntKind.i64.wrap (IntKind.i64.wrap ((100 : Int) * (a1.getD (gi y0 1).toNat []).getD 1 (0 : Int)) + xbX a3 a2 a0)) <
         (0 : Int)) then
      IntKind.i64.wrap
       ((0 : Int) -
        IntKind.i64.wrap
         ((IntKind.i64.wrap
            ((99 : Int) -
             IntKind.i64.wrap
              ((0 : Int) - IntKind.i64.wrap (IntKind.i64.wrap ((100 : Int) * (a1.getD (gi y0 1).toNat []).getD 1 (0 : Int)) + xbX a3 a2 a0)))).tdiv
          (100 : Int)))
     else
      IntKind.i64.wrap
       ((IntKind.i64.wrap
          ((0 : Int) - IntKind.i64.wrap (IntKind.i64.wrap ((100 : Int) * (a1.getD (gi y0 1).toNat []).getD 1 (0 : Int)) + xbX a3 a2 a0))).tdiv
        (100 : Int))),
   bif decide (IntKind.i64.wrap (IntKind.i64.wrap ((100 : Int) * (a1.getD (gi y0 1).toNat []).getD 2 (0 : Int)) + xbW a3 a2 a0) < (0 : Int)) then
    IntKind.i64.wrap
     ((0 : Int) -
      IntKind.i64.wrap
       ((IntKind.i64.wrap
          ((99 : Int) - IntKind.i64.wrap (IntKind.i64.wrap ((100 : Int) * (a1.getD (gi y0 1).toNat []).getD 2 (0 : Int)) + xbW a3 a2 a0))).tdiv
        (100 : Int)))
   else
    IntKind.i64.wrap ((IntKind.i64.wrap (IntKind.i64.wrap ((100 : Int) * (a1.getD (gi y0 1).toNat []).getD 2 (0 : Int)) + xbW a3 a2 a0)).tdiv (100 : Int)),
   IntKind.i64.wrap
    ((0 : Int) -
     bif
       decide
        (IntKind.i64.wrap
          ((0 : Int) - IntKind.i64.wrap (IntKind.i64.wrap ((100 : Int) * (a1.getD (gi y0 1).toNat []).getD 3 (0 : Int)) + xbV a3 a2 a0)) <
         (0 : Int)) then
      IntKind.i64.wrap
       ((0 : Int) -
        IntKind.i64.wrap
         ((IntKind.i64.wrap
            ((99 : Int) -
             IntKind.i64.wrap
              ((0 : Int) - IntKind.i64.wrap (IntKind.i64.wrap ((100 : Int) * (a1.getD (gi y0 1).toNat []).getD 3 (0 : Int)) + xbV a3 a2 a0)))).tdiv
          (100 : Int)))
     else
      IntKind.i64.wrap
       ((IntKind.i64.wrap
          ((0 : Int) - IntKind.i64.wrap (IntKind.i64.wrap ((100 : Int) * (a1.getD (gi y0 1).toNat []).getD 3 (0 : Int)) + xbV a3 a2 a0))).tdiv
        (100 : Int)))]])]))))))) else some (3, [.i (gi y0 0), .i (gi y0 1), .r (gr y0 2)]))
noncomputable def xh3 (a3 a2 : Int) (a1 a0 : List (List Int)) : Nat × List U := xaC (xdp a3 a2 a1 a0) (xh2 a3 a2 a1 a0)
noncomputable def xfy (a3 a2 : Int) (a1 a0 : List (List Int)) : List (List Int) :=
 bif !xbk a1 then [] else bif xee a3 a2 a0 != (0 : Int) then [] else bif (xh3 a3 a2 a1 a0).fst.beq 1 then [] else gr (xh3 a3 a2 a1 a0).snd 2
noncomputable def xhF (a3 a2 : Int) (a1 a0 : List (List Int)) : Int :=
 bif !xbk a1 then (1 : Int)
else bif xee a3 a2 a0 != (0 : Int) then xee a3 a2 a0 else bif (xh3 a3 a2 a1 a0).fst.beq 1 then (3 : Int) else (0 : Int)
def xgf (a3 a2 : Int) (a1 a0 : List (List Int)) : Prop :=
 ((xcJ a1) ∧ (((!xbk a1) = false) → ((xfK a3 a2 a0) ∧ (((xee a3 a2 a0 != (0 : Int)) = false) → ((xay (xdp a3 a2 a1 a0) (xh2 a3 a2 a1 a0)))))))
noncomputable def xl7 (b2 b3 : Int) (a1 : List (List Int)) : List U :=
 [.i ((0 : Int)), .i ((0 : Int))]
noncomputable def xfV (b2 b3 : Int) (a1 : List (List Int)) (y0 : List U) : Option (Nat × List U) :=
 (bif decide (gi y0 1 < (↑a1.length : Int)) then xab (inR (gi y0 1) a1) (xab (inR (gi y0 1) a1) ((bif xiI b2 b3 ((a1.getD (gi y0 1).toNat []).getD 0 (0 : Int)) ((a1.getD (gi y0 1).toNat []).getD 1 (0 : Int))
 ((a1.getD (gi y0 1).toNat []).getD 2 (0 : Int)) ((a1.getD (gi y0 1).toNat []).getD 3 (0 : Int)) then some (1, [.i (gi y0 1)]) else some (0, [.i (gi y0 0), .i (IntKind.i64.wrap (gi y0 1 + (1 : Int)))])))) else some (3, [.i (gi y0 0), .i (gi y0 1)]))
noncomputable def xlQ (b2 b3 : Int) (a1 : List (List Int)) : Nat × List U := xaC (xfV b2 b3 a1) (xl7 b2 b3 a1)
noncomputable def xlq (b2 b3 : Int) (a1 : List (List Int)) : Bool :=
 bif !xbk a1 || !xbH b2 b3 then false else decide ((bif (xlQ b2 b3 a1).fst.beq 1 then gi (xlQ b2 b3 a1).snd 0 else (-1 : Int)) ≥ (0 : Int))
noncomputable def xd2 (b2 b3 : Int) (a1 : List (List Int)) : Int :=
 bif !xbk a1 || !xbH b2 b3 then (1 : Int) else (0 : Int)
def xgP (b2 b3 : Int) (a1 : List (List Int)) : Prop :=
 ((xcJ a1) ∧ (((!xbk a1 || !xbH b2 b3) = false) → ((xay (xfV b2 b3 a1) (xl7 b2 b3 a1)))))
noncomputable def xlr (a4 a5 a6 a7 : Int) (a1 : List (List Int)) : List U :=
 [.i ((0 : Int)), .r ([])]
noncomputable def xft (a4 a5 a6 a7 : Int) (a1 : List (List Int)) (y0 : List U) : Option (Nat × List U) :=
 (bif decide (gi y0 0 < (↑a1.length : Int)) then xab (inR (gi y0 0) a1) (xab (inR (gi y0 0) a1) ((bif xfX ((a1.getD (gi y0 0).toNat []).getD 0 (0 : Int)) ((a1.getD (gi y0 0).toNat []).getD 1 (0 : Int))
  ((a1.getD (gi y0 0).toNat []).getD 2 (0 : Int)) ((a1.getD (gi y0 0).toNat []).getD 3 (0 : Int)) a4 a5 a6 a7 ==
 (0 : Int) then xab (xcI 32
 ((gr y0 1).length +
  [[xeP ((a1.getD (gi y0 0).toNat []).getD 0 (0 : Int)) ((a1.getD (gi y0 0).toNat []).getD 1 (0 : Int))
      ((a1.getD (gi y0 0).toNat []).getD 2 (0 : Int)) ((a1.getD (gi y0 0).toNat []).getD 3 (0 : Int)) a4 a5 a6 a7,
     xf0 ((a1.getD (gi y0 0).toNat []).getD 0 (0 : Int)) ((a1.getD (gi y0 0).toNat []).getD 1 (0 : Int))
      ((a1.getD (gi y0 0).toNat []).getD 2 (0 : Int)) ((a1.getD (gi y0 0).toNat []).getD 3 (0 : Int)) a4 a5 a6 a7,
     xfZ ((a1.getD (gi y0 0).toNat []).getD 0 (0 : Int)) ((a1.getD (gi y0 0).toNat []).getD 1 (0 : Int))
      ((a1.getD (gi y0 0).toNat []).getD 2 (0 : Int)) ((a1.getD (gi y0 0).toNat []).getD 3 (0 : Int)) a4 a5 a6 a7,
     xfY ((a1.getD (gi y0 0).toNat []).getD 0 (0 : Int)) ((a1.getD (gi y0 0).toNat []).getD 1 (0 : Int))
      ((a1.getD (gi y0 0).toNat []).getD 2 (0 : Int)) ((a1.getD (gi y0 0).toNat []).getD 3 (0 : Int)) a4 a5 a6 a7]].length)) (some (0, [.i (IntKind.i64.wrap (gi y0 0 + (1 : Int))), .r (gr y0 1 ++
 [[xeP ((a1.getD (gi y0 0).toNat []).getD 0 (0 : Int)) ((a1.getD (gi y0 0).toNat []).getD 1 (0 : Int))
    ((a1.getD (gi y0 0).toNat []).getD 2 (0 : Int)) ((a1.getD (gi y0 0).toNat []).getD 3 (0 : Int)) a4 a5 a6 a7,
   xf0 ((a1.getD (gi y0 0).toNat []).getD 0 (0 : Int)) ((a1.getD (gi y0 0).toNat []).getD 1 (0 : Int))
    ((a1.getD (gi y0 0).toNat []).getD 2 (0 : Int)) ((a1.getD (gi y0 0).toNat []).getD 3 (0 : Int)) a4 a5 a6 a7,
   xfZ ((a1.getD (gi y0 0).toNat []).getD 0 (0 : Int)) ((a1.getD (gi y0 0).toNat []).getD 1 (0 : Int))
    ((a1.getD (gi y0 0).toNat []).getD 2 (0 : Int)) ((a1.getD (gi y0 0).toNat []).getD 3 (0 : Int)) a4 a5 a6 a7,
   xfY ((a1.getD (gi y0 0).toNat []).getD 0 (0 : Int)) ((a1.getD (gi y0 0).toNat []).getD 1 (0 : Int))
    ((a1.getD (gi y0 0).toNat []).getD 2 (0 : Int)) ((a1.getD (gi y0 0).toNat []).getD 3 (0 : Int)) a4 a5 a6 a7]])])) else some (0, [.i (IntKind.i64.wrap (gi y0 0 + (1 : Int))), .r (gr y0 1)])))) else some (3, [.i (gi y0 0), .r (gr y0 1)]))
noncomputable def xkz (a4 a5 a6 a7 : Int) (a1 : List (List Int)) : Nat × List U := xaC (xft a4 a5 a6 a7 a1) (xlr a4 a5 a6 a7 a1)
noncomputable def xj1 (a4 a5 a6 a7 : Int) (a1 : List (List Int)) : List (List Int) :=
 bif !xbk a1 || !xac a4 a5 a6 a7 then []
else bif (↑(gr (xkz a4 a5 a6 a7 a1).snd 1).length : Int) == (0 : Int) then [] else gr (xkz a4 a5 a6 a7 a1).snd 1
noncomputable def xj0 (a4 a5 a6 a7 : Int) (a1 : List (List Int)) : Int :=
 bif !xbk a1 || !xac a4 a5 a6 a7 then (1 : Int) else bif (↑(gr (xkz a4 a5 a6 a7 a1).snd 1).length : Int) == (0 : Int) then (4 : Int) else (0 : Int)
def xg4 (a4 a5 a6 a7 : Int) (a1 : List (List Int)) : Prop :=
 ((xcJ a1) ∧ (((!xbk a1 || !xac a4 a5 a6 a7) = false) → ((xay (xft a4 a5 a6 a7 a1) (xlr a4 a5 a6 a7 a1)))))
end Go.Proofs.YtnijhjpaplihbaaGreat
