/- Written by program (wip/sygen.py): what the Go functions compute, as the executor reads it off their code. -/
import Derived.Test.YtnijhjpaplihbaaGreatSyD
import Derived.Test.YtnijhjpaplihbaaGreatDrift1D
set_option maxRecDepth 100000
set_option linter.unusedVariables false
namespace Go.Proofs.YtnijhjpaplihbaaGreat
open Go Go.Sy
noncomputable def xko (a b : List (List Int)) : List U :=
 [.b (false), .i ((0 : Int))]
noncomputable def xew (a b : List (List Int)) (y0 : List U) : Option (Nat × List U) :=
 (bif decide (gi y0 1 < (↑a.length : Int)) then xab (inR (gi y0 1) a) (xab (inR (gi y0 1) a) (xab (inR (gi y0 1) b) (xab (inR (gi y0 1) b) ((bif (a.getD (gi y0 1).toNat []).getD 0 (0 : Int) != (b.getD (gi y0 1).toNat []).getD 0 (0 : Int) then some (1, []) else some (0, [.b (gb y0 0), .i (IntKind.i64.wrap (gi y0 1 + (1 : Int)))])))))) else some (3, [.b (gb y0 0), .i (gi y0 1)]))
noncomputable def xlG (a b : List (List Int)) : Nat × List U := xaC (xew a b) (xko a b)
noncomputable def xbe (a b : List (List Int)) : Bool :=
 bif (↑a.length : Int) != (↑b.length : Int) then false else bif (xlG a b).fst.beq 1 then false else true
def xb7 (a b : List (List Int)) : Prop :=
 ((((↑a.length : Int) != (↑b.length : Int)) = false) → ((xay (xew a b) (xko a b))))
noncomputable def xfJ (c2 c3 : Int) : Bool :=
 decide (imax c2 c3 ≤ (1000000 : Int)) && decide (imin c2 c3 ≥ (-1000000 : Int))
noncomputable def xlz (b4 b5 : Int) : Int :=
 bif !xaw b4 b5 then (0 : Int) else b4
noncomputable def xly (b4 b5 : Int) : Int :=
 bif !xaw b4 b5 then (0 : Int) else b5
noncomputable def xlx (b4 b5 : Int) : Int :=
 bif !xaw b4 b5 then (3 : Int) else (0 : Int)
noncomputable def xek (b4 b5 c4 c5 : Int) : Int :=
 bif !xaw b4 b5 || !xaw c4 c5 then (0 : Int) else xlz (IntKind.i64.wrap (b4 - c5)) (IntKind.i64.wrap (b5 - c4))
noncomputable def xej (b4 b5 c4 c5 : Int) : Int :=
 bif !xaw b4 b5 || !xaw c4 c5 then (0 : Int) else xly (IntKind.i64.wrap (b4 - c5)) (IntKind.i64.wrap (b5 - c4))
noncomputable def xjv (b4 b5 c4 c5 : Int) : Int :=
 bif !xaw b4 b5 || !xaw c4 c5 then (1 : Int) else xlx (IntKind.i64.wrap (b4 - c5)) (IntKind.i64.wrap (b5 - c4))
noncomputable def xfa (n : Int) : Bool :=
 decide (n ≥ (1 : Int)) && decide (n ≤ (100000 : Int))
noncomputable def xcU (c2 c3 : Int) : Bool :=
 decide (imax c2 c3 ≤ (1000000 : Int)) && decide (imin c2 c3 ≥ (-1000000 : Int))
noncomputable def xa7 (d d0 d1 d2 : Int) : Int :=
 IntKind.i64.wrap (IntKind.i64.wrap (d * d2) - IntKind.i64.wrap (d0 * d1))
noncomputable def xa8 (b2 a8 b1 b3 a1 a2 a3 a4 a5 a6 a9 b0 a7 : Int) : Bool :=
 bif
  !xfa b2 || !xfa a8 || !xfa b3 || decide (b1 < (0 : Int)) || decide (b1 > (10000000 : Int)) || decide (a7 < (0 : Int)) ||
   decide (a7 > (1000000 : Int)) then
 false
else
 xac a1 a2 a3 a4 && xcU a5 a6 && xcU a9 b0 &&
  decide (xa7 a5 a6 a9 b0 > (0 : Int))
noncomputable def xem (b4 b5 c c8 c9 : Int) : Int :=
 bif decide (imin c c8 < (0 : Int)) then
 bif decide (imax c c8 > (0 : Int)) then imax (IntKind.i64.wrap (b4 - c9)) (-1000000 : Int) else imax (IntKind.i64.wrap (b4 - c9)) (-1000000 : Int)
else bif decide (imax c c8 > (0 : Int)) then b4 else b4
noncomputable def xel (b4 b5 c c8 c9 : Int) : Int :=
 bif decide (imin c c8 < (0 : Int)) then bif decide (imax c c8 > (0 : Int)) then imin (IntKind.i64.wrap (b5 + c9)) (1000000 : Int) else b5
else bif decide (imax c c8 > (0 : Int)) then imin (IntKind.i64.wrap (b5 + c9)) (1000000 : Int) else b5
noncomputable def xeU (b2 a8 b1 b3 a1 a2 a3 a4 a5 a6 a9 b0 a7 : Int) : Int :=
 bif !xa8 b2 a8 b1 b3 a1 a2 a3 a4 a5 a6 a9 b0 a7 then (0 : Int)
else xem a1 a2 a5 a9 a7
noncomputable def xeT (b2 a8 b1 b3 a1 a2 a3 a4 a5 a6 a9 b0 a7 : Int) : Int :=
 bif !xa8 b2 a8 b1 b3 a1 a2 a3 a4 a5 a6 a9 b0 a7 then (0 : Int)
else xel a1 a2 a5 a9 a7
noncomputable def xeS (b2 a8 b1 b3 a1 a2 a3 a4 a5 a6 a9 b0 a7 : Int) : Int :=
 bif !xa8 b2 a8 b1 b3 a1 a2 a3 a4 a5 a6 a9 b0 a7 then (0 : Int)
else xem a3 a4 a6 b0 a7
noncomputable def xeR (b2 a8 b1 b3 a1 a2 a3 a4 a5 a6 a9 b0 a7 : Int) : Int :=
 bif !xa8 b2 a8 b1 b3 a1 a2 a3 a4 a5 a6 a9 b0 a7 then (0 : Int)
else xel a3 a4 a6 b0 a7
noncomputable def xeQ (b2 a8 b1 b3 a1 a2 a3 a4 a5 a6 a9 b0 a7 : Int) : Int :=
 bif !xa8 b2 a8 b1 b3 a1 a2 a3 a4 a5 a6 a9 b0 a7 then (1 : Int) else (0 : Int)
noncomputable def xfR (b4 b5 c c8 : Int) : Bool :=
 (decide (b4 ≤ (0 : Int)) || decide (c > (0 : Int)) || decide (c8 > (0 : Int))) && (decide (b5 ≥ (0 : Int)) || decide (c < (0 : Int)) || decide (c8 < (0 : Int)))
noncomputable def xde (c0 c1 c6 c7 b6 b7 b8 b9 : Int) : Bool :=
 (xfR b6 b7 c0 c6 && xfR b8 b9 c1 c7 &&
  bif decide (xa7 c0 c1 b6 b8 ≥ (0 : Int)) then true
  else
   bif decide (xa7 c0 c1 b6 b9 ≥ (0 : Int)) then true
   else bif decide (xa7 c0 c1 b7 b8 ≥ (0 : Int)) then true else bif decide (xa7 c0 c1 b7 b9 ≥ (0 : Int)) then true else false) &&
 bif decide (xa7 b6 b8 c6 c7 ≥ (0 : Int)) then true
 else
  bif decide (xa7 b6 b9 c6 c7 ≥ (0 : Int)) then true
  else bif decide (xa7 b7 b8 c6 c7 ≥ (0 : Int)) then true else bif decide (xa7 b7 b9 c6 c7 ≥ (0 : Int)) then true else false
noncomputable def xgA (b2 a8 b1 b3 a1 a2 a3 a4 a5 a6 a9 b0 a7 b6 b7 b8 b9 : Int) : Bool :=
 xa5 (xek b6 b7 a1 a2) (xej b6 b7 a1 a2) (IntKind.i64.wrap ((0 : Int) - a7)) a7 == (0 : Int) &&
  xa5 (xek b8 b9 a3 a4) (xej b8 b9 a3 a4) (IntKind.i64.wrap ((0 : Int) - a7)) a7 == (0 : Int) &&
 xde a5 a6 a9 b0
  (xdD (xek b6 b7 a1 a2) (xej b6 b7 a1 a2) (IntKind.i64.wrap ((0 : Int) - a7)) a7)
  (xdC (xek b6 b7 a1 a2) (xej b6 b7 a1 a2) (IntKind.i64.wrap ((0 : Int) - a7)) a7)
  (xdD (xek b8 b9 a3 a4) (xej b8 b9 a3 a4) (IntKind.i64.wrap ((0 : Int) - a7)) a7)
  (xdC (xek b8 b9 a3 a4) (xej b8 b9 a3 a4) (IntKind.i64.wrap ((0 : Int) - a7)) a7)
noncomputable def xdY (b2 a8 b1 b3 a1 a2 a3 a4 a5 a6 a9 b0 a7 c2 c3 : Int) : Bool :=
 bif !xa8 b2 a8 b1 b3 a1 a2 a3 a4 a5 a6 a9 b0 a7 || !xfJ c2 c3 then false
else xgA b2 a8 b1 b3 a1 a2 a3 a4 a5 a6 a9 b0 a7 c2 c2 c3 c3
noncomputable def xfc (b2 a8 b1 b3 a1 a2 a3 a4 a5 a6 a9 b0 a7 c2 c3 : Int) : Int :=
 bif !xa8 b2 a8 b1 b3 a1 a2 a3 a4 a5 a6 a9 b0 a7 || !xfJ c2 c3 then (1 : Int) else (0 : Int)
noncomputable def xih (a0 : List (List Int)) : List U :=
 [.i ((0 : Int)), .i ((0 : Int))]
noncomputable def xcT (a0 : List (List Int)) (y0 : List U) : Option (Nat × List U) :=
 (bif decide (gi y0 1 < (↑a0.length : Int)) then xab (inR (gi y0 1) a0) (xab (inR (gi y0 1) a0) ((bif !xa8 ((a0.getD (gi y0 1).toNat []).getD 0 (0 : Int)) ((a0.getD (gi y0 1).toNat []).getD 1 (0 : Int))
  ((a0.getD (gi y0 1).toNat []).getD 2 (0 : Int)) ((a0.getD (gi y0 1).toNat []).getD 3 (0 : Int))
  ((a0.getD (gi y0 1).toNat []).getD 4 (0 : Int)) ((a0.getD (gi y0 1).toNat []).getD 5 (0 : Int))
  ((a0.getD (gi y0 1).toNat []).getD 6 (0 : Int)) ((a0.getD (gi y0 1).toNat []).getD 7 (0 : Int))
  ((a0.getD (gi y0 1).toNat []).getD 8 (0 : Int)) ((a0.getD (gi y0 1).toNat []).getD 9 (0 : Int))
  ((a0.getD (gi y0 1).toNat []).getD 10 (0 : Int)) ((a0.getD (gi y0 1).toNat []).getD 11 (0 : Int))
  ((a0.getD (gi y0 1).toNat []).getD 12 (0 : Int)) then some (1, [.i (gi y0 1)]) else some (0, [.i (gi y0 0), .i (IntKind.i64.wrap (gi y0 1 + (1 : Int)))])))) else some (3, [.i (gi y0 0), .i (gi y0 1)]))
noncomputable def xgQ (a0 : List (List Int)) : Nat × List U := xaC (xcT a0) (xih a0)
noncomputable def xaq (a0 : List (List Int)) : Bool :=
 decide ((↑a0.length : Int) ≤ (60 : Int)) && !decide ((bif (xgQ a0).fst.beq 1 then gi (xgQ a0).snd 0 else (-1 : Int)) ≥ (0 : Int))
def xdm (a0 : List (List Int)) : Prop :=
 ((decide ((↑a0.length : Int) ≤ (60 : Int)) = true) → ((xay (xcT a0) (xih a0))))
noncomputable def xgg (a0 : List (List Int)) : List U :=
 [.i ((0 : Int)), .r ([]), .r ([]), .r ([])]
noncomputable def xb4 (a0 : List (List Int)) (y0 : List U) : Option (Nat × List U) :=
 (bif decide (gi y0 0 < (↑a0.length : Int)) then xab (inR (gi y0 0) a0) (xab (inR (gi y0 0) a0) (xab (xqC IntKind.i64 [(a0.getD (gi y0 0).toNat []).getD 0 (0 : Int), (a0.getD (gi y0 0).toNat []).getD 1 (0 : Int)]) ((bif !(xc5 2 [(a0.getD (gi y0 0).toNat []).getD 0 (0 : Int), (a0.getD (gi y0 0).toNat []).getD 1 (0 : Int)] (gr y0 1)).isSome then xab (xqC IntKind.i64 [(a0.getD (gi y0 0).toNat []).getD 0 (0 : Int), (a0.getD (gi y0 0).toNat []).getD 1 (0 : Int)]) (xab (xcI 104
 ((gr y0 2).length +
  [[(a0.getD (gi y0 0).toNat []).getD 0 (0 : Int), (a0.getD (gi y0 0).toNat []).getD 1 (0 : Int), (a0.getD (gi y0 0).toNat []).getD 2 (0 : Int),
     (a0.getD (gi y0 0).toNat []).getD 3 (0 : Int), (a0.getD (gi y0 0).toNat []).getD 4 (0 : Int),
     (a0.getD (gi y0 0).toNat []).getD 5 (0 : Int), (a0.getD (gi y0 0).toNat []).getD 6 (0 : Int),
     (a0.getD (gi y0 0).toNat []).getD 7 (0 : Int), (a0.getD (gi y0 0).toNat []).getD 8 (0 : Int),
     (a0.getD (gi y0 0).toNat []).getD 9 (0 : Int), (a0.getD (gi y0 0).toNat []).getD 10 (0 : Int),
     (a0.getD (gi y0 0).toNat []).getD 11 (0 : Int), (a0.getD (gi y0 0).toNat []).getD 12 (0 : Int)]].length)) (some (0, [.i (IntKind.i64.wrap (gi y0 0 + (1 : Int))), .r (xl4 2 [(a0.getD (gi y0 0).toNat []).getD 0 (0 : Int), (a0.getD (gi y0 0).toNat []).getD 1 (0 : Int)]
 [(a0.getD (gi y0 0).toNat []).getD 0 (0 : Int), (a0.getD (gi y0 0).toNat []).getD 1 (0 : Int), (a0.getD (gi y0 0).toNat []).getD 2 (0 : Int),
  (a0.getD (gi y0 0).toNat []).getD 3 (0 : Int), (a0.getD (gi y0 0).toNat []).getD 4 (0 : Int), (a0.getD (gi y0 0).toNat []).getD 5 (0 : Int),
  (a0.getD (gi y0 0).toNat []).getD 6 (0 : Int), (a0.getD (gi y0 0).toNat []).getD 7 (0 : Int), (a0.getD (gi y0 0).toNat []).getD 8 (0 : Int),
  (a0.getD (gi y0 0).toNat []).getD 9 (0 : Int), (a0.getD (gi y0 0).toNat []).getD 10 (0 : Int), (a0.getD (gi y0 0).toNat []).getD 11 (0 : Int),
  (a0.getD (gi y0 0).toNat []).getD 12 (0 : Int)]
 (gr y0 1)), .r (gr y0 2 ++
 [[(a0.getD (gi y0 0).toNat []).getD 0 (0 : Int), (a0.getD (gi y0 0).toNat []).getD 1 (0 : Int), (a0.getD (gi y0 0).toNat []).getD 2 (0 : Int),
   (a0.getD (gi y0 0).toNat []).getD 3 (0 : Int), (a0.getD (gi y0 0).toNat []).getD 4 (0 : Int), (a0.getD (gi y0 0).toNat []).getD 5 (0 : Int),
   (a0.getD (gi y0 0).toNat []).getD 6 (0 : Int), (a0.getD (gi y0 0).toNat []).getD 7 (0 : Int), (a0.getD (gi y0 0).toNat []).getD 8 (0 : Int),
   (a0.getD (gi y0 0).toNat []).getD 9 (0 : Int), (a0.getD (gi y0 0).toNat []).getD 10 (0 : Int),
   (a0.getD (gi y0 0).toNat []).getD 11 (0 : Int), (a0.getD (gi y0 0).toNat []).getD 12 (0 : Int)]]), .r (gr y0 3)]))) else (bif !(((xc5 2 [(a0.getD (gi y0 0).toNat []).getD 0 (0 : Int), (a0.getD (gi y0 0).toNat []).getD 1 (0 : Int)] (gr y0 1)).getD
      [(0 : Int), (0 : Int), (0 : Int), (0 : Int), (0 : Int), (0 : Int), (0 : Int), (0 : Int), (0 : Int), (0 : Int), (0 : Int), (0 : Int), (0 : Int)]).getD
    0 (0 : Int) ==
   (a0.getD (gi y0 0).toNat []).getD 0 (0 : Int) &&
  (((xc5 2 [(a0.getD (gi y0 0).toNat []).getD 0 (0 : Int), (a0.getD (gi y0 0).toNat []).getD 1 (0 : Int)] (gr y0 1)).getD
       [(0 : Int), (0 : Int), (0 : Int), (0 : Int), (0 : Int), (0 : Int), (0 : Int), (0 : Int), (0 : Int), (0 : Int), (0 : Int), (0 : Int), (0 : Int)]).getD
     1 (0 : Int) ==
    (a0.getD (gi y0 0).toNat []).getD 1 (0 : Int) &&
   (((xc5 2 [(a0.getD (gi y0 0).toNat []).getD 0 (0 : Int), (a0.getD (gi y0 0).toNat []).getD 1 (0 : Int)] (gr y0 1)).getD
        [(0 : Int), (0 : Int), (0 : Int), (0 : Int), (0 : Int), (0 : Int), (0 : Int), (0 : Int), (0 : Int), (0 : Int), (0 : Int), (0 : Int), (0 : Int)]).getD
      2 (0 : Int) ==
     (a0.getD (gi y0 0).toNat []).getD 2 (0 : Int) &&
    (((xc5 2 [(a0.getD (gi y0 0).toNat []).getD 0 (0 : Int), (a0.getD (gi y0 0).toNat []).getD 1 (0 : Int)] (gr y0 1)).getD
         [(0 : Int), (0 : Int), (0 : Int), (0 : Int), (0 : Int), (0 : Int), (0 : Int), (0 : Int), (0 : Int), (0 : Int), (0 : Int), (0 : Int), (0 : Int)]).getD
       3 (0 : Int) ==
      (a0.getD (gi y0 0).toNat []).getD 3 (0 : Int) &&
     (((xc5 2 [(a0.getD (gi y0 0).toNat []).getD 0 (0 : Int), (a0.getD (gi y0 0).toNat []).getD 1 (0 : Int)] (gr y0 1)).getD
            [(0 : Int), (0 : Int), (0 : Int), (0 : Int), (0 : Int), (0 : Int), (0 : Int), (0 : Int), (0 : Int), (0 : Int), (0 : Int), (0 : Int), (0 : Int)]).getD
          4 (0 : Int) ==
         (a0.getD (gi y0 0).toNat []).getD 4 (0 : Int) &&
        (((xc5 2 [(a0.getD (gi y0 0).toNat []).getD 0 (0 : Int), (a0.getD (gi y0 0).toNat []).getD 1 (0 : Int)] (gr y0 1)).getD
             [(0 : Int), (0 : Int), (0 : Int), (0 : Int), (0 : Int), (0 : Int), (0 : Int), (0 : Int), (0 : Int), (0 : Int), (0 : Int), (0 : Int), (0 : Int)]).getD
           5 (0 : Int) ==
          (a0.getD (gi y0 0).toNat []).getD 5 (0 : Int) &&
         true) &&
       (((xc5 2 [(a0.getD (gi y0 0).toNat []).getD 0 (0 : Int), (a0.getD (gi y0 0).toNat []).getD 1 (0 : Int)] (gr y0 1)).getD
             [(0 : Int), (0 : Int), (0 : Int), (0 : Int), (0 : Int), (0 : Int), (0 : Int), (0 : Int), (0 : Int), (0 : Int), (0 : Int), (0 : Int), (0 : Int)]).getD
           6 (0 : Int) ==
          (a0.getD (gi y0 0).toNat []).getD 6 (0 : Int) &&
         (((xc5 2 [(a0.getD (gi y0 0).toNat []).getD 0 (0 : Int), (a0.getD (gi y0 0).toNat []).getD 1 (0 : Int)] (gr y0 1)).getD
              [(0 : Int), (0 : Int), (0 : Int), (0 : Int), (0 : Int), (0 : Int), (0 : Int), (0 : Int), (0 : Int), (0 : Int), (0 : Int), (0 : Int), (0 : Int)]).getD
            7 (0 : Int) ==
           (a0.getD (gi y0 0).toNat []).getD 7 (0 : Int) &&
          true) &&
        true) &&
      (((xc5 2 [(a0.getD (gi y0 0).toNat []).getD 0 (0 : Int), (a0.getD (gi y0 0).toNat []).getD 1 (0 : Int)] (gr y0 1)).getD
            [(0 : Int), (0 : Int), (0 : Int), (0 : Int), (0 : Int), (0 : Int), (0 : Int), (0 : Int), (0 : Int), (0 : Int), (0 : Int), (0 : Int), (0 : Int)]).getD
          8 (0 : Int) ==
         (a0.getD (gi y0 0).toNat []).getD 8 (0 : Int) &&
        (((xc5 2 [(a0.getD (gi y0 0).toNat []).getD 0 (0 : Int), (a0.getD (gi y0 0).toNat []).getD 1 (0 : Int)] (gr y0 1)).getD
             [(0 : Int), (0 : Int), (0 : Int), (0 : Int), (0 : Int), (0 : Int), (0 : Int), (0 : Int), (0 : Int), (0 : Int), (0 : Int), (0 : Int), (0 : Int)]).getD
           9 (0 : Int) ==
          (a0.getD (gi y0 0).toNat []).getD 9 (0 : Int) &&
         true) &&
       (((xc5 2 [(a0.getD (gi y0 0).toNat []).getD 0 (0 : Int), (a0.getD (gi y0 0).toNat []).getD 1 (0 : Int)] (gr y0 1)).getD
             [(0 : Int), (0 : Int), (0 : Int), (0 : Int), (0 : Int), (0 : Int), (0 : Int), (0 : Int), (0 : Int), (0 : Int), (0 : Int), (0 : Int), (0 : Int)]).getD
           10 (0 : Int) ==
          (a0.getD (gi y0 0).toNat []).getD 10 (0 : Int) &&
         (((xc5 2 [(a0.getD (gi y0 0).toNat []).getD 0 (0 : Int), (a0.getD (gi y0 0).toNat []).getD 1 (0 : Int)] (gr y0 1)).getD
              [(0 : Int), (0 : Int), (0 : Int), (0 : Int), (0 : Int), (0 : Int), (0 : Int), (0 : Int), (0 : Int), (0 : Int), (0 : Int), (0 : Int), (0 : Int)]).getD
            11 (0 : Int) ==
           (a0.getD (gi y0 0).toNat []).getD 11 (0 : Int) &&
          true) &&
        (((xc5 2 [(a0.getD (gi y0 0).toNat []).getD 0 (0 : Int), (a0.getD (gi y0 0).toNat []).getD 1 (0 : Int)] (gr y0 1)).getD
             [(0 : Int), (0 : Int), (0 : Int), (0 : Int), (0 : Int), (0 : Int), (0 : Int), (0 : Int), (0 : Int), (0 : Int), (0 : Int), (0 : Int), (0 : Int)]).getD
           12 (0 : Int) ==
          (a0.getD (gi y0 0).toNat []).getD 12 (0 : Int) &&
         true)))))))) then xab (xcI 8 ((gr y0 3).length + [[gi y0 0]].length)) (some (0, [.i (IntKind.i64.wrap (gi y0 0 + (1 : Int))), .r (gr y0 1), .r (gr y0 2), .r (gr y0 3 ++ [[gi y0 0]])])) else some (0, [.i (IntKind.i64.wrap (gi y0 0 + (1 : Int))), .r (gr y0 1), .r (gr y0 2), .r (gr y0 3)])))))) else some (4, [.i (gi y0 0), .r (gr y0 1), .r (gr y0 2), .r (gr y0 3)]))
noncomputable def xfb (a0 : List (List Int)) : Nat × List U := xaC (xb4 a0) (xgg a0)
noncomputable def xa9 (a0 : List (List Int)) : List (List Int) :=
 bif !xaq a0 then [] else gr (xfb a0).snd 2
noncomputable def xhm (a0 : List (List Int)) : List (List Int) :=
 bif !xaq a0 then [] else gr (xfb a0).snd 3
noncomputable def xcO (a0 : List (List Int)) : Int :=
 bif !xaq a0 then (1 : Int) else (0 : Int)
def xdn (a0 : List (List Int)) : Prop :=
 ((xdm a0) ∧ (((!xaq a0) = false) → ((xay (xb4 a0) (xgg a0)))))
noncomputable def xcD (s : List (List Int)) : List (List Int) :=
 [] ++ s
def xbA (s : List (List Int)) : Prop :=
 (((s = []) → ((True) ∧ (([] ++ s = []) ∧ (True)))) ∧ (xcI 8 (0 + s.length)))
end Go.Proofs.YtnijhjpaplihbaaGreat
