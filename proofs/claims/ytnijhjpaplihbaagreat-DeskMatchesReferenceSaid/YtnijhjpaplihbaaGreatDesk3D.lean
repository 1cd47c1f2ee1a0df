/- Several texts in one (wip/xiS.py): XDesk2D XDesk3D. -/
import Derived.Test.YtnijhjpaplihbaaGreatDesk1D
import Derived.Test.YtnijhjpaplihbaaGreatDeskS
set_option maxRecDepth 100000
set_option linter.unusedVariables false
namespace Go.Proofs.YtnijhjpaplihbaaGreat
open Go Go.Sy
noncomputable def xcR (s_from most : Int) (s_base s_forecast s_reports : List (List Int)) (y0 : List U) : List U :=
 [.i ((0 : Int)), .i (gi y0 1), .r (gr y0 2), .r (gr y0 3)]
noncomputable def xbs (s_from most : Int) (s_base s_forecast s_reports : List (List Int)) (y0 : List U) (y1 : List U) : Option (Nat × List U) :=
 (bif decide (gi y1 0 < (↑(xaB s_reports.length (gi y0 0)).length : Int)) then xab (xbg s_from s_base s_forecast s_reports ((xaB s_reports.length (gi y0 0)).getD (gi y1 0).toNat [])) ((bif xaG s_from s_base s_forecast s_reports ((xaB s_reports.length (gi y0 0)).getD (gi y1 0).toNat []) != (18 : Int) then some (1, [.i (gi y1 0), .i (xaG s_from s_base s_forecast s_reports ((xaB s_reports.length (gi y0 0)).getD (gi y1 0).toNat [])), .r (xbp s_from s_base s_forecast s_reports ((xaB s_reports.length (gi y0 0)).getD (gi y1 0).toNat [])), .r ((xaB s_reports.length (gi y0 0)).getD (gi y1 0).toNat [])]) else some (0, [.i (gi y1 0 + (1 : Int)), .i (xaG s_from s_base s_forecast s_reports ((xaB s_reports.length (gi y0 0)).getD (gi y1 0).toNat [])), .r (xbp s_from s_base s_forecast s_reports ((xaB s_reports.length (gi y0 0)).getD (gi y1 0).toNat [])), .r ((xaB s_reports.length (gi y0 0)).getD (gi y1 0).toNat [])]))) else some (3, [.i (gi y1 0), .i (gi y1 1), .r (gr y1 2), .r (gr y1 3)]))
noncomputable def xaH (s_from most : Int) (s_base s_forecast s_reports : List (List Int)) (y0 : List U) : Nat × List U := xaC (xbs s_from most s_base s_forecast s_reports y0) (xcR s_from most s_base s_forecast s_reports y0)
noncomputable def xeh (s_from most : Int) (s_base s_forecast s_reports : List (List Int)) : List U :=
 [.i ((0 : Int)), .i ((18 : Int)), .r ([]), .r ([])]
noncomputable def xbt (s_from most : Int) (s_base s_forecast s_reports : List (List Int)) (y0 : List U) : Option (Nat × List U) :=
 (bif decide (gi y0 0 ≤ most) then xab ((((0 : Int) ≤ gi y0 0) ∧ (gi y0 0 ≤ (1000000 : Int))) ∧ ((↑s_reports.length : Int) ≤ (1000000 : Int))) (xab ((xay (xbs s_from most s_base s_forecast s_reports y0) (xcR s_from most s_base s_forecast s_reports y0))) ((bif (xaH s_from most s_base s_forecast s_reports y0).fst.beq 1 then some (1, [.i (gi y0 0), .i (gi (xaH s_from most s_base s_forecast s_reports y0).snd 1), .r (gr (xaH s_from most s_base s_forecast s_reports y0).snd 2), .r (gr (xaH s_from most s_base s_forecast s_reports y0).snd 3)]) else some (0, [.i (IntKind.i64.wrap (gi y0 0 + (1 : Int))), .i (gi (xaH s_from most s_base s_forecast s_reports y0).snd 1), .r (gr (xaH s_from most s_base s_forecast s_reports y0).snd 2), .r (gr (xaH s_from most s_base s_forecast s_reports y0).snd 3)])))) else some (3, [.i (gi y0 0), .i (gi y0 1), .r (gr y0 2), .r (gr y0 3)]))
noncomputable def xam (s_from most : Int) (s_base s_forecast s_reports : List (List Int)) : Nat × List U := xaC (xbt s_from most s_base s_forecast s_reports) (xeh s_from most s_base s_forecast s_reports)
noncomputable def xi3 (s_from most : Int) (s_base s_forecast s_reports : List (List Int)) : List (List Int) :=
 bif (xam s_from most s_base s_forecast s_reports).fst.beq 1 then bif gi (xam s_from most s_base s_forecast s_reports).snd 1 != (0 : Int) then [] else gr (xam s_from most s_base s_forecast s_reports).snd 3
else bif gi (xam s_from most s_base s_forecast s_reports).snd 1 != (0 : Int) then [] else gr (xam s_from most s_base s_forecast s_reports).snd 3
noncomputable def xaf (s_from most : Int) (s_base s_forecast s_reports : List (List Int)) : List (List Int) :=
 bif xaE s_from most s_base s_forecast s_reports != (0 : Int) then [] else (xi3 s_from most s_base s_forecast s_reports)
noncomputable def xi2 (s_from most : Int) (s_base s_forecast s_reports : List (List Int)) : List (List Int) :=
 bif (xam s_from most s_base s_forecast s_reports).fst.beq 1 then bif gi (xam s_from most s_base s_forecast s_reports).snd 1 != (0 : Int) then [] else gr (xam s_from most s_base s_forecast s_reports).snd 2
else bif gi (xam s_from most s_base s_forecast s_reports).snd 1 != (0 : Int) then [] else gr (xam s_from most s_base s_forecast s_reports).snd 2
noncomputable def xdH (s_from most : Int) (s_base s_forecast s_reports : List (List Int)) : List (List Int) :=
 bif xaE s_from most s_base s_forecast s_reports != (0 : Int) then [] else (xi2 s_from most s_base s_forecast s_reports)
noncomputable def xi1 (s_from most : Int) (s_base s_forecast s_reports : List (List Int)) : Int :=
 bif (xam s_from most s_base s_forecast s_reports).fst.beq 1 then bif gi (xam s_from most s_base s_forecast s_reports).snd 1 != (0 : Int) then gi (xam s_from most s_base s_forecast s_reports).snd 1 else (0 : Int)
else bif gi (xam s_from most s_base s_forecast s_reports).snd 1 != (0 : Int) then gi (xam s_from most s_base s_forecast s_reports).snd 1 else (0 : Int)
noncomputable def xbl (s_from most : Int) (s_base s_forecast s_reports : List (List Int)) : Int :=
 bif xaE s_from most s_base s_forecast s_reports != (0 : Int) then xaE s_from most s_base s_forecast s_reports else (xi1 s_from most s_base s_forecast s_reports)
def xbD (s_from most : Int) (s_base s_forecast s_reports : List (List Int)) : Prop :=
 ((xbZ s_from most s_base s_forecast s_reports) ∧ (((xaE s_from most s_base s_forecast s_reports != (0 : Int)) = false) → ((xay (xbt s_from most s_base s_forecast s_reports) (xeh s_from most s_base s_forecast s_reports)))))
noncomputable def xdb (from_ most : Int) (base forecast reports : List (List Int)) : List (List Int) :=
 xaf from_ most base forecast reports
noncomputable def xdX (from_ most : Int) (base forecast reports : List (List Int)) : List (List Int) :=
 xdH from_ most base forecast reports
noncomputable def xda (from_ most : Int) (base forecast reports : List (List Int)) : Int :=
 xbl from_ most base forecast reports
def xcc (from_ most : Int) (base forecast reports : List (List Int)) : Prop :=
 (xbD from_ most base forecast reports)
noncomputable def xgv (from_ most : Int) (base forecast reports : List (List Int)) (y0 : List U) : List U :=
 [.i ((0 : Int)), .r (gr y0 1)]
noncomputable def xdu (from_ most : Int) (base forecast reports : List (List Int)) (y0 : List U) (y1 : List U) : Option (Nat × List U) :=
 (bif decide (gi y1 0 < (↑(xaB reports.length (gi y0 0)).length : Int)) then xab (xbg from_ base forecast reports ((xaB reports.length (gi y0 0)).getD (gi y1 0).toNat [])) ((bif xaG from_ base forecast reports ((xaB reports.length (gi y0 0)).getD (gi y1 0).toNat []) != (0 : Int) &&
 xaG from_ base forecast reports ((xaB reports.length (gi y0 0)).getD (gi y1 0).toNat []) != (18 : Int) then some (1, [.i (gi y1 0), .i (xaG from_ base forecast reports ((xaB reports.length (gi y0 0)).getD (gi y1 0).toNat [])), .r (gr y1 1)]) else xab (xcI 32 ((gr y1 1).length + (xbp from_ base forecast reports ((xaB reports.length (gi y0 0)).getD (gi y1 0).toNat [])).length)) (some (0, [.i (gi y1 0 + (1 : Int)), .r (gr y1 1 ++ xbp from_ base forecast reports ((xaB reports.length (gi y0 0)).getD (gi y1 0).toNat []))])))) else some (3, [.i (gi y1 0), .r (gr y1 1)]))
noncomputable def xeL (from_ most : Int) (base forecast reports : List (List Int)) (y0 : List U) : Nat × List U := xaC (xdu from_ most base forecast reports y0) (xgv from_ most base forecast reports y0)
noncomputable def xh4 (from_ most : Int) (base forecast reports : List (List Int)) : List U :=
 [.i ((0 : Int)), .r ([])]
noncomputable def xdv (from_ most : Int) (base forecast reports : List (List Int)) (y0 : List U) : Option (Nat × List U) :=
 (bif decide (gi y0 0 ≤ most) then xab ((((0 : Int) ≤ gi y0 0) ∧ (gi y0 0 ≤ (1000000 : Int))) ∧ ((↑reports.length : Int) ≤ (1000000 : Int))) (xab ((xay (xdu from_ most base forecast reports y0) (xgv from_ most base forecast reports y0))) ((bif (xeL from_ most base forecast reports y0).fst.beq 1 then some (1, [.i (gi (xeL from_ most base forecast reports y0).snd 1), .r (gr (xeL from_ most base forecast reports y0).snd 2)]) else some (0, [.i (IntKind.i64.wrap (gi y0 0 + (1 : Int))), .r (gr (xeL from_ most base forecast reports y0).snd 1)])))) else some (3, [.i (gi y0 0), .r (gr y0 1)]))
noncomputable def xak (from_ most : Int) (base forecast reports : List (List Int)) : Nat × List U := xaC (xdv from_ most base forecast reports) (xh4 from_ most base forecast reports)
noncomputable def xlS (from_ most : Int) (base forecast reports : List (List Int)) : Int :=
 (↑((xaz (↑(gr (xak from_ most base forecast reports).snd 1).length : Int) (some (1 : Int)) none).snd.snd.toNat -
   loN (xaz (↑(gr (xak from_ most base forecast reports).snd 1).length : Int) (some (1 : Int)) none).snd.fst) :
 Int)
noncomputable def xeK (from_ most : Int) (base forecast reports : List (List Int)) (y2 : List U) : Int :=
 ((gr (xak from_ most base forecast reports).snd 1).getD (shI (xaz (↑(gr (xak from_ most base forecast reports).snd 1).length : Int) (some (1 : Int)) none).snd.fst (gi y2 0)).toNat []).getD 0 (0 : Int)
noncomputable def xeJ (from_ most : Int) (base forecast reports : List (List Int)) (y2 : List U) : Int :=
 ((gr (xak from_ most base forecast reports).snd 1).getD (shI (xaz (↑(gr (xak from_ most base forecast reports).snd 1).length : Int) (some (1 : Int)) none).snd.fst (gi y2 0)).toNat []).getD 1 (0 : Int)
noncomputable def xeI (from_ most : Int) (base forecast reports : List (List Int)) (y2 : List U) : Int :=
 ((gr (xak from_ most base forecast reports).snd 1).getD (shI (xaz (↑(gr (xak from_ most base forecast reports).snd 1).length : Int) (some (1 : Int)) none).snd.fst (gi y2 0)).toNat []).getD 2 (0 : Int)
noncomputable def xeH (from_ most : Int) (base forecast reports : List (List Int)) (y2 : List U) : Int :=
 ((gr (xak from_ most base forecast reports).snd 1).getD (shI (xaz (↑(gr (xak from_ most base forecast reports).snd 1).length : Int) (some (1 : Int)) none).snd.fst (gi y2 0)).toNat []).getD 3 (0 : Int)
noncomputable def xdt (from_ most : Int) (base forecast reports : List (List Int)) : List U :=
 [.i ((0 : Int)), .i (((gr (xak from_ most base forecast reports).snd 1).getD (Int.toNat (0 : Int)) []).getD 0 (0 : Int)), .i (((gr (xak from_ most base forecast reports).snd 1).getD (Int.toNat (0 : Int)) []).getD 1 (0 : Int)), .i (((gr (xak from_ most base forecast reports).snd 1).getD (Int.toNat (0 : Int)) []).getD 2 (0 : Int)), .i (((gr (xak from_ most base forecast reports).snd 1).getD (Int.toNat (0 : Int)) []).getD 3 (0 : Int))]
noncomputable def xcL (from_ most : Int) (base forecast reports : List (List Int)) (y2 : List U) : Option (Nat × List U) :=
 (bif decide (gi y2 0 < (xlS from_ most base forecast reports)) then xab (((0 : Int) ≤ gi y2 0) ∧ (((↑(loN (xaz (↑(gr (xak from_ most base forecast reports).snd 1).length : Int) (some (1 : Int)) none).snd.fst) : Int) + gi y2 0 <
 (xaz (↑(gr (xak from_ most base forecast reports).snd 1).length : Int) (some (1 : Int)) none).snd.snd) ∧ ((xaz (↑(gr (xak from_ most base forecast reports).snd 1).length : Int) (some (1 : Int)) none).snd.snd ≤ (↑(gr (xak from_ most base forecast reports).snd 1).length : Int)))) (xab (inR (shI (xaz (↑(gr (xak from_ most base forecast reports).snd 1).length : Int) (some (1 : Int)) none).snd.fst (gi y2 0)) (gr (xak from_ most base forecast reports).snd 1)) ((bif xf1 (gi y2 1) (gi y2 2) (gi y2 3) (gi y2 4) ((xeK from_ most base forecast reports y2)) ((xeJ from_ most base forecast reports y2)) ((xeI from_ most base forecast reports y2)) ((xeH from_ most base forecast reports y2)) != (0 : Int) then some (1, [.i (xf1 (gi y2 1) (gi y2 2) (gi y2 3) (gi y2 4) ((xeK from_ most base forecast reports y2)) ((xeJ from_ most base forecast reports y2)) ((xeI from_ most base forecast reports y2)) ((xeH from_ most base forecast reports y2))), .i (gi y2 1), .i (gi y2 2), .i (gi y2 3), .i (gi y2 4)]) else some (0, [.i (IntKind.i64.wrap (gi y2 0 + (1 : Int))), .i (xhg (gi y2 1) (gi y2 2) (gi y2 3) (gi y2 4) ((xeK from_ most base forecast reports y2)) ((xeJ from_ most base forecast reports y2)) ((xeI from_ most base forecast reports y2)) ((xeH from_ most base forecast reports y2))), .i (xhf (gi y2 1) (gi y2 2) (gi y2 3) (gi y2 4) ((xeK from_ most base forecast reports y2)) ((xeJ from_ most base forecast reports y2)) ((xeI from_ most base forecast reports y2)) ((xeH from_ most base forecast reports y2))), .i (xhe (gi y2 1) (gi y2 2) (gi y2 3) (gi y2 4) ((xeK from_ most base forecast reports y2)) ((xeJ from_ most base forecast reports y2)) ((xeI from_ most base forecast reports y2)) ((xeH from_ most base forecast reports y2))), .i (xhd (gi y2 1) (gi y2 2) (gi y2 3) (gi y2 4) ((xeK from_ most base forecast reports y2)) ((xeJ from_ most base forecast reports y2)) ((xeI from_ most base forecast reports y2)) ((xeH from_ most base forecast reports y2)))])))) else some (3, [.i (gi y2 0), .i (gi y2 1), .i (gi y2 2), .i (gi y2 3), .i (gi y2 4)]))
noncomputable def xbf (from_ most : Int) (base forecast reports : List (List Int)) : Nat × List U := xaC (xcL from_ most base forecast reports) (xdt from_ most base forecast reports)
noncomputable def xpT (from_ most : Int) (base forecast reports : List (List Int)) : Int :=
 bif (↑(gr (xak from_ most base forecast reports).snd 1).length : Int) == (0 : Int) then (0 : Int) else bif (xbf from_ most base forecast reports).fst.beq 1 then (0 : Int) else gi (xbf from_ most base forecast reports).snd 1
noncomputable def xcm (from_ most : Int) (base forecast reports : List (List Int)) : Int :=
 bif xaE from_ most base forecast reports != (0 : Int) then (0 : Int) else bif (xak from_ most base forecast reports).fst.beq 1 then (0 : Int) else (xpT from_ most base forecast reports)
noncomputable def xpS (from_ most : Int) (base forecast reports : List (List Int)) : Int :=
 bif (↑(gr (xak from_ most base forecast reports).snd 1).length : Int) == (0 : Int) then (0 : Int) else bif (xbf from_ most base forecast reports).fst.beq 1 then (0 : Int) else gi (xbf from_ most base forecast reports).snd 2
noncomputable def xcl (from_ most : Int) (base forecast reports : List (List Int)) : Int :=
 bif xaE from_ most base forecast reports != (0 : Int) then (0 : Int) else bif (xak from_ most base forecast reports).fst.beq 1 then (0 : Int) else (xpS from_ most base forecast reports)
noncomputable def xpR (from_ most : Int) (base forecast reports : List (List Int)) : Int :=
 bif (↑(gr (xak from_ most base forecast reports).snd 1).length : Int) == (0 : Int) then (0 : Int) else bif (xbf from_ most base forecast reports).fst.beq 1 then (0 : Int) else gi (xbf from_ most base forecast reports).snd 3
noncomputable def xck (from_ most : Int) (base forecast reports : List (List Int)) : Int :=
 bif xaE from_ most base forecast reports != (0 : Int) then (0 : Int) else bif (xak from_ most base forecast reports).fst.beq 1 then (0 : Int) else (xpR from_ most base forecast reports)
noncomputable def xpQ (from_ most : Int) (base forecast reports : List (List Int)) : Int :=
 bif (↑(gr (xak from_ most base forecast reports).snd 1).length : Int) == (0 : Int) then (0 : Int) else bif (xbf from_ most base forecast reports).fst.beq 1 then (0 : Int) else gi (xbf from_ most base forecast reports).snd 4
noncomputable def xcj (from_ most : Int) (base forecast reports : List (List Int)) : Int :=
 bif xaE from_ most base forecast reports != (0 : Int) then (0 : Int) else bif (xak from_ most base forecast reports).fst.beq 1 then (0 : Int) else (xpQ from_ most base forecast reports)
noncomputable def xpP (from_ most : Int) (base forecast reports : List (List Int)) : Int :=
 bif (↑(gr (xak from_ most base forecast reports).snd 1).length : Int) == (0 : Int) then (18 : Int) else bif (xbf from_ most base forecast reports).fst.beq 1 then gi (xbf from_ most base forecast reports).snd 0 else (0 : Int)
noncomputable def xci (from_ most : Int) (base forecast reports : List (List Int)) : Int :=
 bif xaE from_ most base forecast reports != (0 : Int) then xaE from_ most base forecast reports
else bif (xak from_ most base forecast reports).fst.beq 1 then gi (xak from_ most base forecast reports).snd 0 else (xpP from_ most base forecast reports)
def xc9 (from_ most : Int) (base forecast reports : List (List Int)) : Prop :=
 ((xbZ from_ most base forecast reports) ∧ (((xaE from_ most base forecast reports != (0 : Int)) = false) → (((xay (xdv from_ most base forecast reports) (xh4 from_ most base forecast reports))) ∧ (((xak from_ most base forecast reports).fst.beq 1 = false) → ((((↑(gr (xak from_ most base forecast reports).snd 1).length : Int) == (0 : Int)) = false) → ((inR (0 : Int) (gr (xak from_ most base forecast reports).snd 1)) ∧ ((inR (0 : Int) (gr (xak from_ most base forecast reports).snd 1)) ∧ ((((0 : Int) ≤ (1 : Int)) ∧ ((1 : Int) ≤ (↑(gr (xak from_ most base forecast reports).snd 1).length : Int))) ∧ ((xay (xcL from_ most base forecast reports) (xdt from_ most base forecast reports)))))))))))
end Go.Proofs.YtnijhjpaplihbaaGreat
set_option maxRecDepth 100000
set_option linter.unusedVariables false
namespace Go.Proofs.YtnijhjpaplihbaaGreat
open Go Go.Sy
noncomputable def xh7 (from_ most : Int) (base forecast reports : List (List Int)) (y0 y1 : List U) : List U :=
 [.i ((0 : Int)), .i ((0 : Int))]
noncomputable def xdy (from_ most : Int) (base forecast reports : List (List Int)) (y0 y1 : List U) (y2 : List U) : Option (Nat × List U) :=
 (bif decide (gi y2 1 < (↑((xaB reports.length (↑(xaf from_ most base forecast reports).length : Int)).getD (gi y0 0).toNat []).length : Int)) then xab (inR (gi y2 1) ((xaB reports.length (↑(xaf from_ most base forecast reports).length : Int)).getD (gi y0 0).toNat [])) (xab (inR (gi y2 1) ((xaB reports.length (↑(xaf from_ most base forecast reports).length : Int)).getD (gi y0 0).toNat [])) ((bif ((gr y0 1).getD (gi y1 1).toNat []).getD 0 (0 : Int) ==
 (((xaB reports.length (↑(xaf from_ most base forecast reports).length : Int)).getD (gi y0 0).toNat []).getD (gi y2 1).toNat []).getD 0 (0 : Int) then some (1, [.i (gi y2 1)]) else some (0, [.i (gi y2 0), .i (IntKind.i64.wrap (gi y2 1 + (1 : Int)))])))) else some (3, [.i (gi y2 0), .i (gi y2 1)]))
noncomputable def xg6 (from_ most : Int) (base forecast reports : List (List Int)) (y0 y1 : List U) : Nat × List U := xaC (xdy from_ most base forecast reports y0 y1) (xh7 from_ most base forecast reports y0 y1)
noncomputable def xh8 (from_ most : Int) (base forecast reports : List (List Int)) (y0 : List U) : List U :=
 [.i ((0 : Int)), .i ((0 : Int))]
noncomputable def xdz (from_ most : Int) (base forecast reports : List (List Int)) (y0 : List U) (y1 : List U) : Option (Nat × List U) :=
 (bif decide (gi y1 1 < (↑(gr y0 1).length : Int)) then xab (inR (gi y1 1) (gr y0 1)) (xab (inR (gi y1 1) (gr y0 1)) (xab ((xay (xdy from_ most base forecast reports y0 y1) (xh7 from_ most base forecast reports y0 y1))) ((bif !decide ((bif (xg6 from_ most base forecast reports y0 y1).fst.beq 1 then gi (xg6 from_ most base forecast reports y0 y1).snd 0 else (-1 : Int)) ≥ (0 : Int)) then some (1, [.i (gi y1 1)]) else some (0, [.i (gi y1 0), .i (IntKind.i64.wrap (gi y1 1 + (1 : Int)))]))))) else some (3, [.i (gi y1 0), .i (gi y1 1)]))
noncomputable def xbI (from_ most : Int) (base forecast reports : List (List Int)) (y0 : List U) : Nat × List U := xaC (xdz from_ most base forecast reports y0) (xh8 from_ most base forecast reports y0)
noncomputable def xh6 (from_ most : Int) (base forecast reports : List (List Int)) (y0 y3 : List U) : List U :=
 [.i ((0 : Int)), .i ((0 : Int))]
noncomputable def xdw (from_ most : Int) (base forecast reports : List (List Int)) (y0 y3 : List U) (y4 : List U) : Option (Nat × List U) :=
 (bif decide (gi y4 1 < (↑((xaB reports.length (↑(xaf from_ most base forecast reports).length : Int)).getD (gi y0 0).toNat []).length : Int)) then xab (inR (gi y4 1) ((xaB reports.length (↑(xaf from_ most base forecast reports).length : Int)).getD (gi y0 0).toNat [])) (xab (inR (gi y4 1) ((xaB reports.length (↑(xaf from_ most base forecast reports).length : Int)).getD (gi y0 0).toNat [])) ((bif ((gr y3 2).getD (gi y3 1).toNat []).getD 0 (0 : Int) ==
 (((xaB reports.length (↑(xaf from_ most base forecast reports).length : Int)).getD (gi y0 0).toNat []).getD (gi y4 1).toNat []).getD 0 (0 : Int) then some (1, [.i (gi y4 1)]) else some (0, [.i (gi y4 0), .i (IntKind.i64.wrap (gi y4 1 + (1 : Int)))])))) else some (3, [.i (gi y4 0), .i (gi y4 1)]))
noncomputable def xg5 (from_ most : Int) (base forecast reports : List (List Int)) (y0 y3 : List U) : Nat × List U := xaC (xdw from_ most base forecast reports y0 y3) (xh6 from_ most base forecast reports y0 y3)
noncomputable def xpV (from_ most : Int) (base forecast reports : List (List Int)) (y3 : List U) : List (List Int) :=
 (gr y3 2).set (gi y3 0).toNat
 (xqm 1 ((gr y3 2).getD (gi y3 0).toNat []) 0 [((gr y3 2).getD (gi y3 1).toNat []).getD 0 (0 : Int)])
noncomputable def xgw (from_ most : Int) (base forecast reports : List (List Int)) (y0 : List U) : List U :=
 [.i (bif (xbI from_ most base forecast reports y0).fst.beq 1 then gi (xbI from_ most base forecast reports y0).snd 0 else (-1 : Int)), .i (IntKind.i64.wrap ((bif (xbI from_ most base forecast reports y0).fst.beq 1 then gi (xbI from_ most base forecast reports y0).snd 0 else (-1 : Int)) + (1 : Int))), .r (gr y0 1)]
noncomputable def xdx (from_ most : Int) (base forecast reports : List (List Int)) (y0 : List U) (y3 : List U) : Option (Nat × List U) :=
 (bif decide (gi y3 1 < (↑(gr y3 2).length : Int)) then xab (inR (gi y3 1) (gr y3 2)) (xab (inR (gi y3 1) (gr y3 2)) (xab ((xay (xdw from_ most base forecast reports y0 y3) (xh6 from_ most base forecast reports y0 y3))) ((bif !!decide ((bif (xg5 from_ most base forecast reports y0 y3).fst.beq 1 then gi (xg5 from_ most base forecast reports y0 y3).snd 0 else (-1 : Int)) ≥ (0 : Int)) then xab (inR (gi y3 0) (gr y3 2)) (xab (inR (gi y3 0) (gr y3 2)) (some (0, [.i (IntKind.i64.wrap (gi y3 0 + (1 : Int))), .i (IntKind.i64.wrap (gi y3 1 + (1 : Int))), .r ((xpV from_ most base forecast reports y3))]))) else some (0, [.i (gi y3 0), .i (IntKind.i64.wrap (gi y3 1 + (1 : Int))), .r (gr y3 2)]))))) else some (3, [.i (gi y3 0), .i (gi y3 1), .r (gr y3 2)]))
noncomputable def xaR (from_ most : Int) (base forecast reports : List (List Int)) (y0 : List U) : Nat × List U := xaC (xdx from_ most base forecast reports y0) (xgw from_ most base forecast reports y0)
noncomputable def xeM (from_ most : Int) (base forecast reports : List (List Int)) (y0 : List U) : Int :=
 (some (xaz (↑(gr (xaR from_ most base forecast reports y0).snd 2).length : Int) (some (gi (xaR from_ most base forecast reports y0).snd 0)) none).snd.snd).getD (↑(gr (xaR from_ most base forecast reports y0).snd 2).length : Int)
noncomputable def xpU (from_ most : Int) (base forecast reports : List (List Int)) (y0 : List U) : List (List Int) :=
 List.replicate (((xeM from_ most base forecast reports y0)).toNat - loN (xaz (↑(gr (xaR from_ most base forecast reports y0).snd 2).length : Int) (some (gi (xaR from_ most base forecast reports y0).snd 0)) none).snd.fst) [(0 : Int)]
noncomputable def xh5 (from_ most : Int) (base forecast reports : List (List Int)) (y0 : List U) : List (List Int) :=
 List.take (loN (xaz (↑(gr (xaR from_ most base forecast reports y0).snd 2).length : Int) (some (gi (xaR from_ most base forecast reports y0).snd 0)) none).snd.fst) (gr (xaR from_ most base forecast reports y0).snd 2) ++
 (xpU from_ most base forecast reports y0)
noncomputable def xjo (from_ most : Int) (base forecast reports : List (List Int)) (y0 : List U) : Int :=
 (xaz (↑((xh5 from_ most base forecast reports y0) ++ List.drop ((xeM from_ most base forecast reports y0)).toNat (gr (xaR from_ most base forecast reports y0).snd 2)).length : Int) none (some (gi (xaR from_ most base forecast reports y0).snd 0))).snd.snd
noncomputable def xh9 (from_ most : Int) (base forecast reports : List (List Int)) : List U :=
 [.i ((0 : Int)), .r (xcD (xaf from_ most base forecast reports))]
noncomputable def xdA (from_ most : Int) (base forecast reports : List (List Int)) (y0 : List U) : Option (Nat × List U) :=
 (bif decide (gi y0 0 < (↑(xaB reports.length (↑(xaf from_ most base forecast reports).length : Int)).length : Int)) then xab (xbg from_ base forecast reports ((xaB reports.length (↑(xaf from_ most base forecast reports).length : Int)).getD (gi y0 0).toNat [])) ((bif xaG from_ base forecast reports ((xaB reports.length (↑(xaf from_ most base forecast reports).length : Int)).getD (gi y0 0).toNat []) != (0 : Int) &&
 xaG from_ base forecast reports ((xaB reports.length (↑(xaf from_ most base forecast reports).length : Int)).getD (gi y0 0).toNat []) != (18 : Int) then some (1, [.i (gi y0 0), .i (xaG from_ base forecast reports ((xaB reports.length (↑(xaf from_ most base forecast reports).length : Int)).getD (gi y0 0).toNat [])), .r (gr y0 1)]) else (bif xaG from_ base forecast reports ((xaB reports.length (↑(xaf from_ most base forecast reports).length : Int)).getD (gi y0 0).toNat []) == (0 : Int) then xab ((xay (xdz from_ most base forecast reports y0) (xh8 from_ most base forecast reports y0))) ((bif (bif (xbI from_ most base forecast reports y0).fst.beq 1 then gi (xbI from_ most base forecast reports y0).snd 0 else (-1 : Int)) == (-1 : Int) then some (0, [.i (gi y0 0 + (1 : Int)), .r (gr y0 1)]) else xab ((xay (xdx from_ most base forecast reports y0) (xgw from_ most base forecast reports y0))) (xab (((0 : Int) ≤ gi (xaR from_ most base forecast reports y0).snd 0) ∧ (gi (xaR from_ most base forecast reports y0).snd 0 ≤ (↑(gr (xaR from_ most base forecast reports y0).snd 2).length : Int))) (xab (((↑(loN (xaz (↑(gr (xaR from_ most base forecast reports y0).snd 2).length : Int) (some (gi (xaR from_ most base forecast reports y0).snd 0)) none).snd.fst) : Int) ≤ (xeM from_ most base forecast reports y0)) ∧ ((xeM from_ most base forecast reports y0) ≤ (↑(gr (xaR from_ most base forecast reports y0).snd 2).length : Int))) (xab (((0 : Int) ≤ gi (xaR from_ most base forecast reports y0).snd 0) ∧ (gi (xaR from_ most base forecast reports y0).snd 0 ≤ (↑((xh5 from_ most base forecast reports y0) ++ List.drop ((xeM from_ most base forecast reports y0)).toNat (gr (xaR from_ most base forecast reports y0).snd 2)).length : Int))) (xab (((0 : Int) ≤ (xjo from_ most base forecast reports y0)) ∧ ((xjo from_ most base forecast reports y0) ≤ (↑((xh5 from_ most base forecast reports y0) ++ List.drop ((xeM from_ most base forecast reports y0)).toNat (gr (xaR from_ most base forecast reports y0).snd 2)).length : Int))) (some (0, [.i (gi y0 0 + (1 : Int)), .r (List.take ((xjo from_ most base forecast reports y0)).toNat ((xh5 from_ most base forecast reports y0) ++ List.drop ((xeM from_ most base forecast reports y0)).toNat (gr (xaR from_ most base forecast reports y0).snd 2)))])))))))) else some (0, [.i (gi y0 0 + (1 : Int)), .r (gr y0 1)])))) else some (5, [.i (gi y0 0), .r (gr y0 1)]))
noncomputable def xeN (from_ most : Int) (base forecast reports : List (List Int)) : Nat × List U := xaC (xdA from_ most base forecast reports) (xh9 from_ most base forecast reports)
noncomputable def xcn (from_ most : Int) (base forecast reports : List (List Int)) : List (List Int) :=
 bif xbl from_ most base forecast reports != (0 : Int) then [] else bif (xeN from_ most base forecast reports).fst.beq 1 then [] else gr (xeN from_ most base forecast reports).snd 1
noncomputable def xdW (from_ most : Int) (base forecast reports : List (List Int)) : Int :=
 bif xbl from_ most base forecast reports != (0 : Int) then xbl from_ most base forecast reports
else bif (xeN from_ most base forecast reports).fst.beq 1 then gi (xeN from_ most base forecast reports).snd 1 else (0 : Int)
def xdV (from_ most : Int) (base forecast reports : List (List Int)) : Prop :=
 ((xbD from_ most base forecast reports) ∧ (((xbl from_ most base forecast reports != (0 : Int)) = false) → ((xbA (xaf from_ most base forecast reports)) ∧ (((((0 : Int) ≤ (↑(xaf from_ most base forecast reports).length : Int)) ∧ ((↑(xaf from_ most base forecast reports).length : Int) ≤ (1000000 : Int))) ∧ ((↑reports.length : Int) ≤ (1000000 : Int))) ∧ ((xay (xdA from_ most base forecast reports) (xh9 from_ most base forecast reports)))))))
end Go.Proofs.YtnijhjpaplihbaaGreat
