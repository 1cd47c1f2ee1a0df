/- Several texts in one (wip/xiS.py): XDesk0D XDesk1D. -/
import Derived.Test.YtnijhjpaplihbaaGreatSight1D
import Derived.Test.YtnijhjpaplihbaaGreatSyD
set_option maxRecDepth 100000
set_option linter.unusedVariables false
namespace Go.Proofs.YtnijhjpaplihbaaGreat
open Go Go.Sy
noncomputable def xdr (s_from : Int) (s_base s_forecast s_reports : List (List Int)) : List U :=
 [.i ((0 : Int)), .i (s_from), .i ((0 : Int))]
noncomputable def xbK (s_from : Int) (s_base s_forecast s_reports : List (List Int)) (y0 : List U) : Option (Nat × List U) :=
 (bif decide (gi y0 2 < (↑s_reports.length : Int)) then xab (inR (gi y0 2) s_reports) (xab (inR (gi y0 2) s_reports) (xab ((decide ((s_reports.getD (gi y0 2).toNat []).getD 2 (0 : Int) < gi y0 1) = false) → (inR (0 : Int) s_reports)) (xab ((decide ((s_reports.getD (gi y0 2).toNat []).getD 2 (0 : Int) < gi y0 1) = false) → (inR (0 : Int) s_reports)) (xab ((decide ((s_reports.getD (gi y0 2).toNat []).getD 2 (0 : Int) < gi y0 1) = false) → (inR (0 : Int) s_reports)) ((bif decide ((s_reports.getD (gi y0 2).toNat []).getD 2 (0 : Int) < gi y0 1) ||
 (s_reports.getD (gi y0 2).toNat []).getD 3 (0 : Int) != (s_reports.getD (Int.toNat (0 : Int)) []).getD 3 (0 : Int) then some (1, []) else some (0, [.i (gi y0 0), .i ((s_reports.getD (gi y0 2).toNat []).getD 2 (0 : Int)), .i (IntKind.i64.wrap (gi y0 2 + (1 : Int)))]))))))) else some (3, [.i (gi y0 0), .i (gi y0 1), .i (gi y0 2)]))
noncomputable def xj4 (s_from : Int) (s_base s_forecast s_reports : List (List Int)) : Nat × List U := xaC (xbK s_from s_base s_forecast s_reports) (xdr s_from s_base s_forecast s_reports)
noncomputable def xj3 (s_from : Int) (s_base s_forecast s_reports : List (List Int)) : Int :=
 bif xcO s_reports != (0 : Int) || !xbk s_base || !xbb s_forecast || decide (s_from < (0 : Int)) || decide (s_from > (10000000 : Int)) then (1 : Int)
else bif (xj4 s_from s_base s_forecast s_reports).fst.beq 1 then (1 : Int) else bif decide ((↑(xa9 s_reports).length : Int) < (↑s_reports.length : Int)) then (5 : Int) else (0 : Int)
noncomputable def xao (s_from : Int) (s_base s_forecast s_reports : List (List Int)) : Int :=
 (xj3 s_from s_base s_forecast s_reports)
def xbC (s_from : Int) (s_base s_forecast s_reports : List (List Int)) : Prop :=
 ((xdn s_reports) ∧ ((((xcO s_reports != (0 : Int)) = false) → (xcJ s_base)) ∧ ((((xcO s_reports != (0 : Int) || !xbk s_base) = false) → (xdq s_forecast)) ∧ (((xcO s_reports != (0 : Int) || !xbk s_base || !xbb s_forecast || decide (s_from < (0 : Int)) || decide (s_from > (10000000 : Int))) = false) → ((xay (xbK s_from s_base s_forecast s_reports) (xdr s_from s_base s_forecast s_reports)))))))
noncomputable def xe4 (s_from : Int) (s_base s_forecast s_reports list : List (List Int)) : List U :=
 [.b (false), .i ((-1 : Int)), .i ((0 : Int))]
noncomputable def xb9 (s_from : Int) (s_base s_forecast s_reports list : List (List Int)) (y0 : List U) : Option (Nat × List U) :=
 (bif decide (gi y0 2 < (↑list.length : Int)) then xab (inR (gi y0 2) list) (xab (inR (gi y0 2) list) ((bif decide ((list.getD (gi y0 2).toNat []).getD 0 (0 : Int) ≤ gi y0 1) || decide ((list.getD (gi y0 2).toNat []).getD 0 (0 : Int) ≥ (↑s_reports.length : Int)) then some (1, []) else some (0, [.b (gb y0 0), .i ((list.getD (gi y0 2).toNat []).getD 0 (0 : Int)), .i (IntKind.i64.wrap (gi y0 2 + (1 : Int)))])))) else some (3, [.b (gb y0 0), .i (gi y0 1), .i (gi y0 2)]))
noncomputable def xje (s_from : Int) (s_base s_forecast s_reports list : List (List Int)) : Nat × List U := xaC (xb9 s_from s_base s_forecast s_reports list) (xe4 s_from s_base s_forecast s_reports list)
noncomputable def xa2 (s_from : Int) (s_base s_forecast s_reports list : List (List Int)) : Bool :=
 bif (xje s_from s_base s_forecast s_reports list).fst.beq 1 then false else true
def xbM (s_from : Int) (s_base s_forecast s_reports list : List (List Int)) : Prop :=
 ((xay (xb9 s_from s_base s_forecast s_reports list) (xe4 s_from s_base s_forecast s_reports list)))
noncomputable def xfL (s_from : Int) (s_base s_forecast s_reports wrong : List (List Int)) (y0 : List U) : List U :=
 [.i ((0 : Int)), .i ((0 : Int))]
noncomputable def xbR (s_from : Int) (s_base s_forecast s_reports wrong : List (List Int)) (y0 : List U) (y1 : List U) : Option (Nat × List U) :=
 (bif decide (gi y1 1 < (↑wrong.length : Int)) then xab (inR (gi y1 1) wrong) (xab (inR (gi y1 1) wrong) ((bif gi y0 2 == (wrong.getD (gi y1 1).toNat []).getD 0 (0 : Int) then some (1, [.i (gi y1 1)]) else some (0, [.i (gi y1 0), .i (IntKind.i64.wrap (gi y1 1 + (1 : Int)))])))) else some (3, [.i (gi y1 0), .i (gi y1 1)]))
noncomputable def xds (s_from : Int) (s_base s_forecast s_reports wrong : List (List Int)) (y0 : List U) : Nat × List U := xaC (xbR s_from s_base s_forecast s_reports wrong y0) (xfL s_from s_base s_forecast s_reports wrong y0)
noncomputable def xgu (s_from : Int) (s_base s_forecast s_reports wrong : List (List Int)) (y0 : List U) : Int :=
 xeQ ((s_reports.getD (gi y0 2).toNat []).getD 0 (0 : Int)) ((s_reports.getD (gi y0 2).toNat []).getD 1 (0 : Int))
 ((s_reports.getD (gi y0 2).toNat []).getD 2 (0 : Int)) ((s_reports.getD (gi y0 2).toNat []).getD 3 (0 : Int))
 ((s_reports.getD (gi y0 2).toNat []).getD 4 (0 : Int)) ((s_reports.getD (gi y0 2).toNat []).getD 5 (0 : Int))
 ((s_reports.getD (gi y0 2).toNat []).getD 6 (0 : Int)) ((s_reports.getD (gi y0 2).toNat []).getD 7 (0 : Int))
 ((s_reports.getD (gi y0 2).toNat []).getD 8 (0 : Int)) ((s_reports.getD (gi y0 2).toNat []).getD 9 (0 : Int))
 ((s_reports.getD (gi y0 2).toNat []).getD 10 (0 : Int)) ((s_reports.getD (gi y0 2).toNat []).getD 11 (0 : Int))
 ((s_reports.getD (gi y0 2).toNat []).getD 12 (0 : Int))
noncomputable def xeG (s_from : Int) (s_base s_forecast s_reports wrong : List (List Int)) (y0 : List U) : Int :=
 xeU ((s_reports.getD (gi y0 2).toNat []).getD 0 (0 : Int)) ((s_reports.getD (gi y0 2).toNat []).getD 1 (0 : Int))
 ((s_reports.getD (gi y0 2).toNat []).getD 2 (0 : Int)) ((s_reports.getD (gi y0 2).toNat []).getD 3 (0 : Int))
 ((s_reports.getD (gi y0 2).toNat []).getD 4 (0 : Int)) ((s_reports.getD (gi y0 2).toNat []).getD 5 (0 : Int))
 ((s_reports.getD (gi y0 2).toNat []).getD 6 (0 : Int)) ((s_reports.getD (gi y0 2).toNat []).getD 7 (0 : Int))
 ((s_reports.getD (gi y0 2).toNat []).getD 8 (0 : Int)) ((s_reports.getD (gi y0 2).toNat []).getD 9 (0 : Int))
 ((s_reports.getD (gi y0 2).toNat []).getD 10 (0 : Int)) ((s_reports.getD (gi y0 2).toNat []).getD 11 (0 : Int))
 ((s_reports.getD (gi y0 2).toNat []).getD 12 (0 : Int))
noncomputable def xeF (s_from : Int) (s_base s_forecast s_reports wrong : List (List Int)) (y0 : List U) : Int :=
 xeT ((s_reports.getD (gi y0 2).toNat []).getD 0 (0 : Int)) ((s_reports.getD (gi y0 2).toNat []).getD 1 (0 : Int))
 ((s_reports.getD (gi y0 2).toNat []).getD 2 (0 : Int)) ((s_reports.getD (gi y0 2).toNat []).getD 3 (0 : Int))
 ((s_reports.getD (gi y0 2).toNat []).getD 4 (0 : Int)) ((s_reports.getD (gi y0 2).toNat []).getD 5 (0 : Int))
 ((s_reports.getD (gi y0 2).toNat []).getD 6 (0 : Int)) ((s_reports.getD (gi y0 2).toNat []).getD 7 (0 : Int))
 ((s_reports.getD (gi y0 2).toNat []).getD 8 (0 : Int)) ((s_reports.getD (gi y0 2).toNat []).getD 9 (0 : Int))
 ((s_reports.getD (gi y0 2).toNat []).getD 10 (0 : Int)) ((s_reports.getD (gi y0 2).toNat []).getD 11 (0 : Int))
 ((s_reports.getD (gi y0 2).toNat []).getD 12 (0 : Int))
noncomputable def xeE (s_from : Int) (s_base s_forecast s_reports wrong : List (List Int)) (y0 : List U) : Int :=
 xeS ((s_reports.getD (gi y0 2).toNat []).getD 0 (0 : Int)) ((s_reports.getD (gi y0 2).toNat []).getD 1 (0 : Int))
 ((s_reports.getD (gi y0 2).toNat []).getD 2 (0 : Int)) ((s_reports.getD (gi y0 2).toNat []).getD 3 (0 : Int))
 ((s_reports.getD (gi y0 2).toNat []).getD 4 (0 : Int)) ((s_reports.getD (gi y0 2).toNat []).getD 5 (0 : Int))
 ((s_reports.getD (gi y0 2).toNat []).getD 6 (0 : Int)) ((s_reports.getD (gi y0 2).toNat []).getD 7 (0 : Int))
 ((s_reports.getD (gi y0 2).toNat []).getD 8 (0 : Int)) ((s_reports.getD (gi y0 2).toNat []).getD 9 (0 : Int))
 ((s_reports.getD (gi y0 2).toNat []).getD 10 (0 : Int)) ((s_reports.getD (gi y0 2).toNat []).getD 11 (0 : Int))
 ((s_reports.getD (gi y0 2).toNat []).getD 12 (0 : Int))
noncomputable def xeD (s_from : Int) (s_base s_forecast s_reports wrong : List (List Int)) (y0 : List U) : Int :=
 xeR ((s_reports.getD (gi y0 2).toNat []).getD 0 (0 : Int)) ((s_reports.getD (gi y0 2).toNat []).getD 1 (0 : Int))
 ((s_reports.getD (gi y0 2).toNat []).getD 2 (0 : Int)) ((s_reports.getD (gi y0 2).toNat []).getD 3 (0 : Int))
 ((s_reports.getD (gi y0 2).toNat []).getD 4 (0 : Int)) ((s_reports.getD (gi y0 2).toNat []).getD 5 (0 : Int))
 ((s_reports.getD (gi y0 2).toNat []).getD 6 (0 : Int)) ((s_reports.getD (gi y0 2).toNat []).getD 7 (0 : Int))
 ((s_reports.getD (gi y0 2).toNat []).getD 8 (0 : Int)) ((s_reports.getD (gi y0 2).toNat []).getD 9 (0 : Int))
 ((s_reports.getD (gi y0 2).toNat []).getD 10 (0 : Int)) ((s_reports.getD (gi y0 2).toNat []).getD 11 (0 : Int))
 ((s_reports.getD (gi y0 2).toNat []).getD 12 (0 : Int))
noncomputable def xfM (s_from : Int) (s_base s_forecast s_reports wrong : List (List Int)) : List U :=
 [.i ((0 : Int)), .i (s_from), .i ((0 : Int)), .r ([] ++ s_base)]
noncomputable def xcK (s_from : Int) (s_base s_forecast s_reports wrong : List (List Int)) (y0 : List U) : Option (Nat × List U) :=
 (bif decide (gi y0 2 < (↑s_reports.length : Int)) then xab (inR (gi y0 2) s_reports) (xab (inR (gi y0 2) s_reports) (xab (xgf (gi y0 1) ((s_reports.getD (gi y0 2).toNat []).getD 2 (0 : Int)) (gr y0 3) s_forecast) ((bif xhF (gi y0 1) ((s_reports.getD (gi y0 2).toNat []).getD 2 (0 : Int)) (gr y0 3) s_forecast != (0 : Int) then some (1, [.i (xhF (gi y0 1) ((s_reports.getD (gi y0 2).toNat []).getD 2 (0 : Int)) (gr y0 3) s_forecast)]) else xab ((xay (xbR s_from s_base s_forecast s_reports wrong y0) (xfL s_from s_base s_forecast s_reports wrong y0))) ((bif decide ((bif (xds s_from s_base s_forecast s_reports wrong y0).fst.beq 1 then gi (xds s_from s_base s_forecast s_reports wrong y0).snd 0 else (-1 : Int)) ≥ (0 : Int)) then some (0, [.i (gi y0 0), .i ((s_reports.getD (gi y0 2).toNat []).getD 2 (0 : Int)), .i (IntKind.i64.wrap (gi y0 2 + (1 : Int))), .r (xfy (gi y0 1) ((s_reports.getD (gi y0 2).toNat []).getD 2 (0 : Int)) (gr y0 3) s_forecast)]) else (bif (xgu s_from s_base s_forecast s_reports wrong y0) != (0 : Int) then some (3, [.i ((xgu s_from s_base s_forecast s_reports wrong y0))]) else xab (xg4 ((xeG s_from s_base s_forecast s_reports wrong y0)) ((xeF s_from s_base s_forecast s_reports wrong y0)) ((xeE s_from s_base s_forecast s_reports wrong y0)) ((xeD s_from s_base s_forecast s_reports wrong y0))
 (xfy (gi y0 1) ((s_reports.getD (gi y0 2).toNat []).getD 2 (0 : Int)) (gr y0 3) s_forecast)) ((bif xj0 ((xeG s_from s_base s_forecast s_reports wrong y0)) ((xeF s_from s_base s_forecast s_reports wrong y0)) ((xeE s_from s_base s_forecast s_reports wrong y0)) ((xeD s_from s_base s_forecast s_reports wrong y0))
  (xfy (gi y0 1) ((s_reports.getD (gi y0 2).toNat []).getD 2 (0 : Int)) (gr y0 3) s_forecast) !=
 (0 : Int) then some (4, []) else some (0, [.i (gi y0 0), .i ((s_reports.getD (gi y0 2).toNat []).getD 2 (0 : Int)), .i (IntKind.i64.wrap (gi y0 2 + (1 : Int))), .r (xj1 ((xeG s_from s_base s_forecast s_reports wrong y0)) ((xeF s_from s_base s_forecast s_reports wrong y0)) ((xeE s_from s_base s_forecast s_reports wrong y0)) ((xeD s_from s_base s_forecast s_reports wrong y0))
 (xfy (gi y0 1) ((s_reports.getD (gi y0 2).toNat []).getD 2 (0 : Int)) (gr y0 3) s_forecast))])))))))))) else some (6, [.i (gi y0 0), .i (gi y0 1), .i (gi y0 2), .r (gr y0 3)]))
noncomputable def xaD (s_from : Int) (s_base s_forecast s_reports wrong : List (List Int)) : Nat × List U := xaC (xcK s_from s_base s_forecast s_reports wrong) (xfM s_from s_base s_forecast s_reports wrong)
noncomputable def xkC (s_from : Int) (s_base s_forecast s_reports wrong : List (List Int)) : List (List Int) :=
 bif (xaD s_from s_base s_forecast s_reports wrong).fst.beq 1 then []
else bif (xaD s_from s_base s_forecast s_reports wrong).fst.beq 3 then [] else bif (xaD s_from s_base s_forecast s_reports wrong).fst.beq 4 then [] else gr (xaD s_from s_base s_forecast s_reports wrong).snd 3
noncomputable def xbp (s_from : Int) (s_base s_forecast s_reports wrong : List (List Int)) : List (List Int) :=
 (xkC s_from s_base s_forecast s_reports wrong)
noncomputable def xkB (s_from : Int) (s_base s_forecast s_reports wrong : List (List Int)) : Int :=
 bif (xaD s_from s_base s_forecast s_reports wrong).fst.beq 1 then gi (xaD s_from s_base s_forecast s_reports wrong).snd 0
else bif (xaD s_from s_base s_forecast s_reports wrong).fst.beq 3 then gi (xaD s_from s_base s_forecast s_reports wrong).snd 0 else bif (xaD s_from s_base s_forecast s_reports wrong).fst.beq 4 then (18 : Int) else (0 : Int)
noncomputable def xaG (s_from : Int) (s_base s_forecast s_reports wrong : List (List Int)) : Int :=
 (xkB s_from s_base s_forecast s_reports wrong)
def xbg (s_from : Int) (s_base s_forecast s_reports wrong : List (List Int)) : Prop :=
 ((((s_base = []) → ((True) ∧ (([] ++ s_base = []) ∧ (True)))) ∧ (xcI 32 (0 + s_base.length))) ∧ ((xay (xcK s_from s_base s_forecast s_reports wrong) (xfM s_from s_base s_forecast s_reports wrong))))
noncomputable def xj6 (s_from most : Int) (s_base s_forecast s_reports : List (List Int)) : Int :=
 bif xao s_from s_base s_forecast s_reports == (1 : Int) || decide (most < (0 : Int)) || decide (most > (3 : Int)) then (1 : Int)
else bif xao s_from s_base s_forecast s_reports == (0 : Int) && decide ((↑s_reports.length : Int) > (12 : Int)) then (2 : Int) else xao s_from s_base s_forecast s_reports
noncomputable def xaE (s_from most : Int) (s_base s_forecast s_reports : List (List Int)) : Int :=
 (xj6 s_from most s_base s_forecast s_reports)
def xbZ (s_from most : Int) (s_base s_forecast s_reports : List (List Int)) : Prop :=
 (xbC s_from s_base s_forecast s_reports)
end Go.Proofs.YtnijhjpaplihbaaGreat
set_option maxRecDepth 100000
set_option linter.unusedVariables false
namespace Go.Proofs.YtnijhjpaplihbaaGreat
open Go Go.Sy
noncomputable def xcb (from_ : Int) (base forecast reports wrong : List (List Int)) : List (List Int) :=
 bif xao from_ base forecast reports == (1 : Int) || !xa2 from_ base forecast reports wrong then []
else bif xao from_ base forecast reports != (0 : Int) then [] else xbp from_ base forecast reports wrong
noncomputable def xbw (from_ : Int) (base forecast reports wrong : List (List Int)) : Int :=
 bif xao from_ base forecast reports == (1 : Int) || !xa2 from_ base forecast reports wrong then (1 : Int)
else bif xao from_ base forecast reports != (0 : Int) then xao from_ base forecast reports else xaG from_ base forecast reports wrong
def xbx (from_ : Int) (base forecast reports wrong : List (List Int)) : Prop :=
 ((xbC from_ base forecast reports) ∧ ((((xao from_ base forecast reports == (1 : Int)) = false) → (xbM from_ base forecast reports wrong)) ∧ (((xao from_ base forecast reports == (1 : Int) || !xa2 from_ base forecast reports wrong) = false) → (((xao from_ base forecast reports != (0 : Int)) = false) → (xbg from_ base forecast reports wrong)))))
noncomputable def xgx (from_ : Int) (base forecast reports wrong track : List (List Int)) : List U :=
 [.i ((0 : Int)), .i ((0 : Int))]
noncomputable def xcN (from_ : Int) (base forecast reports wrong track : List (List Int)) (y0 : List U) : Option (Nat × List U) :=
 (bif decide (gi y0 1 < (↑track.length : Int)) then xab (inR (gi y0 1) track) (xab (inR (gi y0 1) track) ((bif !xfJ ((track.getD (gi y0 1).toNat []).getD 0 (0 : Int)) ((track.getD (gi y0 1).toNat []).getD 1 (0 : Int)) then some (1, [.i (gi y0 1)]) else some (0, [.i (gi y0 0), .i (IntKind.i64.wrap (gi y0 1 + (1 : Int)))])))) else some (3, [.i (gi y0 0), .i (gi y0 1)]))
noncomputable def xbm (from_ : Int) (base forecast reports wrong track : List (List Int)) : Nat × List U := xaC (xcN from_ base forecast reports wrong track) (xgx from_ base forecast reports wrong track)
noncomputable def xjq (from_ : Int) (base forecast reports wrong track : List (List Int)) (y1 : List U) : Int :=
 xhj (gi y1 3) ((reports.getD (gi y1 4).toNat []).getD 2 (0 : Int)) ((track.getD (gi y1 4).toNat []).getD 0 (0 : Int))
 ((track.getD (gi y1 4).toNat []).getD 1 (0 : Int)) ((track.getD (IntKind.i64.wrap (gi y1 4 + (1 : Int))).toNat []).getD 0 (0 : Int))
 ((track.getD (IntKind.i64.wrap (gi y1 4 + (1 : Int))).toNat []).getD 1 (0 : Int)) forecast
noncomputable def xjp (from_ : Int) (base forecast reports wrong track : List (List Int)) (y1 : List U) : Int :=
 xfc ((reports.getD (gi y1 4).toNat []).getD 0 (0 : Int)) ((reports.getD (gi y1 4).toNat []).getD 1 (0 : Int))
 ((reports.getD (gi y1 4).toNat []).getD 2 (0 : Int)) ((reports.getD (gi y1 4).toNat []).getD 3 (0 : Int))
 ((reports.getD (gi y1 4).toNat []).getD 4 (0 : Int)) ((reports.getD (gi y1 4).toNat []).getD 5 (0 : Int))
 ((reports.getD (gi y1 4).toNat []).getD 6 (0 : Int)) ((reports.getD (gi y1 4).toNat []).getD 7 (0 : Int))
 ((reports.getD (gi y1 4).toNat []).getD 8 (0 : Int)) ((reports.getD (gi y1 4).toNat []).getD 9 (0 : Int))
 ((reports.getD (gi y1 4).toNat []).getD 10 (0 : Int)) ((reports.getD (gi y1 4).toNat []).getD 11 (0 : Int))
 ((reports.getD (gi y1 4).toNat []).getD 12 (0 : Int)) ((track.getD (IntKind.i64.wrap (gi y1 4 + (1 : Int))).toNat []).getD 0 (0 : Int))
 ((track.getD (IntKind.i64.wrap (gi y1 4 + (1 : Int))).toNat []).getD 1 (0 : Int))
noncomputable def xia (from_ : Int) (base forecast reports wrong track : List (List Int)) (y1 : List U) : List U :=
 [.i ((0 : Int)), .i ((0 : Int))]
noncomputable def xdB (from_ : Int) (base forecast reports wrong track : List (List Int)) (y1 : List U) (y2 : List U) : Option (Nat × List U) :=
 (bif decide (gi y2 1 < (↑wrong.length : Int)) then xab (inR (gi y2 1) wrong) (xab (inR (gi y2 1) wrong) ((bif gi y1 4 == (wrong.getD (gi y2 1).toNat []).getD 0 (0 : Int) then some (1, [.i (gi y2 1)]) else some (0, [.i (gi y2 0), .i (IntKind.i64.wrap (gi y2 1 + (1 : Int)))])))) else some (3, [.i (gi y2 0), .i (gi y2 1)]))
noncomputable def xg7 (from_ : Int) (base forecast reports wrong track : List (List Int)) (y1 : List U) : Nat × List U := xaC (xdB from_ base forecast reports wrong track y1) (xia from_ base forecast reports wrong track y1)
noncomputable def xeO (from_ : Int) (base forecast reports wrong track : List (List Int)) : List U :=
 [.b (false), .i ((0 : Int)), .b (xlq ((track.getD (Int.toNat (0 : Int)) []).getD 0 (0 : Int)) ((track.getD (Int.toNat (0 : Int)) []).getD 1 (0 : Int)) base), .i (from_), .i ((0 : Int))]
noncomputable def xcM (from_ : Int) (base forecast reports wrong track : List (List Int)) (y1 : List U) : Option (Nat × List U) :=
 (bif decide (gi y1 4 < (↑reports.length : Int)) then xab (inR (gi y1 4) reports) (xab (inR (gi y1 4) reports) (xab (inR (gi y1 4) track) (xab (inR (gi y1 4) track) (xab (inR (IntKind.i64.wrap (gi y1 4 + (1 : Int))) track) (xab (inR (IntKind.i64.wrap (gi y1 4 + (1 : Int))) track) (xab (xdF (gi y1 3) ((reports.getD (gi y1 4).toNat []).getD 2 (0 : Int)) ((track.getD (gi y1 4).toNat []).getD 0 (0 : Int))
 ((track.getD (gi y1 4).toNat []).getD 1 (0 : Int)) ((track.getD (IntKind.i64.wrap (gi y1 4 + (1 : Int))).toNat []).getD 0 (0 : Int))
 ((track.getD (IntKind.i64.wrap (gi y1 4 + (1 : Int))).toNat []).getD 1 (0 : Int)) forecast) ((bif (xjq from_ base forecast reports wrong track y1) != (0 : Int) then some (1, [.i ((xjq from_ base forecast reports wrong track y1))]) else xab (inR (IntKind.i64.wrap (gi y1 4 + (1 : Int))) track) (xab (inR (IntKind.i64.wrap (gi y1 4 + (1 : Int))) track) (xab (((gb y1 2 &&
   xe3 (gi y1 3) ((reports.getD (gi y1 4).toNat []).getD 2 (0 : Int)) ((track.getD (gi y1 4).toNat []).getD 0 (0 : Int))
    ((track.getD (gi y1 4).toNat []).getD 1 (0 : Int)) ((track.getD (IntKind.i64.wrap (gi y1 4 + (1 : Int))).toNat []).getD 0 (0 : Int))
    ((track.getD (IntKind.i64.wrap (gi y1 4 + (1 : Int))).toNat []).getD 1 (0 : Int)) forecast &&
  (xjp from_ base forecast reports wrong track y1) == (0 : Int)) =
 true) → ((xdY ((reports.getD (gi y1 4).toNat []).getD 0 (0 : Int)) ((reports.getD (gi y1 4).toNat []).getD 1 (0 : Int))
  ((reports.getD (gi y1 4).toNat []).getD 2 (0 : Int)) ((reports.getD (gi y1 4).toNat []).getD 3 (0 : Int))
  ((reports.getD (gi y1 4).toNat []).getD 4 (0 : Int)) ((reports.getD (gi y1 4).toNat []).getD 5 (0 : Int))
  ((reports.getD (gi y1 4).toNat []).getD 6 (0 : Int)) ((reports.getD (gi y1 4).toNat []).getD 7 (0 : Int))
  ((reports.getD (gi y1 4).toNat []).getD 8 (0 : Int)) ((reports.getD (gi y1 4).toNat []).getD 9 (0 : Int))
  ((reports.getD (gi y1 4).toNat []).getD 10 (0 : Int)) ((reports.getD (gi y1 4).toNat []).getD 11 (0 : Int))
  ((reports.getD (gi y1 4).toNat []).getD 12 (0 : Int)) ((track.getD (IntKind.i64.wrap (gi y1 4 + (1 : Int))).toNat []).getD 0 (0 : Int))
  ((track.getD (IntKind.i64.wrap (gi y1 4 + (1 : Int))).toNat []).getD 1 (0 : Int)) =
 false) → ((xay (xdB from_ base forecast reports wrong track y1) (xia from_ base forecast reports wrong track y1))))) (some (0, [.b (gb y1 0), .i (gi y1 1), .b (gb y1 2 &&
   xe3 (gi y1 3) ((reports.getD (gi y1 4).toNat []).getD 2 (0 : Int)) ((track.getD (gi y1 4).toNat []).getD 0 (0 : Int))
    ((track.getD (gi y1 4).toNat []).getD 1 (0 : Int)) ((track.getD (IntKind.i64.wrap (gi y1 4 + (1 : Int))).toNat []).getD 0 (0 : Int))
    ((track.getD (IntKind.i64.wrap (gi y1 4 + (1 : Int))).toNat []).getD 1 (0 : Int)) forecast &&
  (xjp from_ base forecast reports wrong track y1) == (0 : Int) &&
 (xdY ((reports.getD (gi y1 4).toNat []).getD 0 (0 : Int)) ((reports.getD (gi y1 4).toNat []).getD 1 (0 : Int))
   ((reports.getD (gi y1 4).toNat []).getD 2 (0 : Int)) ((reports.getD (gi y1 4).toNat []).getD 3 (0 : Int))
   ((reports.getD (gi y1 4).toNat []).getD 4 (0 : Int)) ((reports.getD (gi y1 4).toNat []).getD 5 (0 : Int))
   ((reports.getD (gi y1 4).toNat []).getD 6 (0 : Int)) ((reports.getD (gi y1 4).toNat []).getD 7 (0 : Int))
   ((reports.getD (gi y1 4).toNat []).getD 8 (0 : Int)) ((reports.getD (gi y1 4).toNat []).getD 9 (0 : Int))
   ((reports.getD (gi y1 4).toNat []).getD 10 (0 : Int)) ((reports.getD (gi y1 4).toNat []).getD 11 (0 : Int))
   ((reports.getD (gi y1 4).toNat []).getD 12 (0 : Int)) ((track.getD (IntKind.i64.wrap (gi y1 4 + (1 : Int))).toNat []).getD 0 (0 : Int))
   ((track.getD (IntKind.i64.wrap (gi y1 4 + (1 : Int))).toNat []).getD 1 (0 : Int)) ||
  decide ((bif (xg7 from_ base forecast reports wrong track y1).fst.beq 1 then gi (xg7 from_ base forecast reports wrong track y1).snd 0 else (-1 : Int)) ≥ (0 : Int)))), .i ((reports.getD (gi y1 4).toNat []).getD 2 (0 : Int)), .i (IntKind.i64.wrap (gi y1 4 + (1 : Int)))])))))))))))) else some (3, [.b (gb y1 0), .i (gi y1 1), .b (gb y1 2), .i (gi y1 3), .i (gi y1 4)]))
noncomputable def xbS (from_ : Int) (base forecast reports wrong track : List (List Int)) : Nat × List U := xaC (xcM from_ base forecast reports wrong track) (xeO from_ base forecast reports wrong track)
noncomputable def xb3 (from_ : Int) (base forecast reports wrong track : List (List Int)) : Bool :=
 bif
  xao from_ base forecast reports == (1 : Int) || !xa2 from_ base forecast reports wrong ||
    (↑track.length : Int) != IntKind.i64.wrap ((↑reports.length : Int) + (1 : Int)) ||
   decide ((bif (xbm from_ base forecast reports wrong track).fst.beq 1 then gi (xbm from_ base forecast reports wrong track).snd 0 else (-1 : Int)) ≥ (0 : Int)) then
 false
else
 bif xao from_ base forecast reports != (0 : Int) then false
 else
  bif xd2 ((track.getD (Int.toNat (0 : Int)) []).getD 0 (0 : Int)) ((track.getD (Int.toNat (0 : Int)) []).getD 1 (0 : Int)) base != (0 : Int) then false
  else bif (xbS from_ base forecast reports wrong track).fst.beq 1 then false else gb (xbS from_ base forecast reports wrong track).snd 2
noncomputable def xpX (from_ : Int) (base forecast reports wrong track : List (List Int)) : Int :=
 bif xd2 ((track.getD (Int.toNat (0 : Int)) []).getD 0 (0 : Int)) ((track.getD (Int.toNat (0 : Int)) []).getD 1 (0 : Int)) base != (0 : Int) then
 xd2 ((track.getD (Int.toNat (0 : Int)) []).getD 0 (0 : Int)) ((track.getD (Int.toNat (0 : Int)) []).getD 1 (0 : Int)) base
else bif (xbS from_ base forecast reports wrong track).fst.beq 1 then gi (xbS from_ base forecast reports wrong track).snd 0 else (0 : Int)
noncomputable def xpW (from_ : Int) (base forecast reports wrong track : List (List Int)) : Int :=
 bif
  xao from_ base forecast reports == (1 : Int) || !xa2 from_ base forecast reports wrong ||
    (↑track.length : Int) != IntKind.i64.wrap ((↑reports.length : Int) + (1 : Int)) ||
   decide ((bif (xbm from_ base forecast reports wrong track).fst.beq 1 then gi (xbm from_ base forecast reports wrong track).snd 0 else (-1 : Int)) ≥ (0 : Int)) then
 (1 : Int)
else bif xao from_ base forecast reports != (0 : Int) then xao from_ base forecast reports else (xpX from_ base forecast reports wrong track)
noncomputable def xcP (from_ : Int) (base forecast reports wrong track : List (List Int)) : Int :=
 (xpW from_ base forecast reports wrong track)
def xdc (from_ : Int) (base forecast reports wrong track : List (List Int)) : Prop :=
 ((xbC from_ base forecast reports) ∧ ((((xao from_ base forecast reports == (1 : Int)) = false) → (xbM from_ base forecast reports wrong)) ∧ ((((xao from_ base forecast reports == (1 : Int) || !xa2 from_ base forecast reports wrong ||
  (↑track.length : Int) != IntKind.i64.wrap ((↑reports.length : Int) + (1 : Int))) =
 false) → ((xay (xcN from_ base forecast reports wrong track) (xgx from_ base forecast reports wrong track)))) ∧ (((xao from_ base forecast reports == (1 : Int) || !xa2 from_ base forecast reports wrong ||
   (↑track.length : Int) != IntKind.i64.wrap ((↑reports.length : Int) + (1 : Int)) ||
  decide ((bif (xbm from_ base forecast reports wrong track).fst.beq 1 then gi (xbm from_ base forecast reports wrong track).snd 0 else (-1 : Int)) ≥ (0 : Int))) =
 false) → (((xao from_ base forecast reports != (0 : Int)) = false) → ((inR (0 : Int) track) ∧ ((inR (0 : Int) track) ∧ ((xgP ((track.getD (Int.toNat (0 : Int)) []).getD 0 (0 : Int)) ((track.getD (Int.toNat (0 : Int)) []).getD 1 (0 : Int)) base) ∧ (((xd2 ((track.getD (Int.toNat (0 : Int)) []).getD 0 (0 : Int)) ((track.getD (Int.toNat (0 : Int)) []).getD 1 (0 : Int)) base != (0 : Int)) = false) → ((xay (xcM from_ base forecast reports wrong track) (xeO from_ base forecast reports wrong track))))))))))))
noncomputable def xhV (b_X_Lo b_X_Hi b_Y_Lo b_Y_Hi p_X p_Y : Int) : Bool :=
 decide (b_X_Lo ≤ p_X) && decide (p_X ≤ b_X_Hi) && (decide (b_Y_Lo ≤ p_Y) && decide (p_Y ≤ b_Y_Hi))
noncomputable def xjP (s_Lo s_Hi x : Int) : Bool :=
 decide (s_Lo ≤ x) && decide (x ≤ s_Hi)
noncomputable def xk8 (p_X p_Y : Int) (list : List (List Int)) : List U :=
 [.b (false), .i ((0 : Int))]
noncomputable def xfk (p_X p_Y : Int) (list : List (List Int)) (y0 : List U) : Option (Nat × List U) :=
 (bif decide (gi y0 1 < (↑list.length : Int)) then xab (inR (gi y0 1) list) (xab (inR (gi y0 1) list) ((bif xhV ((list.getD (gi y0 1).toNat []).getD 0 (0 : Int)) ((list.getD (gi y0 1).toNat []).getD 1 (0 : Int))
 ((list.getD (gi y0 1).toNat []).getD 2 (0 : Int)) ((list.getD (gi y0 1).toNat []).getD 3 (0 : Int)) p_X p_Y then some (1, []) else some (0, [.b (gb y0 0), .i (IntKind.i64.wrap (gi y0 1 + (1 : Int)))])))) else some (3, [.b (gb y0 0), .i (gi y0 1)]))
noncomputable def xmy (p_X p_Y : Int) (list : List (List Int)) : Nat × List U := xaC (xfk p_X p_Y list) (xk8 p_X p_Y list)
noncomputable def xeb (p_X p_Y : Int) (list : List (List Int)) : Bool :=
 bif (xmy p_X p_Y list).fst.beq 1 then true else false
def xg0 (p_X p_Y : Int) (list : List (List Int)) : Prop :=
 ((xay (xfk p_X p_Y list) (xk8 p_X p_Y list)))
noncomputable def xaN (a b c d : Int) : Int :=
 a
noncomputable def xaM (a b c d : Int) : Int :=
 b
noncomputable def xaL (a b c d : Int) : Int :=
 c
noncomputable def xaK (a b c d : Int) : Int :=
 d
noncomputable def xiY (xbL b_X_Lo b_X_Hi b_Y_Lo b_Y_Hi : Int) : Int :=
 xbL
noncomputable def xiX (xbL b_X_Lo b_X_Hi b_Y_Lo b_Y_Hi : Int) : Int :=
 b_X_Lo
noncomputable def xiW (xbL b_X_Lo b_X_Hi b_Y_Lo b_Y_Hi : Int) : Int :=
 b_X_Hi
noncomputable def xiV (xbL b_X_Lo b_X_Hi b_Y_Lo b_Y_Hi : Int) : Int :=
 b_Y_Lo
noncomputable def xiU (xbL b_X_Lo b_X_Hi b_Y_Lo b_Y_Hi : Int) : Int :=
 b_Y_Hi
noncomputable def xli (n : Int) (l : List (List Int)) : List U :=
 [.b (false), .i ((0 : Int))]
noncomputable def xfq (n : Int) (l : List (List Int)) (y0 : List U) : Option (Nat × List U) :=
 (bif decide (gi y0 1 < (↑l.length : Int)) then xab (inR (gi y0 1) l) (xab (inR (gi y0 1) l) ((bif (l.getD (gi y0 1).toNat []).getD 0 (0 : Int) == n then some (1, []) else some (0, [.b (gb y0 0), .i (IntKind.i64.wrap (gi y0 1 + (1 : Int)))])))) else some (3, [.b (gb y0 0), .i (gi y0 1)]))
noncomputable def xm0 (n : Int) (l : List (List Int)) : Nat × List U := xaC (xfq n l) (xli n l)
noncomputable def xs7 (n : Int) (l : List (List Int)) : Bool :=
 bif (xm0 n l).fst.beq 1 then true else false
def xv2 (n : Int) (l : List (List Int)) : Prop :=
 ((xay (xfq n l) (xli n l)))
end Go.Proofs.YtnijhjpaplihbaaGreat
