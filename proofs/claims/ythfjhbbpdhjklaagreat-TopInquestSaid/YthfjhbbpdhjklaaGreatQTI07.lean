/- Several texts in one (wip/pack.py): XInq6D XInq6 XTq1D XTq1 XTqHD XTqH XTq2D XTq2 XInqQ0 XInqHD XInqPa XInqPb XInqPc XInqPd XInqPe. -/
import Derived.Test.YthfjhbbpdhjklaaGreatRows
import Derived.Test.YthfjhbbpdhjklaaGreatQTI05
import Derived.Test.YthfjhbbpdhjklaaGreatQTI06
set_option maxRecDepth 100000
set_option linter.unusedVariables false
namespace Go.Proofs.YthfjhbbpdhjklaaGreat
open Go Go.Sy
noncomputable def xkT (ua t ui:Int) (ub uh uk:List (List Int)) (y0:List U):List (List Int) :=
 putRow 1 [(uh.getD (gi y0 2).toNat []).getD 0 (0:Int)]
 [(uh.getD (gi y0 2).toNat []).getD 0 (0:Int),encL (decL ((uh.getD (gi y0 2).toNat []).getD 1 (0:Int)))] (gr y0 3)
noncomputable def xb6 (ua t ui:Int) (ub uh uk:List (List Int)):List U :=
 [.b (false),.i ((0:Int)),.i ((0:Int)),.r ([])]
noncomputable def xbn (ua t ui:Int) (ub uh uk:List (List Int)) (y0:List U):Option (Nat×List U) :=
 (bif decide (gi y0 2<(↑uh.length:Int)) then xac (inR (gi y0 2) uh) (xac (inR (gi y0 2) uh) (xac (xaK ((uh.getD (gi y0 2).toNat []).getD 0 (0:Int)) (decL ((uh.getD (gi y0 2).toNat []).getD 1 (0:Int)))) ((bif !xag ((uh.getD (gi y0 2).toNat []).getD 0 (0:Int)) (decL ((uh.getD (gi y0 2).toNat []).getD 1 (0:Int))) ||
 decide ((uh.getD (gi y0 2).toNat []).getD 0 (0:Int)≤gi y0 1) then some (1,[.i (ua),.i (t),.i (ui),.r (gr y0 3)]) else some (0,[.b (gb y0 0),.i ((uh.getD (gi y0 2).toNat []).getD 0 (0:Int)),.i (IntKind.i64.wrap (gi y0 2+(1:Int))),.r ((xkT ua t ui ub uh uk y0))]))))) else some (3,[.b (gb y0 0),.i (gi y0 1),.i (gi y0 2),.r (gr y0 3)]))
noncomputable def xap (ua t ui:Int) (ub uh uk:List (List Int)):Nat×List U:=xat (xbn ua t ui ub uh uk) (xb6 ua t ui ub uh uk)
noncomputable def xcU (ua t ui:Int) (ub uh uk:List (List Int)):List U :=
 [.i ((0:Int)),.i ((0:Int))]
noncomputable def xbm (ua t ui:Int) (ub uh uk:List (List Int)) (y1:List U):Option (Nat×List U) :=
 (bif decide (gi y1 1<(↑uk.length:Int)) then xac (inR (gi y1 1) uk) (xac (inR (gi y1 1) uk) ((bif !(xbO 1 [(uk.getD (gi y1 1).toNat []).getD 0 (0:Int)] (gr (xap ua t ui ub uh uk).snd 3)).isSome then some (1,[.i (gi y1 1)]) else some (0,[.i (gi y1 0),.i (IntKind.i64.wrap (gi y1 1+(1:Int)))])))) else some (3,[.i (gi y1 0),.i (gi y1 1)]))
noncomputable def xbG (ua t ui:Int) (ub uh uk:List (List Int)):Nat×List U:=xat (xbm ua t ui ub uh uk) (xcU ua t ui ub uh uk)
noncomputable def xhE (ua t ui:Int) (ub uh uk:List (List Int)) (y2:List U):List Int :=
 [((xam ua t ui ub (gr (xap ua t ui ub uh uk).snd 3) uk).getD (gi y2 0).toNat []).getD 0 (0:Int),
 ((xam ua t ui ub (gr (xap ua t ui ub uh uk).snd 3) uk).getD (gi y2 0).toNat []).getD 1 (0:Int)]
noncomputable def xg4 (ua t ui:Int) (ub uh uk:List (List Int)):List U :=
 [.i ((0:Int)),.r ([])]
noncomputable def xb5 (ua t ui:Int) (ub uh uk:List (List Int)) (y2:List U):Option (Nat×List U) :=
 (bif decide (gi y2 0<(↑(xam ua t ui ub (gr (xap ua t ui ub uh uk).snd 3) uk).length:Int)) then xac (inR (gi y2 0) (xam ua t ui ub (gr (xap ua t ui ub uh uk).snd 3) uk)) (xac (inR (gi y2 0) (xam ua t ui ub (gr (xap ua t ui ub uh uk).snd 3) uk)) (xac (xa5 16 ((gr y2 1).length+[(xhE ua t ui ub uh uk y2)].length)) (some (0,[.i (IntKind.i64.wrap (gi y2 0+(1:Int))),.r (gr y2 1++[(xhE ua t ui ub uh uk y2)])])))) else some (2,[.i (gi y2 0),.r (gr y2 1)]))
noncomputable def xkU (ua t ui:Int) (ub uh uk:List (List Int)):Nat×List U:=xat (xb5 ua t ui ub uh uk) (xg4 ua t ui ub uh uk)
noncomputable def xkS (ua t ui:Int) (ub uh uk:List (List Int)):List (List Int) :=
 bif !!decide ((bif (xbG ua t ui ub uh uk).fst.beq 1 then gi (xbG ua t ui ub uh uk).snd 0 else (-1:Int))≥(0:Int)) then [] else gr (xkU ua t ui ub uh uk).snd 1
noncomputable def xkR (ua t ui:Int) (ub uh uk:List (List Int)):List (List Int) :=
 bif !xag ua ub||ua !=(0:Int)||!xay uk||!xaz t||decide (ui<(0:Int))||decide (ui>(100000:Int)) then []
else bif (xap ua t ui ub uh uk).fst.beq 1 then [] else (xkS ua t ui ub uh uk)
noncomputable def xej (ua t ui:Int) (ub uh uk:List (List Int)):List (List Int) :=
 (xkR ua t ui ub uh uk)
noncomputable def xkQ (ua t ui:Int) (ub uh uk:List (List Int)):Int :=
 bif !!decide ((bif (xbG ua t ui ub uh uk).fst.beq 1 then gi (xbG ua t ui ub uh uk).snd 0 else (-1:Int))≥(0:Int)) then (1:Int) else (0:Int)
noncomputable def xkP (ua t ui:Int) (ub uh uk:List (List Int)):Int :=
 bif !xag ua ub||ua !=(0:Int)||!xay uk||!xaz t||decide (ui<(0:Int))||decide (ui>(100000:Int)) then
 (1:Int)
else bif (xap ua t ui ub uh uk).fst.beq 1 then (1:Int) else (xkQ ua t ui ub uh uk)
noncomputable def xei (ua t ui:Int) (ub uh uk:List (List Int)):Int :=
 (xkP ua t ui ub uh uk)
def xcP (ua t ui:Int) (ub uh uk:List (List Int)):Prop :=
 ((xaK ua ub)∧((((!xag ua ub||ua !=(0:Int))=false)→(xbx uk))∧(((!xag ua ub||ua !=(0:Int)||!xay uk||!xaz t||decide (ui<(0:Int))||decide (ui>(100000:Int)))=false)→(((xax (xbn ua t ui ub uh uk) (xb6 ua t ui ub uh uk)))∧(((xap ua t ui ub uh uk).fst.beq 1=false)→(((xax (xbm ua t ui ub uh uk) (xcU ua t ui ub uh uk)))∧(((!!decide ((bif (xbG ua t ui ub uh uk).fst.beq 1 then gi (xbG ua t ui ub uh uk).snd 0 else (-1:Int))≥(0:Int)))=false)→((xcQ ua t ui ub (gr (xap ua t ui ub uh uk).snd 3) uk)∧((xax (xb5 ua t ui ub uh uk) (xg4 ua t ui ub uh uk)))))))))))
noncomputable def xng (ua t ui:Int) (ub uh uk:List (List Int)) (y0:List U):List (List Int) :=
 putRow 1 [(uh.getD (gi y0 2).toNat []).getD 0 (0:Int)]
 [(uh.getD (gi y0 2).toNat []).getD 0 (0:Int),encL (decL ((uh.getD (gi y0 2).toNat []).getD 1 (0:Int)))] (gr y0 3)
noncomputable def xd6 (ua t ui:Int) (ub uh uk:List (List Int)):List U :=
 [.b (false),.i ((0:Int)),.i ((0:Int)),.r ([])]
noncomputable def xd5 (ua t ui:Int) (ub uh uk:List (List Int)) (y0:List U):Option (Nat×List U) :=
 (bif decide (gi y0 2<(↑uh.length:Int)) then xac (inR (gi y0 2) uh) (xac (inR (gi y0 2) uh) (xac (xaK ((uh.getD (gi y0 2).toNat []).getD 0 (0:Int)) (decL ((uh.getD (gi y0 2).toNat []).getD 1 (0:Int)))) ((bif !xag ((uh.getD (gi y0 2).toNat []).getD 0 (0:Int)) (decL ((uh.getD (gi y0 2).toNat []).getD 1 (0:Int))) ||
 decide ((uh.getD (gi y0 2).toNat []).getD 0 (0:Int)≤gi y0 1) then some (1,[.i (ua),.i (t),.i (ui),.r (gr y0 3)]) else some (0,[.b (gb y0 0),.i ((uh.getD (gi y0 2).toNat []).getD 0 (0:Int)),.i (IntKind.i64.wrap (gi y0 2+(1:Int))),.r ((xng ua t ui ub uh uk y0))]))))) else some (3,[.b (gb y0 0),.i (gi y0 1),.i (gi y0 2),.r (gr y0 3)]))
noncomputable def xaL (ua t ui:Int) (ub uh uk:List (List Int)):Nat×List U:=xat (xd5 ua t ui ub uh uk) (xd6 ua t ui ub uh uk)
noncomputable def xd4 (ua t ui:Int) (ub uh uk:List (List Int)):List U :=
 [.i ((0:Int)),.i ((0:Int))]
noncomputable def xd3 (ua t ui:Int) (ub uh uk:List (List Int)) (y1:List U):Option (Nat×List U) :=
 (bif decide (gi y1 1<(↑uk.length:Int)) then xac (inR (gi y1 1) uk) (xac (inR (gi y1 1) uk) ((bif !(xbO 1 [(uk.getD (gi y1 1).toNat []).getD 0 (0:Int)] (gr (xaL ua t ui ub uh uk).snd 3)).isSome then some (1,[.i (gi y1 1)]) else some (0,[.i (gi y1 0),.i (IntKind.i64.wrap (gi y1 1+(1:Int)))])))) else some (3,[.i (gi y1 0),.i (gi y1 1)]))
noncomputable def xbu (ua t ui:Int) (ub uh uk:List (List Int)):Nat×List U:=xat (xd3 ua t ui ub uh uk) (xd4 ua t ui ub uh uk)
noncomputable def xib (ua t ui:Int) (ub uh uk:List (List Int)):List (List Int) :=
 bif !!decide ((bif (xbu ua t ui ub uh uk).fst.beq 1 then gi (xbu ua t ui ub uh uk).snd 0 else (-1:Int))≥(0:Int)) then []
else xb8 (xam ua t ui ub (gr (xaL ua t ui ub uh uk).snd 3) uk)
noncomputable def xia (ua t ui:Int) (ub uh uk:List (List Int)):List (List Int) :=
 bif !xag ua ub||ua !=(0:Int)||!xay uk||!xaz t||decide (ui<(0:Int))||decide (ui>(100000:Int)) then []
else bif (xaL ua t ui ub uh uk).fst.beq 1 then [] else (xib ua t ui ub uh uk)
noncomputable def xbN (ua t ui:Int) (ub uh uk:List (List Int)):List (List Int) :=
 (xia ua t ui ub uh uk)
noncomputable def xh9 (ua t ui:Int) (ub uh uk:List (List Int)):List (List Int) :=
 bif !!decide ((bif (xbu ua t ui ub uh uk).fst.beq 1 then gi (xbu ua t ui ub uh uk).snd 0 else (-1:Int))≥(0:Int)) then []
else
 xyf (↑(xb8 (xam ua t ui ub (gr (xaL ua t ui ub uh uk).snd 3) uk)).length:Int)
  (xam ua t ui ub (gr (xaL ua t ui ub uh uk).snd 3) uk)
noncomputable def xh8 (ua t ui:Int) (ub uh uk:List (List Int)):List (List Int) :=
 bif !xag ua ub||ua !=(0:Int)||!xay uk||!xaz t||decide (ui<(0:Int))||decide (ui>(100000:Int)) then []
else bif (xaL ua t ui ub uh uk).fst.beq 1 then [] else (xh9 ua t ui ub uh uk)
noncomputable def xby (ua t ui:Int) (ub uh uk:List (List Int)):List (List Int) :=
 (xh8 ua t ui ub uh uk)
noncomputable def xh7 (ua t ui:Int) (ub uh uk:List (List Int)):Int :=
 bif !!decide ((bif (xbu ua t ui ub uh uk).fst.beq 1 then gi (xbu ua t ui ub uh uk).snd 0 else (-1:Int))≥(0:Int)) then (1:Int) else (0:Int)
noncomputable def xh6 (ua t ui:Int) (ub uh uk:List (List Int)):Int :=
 bif !xag ua ub||ua !=(0:Int)||!xay uk||!xaz t||decide (ui<(0:Int))||decide (ui>(100000:Int)) then
 (1:Int)
else bif (xaL ua t ui ub uh uk).fst.beq 1 then (1:Int) else (xh7 ua t ui ub uh uk)
noncomputable def xbM (ua t ui:Int) (ub uh uk:List (List Int)):Int :=
 (xh6 ua t ui ub uh uk)
def xbi (ua t ui:Int) (ub uh uk:List (List Int)):Prop :=
 ((xaK ua ub)∧((((!xag ua ub||ua !=(0:Int))=false)→(xbx uk))∧(((!xag ua ub||ua !=(0:Int)||!xay uk||!xaz t||decide (ui<(0:Int))||decide (ui>(100000:Int)))=false)→(((xax (xd5 ua t ui ub uh uk) (xd6 ua t ui ub uh uk)))∧(((xaL ua t ui ub uh uk).fst.beq 1=false)→(((xax (xd3 ua t ui ub uh uk) (xd4 ua t ui ub uh uk)))∧(((!!decide ((bif (xbu ua t ui ub uh uk).fst.beq 1 then gi (xbu ua t ui ub uh uk).snd 0 else (-1:Int))≥(0:Int)))=false)→((xcQ ua t ui ub (gr (xaL ua t ui ub uh uk).snd 3) uk)∧((xbX (xam ua t ui ub (gr (xaL ua t ui ub uh uk).snd 3) uk))∧(xtJ (↑(xb8 (xam ua t ui ub (gr (xaL ua t ui ub uh uk).snd 3) uk)).length:Int)
 (xam ua t ui ub (gr (xaL ua t ui ub uh uk).snd 3) uk)))))))))))
noncomputable def xn9 (ua t ui:Int) (ub uh uk ug um:List (List Int)) (y0:List U):List (List Int) :=
 putRow 1 [(uh.getD (gi y0 2).toNat []).getD 0 (0:Int)]
 [(uh.getD (gi y0 2).toNat []).getD 0 (0:Int),encL (decL ((uh.getD (gi y0 2).toNat []).getD 1 (0:Int)))] (gr y0 3)
noncomputable def xey (ua t ui:Int) (ub uh uk ug um:List (List Int)):List U :=
 [.b (false),.i ((0:Int)),.i ((0:Int)),.r ([])]
noncomputable def xex (ua t ui:Int) (ub uh uk ug um:List (List Int)) (y0:List U):Option (Nat×List U) :=
 (bif decide (gi y0 2<(↑uh.length:Int)) then xac (inR (gi y0 2) uh) (xac (inR (gi y0 2) uh) (xac (xaK ((uh.getD (gi y0 2).toNat []).getD 0 (0:Int)) (decL ((uh.getD (gi y0 2).toNat []).getD 1 (0:Int)))) ((bif !xag ((uh.getD (gi y0 2).toNat []).getD 0 (0:Int)) (decL ((uh.getD (gi y0 2).toNat []).getD 1 (0:Int))) ||
 decide ((uh.getD (gi y0 2).toNat []).getD 0 (0:Int)≤gi y0 1) then some (1,[.i (ua),.i (t),.i (ui),.r (gr y0 3)]) else some (0,[.b (gb y0 0),.i ((uh.getD (gi y0 2).toNat []).getD 0 (0:Int)),.i (IntKind.i64.wrap (gi y0 2+(1:Int))),.r ((xn9 ua t ui ub uh uk ug um y0))]))))) else some (3,[.b (gb y0 0),.i (gi y0 1),.i (gi y0 2),.r (gr y0 3)]))
noncomputable def xao (ua t ui:Int) (ub uh uk ug um:List (List Int)):Nat×List U:=xat (xex ua t ui ub uh uk ug um) (xey ua t ui ub uh uk ug um)
noncomputable def xew (ua t ui:Int) (ub uh uk ug um:List (List Int)):List U :=
 [.i ((0:Int)),.i ((0:Int))]
noncomputable def xev (ua t ui:Int) (ub uh uk ug um:List (List Int)) (y1:List U):Option (Nat×List U) :=
 (bif decide (gi y1 1<(↑uk.length:Int)) then xac (inR (gi y1 1) uk) (xac (inR (gi y1 1) uk) ((bif !(xbO 1 [(uk.getD (gi y1 1).toNat []).getD 0 (0:Int)] (gr (xao ua t ui ub uh uk ug um).snd 3)).isSome then some (1,[.i (gi y1 1)]) else some (0,[.i (gi y1 0),.i (IntKind.i64.wrap (gi y1 1+(1:Int)))])))) else some (3,[.i (gi y1 0),.i (gi y1 1)]))
noncomputable def xcs (ua t ui:Int) (ub uh uk ug um:List (List Int)):Nat×List U:=xat (xev ua t ui ub uh uk ug um) (xew ua t ui ub uh uk ug um)
noncomputable def xi9 (ua t ui:Int) (ub uh uk ug um:List (List Int)) (y2:List U):Int :=
 xc3 ((ug.getD (IntKind.i64.wrap (gi y2 1-(1:Int))).toNat []).getD 0 (0:Int))
 ((ug.getD (IntKind.i64.wrap (gi y2 1-(1:Int))).toNat []).getD 1 (0:Int))
 ((ug.getD (IntKind.i64.wrap (gi y2 1-(1:Int))).toNat []).getD 2 (0:Int)) ((ug.getD (gi y2 1).toNat []).getD 0 (0:Int))
 ((ug.getD (gi y2 1).toNat []).getD 1 (0:Int)) ((ug.getD (gi y2 1).toNat []).getD 2 (0:Int))
noncomputable def xeu (ua t ui:Int) (ub uh uk ug um:List (List Int)):List U :=
 [.b (false),.i ((1:Int))]
noncomputable def xck (ua t ui:Int) (ub uh uk ug um:List (List Int)) (y2:List U):Option (Nat×List U) :=
 (bif decide (gi y2 1<(↑ug.length:Int)) then xac (inR (IntKind.i64.wrap (gi y2 1-(1:Int))) ug) (xac (inR (IntKind.i64.wrap (gi y2 1-(1:Int))) ug) (xac (inR (gi y2 1) ug) (xac (inR (gi y2 1) ug) (xac (xbJ ((ug.getD (IntKind.i64.wrap (gi y2 1-(1:Int))).toNat []).getD 0 (0:Int))
 ((ug.getD (IntKind.i64.wrap (gi y2 1-(1:Int))).toNat []).getD 1 (0:Int))
 ((ug.getD (IntKind.i64.wrap (gi y2 1-(1:Int))).toNat []).getD 2 (0:Int)) ((ug.getD (gi y2 1).toNat []).getD 0 (0:Int))
 ((ug.getD (gi y2 1).toNat []).getD 1 (0:Int)) ((ug.getD (gi y2 1).toNat []).getD 2 (0:Int))) ((bif decide ((xi9 ua t ui ub uh uk ug um y2)≥(0:Int)) then some (1,[]) else some (0,[.b (gb y2 0),.i (IntKind.i64.wrap (gi y2 1+(1:Int)))]))))))) else some (3,[.b (gb y2 0),.i (gi y2 1)]))
noncomputable def xdQ (ua t ui:Int) (ub uh uk ug um:List (List Int)):Nat×List U:=xat (xck ua t ui ub uh uk ug um) (xeu ua t ui ub uh uk ug um)
noncomputable def xi8 (ua t ui:Int) (ub uh uk ug um:List (List Int)) (y3:List U):Int :=
 xeT ((um.getD (IntKind.i64.wrap (gi y3 1-(1:Int))).toNat []).getD 0 (0:Int))
 ((um.getD (IntKind.i64.wrap (gi y3 1-(1:Int))).toNat []).getD 1 (0:Int)) ((um.getD (gi y3 1).toNat []).getD 0 (0:Int))
 ((um.getD (gi y3 1).toNat []).getD 1 (0:Int))
noncomputable def xet (ua t ui:Int) (ub uh uk ug um:List (List Int)):List U :=
 [.b (false),.i ((1:Int))]
noncomputable def xcj (ua t ui:Int) (ub uh uk ug um:List (List Int)) (y3:List U):Option (Nat×List U) :=
 (bif decide (gi y3 1<(↑um.length:Int)) then xac (inR (IntKind.i64.wrap (gi y3 1-(1:Int))) um) (xac (inR (IntKind.i64.wrap (gi y3 1-(1:Int))) um) (xac (inR (gi y3 1) um) (xac (inR (gi y3 1) um) (xac (xc2 ((um.getD (IntKind.i64.wrap (gi y3 1-(1:Int))).toNat []).getD 0 (0:Int))
 ((um.getD (IntKind.i64.wrap (gi y3 1-(1:Int))).toNat []).getD 1 (0:Int)) ((um.getD (gi y3 1).toNat []).getD 0 (0:Int))
 ((um.getD (gi y3 1).toNat []).getD 1 (0:Int))) ((bif decide ((xi8 ua t ui ub uh uk ug um y3)≥(0:Int)) then some (1,[]) else some (0,[.b (gb y3 0),.i (IntKind.i64.wrap (gi y3 1+(1:Int)))]))))))) else some (3,[.b (gb y3 0),.i (gi y3 1)]))
noncomputable def xfd (ua t ui:Int) (ub uh uk ug um:List (List Int)):Nat×List U:=xat (xcj ua t ui ub uh uk ug um) (xet ua t ui ub uh uk ug um)
noncomputable def xer (ua t ui:Int) (ub uh uk ug um:List (List Int)) (y4:List U):List U :=
 [.i ((0:Int)),.i ((0:Int))]
noncomputable def xci (ua t ui:Int) (ub uh uk ug um:List (List Int)) (y4:List U) (y5:List U):Option (Nat×List U) :=
 (bif decide (gi y5 1<(↑ug.length:Int)) then xac (inR (gi y5 1) ug) (xac (inR (gi y5 1) ug) ((bif xgA (((xam ua t ui ub (gr (xao ua t ui ub uh uk ug um).snd 3) uk).getD (gi y4 2).toNat []).getD 0 (0:Int))
 (((xam ua t ui ub (gr (xao ua t ui ub uh uk ug um).snd 3) uk).getD (gi y4 2).toNat []).getD 1 (0:Int))
 (((xam ua t ui ub (gr (xao ua t ui ub uh uk ug um).snd 3) uk).getD (gi y4 2).toNat []).getD 2 (0:Int) !=(0:Int))
 (((xam ua t ui ub (gr (xao ua t ui ub uh uk ug um).snd 3) uk).getD (gi y4 2).toNat []).getD 3 (0:Int) !=(0:Int))
 ((ug.getD (gi y5 1).toNat []).getD 0 (0:Int)) ((ug.getD (gi y5 1).toNat []).getD 1 (0:Int))
 ((ug.getD (gi y5 1).toNat []).getD 2 (0:Int)) then some (1,[.i (gi y5 1)]) else some (0,[.i (gi y5 0),.i (IntKind.i64.wrap (gi y5 1+(1:Int)))])))) else some (3,[.i (gi y5 0),.i (gi y5 1)]))
noncomputable def xfc (ua t ui:Int) (ub uh uk ug um:List (List Int)) (y4:List U):Nat×List U:=xat (xci ua t ui ub uh uk ug um y4) (xer ua t ui ub uh uk ug um y4)
noncomputable def xeq (ua t ui:Int) (ub uh uk ug um:List (List Int)) (y4:List U):List U :=
 [.i ((0:Int)),.i ((0:Int))]
noncomputable def xch (ua t ui:Int) (ub uh uk ug um:List (List Int)) (y4:List U) (y6:List U):Option (Nat×List U) :=
 (bif decide (gi y6 1<(↑um.length:Int)) then xac (inR (gi y6 1) um) (xac (inR (gi y6 1) um) ((bif ((xam ua t ui ub (gr (xao ua t ui ub uh uk ug um).snd 3) uk).getD (gi y4 2).toNat []).getD 0 (0:Int) ==
  (um.getD (gi y6 1).toNat []).getD 0 (0:Int) &&
 (((xam ua t ui ub (gr (xao ua t ui ub uh uk ug um).snd 3) uk).getD (gi y4 2).toNat []).getD 1 (0:Int) ==
   (um.getD (gi y6 1).toNat []).getD 1 (0:Int) &&
  true) then some (1,[.i (gi y6 1)]) else some (0,[.i (gi y6 0),.i (IntKind.i64.wrap (gi y6 1+(1:Int)))])))) else some (3,[.i (gi y6 0),.i (gi y6 1)]))
noncomputable def xfb (ua t ui:Int) (ub uh uk ug um:List (List Int)) (y4:List U):Nat×List U:=xat (xch ua t ui ub uh uk ug um y4) (xeq ua t ui ub uh uk ug um y4)
noncomputable def xep (ua t ui:Int) (ub uh uk ug um:List (List Int)) (y4:List U):List U :=
 [.i ((0:Int)),.i ((0:Int))]
noncomputable def xcg (ua t ui:Int) (ub uh uk ug um:List (List Int)) (y4:List U) (y7:List U):Option (Nat×List U) :=
 (bif decide (gi y7 1<(↑(gr y4 3).length:Int)) then xac (inR (gi y7 1) (gr y4 3)) (xac (inR (gi y7 1) (gr y4 3)) ((bif !xgb (((xam ua t ui ub (gr (xao ua t ui ub uh uk ug um).snd 3) uk).getD (gi y4 2).toNat []).getD 0 (0:Int))
  (((xam ua t ui ub (gr (xao ua t ui ub uh uk ug um).snd 3) uk).getD (gi y4 2).toNat []).getD 1 (0:Int))
  (((xam ua t ui ub (gr (xao ua t ui ub uh uk ug um).snd 3) uk).getD (gi y4 2).toNat []).getD 2 (0:Int) !=(0:Int))
  (((xam ua t ui ub (gr (xao ua t ui ub uh uk ug um).snd 3) uk).getD (gi y4 2).toNat []).getD 3 (0:Int) !=(0:Int))
  (((gr y4 3).getD (gi y7 1).toNat []).getD 0 (0:Int)) (((gr y4 3).getD (gi y7 1).toNat []).getD 1 (0:Int))
  (((gr y4 3).getD (gi y7 1).toNat []).getD 2 (0:Int) !=(0:Int)) (((gr y4 3).getD (gi y7 1).toNat []).getD 3 (0:Int) !=(0:Int)) then some (1,[.i (gi y7 1)]) else some (0,[.i (gi y7 0),.i (IntKind.i64.wrap (gi y7 1+(1:Int)))])))) else some (3,[.i (gi y7 0),.i (gi y7 1)]))
noncomputable def xfa (ua t ui:Int) (ub uh uk ug um:List (List Int)) (y4:List U):Nat×List U:=xat (xcg ua t ui ub uh uk ug um y4) (xep ua t ui ub uh uk ug um y4)
noncomputable def xi7 (ua t ui:Int) (ub uh uk ug um:List (List Int)) (y4:List U):List Int :=
 [bif ((xam ua t ui ub (gr (xao ua t ui ub uh uk ug um).snd 3) uk).getD (gi y4 2).toNat []).getD 2 (0:Int) !=(0:Int) then (1:Int)
 else (0:Int),
 bif ((xam ua t ui ub (gr (xao ua t ui ub uh uk ug um).snd 3) uk).getD (gi y4 2).toNat []).getD 3 (0:Int) !=(0:Int) then (1:Int)
 else (0:Int)]
noncomputable def xe9 (ua t ui:Int) (ub uh uk ug um:List (List Int)) (y4:List U):List Int :=
 ((xam ua t ui ub (gr (xao ua t ui ub uh uk ug um).snd 3) uk).getD (gi y4 2).toNat []).getD 0 (0:Int) ::
 ((xam ua t ui ub (gr (xao ua t ui ub uh uk ug um).snd 3) uk).getD (gi y4 2).toNat []).getD 1 (0:Int)::(xi7 ua t ui ub uh uk ug um y4)
noncomputable def xes (ua t ui:Int) (ub uh uk ug um:List (List Int)):List U :=
 [.b (false),.i ((0:Int)),.i ((0:Int)),.r ([])]
noncomputable def xbq (ua t ui:Int) (ub uh uk ug um:List (List Int)) (y4:List U):Option (Nat×List U) :=
 (bif decide (gi y4 2<(↑(xam ua t ui ub (gr (xao ua t ui ub uh uk ug um).snd 3) uk).length:Int)) then xac (inR (gi y4 2) (xam ua t ui ub (gr (xao ua t ui ub uh uk ug um).snd 3) uk)) (xac (inR (gi y4 2) (xam ua t ui ub (gr (xao ua t ui ub uh uk ug um).snd 3) uk)) (xac ((xax (xci ua t ui ub uh uk ug um y4) (xer ua t ui ub uh uk ug um y4))) ((bif !decide ((bif (xfc ua t ui ub uh uk ug um y4).fst.beq 1 then gi (xfc ua t ui ub uh uk ug um y4).snd 0 else (-1:Int))≥(0:Int)) then some (1,[]) else xac ((xax (xch ua t ui ub uh uk ug um y4) (xeq ua t ui ub uh uk ug um y4))) ((bif decide ((bif (xfb ua t ui ub uh uk ug um y4).fst.beq 1 then gi (xfb ua t ui ub uh uk ug um y4).snd 0 else (-1:Int))≥(0:Int)) then xac ((xax (xcg ua t ui ub uh uk ug um y4) (xep ua t ui ub uh uk ug um y4))) ((bif decide ((bif (xfa ua t ui ub uh uk ug um y4).fst.beq 1 then gi (xfa ua t ui ub uh uk ug um y4).snd 0 else (-1:Int))≥(0:Int)) then some (2,[]) else xac (xa5 24 ((gr y4 3).length+[(xe9 ua t ui ub uh uk ug um y4)].length)) (some (0,[.b (gb y4 0),.i (gi y4 1),.i (IntKind.i64.wrap (gi y4 2+(1:Int))),.r (gr y4 3++[(xe9 ua t ui ub uh uk ug um y4)])])))) else some (0,[.b (gb y4 0),.i (gi y4 1),.i (IntKind.i64.wrap (gi y4 2+(1:Int))),.r (gr y4 3)]))))))) else some (5,[.b (gb y4 0),.i (gi y4 1),.i (gi y4 2),.r (gr y4 3)]))
noncomputable def xbf (ua t ui:Int) (ub uh uk ug um:List (List Int)):Nat×List U:=xat (xbq ua t ui ub uh uk ug um) (xes ua t ui ub uh uk ug um)
noncomputable def xdo (ua t ui:Int) (ub uh uk ug um:List (List Int)):Bool :=
 bif !xag ua ub||ua !=(0:Int)||!xay uk||!xaz t||decide (ui<(0:Int))||decide (ui>(100000:Int)) then false
else
 bif (xao ua t ui ub uh uk ug um).fst.beq 1 then false
 else
  bif !!decide ((bif (xcs ua t ui ub uh uk ug um).fst.beq 1 then gi (xcs ua t ui ub uh uk ug um).snd 0 else (-1:Int))≥(0:Int)) then false
  else
   bif
     ((↑ug.length:Int) !=(↑um.length:Int)||!bif (xdQ ua t ui ub uh uk ug um).fst.beq 1 then false else true) ||
      !bif (xfd ua t ui ub uh uk ug um).fst.beq 1 then false else true then
    false
   else
    bif (xbf ua t ui ub uh uk ug um).fst.beq 1 then false
    else bif (xbf ua t ui ub uh uk ug um).fst.beq 2 then false else (↑(gr (xbf ua t ui ub uh uk ug um).snd 3).length:Int)==(↑um.length:Int)
noncomputable def xi6 (ua t ui:Int) (ub uh uk ug um:List (List Int)):Int :=
 bif ((↑ug.length:Int) !=(↑um.length:Int)||!bif (xdQ ua t ui ub uh uk ug um).fst.beq 1 then false else true)||!bif (xfd ua t ui ub uh uk ug um).fst.beq 1 then false else true then
 (0:Int)
else bif (xbf ua t ui ub uh uk ug um).fst.beq 1 then (0:Int) else bif (xbf ua t ui ub uh uk ug um).fst.beq 2 then (0:Int) else (0:Int)
noncomputable def xi5 (ua t ui:Int) (ub uh uk ug um:List (List Int)):Int :=
 bif !!decide ((bif (xcs ua t ui ub uh uk ug um).fst.beq 1 then gi (xcs ua t ui ub uh uk ug um).snd 0 else (-1:Int))≥(0:Int)) then (1:Int) else (xi6 ua t ui ub uh uk ug um)
noncomputable def xi4 (ua t ui:Int) (ub uh uk ug um:List (List Int)):Int :=
 bif !xag ua ub||ua !=(0:Int)||!xay uk||!xaz t||decide (ui<(0:Int))||decide (ui>(100000:Int)) then
 (1:Int)
else bif (xao ua t ui ub uh uk ug um).fst.beq 1 then (1:Int) else (xi5 ua t ui ub uh uk ug um)
noncomputable def xdn (ua t ui:Int) (ub uh uk ug um:List (List Int)):Int :=
 (xi4 ua t ui ub uh uk ug um)
def xb4 (ua t ui:Int) (ub uh uk ug um:List (List Int)):Prop :=
 ((xaK ua ub)∧((((!xag ua ub||ua !=(0:Int))=false)→(xbx uk))∧(((!xag ua ub||ua !=(0:Int)||!xay uk||!xaz t||decide (ui<(0:Int))||decide (ui>(100000:Int)))=false)→(((xax (xex ua t ui ub uh uk ug um) (xey ua t ui ub uh uk ug um)))∧(((xao ua t ui ub uh uk ug um).fst.beq 1=false)→(((xax (xev ua t ui ub uh uk ug um) (xew ua t ui ub uh uk ug um)))∧(((!!decide ((bif (xcs ua t ui ub uh uk ug um).fst.beq 1 then gi (xcs ua t ui ub uh uk ug um).snd 0 else (-1:Int))≥(0:Int)))=false)→(((((↑ug.length:Int) !=(↑um.length:Int))=false)→((xax (xck ua t ui ub uh uk ug um) (xeu ua t ui ub uh uk ug um))))∧(((((↑ug.length:Int) !=(↑um.length:Int)||!bif (xdQ ua t ui ub uh uk ug um).fst.beq 1 then false else true)=false)→((xax (xcj ua t ui ub uh uk ug um) (xet ua t ui ub uh uk ug um))))∧(((((↑ug.length:Int) !=(↑um.length:Int)||!bif (xdQ ua t ui ub uh uk ug um).fst.beq 1 then false else true)||!bif (xfd ua t ui ub uh uk ug um).fst.beq 1 then false else true)=false)→((xcQ ua t ui ub (gr (xao ua t ui ub uh uk ug um).snd 3) uk)∧((xax (xbq ua t ui ub uh uk ug um) (xes ua t ui ub uh uk ug um))))))))))))))
end Go.Proofs.YthfjhbbpdhjklaaGreat
set_option maxRecDepth 100000
set_option linter.unusedVariables false
namespace Go.Proofs.YthfjhbbpdhjklaaGreat
open Go Go.Sy
theorem xpo (ua t ui:Int) (ub uh uk:List (List Int)):xas Tryz.prog 3 (xaZ Tryz.prog K31 xcO 9 11 [.agg [.int .i64 ua,.sl 0],.sl 1,.sl 2,.int .i64 t,.int .i64 ui] ⟨[⟨0,3,false,.row 178 [.int .i64,.int .i64,.int .i64,.int .u64] ub⟩,⟨1,3,false,.nst 39 [.c (.int .i64),.s 178 [.int .i64,.int .i64,.int .i64,.int .u64]] uh⟩,⟨2,3,false,.row 53 [.int .i64,.int .i64,.int .i64] uk⟩],3⟩)=some ⟨some (xcP ua t ui ub uh uk),[],1,[⟨3,3,true,.row 122 [.int .i64,.int .i64] (xej ua t ui ub uh uk)⟩],.tup [.sl 3,.int .i64 (xei ua t ui ub uh uk)]⟩:=by kernel_rfl
noncomputable def xj1:List U→Option Eff
 | [.i ua,.i t,.i ui,.r ub,.r uh,.r uk]=>some ⟨some (xcP ua t ui ub uh uk),[],1,[⟨3,3,true,.row 122 [.int .i64,.int .i64] (xej ua t ui ub uh uk)⟩],.tup [.sl 3,.int .i64 (xei ua t ui ub uh uk)]⟩
 | _=>Option.none
noncomputable def K32:Con:=ext Tryz.prog K31 11 [.agg [.int .i64 0,.sl 0],.sl 1,.sl 2,.int .i64 0,.int .i64 0] [⟨0,0,false,.row 178 [.int .i64,.int .i64,.int .i64,.int .u64] []⟩,⟨1,0,false,.nst 39 [.c (.int .i64),.s 178 [.int .i64,.int .i64,.int .i64,.int .u64]] []⟩,⟨2,0,false,.row 53 [.int .i64,.int .i64,.int .i64] []⟩] xj1
theorem xDn:xbh Tryz.prog K32:=xav xaA xDo (n:=9) rfl rfl fun us x h=>by
 unfold xj1 at h
 split at h
 ·cases h; exact ⟨some (xcP _ _ _ _ _ _),xpo _ _ _ _ _ _,fun h=>h⟩
 ·cases h
theorem xmp (ua t ui:Int) (ub uh uk:List (List Int)):xas Tryz.prog 3 (xaZ Tryz.prog K32 xcO 9 12 [.agg [.int .i64 ua,.sl 0],.sl 1,.sl 2,.int .i64 t,.int .i64 ui] ⟨[⟨0,3,false,.row 178 [.int .i64,.int .i64,.int .i64,.int .u64] ub⟩,⟨1,3,false,.nst 39 [.c (.int .i64),.s 178 [.int .i64,.int .i64,.int .i64,.int .u64]] uh⟩,⟨2,3,false,.row 53 [.int .i64,.int .i64,.int .i64] uk⟩],3⟩)=some ⟨some (xbi ua t ui ub uh uk),[],2,[⟨3,3,true,.row 96 [.int .i64,.int .i64,.int .i64] (xbN ua t ui ub uh uk)⟩,⟨4,3,true,.row 122 [.int .i64,.int .i64] (xby ua t ui ub uh uk)⟩],.tup [.sl 3,.sl 4,.int .i64 (xbM ua t ui ub uh uk)]⟩:=by kernel_rfl
noncomputable def xhF:List U→Option Eff
 | [.i ua,.i t,.i ui,.r ub,.r uh,.r uk]=>some ⟨some (xbi ua t ui ub uh uk),[],2,[⟨3,3,true,.row 96 [.int .i64,.int .i64,.int .i64] (xbN ua t ui ub uh uk)⟩,⟨4,3,true,.row 122 [.int .i64,.int .i64] (xby ua t ui ub uh uk)⟩],.tup [.sl 3,.sl 4,.int .i64 (xbM ua t ui ub uh uk)]⟩
 | _=>Option.none
noncomputable def K33:Con:=ext Tryz.prog K32 12 [.agg [.int .i64 0,.sl 0],.sl 1,.sl 2,.int .i64 0,.int .i64 0] [⟨0,0,false,.row 178 [.int .i64,.int .i64,.int .i64,.int .u64] []⟩,⟨1,0,false,.nst 39 [.c (.int .i64),.s 178 [.int .i64,.int .i64,.int .i64,.int .u64]] []⟩,⟨2,0,false,.row 53 [.int .i64,.int .i64,.int .i64] []⟩] xhF
theorem xDm:xbh Tryz.prog K33:=xav xaA xDn (n:=9) rfl rfl fun us x h=>by
 unfold xhF at h
 split at h
 ·cases h; exact ⟨some (xbi _ _ _ _ _ _),xmp _ _ _ _ _ _,fun h=>h⟩
 ·cases h
theorem xnf (ua t ui:Int) (ub uh uk ug um:List (List Int)):xas Tryz.prog 5 (xaZ Tryz.prog K33 xcO 9 13 [.agg [.int .i64 ua,.sl 0],.sl 1,.sl 2,.int .i64 t,.int .i64 ui,.sl 3,.sl 4] ⟨[⟨0,5,false,.row 178 [.int .i64,.int .i64,.int .i64,.int .u64] ub⟩,⟨1,5,false,.nst 39 [.c (.int .i64),.s 178 [.int .i64,.int .i64,.int .i64,.int .u64]] uh⟩,⟨2,5,false,.row 53 [.int .i64,.int .i64,.int .i64] uk⟩,⟨3,5,false,.row 96 [.int .i64,.int .i64,.int .i64] ug⟩,⟨4,5,false,.row 122 [.int .i64,.int .i64] um⟩],5⟩)=some ⟨some (xb4 ua t ui ub uh uk ug um),[],0,[],.tup [.bool (xdo ua t ui ub uh uk ug um),.int .i64 (xdn ua t ui ub uh uk ug um)]⟩:=by kernel_rfl
noncomputable def xh5:List U→Option Eff
 | [.i ua,.i t,.i ui,.r ub,.r uh,.r uk,.r ug,.r um]=>some ⟨some (xb4 ua t ui ub uh uk ug um),[],0,[],.tup [.bool (xdo ua t ui ub uh uk ug um),.int .i64 (xdn ua t ui ub uh uk ug um)]⟩
 | _=>Option.none
noncomputable def K34:Con:=ext Tryz.prog K33 13 [.agg [.int .i64 0,.sl 0],.sl 1,.sl 2,.int .i64 0,.int .i64 0,.sl 3,.sl 4] [⟨0,0,false,.row 178 [.int .i64,.int .i64,.int .i64,.int .u64] []⟩,⟨1,0,false,.nst 39 [.c (.int .i64),.s 178 [.int .i64,.int .i64,.int .i64,.int .u64]] []⟩,⟨2,0,false,.row 53 [.int .i64,.int .i64,.int .i64] []⟩,⟨3,0,false,.row 96 [.int .i64,.int .i64,.int .i64] []⟩,⟨4,0,false,.row 122 [.int .i64,.int .i64] []⟩] xh5
theorem xDl:xbh Tryz.prog K34:=xav xaA xDm (n:=9) rfl rfl fun us x h=>by
 unfold xh5 at h
 split at h
 ·cases h; exact ⟨some (xb4 _ _ _ _ _ _ _ _),xnf _ _ _ _ _ _ _ _,fun h=>h⟩
 ·cases h
end Go.Proofs.YthfjhbbpdhjklaaGreat
set_option maxRecDepth 100000
set_option linter.unusedVariables false
namespace Go.Proofs.YthfjhbbpdhjklaaGreat
open Go Go.Sy
noncomputable def xh3 (x y:Int):Int :=
 IntKind.u64.wrap (x.fdiv ((2:Int) ^ min (Int.toNat (32:Int)) IntKind.u64.bits)*bAnd IntKind.u64 y (4294967295:Int)) +
 (IntKind.u64.wrap (bAnd IntKind.u64 x (4294967295:Int)*bAnd IntKind.u64 y (4294967295:Int))).fdiv ((2:Int) ^ min (Int.toNat (32:Int)) IntKind.u64.bits)
noncomputable def xm1 (x y:Int):Int :=
 IntKind.u64.wrap (x.fdiv ((2:Int) ^ min (Int.toNat (32:Int)) IntKind.u64.bits)*y.fdiv ((2:Int) ^ min (Int.toNat (32:Int)) IntKind.u64.bits)) +
 (IntKind.u64.wrap ((xh3 x y))).fdiv ((2:Int) ^ min (Int.toNat (32:Int)) IntKind.u64.bits)
noncomputable def xm0 (x y:Int):Int :=
 (IntKind.u64.wrap
   (bAnd IntKind.u64 (IntKind.u64.wrap ((xh3 x y))) (4294967295:Int) +
    IntKind.u64.wrap (bAnd IntKind.u64 x (4294967295:Int)*y.fdiv ((2:Int) ^ min (Int.toNat (32:Int)) IntKind.u64.bits)))).fdiv
 ((2:Int) ^ min (Int.toNat (32:Int)) IntKind.u64.bits)
noncomputable def xc1 (x y:Int):Int :=
 IntKind.u64.wrap (IntKind.u64.wrap ((xm1 x y))+(xm0 x y))
noncomputable def xe8 (x y:Int):Int :=
 IntKind.u64.wrap (x*y)
def xd0 (x y:Int):Prop :=
 (((0:Int)≤(32:Int))∧(((0:Int)≤(32:Int))∧(((0:Int)≤(32:Int))∧(((0:Int)≤(32:Int))∧((0:Int)≤(32:Int))))))
theorem xkb (x y:Int):xd0 x y:=by
 unfold xd0
 (first | (simp; done) | (simp; omega) | (simp [IntKind.wrap_i64]; done) | (simp [IntKind.wrap_i64]; omega))
noncomputable def xf1 (p_X p_Y:Int):Bool :=
 decide (imax p_X p_Y≤(1000000:Int))&&decide (imin p_X p_Y≥(-1000000:Int))
noncomputable def xfE (places:List (List Int)):List U :=
 [.b (false),.i ((0:Int))]
noncomputable def xda (places:List (List Int)) (y0:List U):Option (Nat×List U) :=
 (bif decide (gi y0 1<(↑places.length:Int)) then xac (inR (gi y0 1) places) (xac (inR (gi y0 1) places) ((bif !xf1 ((places.getD (gi y0 1).toNat []).getD 0 (0:Int)) ((places.getD (gi y0 1).toNat []).getD 1 (0:Int)) then some (1,[]) else some (0,[.b (gb y0 0),.i (IntKind.i64.wrap (gi y0 1+(1:Int)))])))) else some (3,[.b (gb y0 0),.i (gi y0 1)]))
noncomputable def xrs (places:List (List Int)):Nat×List U:=xat (xda places) (xfE places)
noncomputable def xg7 (places:List (List Int)):Bool :=
 bif (xrs places).fst.beq 1 then false else true
def xeL (places:List (List Int)):Prop :=
 ((xax (xda places) (xfE places)))
noncomputable def xfu (d:Int):Bool :=
 decide (d≥(0:Int))&&decide (d≤(3000000:Int))
noncomputable def xqn (p_X p_Y a_X a_Y b_X b_Y:Int):Int :=
 (0:Int)-IntKind.i64.wrap (IntKind.i64.wrap (IntKind.i64.wrap (b_X-a_X)*IntKind.i64.wrap (p_Y-a_Y))-IntKind.i64.wrap (IntKind.i64.wrap (b_Y-a_Y)*IntKind.i64.wrap (p_X-a_X)))
noncomputable def xkv (p_X p_Y a_X a_Y b_X b_Y:Int):Int :=
 imax (IntKind.i64.wrap (IntKind.i64.wrap (IntKind.i64.wrap (b_X-a_X)*IntKind.i64.wrap (p_Y-a_Y))-IntKind.i64.wrap (IntKind.i64.wrap (b_Y-a_Y)*IntKind.i64.wrap (p_X-a_X))))
 (IntKind.i64.wrap ((xqn p_X p_Y a_X a_Y b_X b_Y)))
noncomputable def xqm (p_X p_Y a_X a_Y b_X b_Y:Int):Int :=
 bif
  decide
   (IntKind.i64.wrap (IntKind.i64.wrap (IntKind.i64.wrap (b_X-a_X)*IntKind.i64.wrap (p_X-a_X))+IntKind.i64.wrap (IntKind.i64.wrap (b_Y-a_Y)*IntKind.i64.wrap (p_Y-a_Y))) ≥
    IntKind.i64.wrap (IntKind.i64.wrap (IntKind.i64.wrap (b_X-a_X)*IntKind.i64.wrap (b_X-a_X))+IntKind.i64.wrap (IntKind.i64.wrap (b_Y-a_Y)*IntKind.i64.wrap (b_Y-a_Y)))) then
 IntKind.i64.wrap (IntKind.i64.wrap (IntKind.i64.wrap (p_X-b_X)*IntKind.i64.wrap (p_X-b_X))+IntKind.i64.wrap (IntKind.i64.wrap (p_Y-b_Y)*IntKind.i64.wrap (p_Y-b_Y)))
else (xkv p_X p_Y a_X a_Y b_X b_Y)
noncomputable def xql (p_X p_Y a_X a_Y b_X b_Y:Int):Int :=
 bif
  decide
   (IntKind.i64.wrap (IntKind.i64.wrap (IntKind.i64.wrap (b_X-a_X)*IntKind.i64.wrap (p_X-a_X))+IntKind.i64.wrap (IntKind.i64.wrap (b_Y-a_Y)*IntKind.i64.wrap (p_Y-a_Y))) ≤
    (0:Int)) then
 IntKind.i64.wrap (IntKind.i64.wrap (IntKind.i64.wrap (p_X-a_X)*IntKind.i64.wrap (p_X-a_X))+IntKind.i64.wrap (IntKind.i64.wrap (p_Y-a_Y)*IntKind.i64.wrap (p_Y-a_Y)))
else (xqm p_X p_Y a_X a_Y b_X b_Y)
noncomputable def xin (p_X p_Y a_X a_Y b_X b_Y:Int):Int :=
 (xql p_X p_Y a_X a_Y b_X b_Y)
noncomputable def xqk (p_X p_Y a_X a_Y b_X b_Y:Int):Int :=
 bif
  decide
   (IntKind.i64.wrap (IntKind.i64.wrap (IntKind.i64.wrap (b_X-a_X)*IntKind.i64.wrap (p_X-a_X))+IntKind.i64.wrap (IntKind.i64.wrap (b_Y-a_Y)*IntKind.i64.wrap (p_Y-a_Y))) ≥
    IntKind.i64.wrap (IntKind.i64.wrap (IntKind.i64.wrap (b_X-a_X)*IntKind.i64.wrap (b_X-a_X))+IntKind.i64.wrap (IntKind.i64.wrap (b_Y-a_Y)*IntKind.i64.wrap (b_Y-a_Y)))) then
 (1:Int)
else (xkv p_X p_Y a_X a_Y b_X b_Y)
noncomputable def xqj (p_X p_Y a_X a_Y b_X b_Y:Int):Int :=
 bif
  decide
   (IntKind.i64.wrap (IntKind.i64.wrap (IntKind.i64.wrap (b_X-a_X)*IntKind.i64.wrap (p_X-a_X))+IntKind.i64.wrap (IntKind.i64.wrap (b_Y-a_Y)*IntKind.i64.wrap (p_Y-a_Y))) ≤
    (0:Int)) then
 (1:Int)
else (xqk p_X p_Y a_X a_Y b_X b_Y)
noncomputable def xim (p_X p_Y a_X a_Y b_X b_Y:Int):Int :=
 (xqj p_X p_Y a_X a_Y b_X b_Y)
noncomputable def xqi (p_X p_Y a_X a_Y b_X b_Y:Int):Int :=
 bif
  decide
   (IntKind.i64.wrap (IntKind.i64.wrap (IntKind.i64.wrap (b_X-a_X)*IntKind.i64.wrap (p_X-a_X))+IntKind.i64.wrap (IntKind.i64.wrap (b_Y-a_Y)*IntKind.i64.wrap (p_Y-a_Y))) ≥
    IntKind.i64.wrap (IntKind.i64.wrap (IntKind.i64.wrap (b_X-a_X)*IntKind.i64.wrap (b_X-a_X))+IntKind.i64.wrap (IntKind.i64.wrap (b_Y-a_Y)*IntKind.i64.wrap (b_Y-a_Y)))) then
 (1:Int)
else IntKind.i64.wrap (IntKind.i64.wrap (IntKind.i64.wrap (b_X-a_X)*IntKind.i64.wrap (b_X-a_X))+IntKind.i64.wrap (IntKind.i64.wrap (b_Y-a_Y)*IntKind.i64.wrap (b_Y-a_Y)))
noncomputable def xqh (p_X p_Y a_X a_Y b_X b_Y:Int):Int :=
 bif
  decide
   (IntKind.i64.wrap (IntKind.i64.wrap (IntKind.i64.wrap (b_X-a_X)*IntKind.i64.wrap (p_X-a_X))+IntKind.i64.wrap (IntKind.i64.wrap (b_Y-a_Y)*IntKind.i64.wrap (p_Y-a_Y))) ≤
    (0:Int)) then
 (1:Int)
else (xqi p_X p_Y a_X a_Y b_X b_Y)
noncomputable def xil (p_X p_Y a_X a_Y b_X b_Y:Int):Int :=
 (xqh p_X p_Y a_X a_Y b_X b_Y)
noncomputable def xkx (a b c d:Int):Bool :=
 decide (xc1 (IntKind.u64.wrap a) (IntKind.u64.wrap b)<xc1 (IntKind.u64.wrap c) (IntKind.u64.wrap d)) ||
 xc1 (IntKind.u64.wrap a) (IntKind.u64.wrap b)==xc1 (IntKind.u64.wrap c) (IntKind.u64.wrap d) &&
  decide (xe8 (IntKind.u64.wrap a) (IntKind.u64.wrap b)≤xe8 (IntKind.u64.wrap c) (IntKind.u64.wrap d))
noncomputable def xkw (p_X p_Y a_X a_Y b_X b_Y d:Int):Bool :=
 xkx (xin p_X p_Y a_X a_Y b_X b_Y) (xim p_X p_Y a_X a_Y b_X b_Y) (IntKind.i64.wrap (d*d)) (xil p_X p_Y a_X a_Y b_X b_Y)
noncomputable def xh1 (p_X p_Y a_X a_Y b_X b_Y d:Int):Bool :=
 bif !xg7 [[p_X,p_Y],[a_X,a_Y],[b_X,b_Y]]||!xfu d then false else xkw p_X p_Y a_X a_Y b_X b_Y d
noncomputable def xoI (p_X p_Y a_X a_Y b_X b_Y d:Int):Int :=
 bif !xg7 [[p_X,p_Y],[a_X,a_Y],[b_X,b_Y]]||!xfu d then (1:Int) else (0:Int)
def xef (p_X p_Y a_X a_Y b_X b_Y d:Int):Prop :=
 (xeL [[p_X,p_Y],[a_X,a_Y],[b_X,b_Y]])
noncomputable def xc6 (p:Int) (n_Places n_Edges:List (List Int)):Bool :=
 decide (p≥(0:Int))&&decide (p<(↑n_Places.length:Int))
noncomputable def xfA (n_Places n_Edges:List (List Int)):List U :=
 [.i ((0:Int)),.i ((0:Int))]
noncomputable def xc8 (n_Places n_Edges:List (List Int)) (y0:List U):Option (Nat×List U) :=
 (bif decide (gi y0 1<(↑n_Places.length:Int)) then xac (inR (gi y0 1) n_Places) (xac (inR (gi y0 1) n_Places) ((bif !xf1 ((n_Places.getD (gi y0 1).toNat []).getD 0 (0:Int)) ((n_Places.getD (gi y0 1).toNat []).getD 1 (0:Int)) then some (1,[.i (gi y0 1)]) else some (0,[.i (gi y0 0),.i (IntKind.i64.wrap (gi y0 1+(1:Int)))])))) else some (3,[.i (gi y0 0),.i (gi y0 1)]))
noncomputable def xgI (n_Places n_Edges:List (List Int)):Nat×List U:=xat (xc8 n_Places n_Edges) (xfA n_Places n_Edges)
noncomputable def xfz (n_Places n_Edges:List (List Int)):List U :=
 [.b (false),.i ((0:Int))]
noncomputable def xc7 (n_Places n_Edges:List (List Int)) (y1:List U):Option (Nat×List U) :=
 (bif decide (gi y1 1<(↑n_Edges.length:Int)) then xac (inR (gi y1 1) n_Edges) (xac (inR (gi y1 1) n_Edges) ((bif !xc6 ((n_Edges.getD (gi y1 1).toNat []).getD 0 (0:Int)) n_Places n_Edges ||
     !xc6 ((n_Edges.getD (gi y1 1).toNat []).getD 1 (0:Int)) n_Places n_Edges ||
    (n_Edges.getD (gi y1 1).toNat []).getD 0 (0:Int)==(n_Edges.getD (gi y1 1).toNat []).getD 1 (0:Int) ||
   decide ((n_Edges.getD (gi y1 1).toNat []).getD 2 (0:Int)<(1:Int)) ||
  decide ((n_Edges.getD (gi y1 1).toNat []).getD 2 (0:Int)>(n_Edges.getD (gi y1 1).toNat []).getD 3 (0:Int)) ||
 decide ((n_Edges.getD (gi y1 1).toNat []).getD 3 (0:Int)>(400:Int)) then some (1,[]) else some (0,[.b (gb y1 0),.i (IntKind.i64.wrap (gi y1 1+(1:Int)))])))) else some (3,[.b (gb y1 0),.i (gi y1 1)]))
noncomputable def xrq (n_Places n_Edges:List (List Int)):Nat×List U:=xat (xc7 n_Places n_Edges) (xfz n_Places n_Edges)
noncomputable def xf0 (n_Places n_Edges:List (List Int)):Bool :=
 bif
  (↑n_Places.length:Int)==(0:Int)||decide ((↑n_Places.length:Int)>(30:Int))||decide ((↑n_Edges.length:Int)>(80:Int)) ||
   decide ((bif (xgI n_Places n_Edges).fst.beq 1 then gi (xgI n_Places n_Edges).snd 0 else (-1:Int))≥(0:Int)) then
 false
else bif (xrq n_Places n_Edges).fst.beq 1 then false else true
def xeJ (n_Places n_Edges:List (List Int)):Prop :=
 (((((↑n_Places.length:Int)==(0:Int)||decide ((↑n_Places.length:Int)>(30:Int))||decide ((↑n_Edges.length:Int)>(80:Int)))=false)→((xax (xc8 n_Places n_Edges) (xfA n_Places n_Edges))))∧((((↑n_Places.length:Int)==(0:Int)||decide ((↑n_Places.length:Int)>(30:Int))||decide ((↑n_Edges.length:Int)>(80:Int)) ||
  decide ((bif (xgI n_Places n_Edges).fst.beq 1 then gi (xgI n_Places n_Edges).snd 0 else (-1:Int))≥(0:Int))) =
 false)→((xax (xc7 n_Places n_Edges) (xfz n_Places n_Edges)))))
noncomputable def xdY (n_Places n_Edges uk:List (List Int)) (y0:List U):List U :=
 [.i ((0:Int)),.i ((0:Int))]
noncomputable def xcp (n_Places n_Edges uk:List (List Int)) (y0:List U) (y1:List U):Option (Nat×List U) :=
 (bif decide (gi y1 1<(↑n_Edges.length:Int)) then xac (inR (gi y1 1) n_Edges) (xac (inR (gi y1 1) n_Edges) ((bif (n_Edges.getD (gi y1 1).toNat []).getD 0 (0:Int)==(uk.getD (IntKind.i64.wrap (gi y0 1-(1:Int))).toNat []).getD 0 (0:Int) &&
   (n_Edges.getD (gi y1 1).toNat []).getD 1 (0:Int)==(uk.getD (gi y0 1).toNat []).getD 0 (0:Int) &&
  decide
   (IntKind.i64.wrap ((uk.getD (gi y0 1).toNat []).getD 1 (0:Int)-(uk.getD (IntKind.i64.wrap (gi y0 1-(1:Int))).toNat []).getD 1 (0:Int)) ≥
    (n_Edges.getD (gi y1 1).toNat []).getD 2 (0:Int)) &&
 decide
  (IntKind.i64.wrap ((uk.getD (gi y0 1).toNat []).getD 1 (0:Int)-(uk.getD (IntKind.i64.wrap (gi y0 1-(1:Int))).toNat []).getD 1 (0:Int)) ≤
   (n_Edges.getD (gi y1 1).toNat []).getD 3 (0:Int)) then some (1,[.i (gi y1 1)]) else some (0,[.i (gi y1 0),.i (IntKind.i64.wrap (gi y1 1+(1:Int)))])))) else some (3,[.i (gi y1 0),.i (gi y1 1)]))
noncomputable def xlG (n_Places n_Edges uk:List (List Int)) (y0:List U):Nat×List U:=xat (xcp n_Places n_Edges uk y0) (xdY n_Places n_Edges uk y0)
noncomputable def xdZ (n_Places n_Edges uk:List (List Int)):List U :=
 [.b (false),.i ((0:Int))]
noncomputable def xcq (n_Places n_Edges uk:List (List Int)) (y0:List U):Option (Nat×List U) :=
 (bif decide (gi y0 1<(↑uk.length:Int)) then xac (inR (gi y0 1) uk) (xac (inR (gi y0 1) uk) ((bif !xc6 ((uk.getD (gi y0 1).toNat []).getD 0 (0:Int)) n_Places n_Edges||decide ((uk.getD (gi y0 1).toNat []).getD 1 (0:Int)<(-1000:Int)) ||
 decide ((uk.getD (gi y0 1).toNat []).getD 1 (0:Int)>(10000000:Int)) then some (1,[]) else (bif gi y0 1==(0:Int) then some (0,[.b (gb y0 0),.i (IntKind.i64.wrap (gi y0 1+(1:Int)))]) else xac (inR (IntKind.i64.wrap (gi y0 1-(1:Int))) uk) (xac (inR (IntKind.i64.wrap (gi y0 1-(1:Int))) uk) (xac (((!((uk.getD (IntKind.i64.wrap (gi y0 1-(1:Int))).toNat []).getD 0 (0:Int)==(uk.getD (gi y0 1).toNat []).getD 0 (0:Int) &&
   decide
    (IntKind.i64.wrap ((uk.getD (gi y0 1).toNat []).getD 1 (0:Int)-(uk.getD (IntKind.i64.wrap (gi y0 1-(1:Int))).toNat []).getD 1 (0:Int)) >
     (0:Int)))) =
 true)→((xax (xcp n_Places n_Edges uk y0) (xdY n_Places n_Edges uk y0)))) ((bif !((uk.getD (IntKind.i64.wrap (gi y0 1-(1:Int))).toNat []).getD 0 (0:Int)==(uk.getD (gi y0 1).toNat []).getD 0 (0:Int) &&
   decide
    (IntKind.i64.wrap ((uk.getD (gi y0 1).toNat []).getD 1 (0:Int)-(uk.getD (IntKind.i64.wrap (gi y0 1-(1:Int))).toNat []).getD 1 (0:Int)) >
     (0:Int))) &&
 !decide ((bif (xlG n_Places n_Edges uk y0).fst.beq 1 then gi (xlG n_Places n_Edges uk y0).snd 0 else (-1:Int))≥(0:Int)) then some (3,[]) else some (0,[.b (gb y0 0),.i (IntKind.i64.wrap (gi y0 1+(1:Int)))]))))))))) else some (5,[.b (gb y0 0),.i (gi y0 1)]))
noncomputable def xgJ (n_Places n_Edges uk:List (List Int)):Nat×List U:=xat (xcq n_Places n_Edges uk) (xdZ n_Places n_Edges uk)
noncomputable def xdr (n_Places n_Edges uk:List (List Int)):Bool :=
 bif !xf0 n_Places n_Edges||(↑uk.length:Int)==(0:Int)||decide ((↑uk.length:Int)>(1000:Int)) then false
else bif (xgJ n_Places n_Edges uk).fst.beq 1 then false else bif (xgJ n_Places n_Edges uk).fst.beq 3 then false else true
def xeK (n_Places n_Edges uk:List (List Int)):Prop :=
 ((xeJ n_Places n_Edges)∧(((!xf0 n_Places n_Edges||(↑uk.length:Int)==(0:Int)||decide ((↑uk.length:Int)>(1000:Int)))=false)→((xax (xcq n_Places n_Edges uk) (xdZ n_Places n_Edges uk)))))
noncomputable def xjs (a_Time a_At_X a_At_Y a_Range:Int):Bool :=
 xf1 a_At_X a_At_Y&&decide (a_Range≥(0:Int))&&decide (a_Range≤(3000000:Int))&&decide (a_Time≥(0:Int))&&decide (a_Time≤(10000000:Int))
noncomputable def xeH (uk:List (List Int)):List U :=
 [.i ((0:Int)),.i ((0:Int))]
noncomputable def xcA (uk:List (List Int)) (y0:List U):Option (Nat×List U) :=
 (bif decide (gi y0 1<(↑uk.length:Int)) then xac (inR (gi y0 1) uk) (xac (inR (gi y0 1) uk) ((bif !xjs ((uk.getD (gi y0 1).toNat []).getD 0 (0:Int)) ((uk.getD (gi y0 1).toNat []).getD 1 (0:Int))
  ((uk.getD (gi y0 1).toNat []).getD 2 (0:Int)) ((uk.getD (gi y0 1).toNat []).getD 3 (0:Int)) then some (1,[.i (gi y0 1)]) else some (0,[.i (gi y0 0),.i (IntKind.i64.wrap (gi y0 1+(1:Int)))])))) else some (3,[.i (gi y0 0),.i (gi y0 1)]))
noncomputable def xjP (uk:List (List Int)):Nat×List U:=xat (xcA uk) (xeH uk)
noncomputable def xeI (uk:List (List Int)):Bool :=
 decide ((↑uk.length:Int)≤(400:Int))&&!decide ((bif (xjP uk).fst.beq 1 then gi (xjP uk).snd 0 else (-1:Int))≥(0:Int))
def xdM (uk:List (List Int)):Prop :=
 ((decide ((↑uk.length:Int)≤(400:Int))=true)→((xax (xcA uk) (xeH uk))))
noncomputable def xe4 (a_Time a_At_X a_At_Y a_Range from_ to_:Int) (n_Places n_Edges:List (List Int)):Bool :=
 xh1 a_At_X a_At_Y ((n_Places.getD from_.toNat []).getD 0 (0:Int)) ((n_Places.getD from_.toNat []).getD 1 (0:Int)) ((n_Places.getD from_.toNat []).getD 0 (0:Int))
  ((n_Places.getD from_.toNat []).getD 1 (0:Int)) a_Range &&
 xh1 a_At_X a_At_Y ((n_Places.getD to_.toNat []).getD 0 (0:Int)) ((n_Places.getD to_.toNat []).getD 1 (0:Int)) ((n_Places.getD to_.toNat []).getD 0 (0:Int))
  ((n_Places.getD to_.toNat []).getD 1 (0:Int)) a_Range
def xdL (a_Time a_At_X a_At_Y a_Range from_ to_:Int) (n_Places n_Edges:List (List Int)):Prop :=
 ((inR from_ n_Places)∧((inR from_ n_Places)∧((inR from_ n_Places)∧((inR from_ n_Places)∧((xef a_At_X a_At_Y ((n_Places.getD from_.toNat []).getD 0 (0:Int)) ((n_Places.getD from_.toNat []).getD 1 (0:Int))
 ((n_Places.getD from_.toNat []).getD 0 (0:Int)) ((n_Places.getD from_.toNat []).getD 1 (0:Int)) a_Range)∧((inR to_ n_Places)∧((inR to_ n_Places)∧((inR to_ n_Places)∧((inR to_ n_Places)∧(xef a_At_X a_At_Y ((n_Places.getD to_.toNat []).getD 0 (0:Int)) ((n_Places.getD to_.toNat []).getD 1 (0:Int)) ((n_Places.getD to_.toNat []).getD 0 (0:Int))
 ((n_Places.getD to_.toNat []).getD 1 (0:Int)) a_Range))))))))))
noncomputable def xfB (from_:Int) (n_Places n_Edges airs uk:List (List Int)) (y0:List U):List U :=
 [.i ((0:Int)),.i ((0:Int))]
noncomputable def xcr (from_:Int) (n_Places n_Edges airs uk:List (List Int)) (y0:List U) (y1:List U):Option (Nat×List U) :=
 (bif decide (gi y1 1<(↑uk.length:Int)) then xac (inR (gi y1 1) uk) (xac (inR (gi y1 1) uk) ((bif decide ((uk.getD (gi y1 1).toNat []).getD 1 (0:Int)>(airs.getD (gi y0 1).toNat []).getD 0 (0:Int)) then some (1,[.i (gi y1 1)]) else some (0,[.i (gi y1 0),.i (IntKind.i64.wrap (gi y1 1+(1:Int)))])))) else some (3,[.i (gi y1 0),.i (gi y1 1)]))
noncomputable def xaf (from_:Int) (n_Places n_Edges airs uk:List (List Int)) (y0:List U):Nat×List U:=xat (xcr from_ n_Places n_Edges airs uk y0) (xfB from_ n_Places n_Edges airs uk y0)
noncomputable def xik (from_:Int) (n_Places n_Edges airs uk:List (List Int)) (y0:List U):List Int :=
 uk.getD (IntKind.i64.wrap (IntKind.i64.wrap ((bif (xaf from_ n_Places n_Edges airs uk y0).fst.beq 1 then gi (xaf from_ n_Places n_Edges airs uk y0).snd 0 else (-1:Int))-(1:Int))+(1:Int))).toNat []
noncomputable def xfC (from_:Int) (n_Places n_Edges airs uk:List (List Int)):List U :=
 [.i ((0:Int)),.i ((0:Int))]
noncomputable def xc9 (from_:Int) (n_Places n_Edges airs uk:List (List Int)) (y0:List U):Option (Nat×List U) :=
 (bif decide (gi y0 1<(↑airs.length:Int)) then xac (inR (gi y0 1) airs) (xac (inR (gi y0 1) airs) (xac (inR (0:Int) uk) (xac (inR (0:Int) uk) (xac (inR (0:Int) uk) (xac ((decide ((airs.getD (gi y0 1).toNat []).getD 0 (0:Int)<imax from_ ((uk.getD (Int.toNat (0:Int)) []).getD 1 (0:Int)))=false)→(inR (IntKind.i64.wrap ((↑uk.length:Int)-(1:Int))) uk)) (xac ((decide ((airs.getD (gi y0 1).toNat []).getD 0 (0:Int)<imax from_ ((uk.getD (Int.toNat (0:Int)) []).getD 1 (0:Int)))=false)→(inR (IntKind.i64.wrap ((↑uk.length:Int)-(1:Int))) uk)) (xac ((decide ((airs.getD (gi y0 1).toNat []).getD 0 (0:Int)<imax from_ ((uk.getD (Int.toNat (0:Int)) []).getD 1 (0:Int)))=false)→(inR (IntKind.i64.wrap ((↑uk.length:Int)-(1:Int))) uk)) ((bif decide ((airs.getD (gi y0 1).toNat []).getD 0 (0:Int)<imax from_ ((uk.getD (Int.toNat (0:Int)) []).getD 1 (0:Int))) ||
 decide ((airs.getD (gi y0 1).toNat []).getD 0 (0:Int)≥(uk.getD (IntKind.i64.wrap ((↑uk.length:Int)-(1:Int))).toNat []).getD 1 (0:Int)) then some (0,[.i (gi y0 0),.i (IntKind.i64.wrap (gi y0 1+(1:Int)))]) else xac ((xax (xcr from_ n_Places n_Edges airs uk y0) (xfB from_ n_Places n_Edges airs uk y0))) (xac (inR (IntKind.i64.wrap (IntKind.i64.wrap ((bif (xaf from_ n_Places n_Edges airs uk y0).fst.beq 1 then gi (xaf from_ n_Places n_Edges airs uk y0).snd 0 else (-1:Int))-(1:Int))+(1:Int))) uk) (xac (inR (IntKind.i64.wrap (IntKind.i64.wrap ((bif (xaf from_ n_Places n_Edges airs uk y0).fst.beq 1 then gi (xaf from_ n_Places n_Edges airs uk y0).snd 0 else (-1:Int))-(1:Int))+(1:Int))) uk) (xac (inR (IntKind.i64.wrap (IntKind.i64.wrap ((bif (xaf from_ n_Places n_Edges airs uk y0).fst.beq 1 then gi (xaf from_ n_Places n_Edges airs uk y0).snd 0 else (-1:Int))-(1:Int))+(1:Int))) uk) (xac (inR (IntKind.i64.wrap ((bif (xaf from_ n_Places n_Edges airs uk y0).fst.beq 1 then gi (xaf from_ n_Places n_Edges airs uk y0).snd 0 else (-1:Int))-(1:Int))) uk) (xac (inR (IntKind.i64.wrap ((bif (xaf from_ n_Places n_Edges airs uk y0).fst.beq 1 then gi (xaf from_ n_Places n_Edges airs uk y0).snd 0 else (-1:Int))-(1:Int))) uk) (xac (inR (IntKind.i64.wrap ((bif (xaf from_ n_Places n_Edges airs uk y0).fst.beq 1 then gi (xaf from_ n_Places n_Edges airs uk y0).snd 0 else (-1:Int))-(1:Int))) uk) ((bif (uk.getD (IntKind.i64.wrap ((bif (xaf from_ n_Places n_Edges airs uk y0).fst.beq 1 then gi (xaf from_ n_Places n_Edges airs uk y0).snd 0 else (-1:Int))-(1:Int))).toNat []).getD 1 (0:Int) ==
 (airs.getD (gi y0 1).toNat []).getD 0 (0:Int) then xac (inR (IntKind.i64.wrap ((bif (xaf from_ n_Places n_Edges airs uk y0).fst.beq 1 then gi (xaf from_ n_Places n_Edges airs uk y0).snd 0 else (-1:Int))-(1:Int))) uk) (xac (inR (IntKind.i64.wrap ((bif (xaf from_ n_Places n_Edges airs uk y0).fst.beq 1 then gi (xaf from_ n_Places n_Edges airs uk y0).snd 0 else (-1:Int))-(1:Int))) uk) (xac (inR (IntKind.i64.wrap ((bif (xaf from_ n_Places n_Edges airs uk y0).fst.beq 1 then gi (xaf from_ n_Places n_Edges airs uk y0).snd 0 else (-1:Int))-(1:Int))) uk) (xac (inR (IntKind.i64.wrap ((bif (xaf from_ n_Places n_Edges airs uk y0).fst.beq 1 then gi (xaf from_ n_Places n_Edges airs uk y0).snd 0 else (-1:Int))-(1:Int))) uk) (xac (inR (IntKind.i64.wrap ((bif (xaf from_ n_Places n_Edges airs uk y0).fst.beq 1 then gi (xaf from_ n_Places n_Edges airs uk y0).snd 0 else (-1:Int))-(1:Int))) uk) (xac (inR (IntKind.i64.wrap ((bif (xaf from_ n_Places n_Edges airs uk y0).fst.beq 1 then gi (xaf from_ n_Places n_Edges airs uk y0).snd 0 else (-1:Int))-(1:Int))) uk) (xac (xdL ((airs.getD (gi y0 1).toNat []).getD 0 (0:Int)) ((airs.getD (gi y0 1).toNat []).getD 1 (0:Int))
 ((airs.getD (gi y0 1).toNat []).getD 2 (0:Int)) ((airs.getD (gi y0 1).toNat []).getD 3 (0:Int))
 ((uk.getD (IntKind.i64.wrap ((bif (xaf from_ n_Places n_Edges airs uk y0).fst.beq 1 then gi (xaf from_ n_Places n_Edges airs uk y0).snd 0 else (-1:Int))-(1:Int))).toNat []).getD 0 (0:Int))
 ((uk.getD (IntKind.i64.wrap ((bif (xaf from_ n_Places n_Edges airs uk y0).fst.beq 1 then gi (xaf from_ n_Places n_Edges airs uk y0).snd 0 else (-1:Int))-(1:Int))).toNat []).getD 0 (0:Int)) n_Places
 n_Edges) ((bif xe4 ((airs.getD (gi y0 1).toNat []).getD 0 (0:Int)) ((airs.getD (gi y0 1).toNat []).getD 1 (0:Int))
 ((airs.getD (gi y0 1).toNat []).getD 2 (0:Int)) ((airs.getD (gi y0 1).toNat []).getD 3 (0:Int))
 ((uk.getD (IntKind.i64.wrap ((bif (xaf from_ n_Places n_Edges airs uk y0).fst.beq 1 then gi (xaf from_ n_Places n_Edges airs uk y0).snd 0 else (-1:Int))-(1:Int))).toNat []).getD 0 (0:Int))
 ((uk.getD (IntKind.i64.wrap ((bif (xaf from_ n_Places n_Edges airs uk y0).fst.beq 1 then gi (xaf from_ n_Places n_Edges airs uk y0).snd 0 else (-1:Int))-(1:Int))).toNat []).getD 0 (0:Int)) n_Places
 n_Edges then some (0,[.i (IntKind.i64.wrap (gi y0 0+(1:Int))),.i (IntKind.i64.wrap (gi y0 1+(1:Int)))]) else some (0,[.i (gi y0 0),.i (IntKind.i64.wrap (gi y0 1+(1:Int)))]))))))))) else xac (inR (IntKind.i64.wrap ((bif (xaf from_ n_Places n_Edges airs uk y0).fst.beq 1 then gi (xaf from_ n_Places n_Edges airs uk y0).snd 0 else (-1:Int))-(1:Int))) uk) (xac (inR (IntKind.i64.wrap ((bif (xaf from_ n_Places n_Edges airs uk y0).fst.beq 1 then gi (xaf from_ n_Places n_Edges airs uk y0).snd 0 else (-1:Int))-(1:Int))) uk) (xac (inR (IntKind.i64.wrap ((bif (xaf from_ n_Places n_Edges airs uk y0).fst.beq 1 then gi (xaf from_ n_Places n_Edges airs uk y0).snd 0 else (-1:Int))-(1:Int))) uk) (xac (xdL ((airs.getD (gi y0 1).toNat []).getD 0 (0:Int)) ((airs.getD (gi y0 1).toNat []).getD 1 (0:Int))
 ((airs.getD (gi y0 1).toNat []).getD 2 (0:Int)) ((airs.getD (gi y0 1).toNat []).getD 3 (0:Int))
 ((uk.getD (IntKind.i64.wrap ((bif (xaf from_ n_Places n_Edges airs uk y0).fst.beq 1 then gi (xaf from_ n_Places n_Edges airs uk y0).snd 0 else (-1:Int))-(1:Int))).toNat []).getD 0 (0:Int))
 (((xik from_ n_Places n_Edges airs uk y0)).getD 0 (0:Int)) n_Places n_Edges) ((bif xe4 ((airs.getD (gi y0 1).toNat []).getD 0 (0:Int)) ((airs.getD (gi y0 1).toNat []).getD 1 (0:Int))
 ((airs.getD (gi y0 1).toNat []).getD 2 (0:Int)) ((airs.getD (gi y0 1).toNat []).getD 3 (0:Int))
 ((uk.getD (IntKind.i64.wrap ((bif (xaf from_ n_Places n_Edges airs uk y0).fst.beq 1 then gi (xaf from_ n_Places n_Edges airs uk y0).snd 0 else (-1:Int))-(1:Int))).toNat []).getD 0 (0:Int))
 (((xik from_ n_Places n_Edges airs uk y0)).getD 0 (0:Int)) n_Places n_Edges then some (0,[.i (IntKind.i64.wrap (gi y0 0+(1:Int))),.i (IntKind.i64.wrap (gi y0 1+(1:Int)))]) else some (0,[.i (gi y0 0),.i (IntKind.i64.wrap (gi y0 1+(1:Int)))]))))))))))))))))))))))) else some (6,[.i (gi y0 0),.i (gi y0 1)]))
noncomputable def xrr (from_:Int) (n_Places n_Edges airs uk:List (List Int)):Nat×List U:=xat (xc9 from_ n_Places n_Edges airs uk) (xfC from_ n_Places n_Edges airs uk)
noncomputable def xe6 (from_:Int) (n_Places n_Edges airs uk:List (List Int)):Int :=
 bif !xdr n_Places n_Edges uk||!xeI airs||decide (from_<(0:Int))||decide (from_>(10000000:Int)) then (0:Int) else gi (xrr from_ n_Places n_Edges airs uk).snd 0
noncomputable def xe5 (from_:Int) (n_Places n_Edges airs uk:List (List Int)):Int :=
 bif !xdr n_Places n_Edges uk||!xeI airs||decide (from_<(0:Int))||decide (from_>(10000000:Int)) then (1:Int) else (0:Int)
def xcB (from_:Int) (n_Places n_Edges airs uk:List (List Int)):Prop :=
 ((xeK n_Places n_Edges uk)∧((((!xdr n_Places n_Edges uk)=false)→(xdM airs))∧(((!xdr n_Places n_Edges uk||!xeI airs||decide (from_<(0:Int))||decide (from_>(10000000:Int)))=false)→((xax (xc9 from_ n_Places n_Edges airs uk) (xfC from_ n_Places n_Edges airs uk))))))
noncomputable def xgu (n_Places n_Edges airs:List (List Int)):List U :=
 [.b (false),.i ((0:Int))]
noncomputable def xdK (n_Places n_Edges airs:List (List Int)) (y0:List U):Option (Nat×List U) :=
 (bif decide (gi y0 1<(↑n_Edges.length:Int)) then xac (inR (gi y0 1) n_Edges) (xac (inR (gi y0 1) n_Edges) (xac (inR (gi y0 1) n_Edges) ((bif decide ((n_Edges.getD (gi y0 1).toNat []).getD 3 (0:Int)>(12:Int)) then some (1,[]) else some (0,[.b (gb y0 0),.i (IntKind.i64.wrap (gi y0 1+(1:Int)))]))))) else some (3,[.b (gb y0 0),.i (gi y0 1)]))
noncomputable def xtH (n_Places n_Edges airs:List (List Int)):Nat×List U:=xat (xdK n_Places n_Edges airs) (xgu n_Places n_Edges airs)
noncomputable def xhp (n_Places n_Edges airs:List (List Int)):Bool :=
 bif decide ((↑n_Places.length:Int)>(6:Int))||decide ((↑n_Edges.length:Int)>(10:Int))||decide ((↑airs.length:Int)>(12:Int)) then false
else bif (xtH n_Places n_Edges airs).fst.beq 1 then false else true
def xfX (n_Places n_Edges airs:List (List Int)):Prop :=
 (((decide ((↑n_Places.length:Int)>(6:Int))||decide ((↑n_Edges.length:Int)>(10:Int))||decide ((↑airs.length:Int)>(12:Int)))=false)→((xax (xdK n_Places n_Edges airs) (xgu n_Places n_Edges airs))))
noncomputable def xfY (a b:List (List Int)):List U :=
 [.b (false),.i ((0:Int))]
noncomputable def xdq (a b:List (List Int)) (y0:List U):Option (Nat×List U) :=
 (bif decide (gi y0 1<(↑a.length:Int)) then xac (inR (gi y0 1) a) (xac (inR (gi y0 1) a) (xac (inR (gi y0 1) b) (xac (inR (gi y0 1) b) ((bif (a.getD (gi y0 1).toNat []).getD 0 (0:Int) !=(b.getD (gi y0 1).toNat []).getD 0 (0:Int) then some (1,[]) else some (0,[.b (gb y0 0),.i (IntKind.i64.wrap (gi y0 1+(1:Int)))])))))) else some (3,[.b (gb y0 0),.i (gi y0 1)]))
noncomputable def xsH (a b:List (List Int)):Nat×List U:=xat (xdq a b) (xfY a b)
noncomputable def xgO (a b:List (List Int)):Bool :=
 bif (↑a.length:Int) !=(↑b.length:Int) then false else bif (xsH a b).fst.beq 1 then false else true
def xee (a b:List (List Int)):Prop :=
 ((((↑a.length:Int) !=(↑b.length:Int))=false)→((xax (xdq a b) (xfY a b))))
noncomputable def xdy (owner:Int) (lines:List (List Int)) (y0:List U):List Int :=
 [(lines.getD (gi y0 0).toNat []).getD 0 (0:Int),(lines.getD (gi y0 0).toNat []).getD 1 (0:Int),(lines.getD (gi y0 0).toNat []).getD 2 (0:Int)]
noncomputable def xlD (owner:Int) (lines:List (List Int)) (y1:List U):List Int :=
 [((gr y1 1).getD (IntKind.i64.wrap (gi y1 0-(1:Int))).toNat []).getD 1 (0:Int),
 ((gr y1 1).getD (IntKind.i64.wrap (gi y1 0-(1:Int))).toNat []).getD 2 (0:Int)]
noncomputable def xlC (owner:Int) (lines:List (List Int)) (y1:List U):List Int :=
 xlt 3 ((gr y1 1).getD (gi y1 0).toNat []) 0
 (((gr y1 1).getD (IntKind.i64.wrap (gi y1 0-(1:Int))).toNat []).getD 0 (0:Int)::(xlD owner lines y1))
noncomputable def xdW (owner:Int) (lines:List (List Int)) (y0:List U):List U :=
 [.i ((↑(gr y0 1).length:Int)),.r (gr y0 1++[(xdy owner lines y0)])]
noncomputable def xcn (owner:Int) (lines:List (List Int)) (y0:List U) (y1:List U):Option (Nat×List U) :=
 xac ((decide (gi y1 0>(0:Int))=true)→(inR (IntKind.i64.wrap (gi y1 0-(1:Int))) (gr y1 1))) (xac ((decide (gi y1 0>(0:Int))=true)→(inR (IntKind.i64.wrap (gi y1 0-(1:Int))) (gr y1 1))) (xac ((decide (gi y1 0>(0:Int))=true)→(inR (IntKind.i64.wrap (gi y1 0-(1:Int))) (gr y1 1))) ((bif decide (gi y1 0>(0:Int)) &&
 decide (((gr y1 1).getD (IntKind.i64.wrap (gi y1 0-(1:Int))).toNat []).getD 0 (0:Int)>(lines.getD (gi y0 0).toNat []).getD 0 (0:Int)) then xac (inR (IntKind.i64.wrap (gi y1 0-(1:Int))) (gr y1 1)) (xac (inR (IntKind.i64.wrap (gi y1 0-(1:Int))) (gr y1 1)) (xac (inR (gi y1 0) (gr y1 1)) (xac (inR (gi y1 0) (gr y1 1)) (some (0,[.i (IntKind.i64.wrap (gi y1 0-(1:Int))),.r ((gr y1 1).set (gi y1 0).toNat ((xlC owner lines y1)))]))))) else some (2,[.i (gi y1 0),.r (gr y1 1)])))))
noncomputable def xcv (owner:Int) (lines:List (List Int)) (y0:List U):Nat×List U:=xat (xcn owner lines y0) (xdW owner lines y0)
noncomputable def xlB (owner:Int) (lines:List (List Int)) (y0:List U):List (List Int) :=
 (gr (xcv owner lines y0).snd 1).set (gi (xcv owner lines y0).snd 0).toNat
 (xlt 3 ((gr (xcv owner lines y0).snd 1).getD (gi (xcv owner lines y0).snd 0).toNat []) 0 ((xdy owner lines y0)))
noncomputable def xdX (owner:Int) (lines:List (List Int)):List U :=
 [.i ((0:Int)),.r ([])]
noncomputable def xco (owner:Int) (lines:List (List Int)) (y0:List U):Option (Nat×List U) :=
 (bif decide (gi y0 0<(↑lines.length:Int)) then xac (inR (gi y0 0) lines) (xac (inR (gi y0 0) lines) (xac (xa5 24 ((gr y0 1).length+[(xdy owner lines y0)].length)) (xac ((xax (xcn owner lines y0) (xdW owner lines y0))) (xac (inR (gi (xcv owner lines y0).snd 0) (gr (xcv owner lines y0).snd 1)) (xac (inR (gi (xcv owner lines y0).snd 0) (gr (xcv owner lines y0).snd 1)) (some (0,[.i (IntKind.i64.wrap (gi y0 0+(1:Int))),.r ((xlB owner lines y0))]))))))) else some (2,[.i (gi y0 0),.r (gr y0 1)]))
noncomputable def xa2 (owner:Int) (lines:List (List Int)):Nat×List U:=xat (xco owner lines) (xdX owner lines)
noncomputable def xlA (owner:Int) (lines:List (List Int)) (y2:List U):Int :=
 xfe (gi y2 2) (((gr (xa2 owner lines).snd 1).getD (gi y2 1).toNat []).getD 0 (0:Int))
 (((gr (xa2 owner lines).snd 1).getD (gi y2 1).toNat []).getD 1 (0:Int))
 (((gr (xa2 owner lines).snd 1).getD (gi y2 1).toNat []).getD 2 (0:Int)) (gr y2 3)
noncomputable def xlz (owner:Int) (lines:List (List Int)) (y2:List U):Int :=
 xff (gi y2 2) (((gr (xa2 owner lines).snd 1).getD (gi y2 1).toNat []).getD 0 (0:Int))
 (((gr (xa2 owner lines).snd 1).getD (gi y2 1).toNat []).getD 1 (0:Int))
 (((gr (xa2 owner lines).snd 1).getD (gi y2 1).toNat []).getD 2 (0:Int)) (gr y2 3)
noncomputable def xly (owner:Int) (lines:List (List Int)) (y2:List U):List (List Int) :=
 xfg (gi y2 2) (((gr (xa2 owner lines).snd 1).getD (gi y2 1).toNat []).getD 0 (0:Int))
 (((gr (xa2 owner lines).snd 1).getD (gi y2 1).toNat []).getD 1 (0:Int))
 (((gr (xa2 owner lines).snd 1).getD (gi y2 1).toNat []).getD 2 (0:Int)) (gr y2 3)
noncomputable def xfx (owner:Int) (lines:List (List Int)):List U :=
 [.b (false),.i ((0:Int)),.i (owner),.r ([])]
noncomputable def xc5 (owner:Int) (lines:List (List Int)) (y2:List U):Option (Nat×List U) :=
 (bif decide (gi y2 1<(↑(gr (xa2 owner lines).snd 1).length:Int)) then xac (inR (gi y2 1) (gr (xa2 owner lines).snd 1)) (xac (inR (gi y2 1) (gr (xa2 owner lines).snd 1)) (xac (xdR (gi y2 2) (((gr (xa2 owner lines).snd 1).getD (gi y2 1).toNat []).getD 0 (0:Int))
 (((gr (xa2 owner lines).snd 1).getD (gi y2 1).toNat []).getD 1 (0:Int))
 (((gr (xa2 owner lines).snd 1).getD (gi y2 1).toNat []).getD 2 (0:Int)) (gr y2 3)) ((bif (xlA owner lines y2) !=(0:Int) then some (1,[.i (gi y2 2),.i (gi y2 2),.r (gr y2 3)]) else some (0,[.b (gb y2 0),.i (IntKind.i64.wrap (gi y2 1+(1:Int))),.i ((xlz owner lines y2)),.r ((xly owner lines y2))]))))) else some (3,[.b (gb y2 0),.i (gi y2 1),.i (gi y2 2),.r (gr y2 3)]))
noncomputable def xc0 (owner:Int) (lines:List (List Int)):Nat×List U:=xat (xc5 owner lines) (xfx owner lines)
noncomputable def xad (owner:Int) (lines:List (List Int)):List (List Int) :=
 bif (xc0 owner lines).fst.beq 1 then gr (xc0 owner lines).snd 2 else gr (xc0 owner lines).snd 3
noncomputable def xau (owner:Int) (lines:List (List Int)):Int :=
 bif (xc0 owner lines).fst.beq 1 then gi (xc0 owner lines).snd 0 else gi (xc0 owner lines).snd 2
noncomputable def xaX (owner:Int) (lines:List (List Int)):Bool :=
 bif (xc0 owner lines).fst.beq 1 then false else true
def xbc (owner:Int) (lines:List (List Int)):Prop :=
 (((xax (xco owner lines) (xdX owner lines)))∧((xax (xc5 owner lines) (xfx owner lines))))
end Go.Proofs.YthfjhbbpdhjklaaGreat
set_option maxRecDepth 100000
set_option linter.unusedVariables false
namespace Go.Proofs.YthfjhbbpdhjklaaGreat
open Go Go.Sy
theorem xmk (x y:Int):xas Tryz.prog 0 (xaZ Tryz.prog K34 xcO 9 234 [.int .u64 x,.int .u64 y] ⟨[],0⟩)=some ⟨some (xd0 x y),[],0,[],.tup [.int .u64 (xc1 x y),.int .u64 (xe8 x y)]⟩:=by kernel_rfl
noncomputable def xhv:List U→Option Eff
 | [.i x,.i y]=>some ⟨none,[],0,[],.tup [.int .u64 (xc1 x y),.int .u64 (xe8 x y)]⟩
 | _=>Option.none
noncomputable def K35:Con:=ext Tryz.prog K34 234 [.int .u64 0,.int .u64 0] [] xhv
theorem xDk:xbh Tryz.prog K35:=xav xaA xDl (n:=9) rfl rfl fun us x h=>by
 unfold xhv at h
 split at h
 ·rename_i x y; cases h; exact ⟨some (xd0 x y),xmk x y,fun _=>xkb x y⟩
 ·cases h
theorem xqo (p_X p_Y:Int):xas Tryz.prog 0 (xaZ Tryz.prog K35 xcO 9 66 [.agg [.int .i64 p_X,.int .i64 p_Y]] ⟨[],0⟩)=some ⟨none,[],0,[],.bool (xf1 p_X p_Y)⟩:=by kernel_rfl
noncomputable def xky:List U→Option Eff
 | [.i p_X,.i p_Y]=>some ⟨none,[],0,[],.bool (xf1 p_X p_Y)⟩
 | _=>Option.none
noncomputable def K36:Con:=ext Tryz.prog K35 66 [.agg [.int .i64 0,.int .i64 0]] [] xky
theorem xDj:xbh Tryz.prog K36:=xav xaA xDk (n:=9) rfl rfl fun us x h=>by
 unfold xky at h
 split at h
 ·cases h; exact ⟨none,xqo _ _,fun _=>trivial⟩
 ·cases h
theorem xqg (places:List (List Int)):xas Tryz.prog 1 (xaZ Tryz.prog K36 xcO 9 141 [.sl 0] ⟨[⟨0,1,false,.row 33 [.int .i64,.int .i64] places⟩],1⟩)=some ⟨some (xeL places),[],0,[],.bool (xg7 places)⟩:=by kernel_rfl
noncomputable def xku:List U→Option Eff
 | [.r places]=>some ⟨some (xeL places),[],0,[],.bool (xg7 places)⟩
 | _=>Option.none
noncomputable def K37:Con:=ext Tryz.prog K36 141 [.sl 0] [⟨0,0,false,.row 33 [.int .i64,.int .i64] []⟩] xku
theorem xDi:xbh Tryz.prog K37:=xav xaA xDj (n:=9) rfl rfl fun us x h=>by
 unfold xku at h
 split at h
 ·cases h; exact ⟨some (xeL _),xqg _,fun h=>h⟩
 ·cases h
theorem xmS (d:Int):xas Tryz.prog 0 (xaZ Tryz.prog K37 xcO 9 142 [.int .i64 d] ⟨[],0⟩)=some ⟨none,[],0,[],.bool (xfu d)⟩:=by kernel_rfl
noncomputable def xh0:List U→Option Eff
 | [.i d]=>some ⟨none,[],0,[],.bool (xfu d)⟩
 | _=>Option.none
noncomputable def K38:Con:=ext Tryz.prog K37 142 [.int .i64 0] [] xh0
theorem xDh:xbh Tryz.prog K38:=xav xaA xDi (n:=9) rfl rfl fun us x h=>by
 unfold xh0 at h
 split at h
 ·cases h; exact ⟨none,xmS _,fun _=>trivial⟩
 ·cases h
theorem xpb (p_X p_Y a_X a_Y b_X b_Y:Int):xas Tryz.prog 0 (xaZ Tryz.prog K38 xcO 9 192 [.agg [.int .i64 p_X,.int .i64 p_Y],.agg [.int .i64 a_X,.int .i64 a_Y],.agg [.int .i64 b_X,.int .i64 b_Y]] ⟨[],0⟩)=some ⟨none,[],0,[],.tup [.int .i64 (xin p_X p_Y a_X a_Y b_X b_Y),.int .i64 (xim p_X p_Y a_X a_Y b_X b_Y),.int .i64 (xil p_X p_Y a_X a_Y b_X b_Y)]⟩:=by kernel_rfl
noncomputable def xjQ:List U→Option Eff
 | [.i p_X,.i p_Y,.i a_X,.i a_Y,.i b_X,.i b_Y]=>some ⟨none,[],0,[],.tup [.int .i64 (xin p_X p_Y a_X a_Y b_X b_Y),.int .i64 (xim p_X p_Y a_X a_Y b_X b_Y),.int .i64 (xil p_X p_Y a_X a_Y b_X b_Y)]⟩
 | _=>Option.none
noncomputable def K39:Con:=ext Tryz.prog K38 192 [.agg [.int .i64 0,.int .i64 0],.agg [.int .i64 0,.int .i64 0],.agg [.int .i64 0,.int .i64 0]] [] xjQ
theorem xDg:xbh Tryz.prog K39:=xav xaA xDh (n:=9) rfl rfl fun us x h=>by
 unfold xjQ at h
 split at h
 ·cases h; exact ⟨none,xpb _ _ _ _ _ _,fun _=>trivial⟩
 ·cases h
theorem xru (a b c d:Int):xas Tryz.prog 0 (xaZ Tryz.prog K39 xcO 9 193 [.int .i64 a,.int .i64 b,.int .i64 c,.int .i64 d] ⟨[],0⟩)=some ⟨none,[],0,[],.bool (xkx a b c d)⟩:=by kernel_rfl
noncomputable def xlI:List U→Option Eff
 | [.i a,.i b,.i c,.i d]=>some ⟨none,[],0,[],.bool (xkx a b c d)⟩
 | _=>Option.none
noncomputable def K40:Con:=ext Tryz.prog K39 193 [.int .i64 0,.int .i64 0,.int .i64 0,.int .i64 0] [] xlI
theorem xDf:xbh Tryz.prog K40:=xav xaA xDg (n:=9) rfl rfl fun us x h=>by
 unfold xlI at h
 split at h
 ·cases h; exact ⟨none,xru _ _ _ _,fun _=>trivial⟩
 ·cases h
theorem xrt (p_X p_Y a_X a_Y b_X b_Y d:Int):xas Tryz.prog 0 (xaZ Tryz.prog K40 xcO 9 143 [.agg [.int .i64 p_X,.int .i64 p_Y],.agg [.int .i64 a_X,.int .i64 a_Y],.agg [.int .i64 b_X,.int .i64 b_Y],.int .i64 d] ⟨[],0⟩)=some ⟨none,[],0,[],.bool (xkw p_X p_Y a_X a_Y b_X b_Y d)⟩:=by kernel_rfl
noncomputable def xlH:List U→Option Eff
 | [.i p_X,.i p_Y,.i a_X,.i a_Y,.i b_X,.i b_Y,.i d]=>some ⟨none,[],0,[],.bool (xkw p_X p_Y a_X a_Y b_X b_Y d)⟩
 | _=>Option.none
noncomputable def K41:Con:=ext Tryz.prog K40 143 [.agg [.int .i64 0,.int .i64 0],.agg [.int .i64 0,.int .i64 0],.agg [.int .i64 0,.int .i64 0],.int .i64 0] [] xlH
theorem xDe:xbh Tryz.prog K41:=xav xaA xDf (n:=9) rfl rfl fun us x h=>by
 unfold xlH at h
 split at h
 ·cases h; exact ⟨none,xrt _ _ _ _ _ _ _,fun _=>trivial⟩
 ·cases h
theorem xrv (p_X p_Y a_X a_Y b_X b_Y d:Int):xas Tryz.prog 0 (xaZ Tryz.prog K41 xcO 9 80 [.agg [.int .i64 p_X,.int .i64 p_Y],.agg [.int .i64 a_X,.int .i64 a_Y],.agg [.int .i64 b_X,.int .i64 b_Y],.int .i64 d] ⟨[],0⟩)=some ⟨some (xef p_X p_Y a_X a_Y b_X b_Y d),[],0,[],.tup [.bool (xh1 p_X p_Y a_X a_Y b_X b_Y d),.int .i64 (xoI p_X p_Y a_X a_Y b_X b_Y d)]⟩:=by kernel_rfl
noncomputable def xlJ:List U→Option Eff
 | [.i p_X,.i p_Y,.i a_X,.i a_Y,.i b_X,.i b_Y,.i d]=>some ⟨some (xef p_X p_Y a_X a_Y b_X b_Y d),[],0,[],.tup [.bool (xh1 p_X p_Y a_X a_Y b_X b_Y d),.int .i64 (xoI p_X p_Y a_X a_Y b_X b_Y d)]⟩
 | _=>Option.none
noncomputable def K42:Con:=ext Tryz.prog K41 80 [.agg [.int .i64 0,.int .i64 0],.agg [.int .i64 0,.int .i64 0],.agg [.int .i64 0,.int .i64 0],.int .i64 0] [] xlJ
theorem xDd:xbh Tryz.prog K42:=xav xaA xDe (n:=9) rfl rfl fun us x h=>by
 unfold xlJ at h
 split at h
 ·cases h; exact ⟨some (xef _ _ _ _ _ _ _),xrv _ _ _ _ _ _ _,fun h=>h⟩
 ·cases h
theorem xnS (p:Int) (n_Places n_Edges:List (List Int)):xas Tryz.prog 2 (xaZ Tryz.prog K42 xcO 9 74 [.agg [.sl 0,.sl 1],.int .i64 p] ⟨[⟨0,2,false,.row 33 [.int .i64,.int .i64] n_Places⟩,⟨1,2,false,.row 98 [.int .i64,.int .i64,.int .i64,.int .i64] n_Edges⟩],2⟩)=some ⟨none,[],0,[],.bool (xc6 p n_Places n_Edges)⟩:=by kernel_rfl
noncomputable def xiQ:List U→Option Eff
 | [.i p,.r n_Places,.r n_Edges]=>some ⟨none,[],0,[],.bool (xc6 p n_Places n_Edges)⟩
 | _=>Option.none
noncomputable def K43:Con:=ext Tryz.prog K42 74 [.agg [.sl 0,.sl 1],.int .i64 0] [⟨0,0,false,.row 33 [.int .i64,.int .i64] []⟩,⟨1,0,false,.row 98 [.int .i64,.int .i64,.int .i64,.int .i64] []⟩] xiQ
theorem xDc:xbh Tryz.prog K43:=xav xaA xDd (n:=9) rfl rfl fun us x h=>by
 unfold xiQ at h
 split at h
 ·cases h; exact ⟨none,xnS _ _ _,fun _=>trivial⟩
 ·cases h
theorem xp7 (n_Places n_Edges:List (List Int)):xas Tryz.prog 2 (xaZ Tryz.prog K43 xcO 9 73 [.agg [.sl 0,.sl 1]] ⟨[⟨0,2,false,.row 33 [.int .i64,.int .i64] n_Places⟩,⟨1,2,false,.row 98 [.int .i64,.int .i64,.int .i64,.int .i64] n_Edges⟩],2⟩)=some ⟨some (xeJ n_Places n_Edges),[],0,[],.bool (xf0 n_Places n_Edges)⟩:=by kernel_rfl
noncomputable def xkq:List U→Option Eff
 | [.r n_Places,.r n_Edges]=>some ⟨some (xeJ n_Places n_Edges),[],0,[],.bool (xf0 n_Places n_Edges)⟩
 | _=>Option.none
noncomputable def K44:Con:=ext Tryz.prog K43 73 [.agg [.sl 0,.sl 1]] [⟨0,0,false,.row 33 [.int .i64,.int .i64] []⟩,⟨1,0,false,.row 98 [.int .i64,.int .i64,.int .i64,.int .i64] []⟩] xkq
theorem xDb:xbh Tryz.prog K44:=xav xaA xDc (n:=9) rfl rfl fun us x h=>by
 unfold xkq at h
 split at h
 ·cases h; exact ⟨some (xeJ _ _),xp7 _ _,fun h=>h⟩
 ·cases h
theorem xp8 (n_Places n_Edges uk:List (List Int)):xas Tryz.prog 3 (xaZ Tryz.prog K44 xcO 9 23 [.agg [.sl 0,.sl 1],.sl 2] ⟨[⟨0,3,false,.row 33 [.int .i64,.int .i64] n_Places⟩,⟨1,3,false,.row 98 [.int .i64,.int .i64,.int .i64,.int .i64] n_Edges⟩,⟨2,3,false,.row 104 [.int .i64,.int .i64] uk⟩],3⟩)=some ⟨some (xeK n_Places n_Edges uk),[],0,[],.bool (xdr n_Places n_Edges uk)⟩:=by kernel_rfl
noncomputable def xkr:List U→Option Eff
 | [.r n_Places,.r n_Edges,.r uk]=>some ⟨some (xeK n_Places n_Edges uk),[],0,[],.bool (xdr n_Places n_Edges uk)⟩
 | _=>Option.none
noncomputable def K45:Con:=ext Tryz.prog K44 23 [.agg [.sl 0,.sl 1],.sl 2] [⟨0,0,false,.row 33 [.int .i64,.int .i64] []⟩,⟨1,0,false,.row 98 [.int .i64,.int .i64,.int .i64,.int .i64] []⟩,⟨2,0,false,.row 104 [.int .i64,.int .i64] []⟩] xkr
theorem xDa:xbh Tryz.prog K45:=xav xaA xDb (n:=9) rfl rfl fun us x h=>by
 unfold xkr at h
 split at h
 ·cases h; exact ⟨some (xeK _ _ _),xp8 _ _ _,fun h=>h⟩
 ·cases h
theorem xp5 (a_Time a_At_X a_At_Y a_Range:Int):xas Tryz.prog 0 (xaZ Tryz.prog K45 xcO 9 78 [.agg [.int .i64 a_Time,.int .i64 a_At_X,.int .i64 a_At_Y,.int .i64 a_Range]] ⟨[],0⟩)=some ⟨none,[],0,[],.bool (xjs a_Time a_At_X a_At_Y a_Range)⟩:=by kernel_rfl
noncomputable def xko:List U→Option Eff
 | [.i a_Time,.i a_At_X,.i a_At_Y,.i a_Range]=>some ⟨none,[],0,[],.bool (xjs a_Time a_At_X a_At_Y a_Range)⟩
 | _=>Option.none
noncomputable def K46:Con:=ext Tryz.prog K45 78 [.agg [.int .i64 0,.int .i64 0,.int .i64 0,.int .i64 0]] [] xko
theorem xC9:xbh Tryz.prog K46:=xav xaA xDa (n:=9) rfl rfl fun us x h=>by
 unfold xko at h
 split at h
 ·cases h; exact ⟨none,xp5 _ _ _ _,fun _=>trivial⟩
 ·cases h
theorem xnT (uk:List (List Int)):xas Tryz.prog 1 (xaZ Tryz.prog K46 xcO 9 24 [.sl 0] ⟨[⟨0,1,false,.row 35 [.int .i64,.int .i64,.int .i64,.int .i64] uk⟩],1⟩)=some ⟨some (xdM uk),[],0,[],.bool (xeI uk)⟩:=by kernel_rfl
noncomputable def xiR:List U→Option Eff
 | [.r uk]=>some ⟨some (xdM uk),[],0,[],.bool (xeI uk)⟩
 | _=>Option.none
noncomputable def K47:Con:=ext Tryz.prog K46 24 [.sl 0] [⟨0,0,false,.row 35 [.int .i64,.int .i64,.int .i64,.int .i64] []⟩] xiR
theorem xC8:xbh Tryz.prog K47:=xav xaA xC9 (n:=9) rfl rfl fun us x h=>by
 unfold xiR at h
 split at h
 ·cases h; exact ⟨some (xdM _),xnT _,fun h=>h⟩
 ·cases h
theorem xp6 (a_Time a_At_X a_At_Y a_Range from_ to_:Int) (n_Places n_Edges:List (List Int)):xas Tryz.prog 2 (xaZ Tryz.prog K47 xcO 9 27 [.agg [.sl 0,.sl 1],.agg [.int .i64 a_Time,.int .i64 a_At_X,.int .i64 a_At_Y,.int .i64 a_Range],.int .i64 from_,.int .i64 to_] ⟨[⟨0,2,false,.row 33 [.int .i64,.int .i64] n_Places⟩,⟨1,2,false,.row 98 [.int .i64,.int .i64,.int .i64,.int .i64] n_Edges⟩],2⟩)=some ⟨some (xdL a_Time a_At_X a_At_Y a_Range from_ to_ n_Places n_Edges),[],0,[],.bool (xe4 a_Time a_At_X a_At_Y a_Range from_ to_ n_Places n_Edges)⟩:=by kernel_rfl
noncomputable def xkp:List U→Option Eff
 | [.i a_Time,.i a_At_X,.i a_At_Y,.i a_Range,.i from_,.i to_,.r n_Places,.r n_Edges]=>some ⟨some (xdL a_Time a_At_X a_At_Y a_Range from_ to_ n_Places n_Edges),[],0,[],.bool (xe4 a_Time a_At_X a_At_Y a_Range from_ to_ n_Places n_Edges)⟩
 | _=>Option.none
noncomputable def K48:Con:=ext Tryz.prog K47 27 [.agg [.sl 0,.sl 1],.agg [.int .i64 0,.int .i64 0,.int .i64 0,.int .i64 0],.int .i64 0,.int .i64 0] [⟨0,0,false,.row 33 [.int .i64,.int .i64] []⟩,⟨1,0,false,.row 98 [.int .i64,.int .i64,.int .i64,.int .i64] []⟩] xkp
theorem xC7:xbh Tryz.prog K48:=xav xaA xC8 (n:=9) rfl rfl fun us x h=>by
 unfold xkp at h
 split at h
 ·cases h; exact ⟨some (xdL _ _ _ _ _ _ _ _),xp6 _ _ _ _ _ _ _ _,fun h=>h⟩
 ·cases h
theorem xp9 (from_:Int) (n_Places n_Edges airs uk:List (List Int)):xas Tryz.prog 4 (xaZ Tryz.prog K48 xcO 9 8 [.agg [.sl 0,.sl 1],.sl 2,.sl 3,.int .i64 from_] ⟨[⟨0,4,false,.row 33 [.int .i64,.int .i64] n_Places⟩,⟨1,4,false,.row 98 [.int .i64,.int .i64,.int .i64,.int .i64] n_Edges⟩,⟨2,4,false,.row 35 [.int .i64,.int .i64,.int .i64,.int .i64] airs⟩,⟨3,4,false,.row 104 [.int .i64,.int .i64] uk⟩],4⟩)=some ⟨some (xcB from_ n_Places n_Edges airs uk),[],0,[],.tup [.int .i64 (xe6 from_ n_Places n_Edges airs uk),.int .i64 (xe5 from_ n_Places n_Edges airs uk)]⟩:=by kernel_rfl
noncomputable def xks:List U→Option Eff
 | [.i from_,.r n_Places,.r n_Edges,.r airs,.r uk]=>some ⟨some (xcB from_ n_Places n_Edges airs uk),[],0,[],.tup [.int .i64 (xe6 from_ n_Places n_Edges airs uk),.int .i64 (xe5 from_ n_Places n_Edges airs uk)]⟩
 | _=>Option.none
noncomputable def K49:Con:=ext Tryz.prog K48 8 [.agg [.sl 0,.sl 1],.sl 2,.sl 3,.int .i64 0] [⟨0,0,false,.row 33 [.int .i64,.int .i64] []⟩,⟨1,0,false,.row 98 [.int .i64,.int .i64,.int .i64,.int .i64] []⟩,⟨2,0,false,.row 35 [.int .i64,.int .i64,.int .i64,.int .i64] []⟩,⟨3,0,false,.row 104 [.int .i64,.int .i64] []⟩] xks
theorem xC6:xbh Tryz.prog K49:=xav xaA xC7 (n:=9) rfl rfl fun us x h=>by
 unfold xks at h
 split at h
 ·cases h; exact ⟨some (xcB _ _ _ _ _),xp9 _ _ _ _ _,fun h=>h⟩
 ·cases h
theorem xsG (n_Places n_Edges airs:List (List Int)):xas Tryz.prog 3 (xaZ Tryz.prog K49 xcO 9 6 [.agg [.sl 0,.sl 1],.sl 2] ⟨[⟨0,3,false,.row 33 [.int .i64,.int .i64] n_Places⟩,⟨1,3,false,.row 98 [.int .i64,.int .i64,.int .i64,.int .i64] n_Edges⟩,⟨2,3,false,.row 35 [.int .i64,.int .i64,.int .i64,.int .i64] airs⟩],3⟩)=some ⟨some (xfX n_Places n_Edges airs),[],0,[],.bool (xhp n_Places n_Edges airs)⟩:=by kernel_rfl
noncomputable def xmO:List U→Option Eff
 | [.r n_Places,.r n_Edges,.r airs]=>some ⟨some (xfX n_Places n_Edges airs),[],0,[],.bool (xhp n_Places n_Edges airs)⟩
 | _=>Option.none
noncomputable def K50:Con:=ext Tryz.prog K49 6 [.agg [.sl 0,.sl 1],.sl 2] [⟨0,0,false,.row 33 [.int .i64,.int .i64] []⟩,⟨1,0,false,.row 98 [.int .i64,.int .i64,.int .i64,.int .i64] []⟩,⟨2,0,false,.row 35 [.int .i64,.int .i64,.int .i64,.int .i64] []⟩] xmO
theorem xC5:xbh Tryz.prog K50:=xav xaA xC6 (n:=9) rfl rfl fun us x h=>by
 unfold xmO at h
 split at h
 ·cases h; exact ⟨some (xfX _ _ _),xsG _ _ _,fun h=>h⟩
 ·cases h
theorem xrp (a b:List (List Int)):xas Tryz.prog 2 (xaZ Tryz.prog K50 xcO 9 10 [.sl 0,.sl 1] ⟨[⟨0,2,false,.row 3 [.int .i64] a⟩,⟨1,2,false,.row 3 [.int .i64] b⟩],2⟩)=some ⟨some (xee a b),[],0,[],.bool (xgO a b)⟩:=by kernel_rfl
noncomputable def xlF:List U→Option Eff
 | [.r a,.r b]=>some ⟨some (xee a b),[],0,[],.bool (xgO a b)⟩
 | _=>Option.none
noncomputable def K51:Con:=ext Tryz.prog K50 10 [.sl 0,.sl 1] [⟨0,0,false,.row 3 [.int .i64] []⟩,⟨1,0,false,.row 3 [.int .i64] []⟩] xlF
theorem xC4:xbh Tryz.prog K51:=xav xaA xC5 (n:=9) rfl rfl fun us x h=>by
 unfold xlF at h
 split at h
 ·cases h; exact ⟨some (xee _ _),xrp _ _,fun h=>h⟩
 ·cases h
theorem xpP (owner:Int) (lines:List (List Int)):xas Tryz.prog 1 (xaZ Tryz.prog K51 xcO 9 7 [.int .i64 owner,.sl 0] ⟨[⟨0,1,false,.row 36 [.int .i64,.int .i64,.int .i64] lines⟩],1⟩)=some ⟨some (xbc owner lines),[],1,[⟨1,1,true,.row 178 [.int .i64,.int .i64,.int .i64,.int .u64] (xad owner lines)⟩],.tup [.agg [.int .i64 (xau owner lines),.sl 1],.bool (xaX owner lines)]⟩:=by kernel_rfl
noncomputable def xke:List U→Option Eff
 | [.i owner,.r lines]=>some ⟨some (xbc owner lines),[],1,[⟨1,1,true,.row 178 [.int .i64,.int .i64,.int .i64,.int .u64] (xad owner lines)⟩],.tup [.agg [.int .i64 (xau owner lines),.sl 1],.bool (xaX owner lines)]⟩
 | _=>Option.none
noncomputable def K52:Con:=ext Tryz.prog K51 7 [.int .i64 0,.sl 0] [⟨0,0,false,.row 36 [.int .i64,.int .i64,.int .i64] []⟩] xke
theorem xC3:xbh Tryz.prog K52:=xav xaA xC4 (n:=9) rfl rfl fun us x h=>by
 unfold xke at h
 split at h
 ·cases h; exact ⟨some (xbc _ _),xpP _ _,fun h=>h⟩
 ·cases h
end Go.Proofs.YthfjhbbpdhjklaaGreat
set_option maxRecDepth 100000
set_option linter.unusedVariables false
namespace Go.Proofs.YthfjhbbpdhjklaaGreat
open Go Go.Sy
noncomputable def xeE  : List Int :=
 [xau (2:Int) [[(20:Int),(5:Int),(0:Int)],[(5:Int),(4:Int),(0:Int)]],
 encL (xad (2:Int) [[(20:Int),(5:Int),(0:Int)],[(5:Int),(4:Int),(0:Int)]])]
noncomputable def xfS  : Int :=
 xbM (0:Int) (9:Int) (2:Int) [] [[xau (1:Int) [],encL (xad (1:Int) [])],(xeE)]
 [[(1:Int),(1:Int),(3:Int)],[(2:Int),(1:Int),(3:Int)]]
noncomputable def xbS  : List (List Int) :=
 xbN (0:Int) (9:Int) (2:Int) [] [[xau (1:Int) [],encL (xad (1:Int) [])],(xeE)]
 [[(1:Int),(1:Int),(3:Int)],[(2:Int),(1:Int),(3:Int)]]
noncomputable def xkf  : List (List Int) :=
 xby (0:Int) (9:Int) (2:Int) [] [[xau (1:Int) [],encL (xad (1:Int) [])],(xeE)]
 [[(1:Int),(1:Int),(3:Int)],[(2:Int),(1:Int),(3:Int)]]
noncomputable def xaV  : Bool :=
 xaX (1:Int) []&&xaX (2:Int) [[(20:Int),(5:Int),(0:Int)],[(5:Int),(4:Int),(0:Int)]]&&(xfS)==(0:Int) &&
    (↑(xad (2:Int) [[(20:Int),(5:Int),(0:Int)],[(5:Int),(4:Int),(0:Int)]]).length:Int)==(2:Int) &&
   (↑((xbS)).length:Int)==(1:Int) &&
  ((((xbS)).getD (Int.toNat (0:Int)) []).getD 0 (0:Int)==(1:Int) &&
   ((((xbS)).getD (Int.toNat (0:Int)) []).getD 1 (0:Int)==(0:Int) &&
    ((((xbS)).getD (Int.toNat (0:Int)) []).getD 2 (0:Int)==(1:Int)&&true))) &&
 (↑((xkf)).length:Int)==(1:Int)
def xdm  : Prop :=
 ((xbc (1:Int) [])∧((xbc (2:Int) [[(20:Int),(5:Int),(0:Int)],[(5:Int),(4:Int),(0:Int)]])∧((xbi (0:Int) (9:Int) (2:Int) [] [[xau (1:Int) [],encL (xad (1:Int) [])],(xeE)]
 [[(1:Int),(1:Int),(3:Int)],[(2:Int),(1:Int),(3:Int)]])∧((((xaX (1:Int) []&&xaX (2:Int) [[(20:Int),(5:Int),(0:Int)],[(5:Int),(4:Int),(0:Int)]]&&(xfS)==(0:Int) &&
   (↑(xad (2:Int) [[(20:Int),(5:Int),(0:Int)],[(5:Int),(4:Int),(0:Int)]]).length:Int)==(2:Int) &&
  (↑((xbS)).length:Int)==(1:Int)) =
 true)→(inR (0:Int) ((xbS))))∧(((xaX (1:Int) []&&xaX (2:Int) [[(20:Int),(5:Int),(0:Int)],[(5:Int),(4:Int),(0:Int)]]&&(xfS)==(0:Int) &&
   (↑(xad (2:Int) [[(20:Int),(5:Int),(0:Int)],[(5:Int),(4:Int),(0:Int)]]).length:Int)==(2:Int) &&
  (↑((xbS)).length:Int)==(1:Int)) =
 true)→(inR (0:Int) ((xbS))))))))
end Go.Proofs.YthfjhbbpdhjklaaGreat
set_option maxRecDepth 100000
set_option linter.unusedVariables false
namespace Go.Proofs.YthfjhbbpdhjklaaGreat
open Go Go.Sy
theorem xo9  : xas Tryz.prog 0 (xaZ Tryz.prog K52 xcO 9 5 [] ⟨[],0⟩)=some ⟨some (xdm),[],0,[],.bool (xaV)⟩:=by kernel_rfl
noncomputable def xjO:List U→Option Eff
 | []=>some ⟨some (xdm),[],0,[],.bool (xaV)⟩
 | _=>Option.none
noncomputable def K53:Con:=ext Tryz.prog K52 5 [] [] xjO
theorem xC2:xbh Tryz.prog K53:=xav xaA xC3 (n:=9) rfl rfl fun us x h=>by
 unfold xjO at h
 split at h
 ·cases h; exact ⟨some (xdm),xo9,fun h=>h⟩
 ·cases h
end Go.Proofs.YthfjhbbpdhjklaaGreat
set_option maxRecDepth 100000
set_option linter.unusedVariables false
namespace Go.Proofs.YthfjhbbpdhjklaaGreat
open Go Go.Sy
noncomputable def xiG (sent lag ui ul:Int) (n_Places n_Edges airs uh:List (List Int)) (y0:List U):List (List Int) :=
 gr y0 3++[[(airs.getD (gi y0 2).toNat []).getD 0 (0:Int),(1:Int),IntKind.i64.wrap (gi y0 2+(1:Int))]]
noncomputable def xdg (sent lag ui ul:Int) (n_Places n_Edges airs uh:List (List Int)):List U :=
 [.b (false),.i ((0:Int)),.i ((0:Int)),.r ([])]
noncomputable def xbC (sent lag ui ul:Int) (n_Places n_Edges airs uh:List (List Int)) (y0:List U):Option (Nat×List U) :=
 (bif decide (gi y0 2<(↑airs.length:Int)) then xac (inR (gi y0 2) airs) (xac (inR (gi y0 2) airs) ((bif decide ((airs.getD (gi y0 2).toNat []).getD 0 (0:Int)<(0:Int))||decide ((airs.getD (gi y0 2).toNat []).getD 0 (0:Int)>(100000:Int)) then some (1,[.b (xaV)]) else xac ((0:Int)≤gi y0 2) ((bif bAnd IntKind.u16 (sent.fdiv ((2:Int) ^ min (gi y0 2).toNat IntKind.u16.bits)) (1:Int)==(1:Int) then xac (xa5 24 ((gr y0 3).length+[[(airs.getD (gi y0 2).toNat []).getD 0 (0:Int),(1:Int),IntKind.i64.wrap (gi y0 2+(1:Int))]].length)) (some (0,[.b (gb y0 0),.i (gi y0 1),.i (IntKind.i64.wrap (gi y0 2+(1:Int))),.r ((xiG sent lag ui ul n_Places n_Edges airs uh y0))])) else some (0,[.b (gb y0 0),.i (IntKind.i64.wrap (gi y0 1+(1:Int))),.i (IntKind.i64.wrap (gi y0 2+(1:Int))),.r (gr y0 3)])))))) else some (4,[.b (gb y0 0),.i (gi y0 1),.i (gi y0 2),.r (gr y0 3)]))
noncomputable def xae (sent lag ui ul:Int) (n_Places n_Edges airs uh:List (List Int)):Nat×List U:=xat (xbC sent lag ui ul n_Places n_Edges airs uh) (xdg sent lag ui ul n_Places n_Edges airs uh)
noncomputable def xiF (sent lag ui ul:Int) (n_Places n_Edges airs uh:List (List Int)) (y1:List U):List (List Int) :=
 [[(uh.getD (gi y1 4).toNat []).getD 1 (0:Int),(4:Int),(0:Int)],[(uh.getD (gi y1 4).toNat []).getD 2 (0:Int),(5:Int),(0:Int)]]
noncomputable def xe1 (sent lag ui ul:Int) (n_Places n_Edges airs uh:List (List Int)) (y2:List U):List Int :=
 [(airs.getD (gi y2 3).toNat []).getD 1 (0:Int),(airs.getD (gi y2 3).toNat []).getD 2 (0:Int),(airs.getD (gi y2 3).toNat []).getD 3 (0:Int)]
noncomputable def xiE (sent lag ui ul:Int) (n_Places n_Edges airs uh:List (List Int)) (y1 y2:List U):Int :=
 xe5 ((airs.getD (gi y2 3).toNat []).getD 0 (0:Int)) n_Places n_Edges [(airs.getD (gi y2 3).toNat []).getD 0 (0:Int)::(xe1 sent lag ui ul n_Places n_Edges airs uh y2)]
 (decL ((uh.getD (gi y1 4).toNat []).getD 0 (0:Int)))
noncomputable def xiD (sent lag ui ul:Int) (n_Places n_Edges airs uh:List (List Int)) (y1 y2:List U):Int :=
 xe6 ((airs.getD (gi y2 3).toNat []).getD 0 (0:Int)) n_Places n_Edges [(airs.getD (gi y2 3).toNat []).getD 0 (0:Int)::(xe1 sent lag ui ul n_Places n_Edges airs uh y2)]
 (decL ((uh.getD (gi y1 4).toNat []).getD 0 (0:Int)))
noncomputable def xa8 (sent lag ui ul:Int) (n_Places n_Edges airs uh:List (List Int)) (y1 y2:List U):List Int :=
 [IntKind.i64.wrap (gi y1 4+(1:Int)),IntKind.i64.wrap (gi y2 3+(1:Int)),(airs.getD (gi y2 3).toNat []).getD 0 (0:Int)]
noncomputable def xdI (sent lag ui ul:Int) (n_Places n_Edges airs uh:List (List Int)) (y2:List U):List (List Int) :=
 [[IntKind.i64.wrap ((airs.getD (gi y2 3).toNat []).getD 0 (0:Int)+lag),(3:Int),IntKind.i64.wrap (gi y2 3+(1:Int))]]
noncomputable def xcd (sent lag ui ul:Int) (n_Places n_Edges airs uh:List (List Int)) (y1:List U):List U :=
 [.b (gb y1 1),.i (IntKind.i64.wrap (gi y1 0+(1:Int))),.i (gi y1 2),.i ((0:Int)),.r (gr y1 6),.r ([]),.r ((xiF sent lag ui ul n_Places n_Edges airs uh y1))]
noncomputable def xaB (sent lag ui ul:Int) (n_Places n_Edges airs uh:List (List Int)) (y1:List U) (y2:List U):Option (Nat×List U) :=
 (bif decide (gi y2 3<(↑airs.length:Int)) then xac (inR (gi y2 3) airs) (xac (inR (gi y2 3) airs) (xac (xcB ((airs.getD (gi y2 3).toNat []).getD 0 (0:Int)) n_Places n_Edges [(airs.getD (gi y2 3).toNat []).getD 0 (0:Int)::(xe1 sent lag ui ul n_Places n_Edges airs uh y2)]
 (decL ((uh.getD (gi y1 4).toNat []).getD 0 (0:Int)))) ((bif (xiE sent lag ui ul n_Places n_Edges airs uh y1 y2) !=(0:Int)||decide ((↑(decL ((uh.getD (gi y1 4).toNat []).getD 0 (0:Int))).length:Int)>(20:Int)) then some (1,[.b (xaV)]) else (bif (xiD sent lag ui ul n_Places n_Edges airs uh y1 y2)==(0:Int) then some (0,[.b (gb y2 0),.i (gi y2 1),.i (gi y2 2),.i (IntKind.i64.wrap (gi y2 3+(1:Int))),.r (gr y2 4),.r (gr y2 5),.r (gr y2 6)]) else xac (xa5 24 ((gr y2 4).length+[(xa8 sent lag ui ul n_Places n_Edges airs uh y1 y2)].length)) (xac ((0:Int)≤gi y2 3) ((bif bAnd IntKind.u16 (sent.fdiv ((2:Int) ^ min (gi y2 3).toNat IntKind.u16.bits)) (1:Int)==(1:Int) &&
  !(decide ((uh.getD (gi y1 4).toNat []).getD 1 (0:Int)≥(0:Int)) &&
       decide ((uh.getD (gi y1 4).toNat []).getD 1 (0:Int)<(uh.getD (gi y1 4).toNat []).getD 2 (0:Int)) &&
      decide ((uh.getD (gi y1 4).toNat []).getD 2 (0:Int)≤(100000:Int)) &&
     decide ((uh.getD (gi y1 4).toNat []).getD 1 (0:Int)≤(airs.getD (gi y2 3).toNat []).getD 0 (0:Int)) &&
    decide ((airs.getD (gi y2 3).toNat []).getD 0 (0:Int)<(uh.getD (gi y1 4).toNat []).getD 2 (0:Int))) &&
 decide ((airs.getD (gi y2 3).toNat []).getD 0 (0:Int)≤ul) then xac (xa5 8 ((gr y2 5).length+[[IntKind.i64.wrap (gi y2 3+(1:Int))]].length)) (xac (((bAnd IntKind.u16 (sent.fdiv ((2:Int) ^ min (gi y2 3).toNat IntKind.u16.bits)) (1:Int)==(1:Int) &&
  !(decide ((uh.getD (gi y1 4).toNat []).getD 1 (0:Int)≥(0:Int)) &&
       decide ((uh.getD (gi y1 4).toNat []).getD 1 (0:Int)<(uh.getD (gi y1 4).toNat []).getD 2 (0:Int)) &&
      decide ((uh.getD (gi y1 4).toNat []).getD 2 (0:Int)≤(100000:Int)) &&
     decide ((uh.getD (gi y1 4).toNat []).getD 1 (0:Int)≤(airs.getD (gi y2 3).toNat []).getD 0 (0:Int)) &&
    decide ((airs.getD (gi y2 3).toNat []).getD 0 (0:Int)<(uh.getD (gi y1 4).toNat []).getD 2 (0:Int)))) =
 true)→((0:Int)≤gi y2 3)) ((bif bAnd IntKind.u16 (sent.fdiv ((2:Int) ^ min (gi y2 3).toNat IntKind.u16.bits)) (1:Int)==(1:Int) &&
  !(decide ((uh.getD (gi y1 4).toNat []).getD 1 (0:Int)≥(0:Int)) &&
       decide ((uh.getD (gi y1 4).toNat []).getD 1 (0:Int)<(uh.getD (gi y1 4).toNat []).getD 2 (0:Int)) &&
      decide ((uh.getD (gi y1 4).toNat []).getD 2 (0:Int)≤(100000:Int)) &&
     decide ((uh.getD (gi y1 4).toNat []).getD 1 (0:Int)≤(airs.getD (gi y2 3).toNat []).getD 0 (0:Int)) &&
    decide ((airs.getD (gi y2 3).toNat []).getD 0 (0:Int)<(uh.getD (gi y1 4).toNat []).getD 2 (0:Int))) &&
 bAnd IntKind.u16 (((uh.getD (gi y1 4).toNat []).getD 3 (0:Int)).fdiv ((2:Int) ^ min (gi y2 3).toNat IntKind.u16.bits)) (1:Int)==(0:Int) then xac (xa5 24 ((gr y2 6).length+((xdI sent lag ui ul n_Places n_Edges airs uh y2)).length)) (some (0,[.b (gb y2 0),.i (gi y2 1),.i (gi y2 2),.i (IntKind.i64.wrap (gi y2 3+(1:Int))),.r (gr y2 4++[(xa8 sent lag ui ul n_Places n_Edges airs uh y1 y2)]),.r (gr y2 5++[[IntKind.i64.wrap (gi y2 3+(1:Int))]]),.r (gr y2 6++(xdI sent lag ui ul n_Places n_Edges airs uh y2))])) else (bif bAnd IntKind.u16 (sent.fdiv ((2:Int) ^ min (gi y2 3).toNat IntKind.u16.bits)) (1:Int)==(1:Int) &&
 !(decide ((uh.getD (gi y1 4).toNat []).getD 1 (0:Int)≥(0:Int)) &&
      decide ((uh.getD (gi y1 4).toNat []).getD 1 (0:Int)<(uh.getD (gi y1 4).toNat []).getD 2 (0:Int)) &&
     decide ((uh.getD (gi y1 4).toNat []).getD 2 (0:Int)≤(100000:Int)) &&
    decide ((uh.getD (gi y1 4).toNat []).getD 1 (0:Int)≤(airs.getD (gi y2 3).toNat []).getD 0 (0:Int)) &&
   decide ((airs.getD (gi y2 3).toNat []).getD 0 (0:Int)<(uh.getD (gi y1 4).toNat []).getD 2 (0:Int))) then (bif decide (IntKind.i64.wrap ((airs.getD (gi y2 3).toNat []).getD 0 (0:Int)+ui)≤ul) then some (0,[.b (gb y2 0),.i (IntKind.i64.wrap (gi y2 1+(1:Int))),.i (IntKind.i64.wrap (gi y2 2+(1:Int))),.i (IntKind.i64.wrap (gi y2 3+(1:Int))),.r (gr y2 4++[(xa8 sent lag ui ul n_Places n_Edges airs uh y1 y2)]),.r (gr y2 5++[[IntKind.i64.wrap (gi y2 3+(1:Int))]]),.r (gr y2 6)]) else some (0,[.b (gb y2 0),.i (IntKind.i64.wrap (gi y2 1+(1:Int))),.i (gi y2 2),.i (IntKind.i64.wrap (gi y2 3+(1:Int))),.r (gr y2 4++[(xa8 sent lag ui ul n_Places n_Edges airs uh y1 y2)]),.r (gr y2 5++[[IntKind.i64.wrap (gi y2 3+(1:Int))]]),.r (gr y2 6)])) else (bif decide (IntKind.i64.wrap ((airs.getD (gi y2 3).toNat []).getD 0 (0:Int)+ui)≤ul) then some (0,[.b (gb y2 0),.i (gi y2 1),.i (IntKind.i64.wrap (gi y2 2+(1:Int))),.i (IntKind.i64.wrap (gi y2 3+(1:Int))),.r (gr y2 4++[(xa8 sent lag ui ul n_Places n_Edges airs uh y1 y2)]),.r (gr y2 5++[[IntKind.i64.wrap (gi y2 3+(1:Int))]]),.r (gr y2 6)]) else some (0,[.b (gb y2 0),.i (gi y2 1),.i (gi y2 2),.i (IntKind.i64.wrap (gi y2 3+(1:Int))),.r (gr y2 4++[(xa8 sent lag ui ul n_Places n_Edges airs uh y1 y2)]),.r (gr y2 5++[[IntKind.i64.wrap (gi y2 3+(1:Int))]]),.r (gr y2 6)])))))) else xac (((bAnd IntKind.u16 (sent.fdiv ((2:Int) ^ min (gi y2 3).toNat IntKind.u16.bits)) (1:Int)==(1:Int) &&
  !(decide ((uh.getD (gi y1 4).toNat []).getD 1 (0:Int)≥(0:Int)) &&
       decide ((uh.getD (gi y1 4).toNat []).getD 1 (0:Int)<(uh.getD (gi y1 4).toNat []).getD 2 (0:Int)) &&
      decide ((uh.getD (gi y1 4).toNat []).getD 2 (0:Int)≤(100000:Int)) &&
     decide ((uh.getD (gi y1 4).toNat []).getD 1 (0:Int)≤(airs.getD (gi y2 3).toNat []).getD 0 (0:Int)) &&
    decide ((airs.getD (gi y2 3).toNat []).getD 0 (0:Int)<(uh.getD (gi y1 4).toNat []).getD 2 (0:Int)))) =
 true)→((0:Int)≤gi y2 3)) ((bif bAnd IntKind.u16 (sent.fdiv ((2:Int) ^ min (gi y2 3).toNat IntKind.u16.bits)) (1:Int)==(1:Int) &&
  !(decide ((uh.getD (gi y1 4).toNat []).getD 1 (0:Int)≥(0:Int)) &&
       decide ((uh.getD (gi y1 4).toNat []).getD 1 (0:Int)<(uh.getD (gi y1 4).toNat []).getD 2 (0:Int)) &&
      decide ((uh.getD (gi y1 4).toNat []).getD 2 (0:Int)≤(100000:Int)) &&
     decide ((uh.getD (gi y1 4).toNat []).getD 1 (0:Int)≤(airs.getD (gi y2 3).toNat []).getD 0 (0:Int)) &&
    decide ((airs.getD (gi y2 3).toNat []).getD 0 (0:Int)<(uh.getD (gi y1 4).toNat []).getD 2 (0:Int))) &&
 bAnd IntKind.u16 (((uh.getD (gi y1 4).toNat []).getD 3 (0:Int)).fdiv ((2:Int) ^ min (gi y2 3).toNat IntKind.u16.bits)) (1:Int)==(0:Int) then xac (xa5 24 ((gr y2 6).length+((xdI sent lag ui ul n_Places n_Edges airs uh y2)).length)) (some (0,[.b (gb y2 0),.i (gi y2 1),.i (gi y2 2),.i (IntKind.i64.wrap (gi y2 3+(1:Int))),.r (gr y2 4++[(xa8 sent lag ui ul n_Places n_Edges airs uh y1 y2)]),.r (gr y2 5),.r (gr y2 6++(xdI sent lag ui ul n_Places n_Edges airs uh y2))])) else (bif bAnd IntKind.u16 (sent.fdiv ((2:Int) ^ min (gi y2 3).toNat IntKind.u16.bits)) (1:Int)==(1:Int) &&
 !(decide ((uh.getD (gi y1 4).toNat []).getD 1 (0:Int)≥(0:Int)) &&
      decide ((uh.getD (gi y1 4).toNat []).getD 1 (0:Int)<(uh.getD (gi y1 4).toNat []).getD 2 (0:Int)) &&
     decide ((uh.getD (gi y1 4).toNat []).getD 2 (0:Int)≤(100000:Int)) &&
    decide ((uh.getD (gi y1 4).toNat []).getD 1 (0:Int)≤(airs.getD (gi y2 3).toNat []).getD 0 (0:Int)) &&
   decide ((airs.getD (gi y2 3).toNat []).getD 0 (0:Int)<(uh.getD (gi y1 4).toNat []).getD 2 (0:Int))) then (bif decide (IntKind.i64.wrap ((airs.getD (gi y2 3).toNat []).getD 0 (0:Int)+ui)≤ul) then some (0,[.b (gb y2 0),.i (IntKind.i64.wrap (gi y2 1+(1:Int))),.i (IntKind.i64.wrap (gi y2 2+(1:Int))),.i (IntKind.i64.wrap (gi y2 3+(1:Int))),.r (gr y2 4++[(xa8 sent lag ui ul n_Places n_Edges airs uh y1 y2)]),.r (gr y2 5),.r (gr y2 6)]) else some (0,[.b (gb y2 0),.i (IntKind.i64.wrap (gi y2 1+(1:Int))),.i (gi y2 2),.i (IntKind.i64.wrap (gi y2 3+(1:Int))),.r (gr y2 4++[(xa8 sent lag ui ul n_Places n_Edges airs uh y1 y2)]),.r (gr y2 5),.r (gr y2 6)])) else (bif decide (IntKind.i64.wrap ((airs.getD (gi y2 3).toNat []).getD 0 (0:Int)+ui)≤ul) then some (0,[.b (gb y2 0),.i (gi y2 1),.i (IntKind.i64.wrap (gi y2 2+(1:Int))),.i (IntKind.i64.wrap (gi y2 3+(1:Int))),.r (gr y2 4++[(xa8 sent lag ui ul n_Places n_Edges airs uh y1 y2)]),.r (gr y2 5),.r (gr y2 6)]) else some (0,[.b (gb y2 0),.i (gi y2 1),.i (gi y2 2),.i (IntKind.i64.wrap (gi y2 3+(1:Int))),.r (gr y2 4++[(xa8 sent lag ui ul n_Places n_Edges airs uh y1 y2)]),.r (gr y2 5),.r (gr y2 6)]))))))))))))) else some (13,[.b (gb y2 0),.i (gi y2 1),.i (gi y2 2),.i (gi y2 3),.r (gr y2 4),.r (gr y2 5),.r (gr y2 6)]))
noncomputable def xaJ (sent lag ui ul:Int) (n_Places n_Edges airs uh:List (List Int)) (y1:List U):Nat×List U:=xat (xaB sent lag ui ul n_Places n_Edges airs uh y1) (xcd sent lag ui ul n_Places n_Edges airs uh y1)
noncomputable def xgq (sent lag ui ul:Int) (n_Places n_Edges airs uh:List (List Int)) (y1:List U):List Int :=
 [xau (IntKind.i64.wrap (gi y1 4+(1:Int))) (gr (xaJ sent lag ui ul n_Places n_Edges airs uh y1).snd 6),
 encL (xad (IntKind.i64.wrap (gi y1 4+(1:Int))) (gr (xaJ sent lag ui ul n_Places n_Edges airs uh y1).snd 6))]
noncomputable def xgp (sent lag ui ul:Int) (n_Places n_Edges airs uh:List (List Int)) (y3:List U):List Int :=
 [(airs.getD (gi y3 3).toNat []).getD 1 (0:Int),(airs.getD (gi y3 3).toNat []).getD 2 (0:Int),(airs.getD (gi y3 3).toNat []).getD 3 (0:Int)]
noncomputable def xnJ (sent lag ui ul:Int) (n_Places n_Edges airs uh:List (List Int)) (y1 y3:List U):Int :=
 xe5 ((airs.getD (gi y3 3).toNat []).getD 0 (0:Int)) n_Places n_Edges [(airs.getD (gi y3 3).toNat []).getD 0 (0:Int)::(xgp sent lag ui ul n_Places n_Edges airs uh y3)]
 (decL ((uh.getD (gi y1 4).toNat []).getD 0 (0:Int)))
noncomputable def xmH (sent lag ui ul:Int) (n_Places n_Edges airs uh:List (List Int)) (y1 y3:List U):Int :=
 xe6 ((airs.getD (gi y3 3).toNat []).getD 0 (0:Int)) n_Places n_Edges [(airs.getD (gi y3 3).toNat []).getD 0 (0:Int)::(xgp sent lag ui ul n_Places n_Edges airs uh y3)]
 (decL ((uh.getD (gi y1 4).toNat []).getD 0 (0:Int)))
noncomputable def xa9 (sent lag ui ul:Int) (n_Places n_Edges airs uh:List (List Int)) (y1 y3:List U):List Int :=
 [IntKind.i64.wrap (gi y1 4+(1:Int)),IntKind.i64.wrap (gi y3 3+(1:Int)),(airs.getD (gi y3 3).toNat []).getD 0 (0:Int)]
noncomputable def xeC (sent lag ui ul:Int) (n_Places n_Edges airs uh:List (List Int)) (y3:List U):List (List Int) :=
 [[IntKind.i64.wrap ((airs.getD (gi y3 3).toNat []).getD 0 (0:Int)+lag),(3:Int),IntKind.i64.wrap (gi y3 3+(1:Int))]]
noncomputable def xde (sent lag ui ul:Int) (n_Places n_Edges airs uh:List (List Int)) (y1:List U):List U :=
 [.b (gb y1 1),.i (gi y1 0),.i (gi y1 2),.i ((0:Int)),.r (gr y1 6),.r ([]),.r ([])]
noncomputable def xdd (sent lag ui ul:Int) (n_Places n_Edges airs uh:List (List Int)) (y1:List U) (y3:List U):Option (Nat×List U) :=
 (bif decide (gi y3 3<(↑airs.length:Int)) then xac (inR (gi y3 3) airs) (xac (inR (gi y3 3) airs) (xac (xcB ((airs.getD (gi y3 3).toNat []).getD 0 (0:Int)) n_Places n_Edges [(airs.getD (gi y3 3).toNat []).getD 0 (0:Int)::(xgp sent lag ui ul n_Places n_Edges airs uh y3)]
 (decL ((uh.getD (gi y1 4).toNat []).getD 0 (0:Int)))) ((bif (xnJ sent lag ui ul n_Places n_Edges airs uh y1 y3) !=(0:Int)||decide ((↑(decL ((uh.getD (gi y1 4).toNat []).getD 0 (0:Int))).length:Int)>(20:Int)) then some (1,[.b (xaV)]) else (bif (xmH sent lag ui ul n_Places n_Edges airs uh y1 y3)==(0:Int) then some (0,[.b (gb y3 0),.i (gi y3 1),.i (gi y3 2),.i (IntKind.i64.wrap (gi y3 3+(1:Int))),.r (gr y3 4),.r (gr y3 5),.r (gr y3 6)]) else xac (xa5 24 ((gr y3 4).length+[(xa9 sent lag ui ul n_Places n_Edges airs uh y1 y3)].length)) (xac ((0:Int)≤gi y3 3) ((bif bAnd IntKind.u16 (sent.fdiv ((2:Int) ^ min (gi y3 3).toNat IntKind.u16.bits)) (1:Int)==(1:Int) &&
  !(decide ((uh.getD (gi y1 4).toNat []).getD 1 (0:Int)≥(0:Int)) &&
       decide ((uh.getD (gi y1 4).toNat []).getD 1 (0:Int)<(uh.getD (gi y1 4).toNat []).getD 2 (0:Int)) &&
      decide ((uh.getD (gi y1 4).toNat []).getD 2 (0:Int)≤(100000:Int)) &&
     decide ((uh.getD (gi y1 4).toNat []).getD 1 (0:Int)≤(airs.getD (gi y3 3).toNat []).getD 0 (0:Int)) &&
    decide ((airs.getD (gi y3 3).toNat []).getD 0 (0:Int)<(uh.getD (gi y1 4).toNat []).getD 2 (0:Int))) &&
 decide ((airs.getD (gi y3 3).toNat []).getD 0 (0:Int)≤ul) then xac (xa5 8 ((gr y3 5).length+[[IntKind.i64.wrap (gi y3 3+(1:Int))]].length)) (xac (((bAnd IntKind.u16 (sent.fdiv ((2:Int) ^ min (gi y3 3).toNat IntKind.u16.bits)) (1:Int)==(1:Int) &&
  !(decide ((uh.getD (gi y1 4).toNat []).getD 1 (0:Int)≥(0:Int)) &&
       decide ((uh.getD (gi y1 4).toNat []).getD 1 (0:Int)<(uh.getD (gi y1 4).toNat []).getD 2 (0:Int)) &&
      decide ((uh.getD (gi y1 4).toNat []).getD 2 (0:Int)≤(100000:Int)) &&
     decide ((uh.getD (gi y1 4).toNat []).getD 1 (0:Int)≤(airs.getD (gi y3 3).toNat []).getD 0 (0:Int)) &&
    decide ((airs.getD (gi y3 3).toNat []).getD 0 (0:Int)<(uh.getD (gi y1 4).toNat []).getD 2 (0:Int)))) =
 true)→((0:Int)≤gi y3 3)) ((bif bAnd IntKind.u16 (sent.fdiv ((2:Int) ^ min (gi y3 3).toNat IntKind.u16.bits)) (1:Int)==(1:Int) &&
  !(decide ((uh.getD (gi y1 4).toNat []).getD 1 (0:Int)≥(0:Int)) &&
       decide ((uh.getD (gi y1 4).toNat []).getD 1 (0:Int)<(uh.getD (gi y1 4).toNat []).getD 2 (0:Int)) &&
      decide ((uh.getD (gi y1 4).toNat []).getD 2 (0:Int)≤(100000:Int)) &&
     decide ((uh.getD (gi y1 4).toNat []).getD 1 (0:Int)≤(airs.getD (gi y3 3).toNat []).getD 0 (0:Int)) &&
    decide ((airs.getD (gi y3 3).toNat []).getD 0 (0:Int)<(uh.getD (gi y1 4).toNat []).getD 2 (0:Int))) &&
 bAnd IntKind.u16 (((uh.getD (gi y1 4).toNat []).getD 3 (0:Int)).fdiv ((2:Int) ^ min (gi y3 3).toNat IntKind.u16.bits)) (1:Int)==(0:Int) then xac (xa5 24 ((gr y3 6).length+((xeC sent lag ui ul n_Places n_Edges airs uh y3)).length)) (some (0,[.b (gb y3 0),.i (gi y3 1),.i (gi y3 2),.i (IntKind.i64.wrap (gi y3 3+(1:Int))),.r (gr y3 4++[(xa9 sent lag ui ul n_Places n_Edges airs uh y1 y3)]),.r (gr y3 5++[[IntKind.i64.wrap (gi y3 3+(1:Int))]]),.r (gr y3 6++(xeC sent lag ui ul n_Places n_Edges airs uh y3))])) else (bif bAnd IntKind.u16 (sent.fdiv ((2:Int) ^ min (gi y3 3).toNat IntKind.u16.bits)) (1:Int)==(1:Int) &&
 !(decide ((uh.getD (gi y1 4).toNat []).getD 1 (0:Int)≥(0:Int)) &&
      decide ((uh.getD (gi y1 4).toNat []).getD 1 (0:Int)<(uh.getD (gi y1 4).toNat []).getD 2 (0:Int)) &&
     decide ((uh.getD (gi y1 4).toNat []).getD 2 (0:Int)≤(100000:Int)) &&
    decide ((uh.getD (gi y1 4).toNat []).getD 1 (0:Int)≤(airs.getD (gi y3 3).toNat []).getD 0 (0:Int)) &&
   decide ((airs.getD (gi y3 3).toNat []).getD 0 (0:Int)<(uh.getD (gi y1 4).toNat []).getD 2 (0:Int))) then (bif decide (IntKind.i64.wrap ((airs.getD (gi y3 3).toNat []).getD 0 (0:Int)+ui)≤ul) then some (0,[.b (gb y3 0),.i (IntKind.i64.wrap (gi y3 1+(1:Int))),.i (IntKind.i64.wrap (gi y3 2+(1:Int))),.i (IntKind.i64.wrap (gi y3 3+(1:Int))),.r (gr y3 4++[(xa9 sent lag ui ul n_Places n_Edges airs uh y1 y3)]),.r (gr y3 5++[[IntKind.i64.wrap (gi y3 3+(1:Int))]]),.r (gr y3 6)]) else some (0,[.b (gb y3 0),.i (IntKind.i64.wrap (gi y3 1+(1:Int))),.i (gi y3 2),.i (IntKind.i64.wrap (gi y3 3+(1:Int))),.r (gr y3 4++[(xa9 sent lag ui ul n_Places n_Edges airs uh y1 y3)]),.r (gr y3 5++[[IntKind.i64.wrap (gi y3 3+(1:Int))]]),.r (gr y3 6)])) else (bif decide (IntKind.i64.wrap ((airs.getD (gi y3 3).toNat []).getD 0 (0:Int)+ui)≤ul) then some (0,[.b (gb y3 0),.i (gi y3 1),.i (IntKind.i64.wrap (gi y3 2+(1:Int))),.i (IntKind.i64.wrap (gi y3 3+(1:Int))),.r (gr y3 4++[(xa9 sent lag ui ul n_Places n_Edges airs uh y1 y3)]),.r (gr y3 5++[[IntKind.i64.wrap (gi y3 3+(1:Int))]]),.r (gr y3 6)]) else some (0,[.b (gb y3 0),.i (gi y3 1),.i (gi y3 2),.i (IntKind.i64.wrap (gi y3 3+(1:Int))),.r (gr y3 4++[(xa9 sent lag ui ul n_Places n_Edges airs uh y1 y3)]),.r (gr y3 5++[[IntKind.i64.wrap (gi y3 3+(1:Int))]]),.r (gr y3 6)])))))) else xac (((bAnd IntKind.u16 (sent.fdiv ((2:Int) ^ min (gi y3 3).toNat IntKind.u16.bits)) (1:Int)==(1:Int) &&
  !(decide ((uh.getD (gi y1 4).toNat []).getD 1 (0:Int)≥(0:Int)) &&
       decide ((uh.getD (gi y1 4).toNat []).getD 1 (0:Int)<(uh.getD (gi y1 4).toNat []).getD 2 (0:Int)) &&
      decide ((uh.getD (gi y1 4).toNat []).getD 2 (0:Int)≤(100000:Int)) &&
     decide ((uh.getD (gi y1 4).toNat []).getD 1 (0:Int)≤(airs.getD (gi y3 3).toNat []).getD 0 (0:Int)) &&
    decide ((airs.getD (gi y3 3).toNat []).getD 0 (0:Int)<(uh.getD (gi y1 4).toNat []).getD 2 (0:Int)))) =
 true)→((0:Int)≤gi y3 3)) ((bif bAnd IntKind.u16 (sent.fdiv ((2:Int) ^ min (gi y3 3).toNat IntKind.u16.bits)) (1:Int)==(1:Int) &&
  !(decide ((uh.getD (gi y1 4).toNat []).getD 1 (0:Int)≥(0:Int)) &&
       decide ((uh.getD (gi y1 4).toNat []).getD 1 (0:Int)<(uh.getD (gi y1 4).toNat []).getD 2 (0:Int)) &&
      decide ((uh.getD (gi y1 4).toNat []).getD 2 (0:Int)≤(100000:Int)) &&
     decide ((uh.getD (gi y1 4).toNat []).getD 1 (0:Int)≤(airs.getD (gi y3 3).toNat []).getD 0 (0:Int)) &&
    decide ((airs.getD (gi y3 3).toNat []).getD 0 (0:Int)<(uh.getD (gi y1 4).toNat []).getD 2 (0:Int))) &&
 bAnd IntKind.u16 (((uh.getD (gi y1 4).toNat []).getD 3 (0:Int)).fdiv ((2:Int) ^ min (gi y3 3).toNat IntKind.u16.bits)) (1:Int)==(0:Int) then xac (xa5 24 ((gr y3 6).length+((xeC sent lag ui ul n_Places n_Edges airs uh y3)).length)) (some (0,[.b (gb y3 0),.i (gi y3 1),.i (gi y3 2),.i (IntKind.i64.wrap (gi y3 3+(1:Int))),.r (gr y3 4++[(xa9 sent lag ui ul n_Places n_Edges airs uh y1 y3)]),.r (gr y3 5),.r (gr y3 6++(xeC sent lag ui ul n_Places n_Edges airs uh y3))])) else (bif bAnd IntKind.u16 (sent.fdiv ((2:Int) ^ min (gi y3 3).toNat IntKind.u16.bits)) (1:Int)==(1:Int) &&
 !(decide ((uh.getD (gi y1 4).toNat []).getD 1 (0:Int)≥(0:Int)) &&
      decide ((uh.getD (gi y1 4).toNat []).getD 1 (0:Int)<(uh.getD (gi y1 4).toNat []).getD 2 (0:Int)) &&
     decide ((uh.getD (gi y1 4).toNat []).getD 2 (0:Int)≤(100000:Int)) &&
    decide ((uh.getD (gi y1 4).toNat []).getD 1 (0:Int)≤(airs.getD (gi y3 3).toNat []).getD 0 (0:Int)) &&
   decide ((airs.getD (gi y3 3).toNat []).getD 0 (0:Int)<(uh.getD (gi y1 4).toNat []).getD 2 (0:Int))) then (bif decide (IntKind.i64.wrap ((airs.getD (gi y3 3).toNat []).getD 0 (0:Int)+ui)≤ul) then some (0,[.b (gb y3 0),.i (IntKind.i64.wrap (gi y3 1+(1:Int))),.i (IntKind.i64.wrap (gi y3 2+(1:Int))),.i (IntKind.i64.wrap (gi y3 3+(1:Int))),.r (gr y3 4++[(xa9 sent lag ui ul n_Places n_Edges airs uh y1 y3)]),.r (gr y3 5),.r (gr y3 6)]) else some (0,[.b (gb y3 0),.i (IntKind.i64.wrap (gi y3 1+(1:Int))),.i (gi y3 2),.i (IntKind.i64.wrap (gi y3 3+(1:Int))),.r (gr y3 4++[(xa9 sent lag ui ul n_Places n_Edges airs uh y1 y3)]),.r (gr y3 5),.r (gr y3 6)])) else (bif decide (IntKind.i64.wrap ((airs.getD (gi y3 3).toNat []).getD 0 (0:Int)+ui)≤ul) then some (0,[.b (gb y3 0),.i (gi y3 1),.i (IntKind.i64.wrap (gi y3 2+(1:Int))),.i (IntKind.i64.wrap (gi y3 3+(1:Int))),.r (gr y3 4++[(xa9 sent lag ui ul n_Places n_Edges airs uh y1 y3)]),.r (gr y3 5),.r (gr y3 6)]) else some (0,[.b (gb y3 0),.i (gi y3 1),.i (gi y3 2),.i (IntKind.i64.wrap (gi y3 3+(1:Int))),.r (gr y3 4++[(xa9 sent lag ui ul n_Places n_Edges airs uh y1 y3)]),.r (gr y3 5),.r (gr y3 6)]))))))))))))) else some (13,[.b (gb y3 0),.i (gi y3 1),.i (gi y3 2),.i (gi y3 3),.r (gr y3 4),.r (gr y3 5),.r (gr y3 6)]))
noncomputable def xaI (sent lag ui ul:Int) (n_Places n_Edges airs uh:List (List Int)) (y1:List U):Nat×List U:=xat (xdd sent lag ui ul n_Places n_Edges airs uh y1) (xde sent lag ui ul n_Places n_Edges airs uh y1)
noncomputable def xfV (sent lag ui ul:Int) (n_Places n_Edges airs uh:List (List Int)) (y1:List U):List Int :=
 [xau (IntKind.i64.wrap (gi y1 4+(1:Int))) (gr (xaI sent lag ui ul n_Places n_Edges airs uh y1).snd 6),
 encL (xad (IntKind.i64.wrap (gi y1 4+(1:Int))) (gr (xaI sent lag ui ul n_Places n_Edges airs uh y1).snd 6))]
noncomputable def xdf (sent lag ui ul:Int) (n_Places n_Edges airs uh:List (List Int)):List U :=
 [.i (gi (xae sent lag ui ul n_Places n_Edges airs uh).snd 1),.b (gb (xae sent lag ui ul n_Places n_Edges airs uh).snd 0),.i ((0:Int)),.b (xaX (0:Int) (gr (xae sent lag ui ul n_Places n_Edges airs uh).snd 3)),.i ((0:Int)),.r (gr (xae sent lag ui ul n_Places n_Edges airs uh).snd 3),.r ([]),.r ([]),.r ([])]
noncomputable def xaO (sent lag ui ul:Int) (n_Places n_Edges airs uh:List (List Int)) (y1:List U):Option (Nat×List U) :=
 (bif decide (gi y1 4<(↑uh.length:Int)) then xac (inR (gi y1 4) uh) (xac (inR (gi y1 4) uh) ((bif decide ((uh.getD (gi y1 4).toNat []).getD 1 (0:Int)≥(0:Int)) &&
  decide ((uh.getD (gi y1 4).toNat []).getD 1 (0:Int)<(uh.getD (gi y1 4).toNat []).getD 2 (0:Int)) &&
 decide ((uh.getD (gi y1 4).toNat []).getD 2 (0:Int)≤(100000:Int)) then xac ((xax (xaB sent lag ui ul n_Places n_Edges airs uh y1) (xcd sent lag ui ul n_Places n_Edges airs uh y1))) ((bif (xaJ sent lag ui ul n_Places n_Edges airs uh y1).fst.beq 1 then some (1,[.b (gb (xaJ sent lag ui ul n_Places n_Edges airs uh y1).snd 0)]) else xac (xbc (IntKind.i64.wrap (gi y1 4+(1:Int))) (gr (xaJ sent lag ui ul n_Places n_Edges airs uh y1).snd 6)) (xac (xa5 32 ((gr y1 7).length+[(xgq sent lag ui ul n_Places n_Edges airs uh y1)].length)) (xac (xa5 24 ((gr y1 8).length+[[encL (gr (xaJ sent lag ui ul n_Places n_Edges airs uh y1).snd 5)]].length)) (some (0,[.i (gi (xaJ sent lag ui ul n_Places n_Edges airs uh y1).snd 1),.b (gb (xaJ sent lag ui ul n_Places n_Edges airs uh y1).snd 0),.i (gi (xaJ sent lag ui ul n_Places n_Edges airs uh y1).snd 2),.b (gb y1 3&&xaX (IntKind.i64.wrap (gi y1 4+(1:Int))) (gr (xaJ sent lag ui ul n_Places n_Edges airs uh y1).snd 6)),.i (IntKind.i64.wrap (gi y1 4+(1:Int))),.r (gr (xaJ sent lag ui ul n_Places n_Edges airs uh y1).snd 6),.r (gr (xaJ sent lag ui ul n_Places n_Edges airs uh y1).snd 4),.r (gr y1 7++[(xgq sent lag ui ul n_Places n_Edges airs uh y1)]),.r (gr y1 8++[[encL (gr (xaJ sent lag ui ul n_Places n_Edges airs uh y1).snd 5)]])])))))) else xac ((xax (xdd sent lag ui ul n_Places n_Edges airs uh y1) (xde sent lag ui ul n_Places n_Edges airs uh y1))) ((bif (xaI sent lag ui ul n_Places n_Edges airs uh y1).fst.beq 1 then some (3,[.b (gb (xaI sent lag ui ul n_Places n_Edges airs uh y1).snd 0)]) else xac (xbc (IntKind.i64.wrap (gi y1 4+(1:Int))) (gr (xaI sent lag ui ul n_Places n_Edges airs uh y1).snd 6)) (xac (xa5 32 ((gr y1 7).length+[(xfV sent lag ui ul n_Places n_Edges airs uh y1)].length)) (xac (xa5 24 ((gr y1 8).length+[[encL (gr (xaI sent lag ui ul n_Places n_Edges airs uh y1).snd 5)]].length)) (some (0,[.i (gi (xaI sent lag ui ul n_Places n_Edges airs uh y1).snd 1),.b (gb (xaI sent lag ui ul n_Places n_Edges airs uh y1).snd 0),.i (gi (xaI sent lag ui ul n_Places n_Edges airs uh y1).snd 2),.b (gb y1 3&&xaX (IntKind.i64.wrap (gi y1 4+(1:Int))) (gr (xaI sent lag ui ul n_Places n_Edges airs uh y1).snd 6)),.i (IntKind.i64.wrap (gi y1 4+(1:Int))),.r (gr (xaI sent lag ui ul n_Places n_Edges airs uh y1).snd 6),.r (gr (xaI sent lag ui ul n_Places n_Edges airs uh y1).snd 4),.r (gr y1 7++[(xfV sent lag ui ul n_Places n_Edges airs uh y1)]),.r (gr y1 8++[[encL (gr (xaI sent lag ui ul n_Places n_Edges airs uh y1).snd 5)]])]))))))))) else some (5,[.i (gi y1 0),.b (gb y1 1),.i (gi y1 2),.b (gb y1 3),.i (gi y1 4),.r (gr y1 5),.r (gr y1 6),.r (gr y1 7),.r (gr y1 8)]))
noncomputable def xab (sent lag ui ul:Int) (n_Places n_Edges airs uh:List (List Int)):Nat×List U:=xat (xaO sent lag ui ul n_Places n_Edges airs uh) (xdf sent lag ui ul n_Places n_Edges airs uh)
noncomputable def xfU (sent lag ui ul:Int) (n_Places n_Edges airs uh:List (List Int)) (y4:List U):Int :=
 xeW (xau (0:Int) (gr (xae sent lag ui ul n_Places n_Edges airs uh).snd 3)) (((gr (xab sent lag ui ul n_Places n_Edges airs uh).snd 7).getD (gi y4 1).toNat []).getD 0 (0:Int)) ul
 (xad (0:Int) (gr (xae sent lag ui ul n_Places n_Edges airs uh).snd 3)) (decL (((gr (xab sent lag ui ul n_Places n_Edges airs uh).snd 7).getD (gi y4 1).toNat []).getD 1 (0:Int)))
 (gr (xab sent lag ui ul n_Places n_Edges airs uh).snd 6)
noncomputable def xfT (sent lag ui ul:Int) (n_Places n_Edges airs uh:List (List Int)) (y4:List U):List (List Int) :=
 xeX (xau (0:Int) (gr (xae sent lag ui ul n_Places n_Edges airs uh).snd 3)) (((gr (xab sent lag ui ul n_Places n_Edges airs uh).snd 7).getD (gi y4 1).toNat []).getD 0 (0:Int)) ul
 (xad (0:Int) (gr (xae sent lag ui ul n_Places n_Edges airs uh).snd 3)) (decL (((gr (xab sent lag ui ul n_Places n_Edges airs uh).snd 7).getD (gi y4 1).toNat []).getD 1 (0:Int)))
 (gr (xab sent lag ui ul n_Places n_Edges airs uh).snd 6)
noncomputable def xdc (sent lag ui ul:Int) (n_Places n_Edges airs uh:List (List Int)):List U :=
 [.b (xaV),.i ((0:Int))]
noncomputable def xcc (sent lag ui ul:Int) (n_Places n_Edges airs uh:List (List Int)) (y4:List U):Option (Nat×List U) :=
 (bif decide (gi y4 1<(↑(gr (xab sent lag ui ul n_Places n_Edges airs uh).snd 7).length:Int)) then xac (inR (gi y4 1) (gr (xab sent lag ui ul n_Places n_Edges airs uh).snd 7)) (xac (inR (gi y4 1) (gr (xab sent lag ui ul n_Places n_Edges airs uh).snd 7)) (xac (xc4 (xau (0:Int) (gr (xae sent lag ui ul n_Places n_Edges airs uh).snd 3)) (((gr (xab sent lag ui ul n_Places n_Edges airs uh).snd 7).getD (gi y4 1).toNat []).getD 0 (0:Int)) ul
 (xad (0:Int) (gr (xae sent lag ui ul n_Places n_Edges airs uh).snd 3)) (decL (((gr (xab sent lag ui ul n_Places n_Edges airs uh).snd 7).getD (gi y4 1).toNat []).getD 1 (0:Int)))
 (gr (xab sent lag ui ul n_Places n_Edges airs uh).snd 6)) (xac (((gb y4 0&&(xfU sent lag ui ul n_Places n_Edges airs uh y4)==(0:Int))=true)→(inR (gi y4 1) (gr (xab sent lag ui ul n_Places n_Edges airs uh).snd 8))) ((bif (gb y4 0&&(xfU sent lag ui ul n_Places n_Edges airs uh y4)==(0:Int))==true then xac (inR (gi y4 1) (gr (xab sent lag ui ul n_Places n_Edges airs uh).snd 8)) (xac (xee ((xfT sent lag ui ul n_Places n_Edges airs uh y4)) (decL (((gr (xab sent lag ui ul n_Places n_Edges airs uh).snd 8).getD (gi y4 1).toNat []).getD 0 (0:Int)))) (some (0,[.b (xgO ((xfT sent lag ui ul n_Places n_Edges airs uh y4)) (decL (((gr (xab sent lag ui ul n_Places n_Edges airs uh).snd 8).getD (gi y4 1).toNat []).getD 0 (0:Int)))),.i (IntKind.i64.wrap (gi y4 1+(1:Int)))]))) else some (0,[.b (false),.i (IntKind.i64.wrap (gi y4 1+(1:Int)))])))))) else some (3,[.b (gb y4 0),.i (gi y4 1)]))
noncomputable def xiH (sent lag ui ul:Int) (n_Places n_Edges airs uh:List (List Int)):Nat×List U:=xat (xcc sent lag ui ul n_Places n_Edges airs uh) (xdc sent lag ui ul n_Places n_Edges airs uh)
noncomputable def xbT (sent lag ui ul:Int) (n_Places n_Edges airs uh:List (List Int)):List (List Int) :=
 xbN (xau (0:Int) (gr (xae sent lag ui ul n_Places n_Edges airs uh).snd 3)) ul ui (xad (0:Int) (gr (xae sent lag ui ul n_Places n_Edges airs uh).snd 3)) (gr (xab sent lag ui ul n_Places n_Edges airs uh).snd 7)
 (gr (xab sent lag ui ul n_Places n_Edges airs uh).snd 6)
noncomputable def xdp (sent lag ui ul:Int) (n_Places n_Edges airs uh:List (List Int)):List (List Int) :=
 xby (xau (0:Int) (gr (xae sent lag ui ul n_Places n_Edges airs uh).snd 3)) ul ui (xad (0:Int) (gr (xae sent lag ui ul n_Places n_Edges airs uh).snd 3)) (gr (xab sent lag ui ul n_Places n_Edges airs uh).snd 7)
 (gr (xab sent lag ui ul n_Places n_Edges airs uh).snd 6)
noncomputable def xhW (sent lag ui ul:Int) (n_Places n_Edges airs uh:List (List Int)):Int :=
 xei (xau (0:Int) (gr (xae sent lag ui ul n_Places n_Edges airs uh).snd 3)) ul ui (xad (0:Int) (gr (xae sent lag ui ul n_Places n_Edges airs uh).snd 3)) (gr (xab sent lag ui ul n_Places n_Edges airs uh).snd 7)
 (gr (xab sent lag ui ul n_Places n_Edges airs uh).snd 6)
noncomputable def xhV (sent lag ui ul:Int) (n_Places n_Edges airs uh:List (List Int)):Int :=
 xbM (xau (0:Int) (gr (xae sent lag ui ul n_Places n_Edges airs uh).snd 3)) ul ui (xad (0:Int) (gr (xae sent lag ui ul n_Places n_Edges airs uh).snd 3)) (gr (xab sent lag ui ul n_Places n_Edges airs uh).snd 7)
 (gr (xab sent lag ui ul n_Places n_Edges airs uh).snd 6)
noncomputable def xhU (sent lag ui ul:Int) (n_Places n_Edges airs uh:List (List Int)):Int :=
 xdn (xau (0:Int) (gr (xae sent lag ui ul n_Places n_Edges airs uh).snd 3)) ul ui (xad (0:Int) (gr (xae sent lag ui ul n_Places n_Edges airs uh).snd 3)) (gr (xab sent lag ui ul n_Places n_Edges airs uh).snd 7)
 (gr (xab sent lag ui ul n_Places n_Edges airs uh).snd 6) ((xbT sent lag ui ul n_Places n_Edges airs uh)) ((xdp sent lag ui ul n_Places n_Edges airs uh))
noncomputable def xhT (sent lag ui ul:Int) (n_Places n_Edges airs uh:List (List Int)):List (List Int) :=
 xej (xau (0:Int) (gr (xae sent lag ui ul n_Places n_Edges airs uh).snd 3)) ul ui (xad (0:Int) (gr (xae sent lag ui ul n_Places n_Edges airs uh).snd 3)) (gr (xab sent lag ui ul n_Places n_Edges airs uh).snd 7)
 (gr (xab sent lag ui ul n_Places n_Edges airs uh).snd 6)
noncomputable def xd9 (sent lag ui ul:Int) (n_Places n_Edges airs uh:List (List Int)):Bool :=
 bif
  !xhp n_Places n_Edges airs||decide ((↑airs.length:Int)>(8:Int))||decide ((↑uh.length:Int)>(3:Int))||decide (ui<(0:Int))||decide (ui>(1000:Int)) ||
      decide (lag<(0:Int)) ||
     decide (lag>ui) ||
    decide (ul<(0:Int)) ||
   decide (ul>(100000:Int)) then
 xaV
else
 bif (xae sent lag ui ul n_Places n_Edges airs uh).fst.beq 1 then gb (xae sent lag ui ul n_Places n_Edges airs uh).snd 0
 else
  bif (xab sent lag ui ul n_Places n_Edges airs uh).fst.beq 1 then gb (xab sent lag ui ul n_Places n_Edges airs uh).snd 0
  else
   bif (xab sent lag ui ul n_Places n_Edges airs uh).fst.beq 3 then gb (xab sent lag ui ul n_Places n_Edges airs uh).snd 0
   else
    bif !gb (xab sent lag ui ul n_Places n_Edges airs uh).snd 3 then false
    else
     gb (xiH sent lag ui ul n_Places n_Edges airs uh).snd 0&&(xhW sent lag ui ul n_Places n_Edges airs uh)==(0:Int)&&(xhV sent lag ui ul n_Places n_Edges airs uh)==(0:Int)&&(xhU sent lag ui ul n_Places n_Edges airs uh)==(0:Int) &&
          xdo (xau (0:Int) (gr (xae sent lag ui ul n_Places n_Edges airs uh).snd 3)) ul ui (xad (0:Int) (gr (xae sent lag ui ul n_Places n_Edges airs uh).snd 3))
           (gr (xab sent lag ui ul n_Places n_Edges airs uh).snd 7) (gr (xab sent lag ui ul n_Places n_Edges airs uh).snd 6) ((xbT sent lag ui ul n_Places n_Edges airs uh)) ((xdp sent lag ui ul n_Places n_Edges airs uh)) &&
         (↑((xhT sent lag ui ul n_Places n_Edges airs uh)).length:Int)==gi (xab sent lag ui ul n_Places n_Edges airs uh).snd 2 &&
        (↑((xdp sent lag ui ul n_Places n_Edges airs uh)).length:Int)==(↑((xbT sent lag ui ul n_Places n_Edges airs uh)).length:Int) &&
       ((↑((xbT sent lag ui ul n_Places n_Edges airs uh)).length:Int)==(0:Int))==(gi (xab sent lag ui ul n_Places n_Edges airs uh).snd 2==(0:Int)) &&
      decide ((↑((xbT sent lag ui ul n_Places n_Edges airs uh)).length:Int)≤gi (xab sent lag ui ul n_Places n_Edges airs uh).snd 0)
def xcI (sent lag ui ul:Int) (n_Places n_Edges airs uh:List (List Int)):Prop :=
 ((xdm)∧((xfX n_Places n_Edges airs)∧(((!xhp n_Places n_Edges airs||decide ((↑airs.length:Int)>(8:Int))||decide ((↑uh.length:Int)>(3:Int))||decide (ui<(0:Int))||decide (ui>(1000:Int)) ||
     decide (lag<(0:Int)) ||
    decide (lag>ui) ||
   decide (ul<(0:Int)) ||
  decide (ul>(100000:Int))) =
 false)→(((xax (xbC sent lag ui ul n_Places n_Edges airs uh) (xdg sent lag ui ul n_Places n_Edges airs uh)))∧(((xae sent lag ui ul n_Places n_Edges airs uh).fst.beq 1=false)→((xbc (0:Int) (gr (xae sent lag ui ul n_Places n_Edges airs uh).snd 3))∧(((xax (xaO sent lag ui ul n_Places n_Edges airs uh) (xdf sent lag ui ul n_Places n_Edges airs uh)))∧(((xab sent lag ui ul n_Places n_Edges airs uh).fst.beq 1=false)→(((xab sent lag ui ul n_Places n_Edges airs uh).fst.beq 3=false)→(((!gb (xab sent lag ui ul n_Places n_Edges airs uh).snd 3)=false)→(((xax (xcc sent lag ui ul n_Places n_Edges airs uh) (xdc sent lag ui ul n_Places n_Edges airs uh)))∧((xcP (xau (0:Int) (gr (xae sent lag ui ul n_Places n_Edges airs uh).snd 3)) ul ui (xad (0:Int) (gr (xae sent lag ui ul n_Places n_Edges airs uh).snd 3)) (gr (xab sent lag ui ul n_Places n_Edges airs uh).snd 7)
 (gr (xab sent lag ui ul n_Places n_Edges airs uh).snd 6))∧((xbi (xau (0:Int) (gr (xae sent lag ui ul n_Places n_Edges airs uh).snd 3)) ul ui (xad (0:Int) (gr (xae sent lag ui ul n_Places n_Edges airs uh).snd 3))
 (gr (xab sent lag ui ul n_Places n_Edges airs uh).snd 7) (gr (xab sent lag ui ul n_Places n_Edges airs uh).snd 6))∧(xb4 (xau (0:Int) (gr (xae sent lag ui ul n_Places n_Edges airs uh).snd 3)) ul ui (xad (0:Int) (gr (xae sent lag ui ul n_Places n_Edges airs uh).snd 3))
 (gr (xab sent lag ui ul n_Places n_Edges airs uh).snd 7) (gr (xab sent lag ui ul n_Places n_Edges airs uh).snd 6) ((xbT sent lag ui ul n_Places n_Edges airs uh)) ((xdp sent lag ui ul n_Places n_Edges airs uh))))))))))))))))
end Go.Proofs.YthfjhbbpdhjklaaGreat
set_option maxRecDepth 100000
set_option linter.unusedVariables false
namespace Go.Proofs.YthfjhbbpdhjklaaGreat
open Go Go.Sy
theorem xmI (sent lag ui ul:Int) (n_Places n_Edges airs uh:List (List Int)):xas Tryz.prog 4 (xaZ Tryz.prog K53 xcO 9 3 [.agg [.sl 0,.sl 1],.sl 2,.int .u16 sent,.sl 3,.int .i64 lag,.int .i64 ui,.int .i64 ul] ⟨[⟨0,4,false,.row 33 [.int .i64,.int .i64] n_Places⟩,⟨1,4,false,.row 98 [.int .i64,.int .i64,.int .i64,.int .i64] n_Edges⟩,⟨2,4,false,.row 35 [.int .i64,.int .i64,.int .i64,.int .i64] airs⟩,⟨3,4,false,.nst 47 [.s 104 [.int .i64,.int .i64],.c (.int .i64),.c (.int .i64),.c (.int .u16)] uh⟩],4⟩)=some ⟨some (xcI sent lag ui ul n_Places n_Edges airs uh),[],0,[],.bool (xd9 sent lag ui ul n_Places n_Edges airs uh)⟩:=by kernel_rfl
noncomputable def xhX:List U→Option Eff
 | [.i sent,.i lag,.i ui,.i ul,.r n_Places,.r n_Edges,.r airs,.r uh]=>some ⟨some (xcI sent lag ui ul n_Places n_Edges airs uh),[],0,[],.bool (xd9 sent lag ui ul n_Places n_Edges airs uh)⟩
 | _=>Option.none
noncomputable def K54:Con:=ext Tryz.prog K53 3 [.agg [.sl 0,.sl 1],.sl 2,.int .u16 0,.sl 3,.int .i64 0,.int .i64 0,.int .i64 0] [⟨0,0,false,.row 33 [.int .i64,.int .i64] []⟩,⟨1,0,false,.row 98 [.int .i64,.int .i64,.int .i64,.int .i64] []⟩,⟨2,0,false,.row 35 [.int .i64,.int .i64,.int .i64,.int .i64] []⟩,⟨3,0,false,.nst 47 [.s 104 [.int .i64,.int .i64],.c (.int .i64),.c (.int .i64),.c (.int .u16)] []⟩] xhX
theorem xC1:xbh Tryz.prog K54:=xav xaA xC2 (n:=9) rfl rfl fun us x h=>by
 unfold xhX at h
 split at h
 ·cases h; exact ⟨some (xcI _ _ _ _ _ _ _ _),xmI _ _ _ _ _ _ _ _,fun h=>h⟩
 ·cases h
end Go.Proofs.YthfjhbbpdhjklaaGreat
set_option linter.unusedVariables false
namespace Go.Proofs.YthfjhbbpdhjklaaGreat
open Go Go.Sy
theorem xBv {W:World} {own:Bool} {e:TypeId} {sz:Nat} {v:Value} {m:Nat} {vs:List Value} (h:xaY W own e sz v m vs):m≤9223372036854775807:=by
 obtain ⟨a,c,_,h1,h2⟩:=h.reads.is
 unfold maxLen at h2
 omega
theorem xAI {W:World} {own:Bool} {e:TypeId} {sz:Nat} {v:Value} {m:Nat} {vs:List Value} (h:xaY W own e sz v m vs):v.oneCell'=true:=by
 obtain ⟨a,c,rfl,_⟩:=h.reads.is
 rfl
theorem xBC {W:World} {e:TypeId} {ks:List CK} {v:Value} {l:List (List Int)} (r:xaY W false e ks.length v l.length (rowV ks l)) (k:Nat):v.oneCell'=true∧xa6 (.row e ks l)=true∧∀ (E:Env),E k=v→xa0 E W k false (.row e ks l) :=
 ⟨xAI r,rfl,fun E he=>by
  show xaY W false e ks.length (E k) l.length (rowV ks l)
  rw [he]; exact r⟩
theorem xDL {W:World} {e:TypeId} {ks:List NK} {v:Value} {l:List (List Int)} {vs:List Value} (r:xgl W false e ks v l vs) (k:Nat):v.oneCell'=true∧xa6 (.nst e ks l)=true∧∀ (E:Env),E k=v→xa0 E W k false (.nst e ks l) :=
 ⟨xAI r.row,rfl,fun E he=>by
  show ∃ vs,xgl W false e ks (E k) l vs
  rw [he]; exact ⟨vs,r⟩⟩
end Go.Proofs.YthfjhbbpdhjklaaGreat
set_option linter.unusedVariables false
set_option maxRecDepth 100000
namespace Go.Proofs.YthfjhbbpdhjklaaGreat
open Go Go.Sy
def runL {σ:Type} (f:σ→List Int→σ ⊕ (Nat×List U)):σ→List (List Int)→σ ⊕ (Nat×List U)
 | s,[]=>.inl s
 | s,x::r=>match f s x with
  | .inl s'=>runL f s' r
  | .inr o=>.inr o
def goOn {σ:Type} (mk:σ→List U):σ ⊕ (Nat×List U)→Option (Nat×List U)
 | .inl s=>some (0,mk s)
 | .inr o=>some (o.1+1,o.2)
def endL {σ:Type} (fin:σ→Nat×List U):σ ⊕ (Nat×List U)→Nat×List U
 | .inl s=>((fin s).1+1,(fin s).2)
 | .inr o=>(o.1+1,o.2)
theorem xeO {σ:Type} {step:List U→Option (Nat×List U)} (l:List (List Int)) (mk:Nat→σ→List U) (f:σ→List Int→σ ⊕ (Nat×List U)) (I:Nat→σ→Prop) (fin:σ→Nat×List U) (k0:Nat)
  (hs:∀ i s (hi:i<l.length),k0≤i→I i s→step (mk i s)=goOn (mk (i+1)) (f s l[i])∧∀ s',f s l[i]=.inl s'→I (i+1) s')
  (he:∀ i s,i=max k0 l.length→I i s→step (mk i s)=some ((fin s).1+1,(fin s).2)) {s:σ} (h0:I k0 s) :
  xax step (mk k0 s)∧xat step (mk k0 s)=endL fin (runL f s (l.drop k0)):=by
 have key:∀ m i s,i+m=l.length→k0≤i→I i s→xhy step (m+1) (mk i s)=some (endL fin (runL f s (l.drop i))):=by
  intro m
  induction m with
  | zero =>
   intro i s hi hk h
   rw [List.drop_eq_nil_of_le (by omega)]
   exact xjv (he i s (by omega) h)
  | succ m ih =>
   intro i s hi hk h
   obtain ⟨h1,h2⟩:=hs i s (by omega) hk h
   rw [List.drop_eq_getElem_cons (by omega:i<l.length)]
   unfold runL
   cases hf:f s l[i] with
   | inl s' =>
    rw [hf] at h1
    exact xiY h1 (ih (i+1) s' (by omega) (by omega) (h2 s' hf))
   | inr o =>
    rw [hf] at h1
    unfold xhy
    rw [h1]; rfl
 by_cases hk:k0≤l.length
 ·exact xml (key (l.length-k0) k0 s (by omega) (Nat.le_refl _) h0)
 ·rw [List.drop_eq_nil_of_le (by omega)]
  exact xml (xjv (he k0 s (by omega) h0))
theorem xbj {l:List (List Int)} {i:Nat} (hi:i<l.length):l.getD i []=l[i]:=by rw [List.getD_eq_getElem?_getD,List.getElem?_eq_getElem hi]; rfl
theorem xbb {l:List (List Int)} {i:Nat} (hi:i<l.length):l.getD (i:Int).toNat []=l[i]:=by rw [Int.toNat_natCast]; exact xbj hi
theorem xcN {i:Nat} (h:i<9223372036854775807):IntKind.i64.wrap ((i:Int)+1)=((i+1:Nat):Int):=by
 rw [xfv (by omega)]; rfl
theorem xju {step:List U→Option (Nat×List U)} {l:List (List Int)} {p:List Int→Bool} (m:Nat) (hs:∀ i (hi:i<l.length),step [.i 0,.i i]=bif p l[i] then some (1,[.i i]) else some (0,[.i 0,.i ((i+1:Nat):Int)]))
  (he:step [.i 0,.i l.length]=some (m+2,[.i 0,.i l.length])) {init:List U} (hi:init=[.i 0,.i ((0:Nat):Int)]) :
  xax step init∧decide ((bif (xat step init).fst.beq 1 then gi (xat step init).snd 0 else (-1:Int))≥0)=l.any p:=by
 subst hi
 obtain ⟨h1,h2⟩:=xgz (step:=step) l.length (fun i=>p (l.getD i [])) (fun i=>[.i 0,.i i]) (fun i=>[.i i]) 0 (m+1) [.i 0,.i l.length]
  (fun i hi=>by rw [hs i hi,xbj hi]) he
 refine ⟨h1,?_⟩
 rcases h2 with ⟨i,hi,hp,_,hg⟩ | ⟨hn,hg⟩
 ·rw [hg]
  have:l.any p=true:=List.any_eq_true.2 ⟨l[i],List.getElem_mem hi,by rw [← xbj hi]; exact hp⟩
  rw [this]
  show decide ((bif true then gi [.i (i:Int)] 0 else (-1:Int))≥0)=true
  rw [cond_true,gi_z]
  exact decide_eq_true (by omega)
 ·rw [hg]
  have:l.any p=false:=List.any_eq_false.2 fun x hx=>by
   obtain ⟨i,hi,rfl⟩:=List.getElem_of_mem hx
   have:=hn i hi
   simp only [xbj hi] at this
   simp [this]
  rw [this]
  show decide ((bif Nat.beq (m+1+1) 1 then gi [.i 0,.i (l.length:Int)] 0 else (-1:Int))≥0)=false
  rfl
def mixD (h x:Int):Int :=
 bXor IntKind.u64 (IntKind.u64.wrap (bXor IntKind.u64 h (IntKind.u64.wrap x)*11507291218515648293)) ((IntKind.u64.wrap (bXor IntKind.u64 h (IntKind.u64.wrap x)*11507291218515648293)).fdiv ((2:Int) ^ min (Int.toNat (32:Int)) IntKind.u64.bits))
def digF (l:List Int):Int:=l.foldl mixD (IntKind.u64.wrap (11400714819323198485+IntKind.u64.wrap l.length))
theorem xhY {σ:Type} (g:σ→List Int→σ):∀ (l:List (List Int)) (s:σ),runL (fun s x=>.inl (g s x)) s l=.inl (l.foldl g s)
 | [],s=>rfl
 | x::r,s=>xhY g r (g s x)
theorem xzk (l:List (List Int)) (hl:l.length≤9223372036854775807):xed l∧xfs l=digF (l.map fun x=>x.getD 0 0):=by
 obtain ⟨h1,h2⟩:=xeO (step:=xcV l) l (fun i (s:Int)=>[.i s,.i i]) (fun s x=>.inl (mixD s (x.getD 0 0))) (fun _ _=>True) (fun s=>(1,[.i s,.i (l.length:Int)])) 0
  (fun i s hi _ _=>⟨by
   unfold xcV xk6
   simp only [gi_z,gi_1,dlt hi,xaa (xaw hi),xaa (show (0:Int)≤32 by decide),xcN (show i<9223372036854775807 by omega),xbb hi]
   rfl,fun _ _=>trivial⟩)
  (fun i s hi _=>by
   have:i=l.length:=by omega
   subst this
   unfold xcV
   simp only [gi_z,gi_1,dnlt]) (s:=IntKind.u64.wrap (11400714819323198485+IntKind.u64.wrap l.length)) trivial
 refine ⟨h1,?_⟩
 unfold xfs xk7
 have hi:xfn l=[.i (IntKind.u64.wrap (11400714819323198485+IntKind.u64.wrap l.length)),.i ((0:Nat):Int)]:=rfl
 rw [hi,h2,List.drop_zero,xhY]
 unfold digF
 rw [List.foldl_map,List.length_map]
 rfl
def sumF (owner last t k n:Int):Int:=digF [owner,IntKind.i64.wrap last,t,k,n]
theorem xvX (owner last t k n s:Int):xbF owner last t k n s∧xbW owner last t k n s=sumF owner last t k n:=xzk _ (by simp)
def clsF (k:Int):Int:=if k=1 then 1 else if k=2∨k=3 then 2 else if k=4∨k=5 then 3 else 0
theorem bne {a b:Int} (h:¬ a=b):(a==b)=false:=beq_eq_false_iff_ne.2 h
theorem xpI (k:Int):xbY k=clsF k:=by
 unfold xbY xjZ xjY clsF
 by_cases h1:k=1
 ·subst h1; rfl
 by_cases h2:k=2
 ·subst h2; rfl
 by_cases h3:k=3
 ·subst h3; rfl
 by_cases h4:k=4
 ·subst h4; rfl
 by_cases h5:k=5
 ·subst h5; rfl
 rw [bne h1,bne h2,bne h3,bne h4,bne h5,if_neg h1,if_neg (by simp [h2,h3]),if_neg (by simp [h4,h5])]
 rfl
def tmF (t:Int):Bool:=decide (0≤t)&&decide (t≤10000000)
def itF (n:Int):Bool:=decide (1≤n)&&decide (n≤10000)
def lnF (t k n:Int):Bool:=if clsF k=0 then false else if clsF k=3 then tmF t&&n==0 else tmF t&&itF n
def ownF (owner k:Int):Bool:=(owner==0)==(clsF k==1)
theorem xpQ (t:Int):xaz t=tmF t:=rfl
theorem xyN (t:Int):xfq t=itF t:=rfl
theorem xyG (t k n:Int):xbP t k n=lnF t k n:=by
 unfold xbP lnF
 rw [xpI,xpQ,xyN]
 by_cases h0:clsF k=0
 ·rw [h0]; rfl
 ·by_cases h3:clsF k=3
  ·rw [h3]; rfl
  ·rw [bne h0,bne h3,if_neg h0,if_neg h3]; rfl
theorem xAP (o k:Int):xbs o k=ownF o k:=by unfold xbs ownF; rw [xpI]
end Go.Proofs.YthfjhbbpdhjklaaGreat
set_option linter.unusedVariables false
set_option maxRecDepth 100000
namespace Go.Proofs.YthfjhbbpdhjklaaGreat
open Go Go.Sy
abbrev col (x:List Int) (j:Nat):Int:=x.getD j 0
def vldF (o:Int):Bool→Int→Int→List (List Int)→Bool
 | _,_,_,[]=>true
 | off,last,now,x::r =>
  if (!lnF (col x 0) (col x 1) (col x 2)||!ownF o (col x 1)||decide (col x 0<now)||col x 3 !=sumF o last (col x 0) (col x 1) (col x 2))=true then false
  else if clsF (col x 1)=3 then (if off=(col x 1==4) then false else vldF o (!off) (col x 3) (col x 0) r)
  else vldF o off (col x 3) (col x 0) r
def valF (o:Int) (l:List (List Int)):Bool:=decide (0≤o)&&decide (o≤8)&&decide (l.length≤200)&&vldF o false 0 0 l
def xnI (o:Int) (s:Bool×Int×Int) (x:List Int):(Bool×Int×Int) ⊕ (Nat×List U) :=
 if (!lnF (col x 0) (col x 1) (col x 2)||!ownF o (col x 1)||decide (col x 0<s.2.2)||col x 3 !=sumF o s.2.1 (col x 0) (col x 1) (col x 2))=true then .inr (0,[])
 else if clsF (col x 1)=3 then (if s.1=(col x 1==4) then .inr (1,[]) else .inl (!s.1,col x 3,col x 0))
 else .inl (s.1,col x 3,col x 0)
theorem xpO (o:Int) (n:Int):∀ (l:List (List Int)) (s:Bool×Int×Int),
  (bif (endL (fun s:Bool×Int×Int=>(4,[.b false,.b s.1,.i s.2.1,.i s.2.2,.i n])) (runL (xnI o) s l)).1.beq 1 then false else bif (endL (fun s:Bool×Int×Int=>(4,[.b false,.b s.1,.i s.2.1,.i s.2.2,.i n])) (runL (xnI o) s l)).1.beq 2 then false else true)=vldF o s.1 s.2.1 s.2.2 l
 | [],s=>rfl
 | x::r,s=>by
  unfold runL vldF
  by_cases h1:(!lnF (col x 0) (col x 1) (col x 2)||!ownF o (col x 1)||decide (col x 0<s.2.2)||col x 3 !=sumF o s.2.1 (col x 0) (col x 1) (col x 2))=true
  ·have e:xnI o s x=.inr (0,[]):=by unfold xnI; rw [if_pos h1]
   rw [e,if_pos h1]; rfl
  ·rw [if_neg h1]
   by_cases h2:clsF (col x 1)=3
   ·rw [if_pos h2]
    by_cases h3:s.1=(col x 1==4)
    ·have e:xnI o s x=.inr (1,[]):=by unfold xnI; rw [if_neg h1,if_pos h2,if_pos h3]
     rw [e,if_pos h3]; rfl
    ·have e:xnI o s x=.inl (!s.1,col x 3,col x 0):=by unfold xnI; rw [if_neg h1,if_pos h2,if_neg h3]
     rw [e,if_neg h3]
     exact xpO o n r _
   ·have e:xnI o s x=.inl (s.1,col x 3,col x 0):=by unfold xnI; rw [if_neg h1,if_neg h2]
    rw [e,if_neg h2]
    exact xpO o n r _
theorem xwS (o:Int) (l:List (List Int)) (hl:l.length≤9223372036854775807):xax (xbL o l) (xeU o l)∧xg0 o l=endL (fun s:Bool×Int×Int=>(4,[.b false,.b s.1,.i s.2.1,.i s.2.2,.i l.length])) (runL (xnI o) (false,0,0) l):=by
 have h:=xeO (step:=xbL o l) l (fun i (s:Bool×Int×Int)=>[.b false,.b s.1,.i s.2.1,.i s.2.2,.i i]) (xnI o) (fun _ _=>True) (fun s=>(4,[.b false,.b s.1,.i s.2.1,.i s.2.2,.i l.length])) 0
  (fun i s hi _ _=>⟨by
   unfold xbL xj0
   simp only [gi_4,gi_3,gi_2,gi_1,gi_z,gb_1,gb_z,dlt hi,xaa (xaw hi),xcN (show i<9223372036854775807 by omega),xbb hi,xyG,xAP,(xvX _ _ _ _ _ _).2,xpI]
   rw [xaa (fun _=>(xvX _ _ _ _ _ _).1)]
   generalize l[i]=x
   unfold xnI
   cases h1:(!lnF (col x 0) (col x 1) (col x 2)||!ownF o (col x 1)||decide (col x 0<s.2.2)||col x 3 !=sumF o s.2.1 (col x 0) (col x 1) (col x 2)) with
   | true=>rw [if_pos rfl]; rfl
   | false =>
    rw [if_neg (by decide),cond_false]
    by_cases h2:clsF (col x 1)=3
    ·rw [if_pos h2,h2]
     by_cases h3:s.1=(col x 1==4)
     ·rw [if_pos h3,h3]; simp only [beq_self_eq_true,cond_true]; rfl
     ·rw [if_neg h3]
      have:(s.1==(col x 1==4))=false:=by simpa using h3
      rw [this]; rfl
    ·rw [if_neg h2]
     rw [bne h2]; rfl,fun _ _=>trivial⟩)
  (fun i s hi _=>by
   have:i=l.length:=by omega
   subst this
   unfold xbL
   simp only [gi_4,gi_3,gi_2,gi_1,gi_z,gb_1,gb_z,dnlt]) (s:=(false,0,0)) trivial
 rw [List.drop_zero] at h
 exact h
theorem xg5 (o:Int) (l:List (List Int)) (hl:l.length≤9223372036854775807):xaK o l∧xag o l=valF o l:=by
 obtain ⟨h1,h2⟩:=xwS o l hl
 refine ⟨fun _=>h1,?_⟩
 unfold xag valF
 rw [h2]
 have:=xpO o l.length l (false,0,0)
 rw [this]
 by_cases h0:0≤o
 ·by_cases h8:o≤8
  ·by_cases h200:l.length≤200
   ·simp [h0,h8,h200,show ¬ o<0 by omega,show ¬ o>8 by omega,show ¬ ((l.length:Int)>200) by omega]
   ·simp [h0,h8,h200,show ((l.length:Int)>200) by omega]
  ·simp [h8,show o>8 by omega]
 ·simp [h0,show o<0 by omega]
def onF (t:Int):Bool→List (List Int)→Bool
 | b,[]=>b
 | b,x::r=>if col x 0>t then b else onF t (if clsF (col x 1)=3 then col x 1==5 else b) r
def xmT (t:Int) (s:Bool) (x:List Int):Bool ⊕ (Nat×List U):=if col x 0>t then .inr (2,[.b s]) else .inl (if clsF (col x 1)=3 then col x 1==5 else s)
theorem xrY (t n:Int):∀ (l:List (List Int)) (s:Bool),
  (bif (endL (fun s:Bool=>(3,[.i n,.b s])) (runL (xmT t) s l)).1.beq 3 then gb (endL (fun s:Bool=>(3,[.i n,.b s])) (runL (xmT t) s l)).2 0 else gb (endL (fun s:Bool=>(3,[.i n,.b s])) (runL (xmT t) s l)).2 1)=onF t s l
 | [],s=>rfl
 | x::r,s=>by
  unfold runL onF
  by_cases h:col x 0>t
  ·have e:xmT t s x=.inr (2,[.b s]):=by unfold xmT; rw [if_pos h]
   rw [e,if_pos h]; rfl
  ·have e:xmT t s x=.inl (if clsF (col x 1)=3 then col x 1==5 else s):=by unfold xmT; rw [if_neg h]
   rw [e,if_neg h]
   exact xrY t n r _
theorem xyo (o t:Int) (l:List (List Int)) (hl:l.length≤9223372036854775807):xcx o t l∧xaF o t l=onF t true l:=by
 obtain ⟨h1,h2⟩:=xeO (step:=xdt o t l) l (fun i (s:Bool)=>[.i i,.b s]) (xmT t) (fun _ _=>True) (fun s=>(3,[.i l.length,.b s])) 0
  (fun i s hi _ _=>⟨by
   unfold xdt xmT
   simp only [gi_z,gb_1,gb_z,dlt hi,xaa (xaw hi),xcN (show i<9223372036854775807 by omega),xbb hi,xpI]
   generalize l[i]=x
   by_cases h1:col x 0>t
   ·rw [if_pos h1,decide_eq_true h1]; rfl
   ·rw [if_neg h1,decide_eq_false h1]
    by_cases h2:clsF (col x 1)=3
    ·rw [if_pos h2,h2]; rfl
    ·rw [if_neg h2,bne h2]; rfl,fun _ _=>trivial⟩)
  (fun i s hi _=>by
   have:i=l.length:=by omega
   subst this
   unfold xdt
   simp only [gi_z,gb_1,gb_z,dnlt]) (s:=true) trivial
 rw [List.drop_zero] at h2
 refine ⟨h1,?_⟩
 unfold xaF xg9
 have hi:xf6 o t l=[.i ((0:Nat):Int),.b true]:=rfl
 rw [hi,h2]
 exact xrY t l.length l true
def xgS (j:Nat) (d:Int) (l:List (List Int)):Int:=match l.getLast? with | some x=>col x j | none=>d
theorem xve (o:Int) (l:List (List Int)) (hl:l.length≤9223372036854775807):xbI o l∧xa4 o l=xgS 0 (-1) l∧xa3 o l=xgS 3 0 l:=by
 unfold xbI xa4 xkO xa3 xkN xgS
 by_cases h:l.length=0
 ·have:l=[]:=List.eq_nil_of_length_eq_zero h
  subst this
  refine ⟨fun h=>?_,rfl,rfl⟩
  simp at h
 ·have hw:IntKind.i64.wrap ((l.length:Int)-1)=((l.length-1:Nat):Int):=by rw [xfv (by omega)]; omega
  have hr:inR (IntKind.i64.wrap ((l.length:Int)-1)) l:=by rw [hw]; exact xaw (by omega)
  have hd:decide ((l.length:Int)>0)=true:=decide_eq_true (by omega)
  have hg:l.getLast?=some l[l.length-1]:=by rw [List.getLast?_eq_getElem?,List.getElem?_eq_getElem (by omega)]
  refine ⟨fun _=>⟨hr,hr,hr,hr,hr,hr⟩,?_,?_⟩
  ·rw [hd,cond_true,hw,xbb (by omega),hg]
  ·rw [hd,cond_true,hw,xbb (by omega),hg]
def xmK (n t:Int) (l:List (List Int)):Bool:=l.any fun x=>col x 2==n&&(decide (t<0)||col x 0==t)
theorem xsz (o n t:Int) (l:List (List Int)) (hl:l.length≤9223372036854775807):xb7 o n t l∧xaG o n t l=xmK n t l :=
 xju (step:=xcT o n t l) (p:=fun x=>col x 2==n&&(decide (t<0)||col x 0==t)) 1
  (fun i hi=>by
   unfold xcT
   simp only [gi_z,gi_1,dlt hi,xaa (xaw hi),xcN (show i<9223372036854775807 by omega),xbb hi])
  (by unfold xcT; simp only [gi_z,gi_1,dnlt]) rfl
def badC (x:List Int):Bool:=!tmF (col x 2)||!itF (col x 1)||decide (col x 0<1)||decide (col x 0>8)
def chF (l:List (List Int)):Bool:=decide (l.length≤200)&&!l.any badC
theorem xjj (l:List (List Int)) (hl:l.length≤9223372036854775807):xbx l∧xay l=chF l:=by
 obtain ⟨h1,h2⟩:=xju (step:=xbZ l) (l:=l) (p:=badC) 1
  (fun i hi=>by
   unfold xbZ
   simp only [gi_z,gi_1,dlt hi,xaa (xaw hi),xcN (show i<9223372036854775807 by omega),xbb hi,xpQ,xyN]
   rfl)
  (by unfold xbZ; simp only [gi_z,gi_1,dnlt]) (init:=xd2 l) rfl
 refine ⟨fun _=>h1,?_⟩
 unfold xay chF xf7
 rw [h2]
 congr 1
 exact decide_eq_decide.2 (by omega)
def hasN (n:Int) (l:List (List Int)):Bool:=l.any fun x=>n==col x 0
theorem xvx (n:Int) (l:List (List Int)) (hl:l.length≤9223372036854775807):xbd n l∧xbE n l=hasN n l :=
 xju (step:=xbe n l) (p:=fun x=>n==col x 0) 1
  (fun i hi=>by
   unfold xbe
   simp only [gi_z,gi_1,dlt hi,xaa (xaw hi),xcN (show i<9223372036854775807 by omega),xbb hi])
  (by unfold xbe; simp only [gi_z,gi_1,dnlt]) rfl
end Go.Proofs.YthfjhbbpdhjklaaGreat
set_option linter.unusedVariables false
set_option maxRecDepth 100000
namespace Go.Proofs.YthfjhbbpdhjklaaGreat
open Go Go.Sy
theorem xqb {α:Type} {lt:α→α→Prop} (irr:∀ a,¬ lt a a) (asym:∀ a b,lt a b→¬ lt b a):∀ {l l':List α},l.Pairwise lt→l'.Pairwise lt→(∀ x,x∈l↔x∈l')→l=l'
 | [],[],_,_,_=>rfl
 | [],y::r,_,_,h=>by have:=(h y).2 List.mem_cons_self; cases this
 | x::r,[],_,_,h=>by have:=(h x).1 List.mem_cons_self; cases this
 | x::r,y::r',h1,h2,h=>by
  obtain ⟨a1,a2⟩:=List.pairwise_cons.1 h1
  obtain ⟨b1,b2⟩:=List.pairwise_cons.1 h2
  have e:x=y:=by
   rcases List.mem_cons.1 ((h x).1 List.mem_cons_self) with e | hx
   ·exact e
   ·rcases List.mem_cons.1 ((h y).2 List.mem_cons_self) with e | hy
    ·exact e.symm
    ·exact absurd (b1 x hx) (asym _ _ (a1 y hy))
  subst e
  rw [xqb irr asym a2 b2 fun z=>⟨fun hz=>?_,fun hz=>?_⟩]
  ·rcases List.mem_cons.1 ((h z).1 (List.mem_cons_of_mem _ hz)) with e | h'
   ·exact absurd (a1 z hz) (e▸irr z)
   ·exact h'
  ·rcases List.mem_cons.1 ((h z).2 (List.mem_cons_of_mem _ hz)) with e | h'
   ·exact absurd (b1 z hz) (e▸irr z)
   ·exact h'
theorem xuX {l l':List Int} (h1:l.Pairwise (·<·)) (h2:l'.Pairwise (·<·)) (h:∀ x,x∈l↔x∈l'):l=l':=xqb (fun a=>Int.lt_irrefl a) (fun a b h=>by omega) h1 h2 h
theorem xvu:∀ (l:List Int) (p:Option Int),l.Pairwise (·≤·)→(∀ y,p=some y→∀ x∈l,y≤x)→(dd p l).Pairwise (·<·)∧(∀ y,p=some y→∀ x∈dd p l,y<x)∧∀ x,x∈dd p l↔x∈l∧p≠some x
 | [],p,_,_=>⟨List.Pairwise.nil,(fun y _ x hx=>by cases hx),fun x=>⟨(fun h=>by cases h),fun h=>by cases h.1⟩⟩
 | x::r,p,h,hp=>by
  obtain ⟨a1,a2⟩:=List.pairwise_cons.1 h
  obtain ⟨b1,b2,b3⟩:=xvu r (some x) a2 (fun y hy z hz=>by cases hy; exact a1 z hz)
  unfold dd
  by_cases e:p=some x
  ·rw [if_pos e]
   refine ⟨b1,fun y hy z hz=>?_,fun z=>?_⟩
   ·rw [e] at hy; cases hy
    exact b2 x rfl z hz
   ·rw [b3,e]
    refine ⟨fun h=>⟨List.mem_cons_of_mem _ h.1,h.2⟩,fun h=>⟨?_,h.2⟩⟩
    rcases List.mem_cons.1 h.1 with e' | h'
    ·exact absurd (by rw [e']) h.2
    ·exact h'
  ·rw [if_neg e]
   refine ⟨List.pairwise_cons.2 ⟨fun z hz=>b2 x rfl z hz,b1⟩,fun y hy z hz=>?_,fun z=>?_⟩
   ·have hyx:y<x:=by
     have h1:=hp y hy x List.mem_cons_self
     have h2:y≠x:=fun e'=>e (by rw [hy,e'])
     omega
    rcases List.mem_cons.1 hz with e' | hz
    ·omega
    ·have:=b2 x rfl z hz
     omega
   ·constructor
    ·intro hz
     rcases List.mem_cons.1 hz with e' | hz
     ·subst e'; exact ⟨List.mem_cons_self,e⟩
     ·refine ⟨List.mem_cons_of_mem _ ((b3 z).1 hz).1,fun e'=>?_⟩
      have h1:=hp z e' x List.mem_cons_self
      have h2:=b2 x rfl z hz
      omega
    ·rintro ⟨h1,h2⟩
     by_cases e':z=x
     ·rw [e']; exact List.mem_cons_self
     ·refine List.mem_cons_of_mem _ ((b3 z).2 ⟨?_,fun h=>e' (by cases h; rfl)⟩)
      rcases List.mem_cons.1 h1 with h | h
      ·exact absurd h e'
      ·exact h
def xqs (l:List Int):List Int:=dd none (xfQ leI l)
theorem xw9 (l:List Int):(xqs l).Pairwise (·<·):=(xvu _ none ((xfL xm6 xm5 l).imp fun h=>by simpa [leI] using h) (fun y hy=>by cases hy)).1
theorem xtQ (l:List Int) (x:Int):x∈xqs l↔x∈l:=by
 have:=(xvu _ none ((xfL xm6 xm5 l).imp fun h=>by simpa [leI] using h) (fun y hy=>by cases hy)).2.2 x
 unfold xqs
 rw [this,xm7]
 simp
theorem xtR (l:List Int):(xqs l).length≤l.length:=by
 unfold xqs
 refine Nat.le_trans (xnt _ _) ?_
 rw [xeR]; exact Nat.le_refl _
theorem xyn (s:List (List Int)):List.take (xeZ (xbr s)).toNat (xdv (xbr s))=xcu (xqs (nums s))∧0≤xeZ (xbr s)∧xeZ (xbr s)≤((xdv (xbr s)).length:Int):=by
 have e1:nums (xbr s)=xfQ leI (nums s):=by unfold xbr; rw [xhu]
 have hle:=xnt (xfQ leI (nums s)) none
 unfold xeZ xdv
 rw [e1]
 refine ⟨?_,by omega,?_⟩
 ·unfold xcu xqs
  rw [Int.toNat_natCast,List.map_append,List.take_left' (by simp)]
 ·simp [xcu]
  omega
theorem xic {α β:Type} (p:α→Bool) (g:α→β):∀ (l:List α) (s:List β),l.foldl (fun s x=>if p x=true then s++[g x] else s) s=s++(l.filter p).map g
 | [],s=>by simp
 | x::r,s=>by
  rw [List.foldl_cons,xic p g r]
  by_cases h:p x=true
  ·rw [if_pos h,List.filter_cons_of_pos h]; simp
  ·rw [if_neg h,List.filter_cons_of_neg h]
theorem xt5 {α:Type} (c:Prop) [Decidable c] (s:List α) (a:α):(if c then s++[a] else s).length≤s.length+1:=by
 split
 ·simp
 ·omega
def xiM (t:Int):List (List Int)→List Int
 | []=>[]
 | x::r=>if col x 0>t then [] else if col x 1=3 then col x 2::xiM t r else xiM t r
theorem xkh (t:Int):∀ l,(xiM t l).length≤l.length
 | []=>Nat.le_refl _
 | x::r=>by
  have:=xkh t r
  unfold xiM
  split
  ·exact Nat.zero_le _
  ·split<;>simp<;>omega
def xoE (t:Int) (s:List (List Int)) (x:List Int):List (List Int) ⊕ (Nat×List U):=if col x 0>t then .inr (2,[.r s]) else .inl (if col x 1=3 then s++[[col x 2]] else s)
theorem xrP (t n:Int):∀ (l:List (List Int)) (s:List (List Int)),
  (∃ b,endL (fun s:List (List Int)=>(3,[.i n,.r s])) (runL (xoE t) s l)=if b=true then (3,[.r (s++xcu (xiM t l))]) else (4,[.i n,.r (s++xcu (xiM t l))]))
 | [],s=>⟨false,by simp [runL,endL,xiM,xcu]⟩
 | x::r,s=>by
  unfold runL xiM
  by_cases h:col x 0>t
  ·have e:xoE t s x=.inr (2,[.r s]):=by unfold xoE; rw [if_pos h]
   exact ⟨true,by rw [e,if_pos h]; simp [endL,xcu]⟩
  ·have e:xoE t s x=.inl (if col x 1=3 then s++[[col x 2]] else s):=by unfold xoE; rw [if_neg h]
   rw [e,if_neg h]
   obtain ⟨b,hb⟩:=xrP t n r (if col x 1=3 then s++[[col x 2]] else s)
   refine ⟨b,?_⟩
   simp only [hb]
   by_cases h3:col x 1=3
   ·simp only [if_pos h3,xcu,List.map_cons,List.append_assoc,List.cons_append,List.nil_append]
   ·simp only [if_neg h3]
theorem xvY (o t:Int) (l:List (List Int)) (hl:l.length≤1000000):xbK o t l∧xcF o t l=xcu (xqs (xiM t l)):=by
 obtain ⟨h1,h2⟩:=xeO (step:=xcE o t l) l (fun i (s:List (List Int))=>[.i i,.r s]) (xoE t) (fun i s=>s.length≤i) (fun s=>(3,[.i l.length,.r s])) 0
  (fun i s hi _ hI=>by
   have hfit:xa5 8 (s.length+[[col l[i] 2]].length):=by unfold xa5 maxLen; simp only [List.length_cons,List.length_nil]; omega
   refine ⟨?_,fun s' hs'=>?_⟩
   ·unfold xcE xoE
    simp only [gi_z,gr_1,gr_z,dlt hi,xaa (xaw hi),xcN (show i<9223372036854775807 by omega),xbb hi]
    rw [xaa hfit]
    generalize l[i]=x
    by_cases h1:col x 0>t
    ·rw [if_pos h1,decide_eq_true h1]; rfl
    ·rw [if_neg h1,decide_eq_false h1]
     by_cases h2:x.getD 1 0=3
     ·rw [if_pos h2,h2]; rfl
     ·rw [if_neg h2,bne h2]; rfl
   ·unfold xoE at hs'
    split at hs'
    ·cases hs'
    ·cases hs'
     exact Nat.le_trans (xt5 _ _ _) (by omega))
  (fun i s hi _=>by
   have:i=l.length:=by omega
   subst this
   unfold xcE
   simp only [gi_z,gr_1,gr_z,dnlt]) (s:=[]) (Nat.zero_le _)
 rw [List.drop_zero] at h2
 obtain ⟨b,hb⟩:=xrP t l.length l []
 have hg:xaE o t l=if b=true then (3,[.r (xcu (xiM t l))]) else (4,[.i l.length,.r (xcu (xiM t l))]):=by
  unfold xaE
  have hi:xeS o t l=[.i ((0:Nat):Int),.r []]:=rfl
  rw [hi,h2,hb,List.nil_append]
 have hlen:(xcu (xiM t l)).length<4611686018427387904:=by
  have:=xkh t l
  simp [xcu]; omega
 obtain ⟨o1,o2,o3⟩:=xyn (xcu (xiM t l))
 rw [xhu] at o1
 unfold xbK xcF xjT
 rw [hg]
 cases b with
 | true =>
  rw [if_pos rfl]
  exact ⟨⟨h1,fun _=>⟨hlen,o2,o3⟩,fun h=>by cases h⟩,o1⟩
 | false =>
  rw [if_neg (by decide)]
  exact ⟨⟨h1,(fun h=>by cases h),fun _=>⟨hlen,o2,o3⟩⟩,o1⟩
def xlE (t:Int) (l:List (List Int)):List Int:=xqs (xiM t l)
theorem xAA (o t:Int) (l:List (List Int)) (hl:l.length≤9223372036854775807):xgC o t l∧xhD o t l=(if (valF o l&&tmF t)=true then xcu (xlE t l) else [])∧xhC o t l=if (valF o l&&tmF t)=true then 0 else 1:=by
 obtain ⟨v1,v2⟩:=xg5 o l hl
 unfold xgC xhD xhC
 rw [v2,xpQ]
 cases hv:valF o l with
 | false=>exact ⟨⟨v1,fun h=>by cases h⟩,rfl,rfl⟩
 | true =>
  have h200:l.length≤200:=by
   unfold valF at hv
   simp only [Bool.and_eq_true,decide_eq_true_eq] at hv
   exact hv.1.2
  obtain ⟨s1,s2⟩:=xvY o t l (by omega)
  cases ht:tmF t with
  | false=>exact ⟨⟨v1,fun h=>by cases h⟩,rfl,rfl⟩
  | true=>exact ⟨⟨v1,fun _=>s1⟩,s2,rfl⟩
theorem xpN {o:Int} {l:List (List Int)} (h:valF o l=true):l.length≤200∧0≤o∧o≤8:=by
 unfold valF at h
 simp only [Bool.and_eq_true,decide_eq_true_eq] at h
 exact ⟨h.1.2,h.1.1.1,h.1.1.2⟩
def coP (so t:Int) (uj ship:List (List Int)) (c:List Int):Bool:=col c 0==so&&decide (col c 2≤t)&&xmK (col c 1) (col c 2) uj&&onF (col c 2) true ship
def xut (so t:Int) (uj ship uk:List (List Int)):List Int:=(uk.filter (coP so t uj ship)).map fun c=>col c 1
def coOk (oo so t:Int) (uj ship uk:List (List Int)):Bool:=valF oo uj&&valF so ship&&chF uk&&tmF t&&oo==0&&so !=0
theorem xAD (oo so t:Int) (uj ship uk:List (List Int)) (h1:uj.length≤9223372036854775807) (h2:ship.length≤9223372036854775807) (h3:uk.length≤9223372036854775807) :
  xc4 oo so t uj ship uk∧xeX oo so t uj ship uk=(if coOk oo so t uj ship uk=true then xcu (xqs (xut so t uj ship uk)) else [])∧xeW oo so t uj ship uk=if coOk oo so t uj ship uk=true then 0 else 1:=by
 obtain ⟨a1,a2⟩:=xg5 oo uj h1
 obtain ⟨b1,b2⟩:=xg5 so ship h2
 obtain ⟨c1,c2⟩:=xjj uk h3
 unfold xc4 xeX xj2 xeW
 rw [a2,b2,c2,xpQ]
 have e:(!valF oo uj||!valF so ship||!chF uk||!tmF t||oo !=0||so==0)=!coOk oo so t uj ship uk:=by
  unfold coOk
  show (!valF oo uj||!valF so ship||!chF uk||!tmF t||!(oo==0)||so==0)=!(valF oo uj&&valF so ship&&chF uk&&tmF t&&oo==0&&!(so==0))
  cases valF oo uj<;>cases valF so ship<;>cases chF uk<;>cases tmF t<;>cases (oo==0)<;>cases (so==0)<;>rfl
 rw [e]
 cases hok:coOk oo so t uj ship uk with
 | false=>exact ⟨⟨a1,fun _=>b1,fun _=>c1,fun h=>by cases h⟩,rfl,rfl⟩
 | true =>
  have hlist:uk.length≤200:=by
   unfold coOk chF at hok
   simp only [Bool.and_eq_true,decide_eq_true_eq] at hok
   exact hok.1.1.1.2.1
  obtain ⟨g1,g2⟩:=xeO (step:=xcG oo so t uj ship uk) uk (fun i (s:List (List Int))=>[.i i,.r s]) (fun s x=>.inl (if coP so t uj ship x=true then s++[[col x 1]] else s)) (fun i s=>s.length≤i) (fun s=>(2,[.i uk.length,.r s])) 0
   (fun i s hi _ hI=>by
    have hfit:xa5 8 (s.length+[[col uk[i] 1]].length):=by unfold xa5 maxLen; simp only [List.length_cons,List.length_nil]; omega
    refine ⟨?_,fun s' hs'=>?_⟩
    ·unfold xcG
     simp only [gi_z,gr_1,gr_z,dlt hi,xaa (xaw hi),xcN (show i<9223372036854775807 by omega),xbb hi,(xsz _ _ _ uj h1).2,(xyo _ _ ship h2).2]
     rw [xaa (fun _=>(xsz _ _ _ uj h1).1),xaa (fun _=>(xyo _ _ ship h2).1),xaa hfit]
     generalize uk[i]=x
     show (bif coP so t uj ship x then _ else _)=_
     cases coP so t uj ship x
     ·rw [if_neg (by decide)]; rfl
     ·rw [if_pos rfl]; rfl
    ·cases hs'
     exact Nat.le_trans (xt5 _ _ _) (by omega))
   (fun i s hi _=>by
    have:i=uk.length:=by omega
    subst this
    unfold xcG
    simp only [gi_z,gr_1,gr_z,dnlt]) (s:=[]) (Nat.zero_le _)
  rw [List.drop_zero,xhY,xic,List.nil_append] at g2
  have hg:xb9 oo so t uj ship uk=(3,[.i uk.length,.r (xcu (xut so t uj ship uk))]):=by
   unfold xb9
   have hi:xeV oo so t uj ship uk=[.i ((0:Nat):Int),.r []]:=rfl
   rw [hi,g2]
   unfold xut xcu
   rw [List.map_map]
   rfl
  have hlen:(xcu (xut so t uj ship uk)).length<4611686018427387904:=by
   have:=List.length_filter_le (coP so t uj ship) uk
   simp [xcu,xut]; omega
  obtain ⟨o1,o2,o3⟩:=xyn (xcu (xut so t uj ship uk))
  rw [xhu] at o1
  rw [hg]
  exact ⟨⟨a1,fun _=>b1,fun _=>c1,fun _=>⟨g1,hlen,o2,o3⟩⟩,o1,rfl⟩
end Go.Proofs.YthfjhbbpdhjklaaGreat
set_option linter.unusedVariables false
set_option maxRecDepth 100000
namespace Go.Proofs.YthfjhbbpdhjklaaGreat
open Go Go.Sy
def xDX (m k:Nat):Bool:=(bAnd IntKind.i64 ((m:Int).fdiv ((2:Int) ^ min k IntKind.i64.bits)) 1==1)==m.testBit k
theorem xB8:(List.range 512).all (fun m=>(List.range 9).all fun k=>xDX m k)=true:=by decide +kernel
theorem xBc {m k:Nat} (hm:m<512) (hk:k<9):(bAnd IntKind.i64 ((m:Int).fdiv ((2:Int) ^ min k IntKind.i64.bits)) 1==1)=m.testBit k:=by
 have:=List.all_eq_true.1 (List.all_eq_true.1 xB8 m (List.mem_range.2 hm)) k (List.mem_range.2 hk)
 exact eq_of_beq this
def orOk (m k:Nat):Bool:=bOr IntKind.i64 (m:Int) (bShl IntKind.i64 1 (k:Int))==((m ||| 2 ^ k:Nat):Int)
theorem xCl:(List.range 512).all (fun m=>(List.range 9).all fun k=>orOk m k)=true:=by decide +kernel
theorem xCj {m k:Nat} (hm:m<512) (hk:k<9):bOr IntKind.i64 (m:Int) (bShl IntKind.i64 1 (k:Int))=((m ||| 2 ^ k:Nat):Int):=by
 have:=List.all_eq_true.1 (List.all_eq_true.1 xCl m (List.mem_range.2 hm)) k (List.mem_range.2 hk)
 exact eq_of_beq this
def subB (m a:Nat):Bool:=(List.range 9).all fun k=>!m.testBit k||a.testBit k
theorem xmW {m:Nat} (hm:m<512) (i:Nat):(BitVec.ofInt 64 (m:Int)).getLsbD i=(decide (i<64)&&m.testBit i):=by
 have:BitVec.ofInt 64 (m:Int)=BitVec.ofNat 64 m:=by
  apply BitVec.eq_of_toNat_eq
  simp
 rw [this,BitVec.getLsbD_ofNat]
theorem xrN {m:Nat} (hm:m<512) {i:Nat} (hi:9≤i):m.testBit i=false:=by
 refine Nat.testBit_lt_two_pow (Nat.lt_of_lt_of_le hm ?_)
 exact Nat.pow_le_pow_right (n:=2) (by omega) hi
theorem xxJ {n:Nat} (h:n<18446744073709551616):IntKind.i64.wrap (n:Int)=0↔n=0:=by
 constructor
 ·intro hw
  simp only [IntKind.wrap,IntKind.bits,IntKind.signed] at hw
  simp at hw
  split at hw<;>omega
 ·rintro rfl; decide
theorem xCp {m a:Nat} (hm:m<512) (ha:a<512):(bNot IntKind.i64 (m:Int) (a:Int) !=0)=!subB m a:=by
 have key:(BitVec.ofInt 64 (m:Int) &&& ~~~(BitVec.ofInt 64 (a:Int)))=0#64↔subB m a=true:=by
  constructor
  ·intro h
   refine List.all_eq_true.2 fun k hk=>?_
   have hk:=List.mem_range.1 hk
   have h1:=congrArg (fun v=>v.getLsbD k) h
   simp only [BitVec.getLsbD_and,BitVec.getLsbD_not,xmW hm,xmW ha,BitVec.getLsbD_zero] at h1
   have h64:k<64:=by omega
   simp only [h64,decide_true,Bool.true_and] at h1
   cases h2:m.testBit k<;>cases h3:a.testBit k<;>simp_all
  ·intro h
   apply BitVec.eq_of_getLsbD_eq
   intro i hi
   simp only [BitVec.getLsbD_and,BitVec.getLsbD_not,xmW hm,xmW ha,BitVec.getLsbD_zero]
   by_cases h9:i<9
   ·have:=List.all_eq_true.1 h i (List.mem_range.2 h9)
    cases h2:m.testBit i<;>cases h3:a.testBit i<;>simp_all
   ·rw [xrN hm (by omega)]; simp
 have hlt:(BitVec.ofInt 64 (m:Int) &&& ~~~(BitVec.ofInt 64 (a:Int))).toNat<18446744073709551616:=BitVec.isLt _
 have e:bNot IntKind.i64 (m:Int) (a:Int)=IntKind.i64.wrap ((BitVec.ofInt 64 (m:Int) &&& ~~~(BitVec.ofInt 64 (a:Int))).toNat:Int):=rfl
 cases hs:subB m a with
 | true =>
  have:=key.2 hs
  rw [e,this]; decide
 | false =>
  have hne:¬ (BitVec.ofInt 64 (m:Int) &&& ~~~(BitVec.ofInt 64 (a:Int)))=0#64:=fun h=>by rw [key.1 h] at hs; cases hs
  have h0:¬ (BitVec.ofInt 64 (m:Int) &&& ~~~(BitVec.ofInt 64 (a:Int))).toNat=0:=fun h=>hne (BitVec.eq_of_toNat_eq h)
  have:¬ bNot IntKind.i64 (m:Int) (a:Int)=0:=fun h=>h0 ((xxJ hlt).1 (e▸h))
  simp [this]
def ddF (p:List Int):List (List Int)→List (List Int)
 | []=>[]
 | x::r=>if x=p then ddF p r else x::ddF x r
def ddR:List (List Int)→List (List Int)
 | []=>[]
 | x::r=>x::ddF x r
theorem xtf (x:List Int):∀ (l:List (List Int)) (p:List Int),ddF p (l++[x])=if (l.getLast?.getD p)=x then ddF p l else ddF p l++[x]
 | [],p=>by
  show (if x=p then ddF p [] else x::ddF x [])=if p=x then ddF p [] else ddF p []++[x]
  by_cases h:x=p
  ·rw [if_pos h,if_pos h.symm]
  ·rw [if_neg h,if_neg (fun e=>h e.symm)]; rfl
 | y::r,p=>by
  have e:(y::r).getLast?.getD p=r.getLast?.getD y:=by
   cases r with
   | nil=>rfl
   | cons a b=>rw [List.getLast?_cons_cons]; cases h:(a::b).getLast? with
    | none=>simp at h
    | some z=>rfl
  rw [List.cons_append,e]
  unfold ddF
  by_cases h:y=p
  ·subst h
   rw [if_pos rfl,if_pos rfl]
   exact xtf x r y
  ·rw [if_neg h,if_neg h,xtf x r y]
   split<;>rfl
theorem xpH {l:List (List Int)} {j:Nat} (h0:0<j) (hj:j<l.length):ddR (l.take (j+1))=if l[j]=l[j-1] then ddR (l.take j) else ddR (l.take j)++[l[j]]:=by
 cases l with
 | nil=>simp at hj
 | cons x r =>
  obtain ⟨i,rfl⟩:∃ i,j=i+1:=⟨j-1,by omega⟩
  have hi:i<r.length:=by simpa using hj
  simp only [List.take_succ_cons,ddR]
  rw [List.take_succ_eq_append_getElem hi,xtf]
  have e1:(x::r)[i+1]=r[i]:=rfl
  have e2:((r.take i).getLast?.getD x)=(x::r)[i+1-1]:=by
   cases i with
   | zero=>rfl
   | succ i =>
    have hi':i<r.length:=by omega
    rw [List.take_succ_eq_append_getElem hi',List.getLast?_concat]
    rfl
  rw [e1,e2]
  by_cases h:r[i]=(x::r)[i+1-1]
  ·rw [if_pos h,if_pos h.symm]
  ·rw [if_neg h,if_neg (fun e=>h e.symm)]; rfl
theorem xzm {l:List (List Int)} (h:0<l.length):ddR (l.take 1)=[l[0]]:=by
 cases l with
 | nil=>simp at h
 | cons x r=>rfl
theorem xeY (l:List (List Int)):∀ j,0<j→j≤l.length→(ddR (l.take j)).length≤j∧0<(ddR (l.take j)).length
 | 0,h,_=>by omega
 | 1,_,h=>by rw [xzm (by omega)]; simp
 | j+2,_,h=>by
  obtain ⟨ih1,ih2⟩:=xeY l (j+1) (by omega) (by omega)
  rw [xpH (by omega) (by omega)]
  split
  ·omega
  ·simp; omega
theorem xtd {l:List (List Int)}:∀ j,0<j→j≤l.length→(∀ i (hi:i<l.length),0<i→i<j→l[i]≠l[i-1])→ddR (l.take j)=l.take j
 | 0,h,_,_=>by omega
 | 1,_,h,_=>by rw [xzm (by omega),List.take_succ_eq_append_getElem (by omega)]; simp
 | j+2,_,h,hne=>by
  rw [xpH (by omega) (by omega),if_neg (hne (j+1) (by omega) (by omega) (by omega)),xtd (j+1) (by omega) (by omega) (fun i hi h0 h1=>hne i hi h0 (by omega)),← List.take_succ_eq_append_getElem]
theorem xte:∀ (l:List (List Int)) (p:List Int),l.Pairwise (fun a b=>leL [0,1,2] a b=true)→(∀ x∈l,leL [0,1,2] p x=true)→(∀ x∈p::l,∀ y∈p::l,leL [0,1,2] x y=true→leL [0,1,2] y x=true→x=y) →
  (ddF p l).Pairwise (fun a b=>leL [0,1,2] b a=false)∧(∀ x∈ddF p l,leL [0,1,2] x p=false)∧∀ x,x∈p::ddF p l↔x∈p::l
 | [],p,_,_,_=>⟨List.Pairwise.nil,(fun x hx=>by cases hx),fun x=>Iff.rfl⟩
 | x::r,p,h,hp,ha=>by
  obtain ⟨a1,a2⟩:=List.pairwise_cons.1 h
  by_cases e:x=p
  ·subst e
   have hd:ddF x (x::r)=ddF x r:=by show (if x=x then ddF x r else _)=_; rw [if_pos rfl]
   obtain ⟨b1,b2,b3⟩:=xte r x a2 a1 (fun y hy z hz=>ha y (List.mem_cons_of_mem _ hy) z (List.mem_cons_of_mem _ hz))
   rw [hd]
   refine ⟨b1,b2,fun z=>?_⟩
   rw [b3 z]
   simp
  ·have hd:ddF p (x::r)=x::ddF x r:=by show (if x=p then ddF p r else _)=_; rw [if_neg e]
   obtain ⟨b1,b2,b3⟩:=xte r x a2 a1 (fun y hy z hz=>ha y (List.mem_cons_of_mem _ hy) z (List.mem_cons_of_mem _ hz))
   have hxp:leL [0,1,2] x p=false:=by
    cases hx:leL [0,1,2] x p with
    | false=>rfl
    | true=>exact absurd (ha x (by simp) p (by simp) hx (hp x (by simp))) e
   rw [hd]
   refine ⟨List.pairwise_cons.2 ⟨fun z hz=>b2 z hz,b1⟩,fun z hz=>?_,fun z=>?_⟩
   ·rcases List.mem_cons.1 hz with rfl | hz
    ·exact hxp
    ·cases hzp:leL [0,1,2] z p with
     | false=>rfl
     | true =>
      have:=xeP _ _ _ _ hzp (hp x (by simp))
      rw [b2 z hz] at this
      cases this
   ·rw [List.mem_cons,b3 z,← List.mem_cons]
theorem xAr {l:List (List Int)} (h:l.Pairwise (fun a b=>leL [0,1,2] a b=true)) (ha:∀ x∈l,∀ y∈l,leL [0,1,2] x y=true→leL [0,1,2] y x=true→x=y):(ddR l).Pairwise (fun a b=>leL [0,1,2] b a=false)∧∀ x,x∈ddR l↔x∈l:=by
 cases l with
 | nil=>exact ⟨List.Pairwise.nil,fun x=>Iff.rfl⟩
 | cons x r =>
  obtain ⟨a1,a2⟩:=List.pairwise_cons.1 h
  obtain ⟨b1,b2,b3⟩:=xte r x a2 a1 ha
  exact ⟨List.pairwise_cons.2 ⟨b2,b1⟩,b3⟩
end Go.Proofs.YthfjhbbpdhjklaaGreat
set_option linter.unusedVariables false
set_option maxRecDepth 100000
namespace Go.Proofs.YthfjhbbpdhjklaaGreat
open Go Go.Sy
def rOn (k:Nat):List Int:=[2,(k:Int),0]
def lft (g:List Int):List Int:=if col g 2=0 then [3,col g 0,col g 1] else [1,0,col g 1]
def cov (m:Nat) (g:List Int):Bool:=col g 3 !=0&&m.testBit (col g 0).toNat
def xiz (m:Nat) (uk:List (List Int)):List (List Int):=((List.range 9).filter m.testBit).map rOn++(uk.filter fun g=>!cov m g).map lft
def byF (m:Nat) (uk:List (List Int)):List (List Int):=ddR (xfQ (leL [0,1,2]) (xiz m uk))
def xcY (uk:List (List Int)):Prop:=∀ g∈uk,0≤col g 0∧col g 0≤8
theorem xBH (g:List Int):(lft g).length=3:=by unfold lft; split<;>rfl
theorem xot (m:Nat) (uk:List (List Int)):∀ x∈xiz m uk,x.length=3:=by
 intro x hx
 rcases List.mem_append.1 hx with hx | hx
 ·obtain ⟨k,_,rfl⟩:=List.mem_map.1 hx; rfl
 ·obtain ⟨g,_,rfl⟩:=List.mem_map.1 hx; exact xBH g
theorem xsF {a b:List Int} (ha:a.length=3) (hb:b.length=3) (h0:col a 0=col b 0) (h1:col a 1=col b 1) (h2:col a 2=col b 2):a=b:=by
 match a,b,ha,hb with
 | [a0,a1,a2],[b0,b1,b2],_,_ =>
  have h0:a0=b0:=h0
  have h1:a1=b1:=h1
  have h2:a2=b2:=h2
  rw [h0,h1,h2]
theorem xv4 {a b:List Int} (ha:a.length=3) (hb:b.length=3):(col a 0==col b 0&&(col a 1==col b 1&&(col a 2==col b 2&&true)))=decide (a=b):=by
 by_cases h:a=b
 ·subst h; simp
 ·rw [decide_eq_false h]
  cases hq:(col a 0==col b 0&&(col a 1==col b 1&&(col a 2==col b 2&&true))) with
  | false=>rfl
  | true =>
   simp only [Bool.and_eq_true,beq_iff_eq] at hq
   exact absurd (xsF ha hb hq.1 hq.2.1 hq.2.2.1) h
theorem xBb {m:Nat} (hm:m<512) (uk:List (List Int)):xax (xb3 m uk) (xga m uk)∧gr (xjy m uk).snd 1=((List.range 9).filter m.testBit).map rOn:=by
 have hu:∀ n,upto (fun i (s:List (List Int))=>if m.testBit i=true then s++[rOn i] else s) n []=((List.range n).filter m.testBit).map rOn:=by
  intro n
  induction n with
  | zero=>rfl
  | succ n ih =>
   show (if m.testBit n=true then upto _ n []++[rOn n] else upto _ n [])=_
   rw [ih,List.range_succ,List.filter_append,List.map_append]
   cases hb:m.testBit n
   ·simp [hb]
   ·simp [hb]
 obtain ⟨h1,h2,_⟩:=xm3 (step:=xb3 m uk) 9 (fun i (s:List (List Int))=>[.i i,.r s]) (fun i s=>if m.testBit i=true then s++[rOn i] else s) (fun i s=>s.length≤i) 2 (fun s=>[.i (9:Nat),.r s])
  (fun i s hi hI=>Nat.le_trans (xt5 _ _ _) (by omega))
  (fun i s hi hI=>by
   have hfit:xa5 24 (s.length+[[(2:Int),(i:Int),0]].length):=by unfold xa5 maxLen; simp only [List.length_cons,List.length_nil]; omega
   unfold xb3
   simp only [gi_z,gr_1,gr_z,decide_eq_true (show (i:Int)<9 by omega),cond_true,xaa (show (0:Int)≤(i:Int) by omega),Int.toNat_natCast,xBc hm hi,xcN (show i<9223372036854775807 by omega)]
   rw [xaa hfit]
   cases m.testBit i
   ·rw [if_neg (by decide)]; rfl
   ·rw [if_pos rfl]; rfl)
  (fun s hI=>by
   unfold xb3
   simp only [gi_z,gr_1,gr_z]
   rfl) (s:=[]) (Nat.le_refl _)
 refine ⟨h1,?_⟩
 have:xjy m uk=xat (xb3 m uk) [.i ((0:Nat):Int),.r []]:=rfl
 rw [this,h2]
 show gr [.i (9:Nat),.r (upto _ 9 [])] 1=_
 rw [gr_1,gr_z,hu]
theorem xCU {m:Nat} (hm:m<512) {uk:List (List Int)} (hs:xcY uk) (hl:uk.length≤1000000):xax (xcK m uk) (xdu m uk)∧gr (xan m uk).snd 1=xiz m uk:=by
 have h9:(((List.range 9).filter m.testBit).map rOn).length≤9:=by
  rw [List.length_map]
  exact Nat.le_trans (List.length_filter_le _ _) (by simp)
 obtain ⟨h1,h2⟩:=xeO (step:=xcK m uk) uk (fun i (s:List (List Int))=>[.i i,.r s]) (fun s x=>.inl (if (!cov m x)=true then s++[lft x] else s)) (fun i s=>s.length≤9+i) (fun s=>(3,[.i uk.length,.r s])) 0
  (fun i s hi _ hI=>by
   have hfit:∀ x:List Int,xa5 24 (s.length+[x].length):=fun x=>by unfold xa5 maxLen; simp only [List.length_cons,List.length_nil]; omega
   refine ⟨?_,fun s' hs'=>?_⟩
   ·obtain ⟨q1,q2⟩:=hs _ (List.getElem_mem hi)
    unfold xcK xne
    simp only [gi_z,gr_1,gr_z,dlt hi,xaa (xaw hi),xcN (show i<9223372036854775807 by omega),xbb hi]
    generalize hx:uk[i]=x at *
    rw [xaa (fun _=>q1),xaa (hfit _),xaa (hfit _)]
    have hb:=xBc hm (show (col x 0).toNat<9 by omega)
    have hb':(bAnd IntKind.i64 ((m:Int).fdiv ((2:Int) ^ min (x.getD 0 0).toNat IntKind.i64.bits)) 1==1)=m.testBit (col x 0).toNat:=hb
    rw [hb']
    show (bif cov m x then _ else _)=_
    cases cov m x with
    | true=>rw [if_neg (by decide)]; rfl
    | false =>
     rw [if_pos (show (!false)=true from rfl)]
     unfold lft
     by_cases h2:x.getD 2 0=0
     ·rw [if_pos h2,h2]; rfl
     ·rw [if_neg h2]
      have:(x.getD 2 0 !=0)=true:=by simpa using h2
      rw [this]; rfl
   ·cases hs'
    exact Nat.le_trans (xt5 _ _ _) (by omega))
  (fun i s hi _=>by
   have:i=uk.length:=by omega
   subst this
   unfold xcK
   simp only [gi_z,gr_1,gr_z,dnlt]) (s:=((List.range 9).filter m.testBit).map rOn) (by omega)
 have e:xdu m uk=[.i ((0:Nat):Int),.r (((List.range 9).filter m.testBit).map rOn)]:=by
  unfold xdu
  rw [(xBb hm uk).2]; rfl
 unfold xan
 rw [e]
 refine ⟨h1,?_⟩
 rw [h2,List.drop_zero,xhY,xic]
 show gr [.i uk.length,.r _] 1=_
 rw [gr_1,gr_z]
 rfl
theorem xxW {a:List Int} (x y z:Int):xlt 3 a 0 [x,y,z]=[x,y,z]:=rfl
theorem xCS {set:Int} {uk T:List (List Int)} (hT:xaQ 3 [0,1,2] (gr (xan set uk).snd 1)=T) (h3:∀ x∈T,x.length=3) {k0:Nat} (hk:0<k0) (hk':k0<T.length) (hlen:T.length≤10000000) (hd:ddR (T.take (k0+1))=T.take k0) :
  xax (xb1 set uk [.i k0]) (xcJ set uk [.i k0])∧∃ (k:Nat) (S:List (List Int)),xaq set uk [.i k0]=(3,[.i k,.i (T.length-k0:Nat),.r S])∧k≤T.length∧S.length=T.length∧S.take k=ddR T:=by
 have h3at:∀ j (hj:j<T.length),T[j].length=3:=fun j hj=>h3 _ (List.getElem_mem hj)
 let f:Nat→Nat×List (List Int)→Nat×List (List Int):=fun i s=>if T.getD (k0+(i+1)) []=T.getD (k0+i) [] then s else (s.1+1,s.2.set s.1 (T.getD (k0+(i+1)) []))
 let I:Nat→Nat×List (List Int)→Prop:=fun i s=>s.1=(ddR (T.take (k0+i+1))).length∧s.2.length=T.length∧s.2.take s.1=ddR (T.take (k0+i+1))∧(∀ p,k0+i≤p→s.2[p]?=T[p]?)∧s.1≤k0+i
 have hI:∀ i s,i<T.length-k0-1→I i s→I (i+1) (f i s):=by
  rintro i ⟨k,S⟩ hi ⟨q1,q2,q3,q4,q5⟩
  have q5:k≤k0+i:=q5
  have q4:∀ p,k0+i≤p→S[p]?=T[p]?:=q4
  have hj:k0+i+1<T.length:=by omega
  have e1:T.getD (k0+(i+1)) []=T[k0+i+1]:=xbj (i:=k0+i+1) hj
  have e2:T.getD (k0+i) []=T[k0+i]:=xbj (by omega)
  have hdt:=xpH (l:=T) (j:=k0+i+1) (by omega) hj
  have hdl:=xeY T (k0+i+1) (by omega) (by omega)
  show I (i+1) (if T.getD (k0+(i+1)) []=T.getD (k0+i) [] then (k,S) else (k+1,S.set k (T.getD (k0+(i+1)) [])))
  rw [e1,e2]
  have e3:k0+i+1-1=k0+i:=rfl
  by_cases h:T[k0+i+1]=T[k0+i]
  ·rw [if_pos h]
   rw [if_pos (by simpa using h)] at hdt
   refine ⟨?_,q2,?_,fun p hp=>q4 p (by omega),by show k≤k0+(i+1); omega⟩
   ·rw [show k0+(i+1)+1=k0+i+1+1 by omega,hdt]; exact q1
   ·rw [show k0+(i+1)+1=k0+i+1+1 by omega,hdt]; exact q3
  ·rw [if_neg h]
   rw [if_neg (by simpa using h)] at hdt
   have q1:k=_:=q1
   have q2:S.length=T.length:=q2
   have q3:S.take k=_:=q3
   refine ⟨?_,by simp [q2],?_,fun p hp=>?_,by show k+1≤k0+(i+1); omega⟩
   ·rw [show k0+(i+1)+1=k0+i+1+1 by omega,hdt,List.length_append,← q1]; rfl
   ·show (S.set k T[k0+i+1]).take (k+1)=_
    rw [show k0+(i+1)+1=k0+i+1+1 by omega,hdt,List.take_succ_eq_append_getElem (by simp; omega)]
    congr 1
    ·rw [List.take_set_of_le (Nat.le_refl _),q3]
    ·simp
   ·show (S.set k T[k0+i+1])[p]?=_
    rw [List.getElem?_set_ne (by omega)]
    exact q4 p (by omega)
 obtain ⟨g1,g2,g3⟩:=xm3 (step:=xb1 set uk [.i k0]) (T.length-k0-1) (fun i (s:Nat×List (List Int))=>[.i s.1,.i ((i+1:Nat):Int),.r s.2]) f I 2 (fun s=>[.i s.1,.i (T.length-k0:Nat),.r s.2]) hI
  (fun i s hi hIs=>by
   obtain ⟨k,S⟩:=s
   obtain ⟨q1,q2,q3,q4,q5⟩:=hIs
   have q1:k=_:=q1
   have q2:S.length=T.length:=q2
   have q4:∀ p,k0+i≤p→S[p]?=T[p]?:=q4
   have hj:k0+i+1<T.length:=by omega
   have hdl:=xeY T (k0+i+1) (by omega) (by omega)
   have e1:T.getD (k0+(i+1)) []=T[k0+i+1]:=xbj (i:=k0+i+1) hj
   have e2:T.getD (k0+i) []=T[k0+i]:=xbj (by omega)
   have s1:S.getD (k0+i+1) []=T[k0+i+1]:=by rw [List.getD_eq_getElem?_getD,q4 _ (by omega),List.getElem?_eq_getElem hj]; rfl
   have s2:S.getD (k0+i) []=T[k0+i]:=by rw [List.getD_eq_getElem?_getD,q4 _ (by omega),List.getElem?_eq_getElem (by omega)]; rfl
   have hw1:IntKind.i64.wrap (((i+1:Nat):Int)-1)=((i:Nat):Int):=by rw [xfv (by omega)]; omega
   have hw2:IntKind.i64.wrap ((k:Int)+1)=((k+1:Nat):Int):=xcN (by omega)
   have hw3:IntKind.i64.wrap (((i+1:Nat):Int)+1)=((i+1+1:Nat):Int):=xcN (by omega)
   unfold xb1 xna xjx xha xcW xf8
   rw [hT]
   simp only [gi_z,gi_1,gr_2,gr_1,gr_z,xa1,shI,loN,Int.toNat_natCast,hw1,hw2,hw3]
   rw [decide_eq_true (by omega),cond_true,xaa (by omega),xaa (by unfold inR; omega),xaa (by omega),xaa (by unfold inR; omega)]
   rw [show ((k0:Int)+((i+1:Nat):Int)).toNat=k0+i+1 by omega,show ((k0:Int)+((i:Nat):Int)).toNat=k0+i by omega,s1,s2]
   have hq:=xv4 (h3at (k0+i+1) hj) (h3at (k0+i) (by omega))
   rw [hq]
   show _=some (0,[U.i (f i (k,S)).1,U.i ((i+1+1:Nat):Int),U.r (f i (k,S)).2])
   have ef:f i (k,S)=if T.getD (k0+(i+1)) []=T.getD (k0+i) [] then (k,S) else (k+1,S.set k (T.getD (k0+(i+1)) [])):=rfl
   rw [ef,e1,e2]
   by_cases h:T[k0+i+1]=T[k0+i]
   ·rw [if_pos h,decide_eq_true h]; rfl
   ·rw [if_neg h,decide_eq_false h]
    simp only [Bool.not_false,cond_true]
    rw [xaa (by omega),xaa (by unfold inR; omega),xaa (by unfold inR; omega),xaa (by unfold inR; omega),xxW]
    rw [xsF (a:=[col T[k0+i+1] 0,col T[k0+i+1] 1,col T[k0+i+1] 2]) (b:=T[k0+i+1]) rfl (h3at _ hj) rfl rfl rfl])
  (fun s hIs=>by
   obtain ⟨k,S⟩:=s
   unfold xb1 xjx
   rw [hT]
   simp only [gi_z,gi_1,gr_2,gr_1,gr_z,xa1,loN,Int.toNat_natCast]
   rw [decide_eq_false (by omega),cond_false,show T.length-k0-1+1=T.length-k0 by omega]) (s:=(k0,T))
  ⟨by rw [Nat.add_zero,hd,List.length_take]; show k0=_; omega,rfl,by rw [Nat.add_zero,hd],fun p _=>rfl,Nat.le_refl _⟩
 have ei:xcJ set uk [.i k0]=[.i k0,.i ((0+1:Nat):Int),.r T]:=by
  unfold xcJ
  rw [hT]; rfl
 unfold xaq
 rw [ei]
 refine ⟨g1,_,_,g2,?_,g3.2.1,?_⟩
 ·have:=g3.1
  rw [this]
  rw [show k0+(T.length-k0-1)+1=T.length by omega]
  exact (xeY T T.length (by omega) (Nat.le_refl _)).1
 ·have:=g3.2.2.1
  rw [show k0+(T.length-k0-1)+1=T.length by omega,List.take_length] at this
  exact this
theorem xCT {set:Int} {uk T:List (List Int)} (hT:xaQ 3 [0,1,2] (gr (xan set uk).snd 1)=T) (h3:∀ x∈T,x.length=3) (h2:2≤T.length) (hlen:T.length≤10000000) :
  xax (xb2 set uk) (xf9 set uk) ∧
  (((xbt set uk).1=1∧0≤gi (xbt set uk).2 0∧gi (xbt set uk).2 0≤((gr (xbt set uk).2 1).length:Int)∧(gr (xbt set uk).2 1).take (gi (xbt set uk).2 0).toNat=ddR T)∨((xbt set uk).1=3∧ddR T=T)):=by
 have h3at:∀ j (hj:j<T.length),T[j].length=3:=fun j hj=>h3 _ (List.getElem_mem hj)
 refine xd1 (step:=xb2 set uk) (T.length-1) (fun i xs=>xs=[.i ((i+1:Nat):Int)]∧∀ j (hj:j<T.length),0<j→j<i+1→T[j]≠T[j-1])
  (fun r=>(r.1=1∧0≤gi r.2 0∧gi r.2 0≤((gr r.2 1).length:Int)∧(gr r.2 1).take (gi r.2 0).toNat=ddR T)∨(r.1=3∧ddR T=T)) (fun i xs hi hinv=>?_) (fun xs hinv=>?_) ⟨rfl,fun j hj h0 h1=>by omega⟩
 ·obtain ⟨rfl,hne⟩:=hinv
  have hj:i+1<T.length:=by omega
  have hw1:IntKind.i64.wrap (((i+1:Nat):Int)-1)=((i:Nat):Int):=by rw [xfv (by omega)]; omega
  have hw3:IntKind.i64.wrap (((i+1:Nat):Int)+1)=((i+1+1:Nat):Int):=xcN (by omega)
  have hstep:xb2 set uk [.i ((i+1:Nat):Int)]=bif decide (T[i+1]=T[i]) then xac ((0:Int)≤((i+1:Nat):Int)∧((i+1:Nat):Int)≤(T.length:Int)) (xac ((xax (xb1 set uk [.i ((i+1:Nat):Int)]) (xcJ set uk [.i ((i+1:Nat):Int)]))) (xac (((0:Int)≤gi (xaq set uk [.i ((i+1:Nat):Int)]).snd 0)∧(gi (xaq set uk [.i ((i+1:Nat):Int)]).snd 0≤(↑(gr (xaq set uk [.i ((i+1:Nat):Int)]).snd 2).length:Int))) (xac (((↑(loN (xa1 (↑(gr (xaq set uk [.i ((i+1:Nat):Int)]).snd 2).length:Int) (some (gi (xaq set uk [.i ((i+1:Nat):Int)]).snd 0)) none).snd.fst):Int)≤(xb0 set uk [.i ((i+1:Nat):Int)]))∧((xb0 set uk [.i ((i+1:Nat):Int)])≤(↑(gr (xaq set uk [.i ((i+1:Nat):Int)]).snd 2).length:Int))) (xac (((0:Int)≤gi (xaq set uk [.i ((i+1:Nat):Int)]).snd 0)∧(gi (xaq set uk [.i ((i+1:Nat):Int)]).snd 0≤(↑((xeh set uk [.i ((i+1:Nat):Int)])++List.drop ((xb0 set uk [.i ((i+1:Nat):Int)])).toNat (gr (xaq set uk [.i ((i+1:Nat):Int)]).snd 2)).length:Int))) (some (1,[U.i ((xir set uk [.i ((i+1:Nat):Int)])),U.r ((xeh set uk [.i ((i+1:Nat):Int)])++List.drop ((xb0 set uk [.i ((i+1:Nat):Int)])).toNat (gr (xaq set uk [.i ((i+1:Nat):Int)]).snd 2))])))))) else some (0,[U.i ((i+1+1:Nat):Int)]):=by
   unfold xb2 xnd xnc xnb
   rw [hT]
   simp only [gi_z,hw1,hw3]
   rw [decide_eq_true (by omega),cond_true,xaa (xaw hj),xaa (xaw hj),xaa (xaw (by omega)),xaa (xaw (by omega)),xbb hj,xbb (show i<T.length by omega),xv4 (h3at _ hj) (h3at _ (by omega))]
  by_cases h:T[i+1]=T[i]
  ·right
   have hd:ddR (T.take (i+1+1))=T.take (i+1):=by
    rw [xpH (by omega) hj,if_pos (by simpa using h)]
    exact xtd (i+1) (by omega) (by omega) hne
   obtain ⟨g1,k,S,g2,g3,g4,g5⟩:=xCS hT h3 (by omega) hj hlen hd
   refine ⟨0,[.i k,.r (S.take k++List.replicate (S.length-k) [0,0,0]++S.drop S.length)],?_,.inl ⟨rfl,?_,?_,?_⟩⟩
   ·rw [hstep,decide_eq_true h,cond_true,xaa (by omega),xaa g1]
    unfold xir xeh xlQ xb0
    rw [g2]
    simp only [gi_z,gr_2,gr_1,gr_z,xa1,loN,Option.getD_some,Int.toNat_natCast]
    rw [xaa (by omega),xaa (by omega),xaa (by simp; omega)]
   ·rw [gi_z]; omega
   ·rw [gi_z,gr_1,gr_z]; simp; omega
   ·rw [gi_z,gr_1,gr_z,Int.toNat_natCast,List.append_assoc,List.take_append_of_le_length (by simp; omega),List.take_take,Nat.min_self,g5]
  ·left
   refine ⟨[.i ((i+1+1:Nat):Int)],?_,rfl,fun j hj' h0 h1=>?_⟩
   ·rw [hstep,decide_eq_false h]; rfl
   ·by_cases e:j=i+1
    ·subst e; simpa using h
    ·exact hne j hj' h0 (by omega)
 ·obtain ⟨rfl,hne⟩:=hinv
  refine ⟨2,[.i ((T.length-1+1:Nat):Int)],?_,.inr ⟨rfl,?_⟩⟩
  ·unfold xb2
   rw [hT]
   simp only [gi_z]
   rw [decide_eq_false (by omega)]; rfl
  ·have:=xtd T.length (by omega) (Nat.le_refl _) (fun j hj h0 h1=>hne j hj h0 (by omega))
   rwa [List.take_length] at this
theorem xCR {m:Nat} (hm:m<512) {uk:List (List Int)} (hs:xcY uk) (hl:uk.length≤1000000):xdB m uk∧xaP m uk=byF m uk:=by
 obtain ⟨a1,_⟩:=xBb hm uk
 obtain ⟨b1,b2⟩:=xCU hm hs hl
 have hraw:(xiz m uk).length≤1000009:=by
  unfold xiz
  rw [List.length_append,List.length_map,List.length_map]
  have h1:((List.range 9).filter m.testBit).length≤9:=Nat.le_trans (List.length_filter_le _ _) (by simp)
  have h2:=List.length_filter_le (fun g=>!cov m g) uk
  omega
 have hT:xaQ 3 [0,1,2] (gr (xan m uk).snd 1)=xfQ (leL [0,1,2]) (xiz m uk):=by
  rw [b2]
  unfold xaQ
  rw [xz8 (xot m uk)]
 have h3:∀ x∈xfQ (leL [0,1,2]) (xiz m uk),x.length=3:=fun x hx=>xot m uk x (xm7.1 hx)
 have hTl:(xfQ (leL [0,1,2]) (xiz m uk)).length=(xiz m uk).length:=xeR _
 unfold xdB xaP xlO xlP
 rw [hT]
 have key:(xfQ (leL [0,1,2]) (xiz m uk)).length<2→ddR (xfQ (leL [0,1,2]) (xiz m uk))=xfQ (leL [0,1,2]) (xiz m uk):=by
  intro h
  generalize xfQ (leL [0,1,2]) (xiz m uk)=T at *
  match T,h with
  | [],_=>rfl
  | [x],_=>rfl
 by_cases h2:(xfQ (leL [0,1,2]) (xiz m uk)).length<2
 ·refine ⟨⟨a1,b1,by rw [b2]; omega,fun h=>?_⟩,?_⟩
  ·rw [decide_eq_true (by omega)] at h; cases h
  ·rw [decide_eq_true (by omega),cond_true]
   exact (key h2).symm
 ·obtain ⟨c1,c2⟩:=xCT hT h3 (by omega) (by omega)
  rw [decide_eq_false (by omega),cond_false]
  rcases c2 with ⟨d1,d2,d3,d4⟩ | ⟨d1,d2⟩
  ·refine ⟨⟨a1,b1,by rw [b2]; omega,fun _=>⟨c1,fun _=>⟨d2,d3⟩⟩⟩,?_⟩
   rw [d1]
   exact d4
  ·refine ⟨⟨a1,b1,by rw [b2]; omega,fun _=>⟨c1,fun h=>by rw [d1] at h; cases h⟩⟩,?_⟩
   rw [d1]
   exact d2.symm
theorem xyH {l:List (List Int)} (h3:∀ x∈l,x.length=3):∀ x∈l,∀ y∈l,leL [0,1,2] x y=true→leL [0,1,2] y x=true→x=y:=fun x hx y hy h1 h2=>by
 have:=xpz _ _ _ h1 h2
 exact xsF (h3 x hx) (h3 y hy) (this 0 (by simp)) (this 1 (by simp)) (this 2 (by simp))
theorem xtm (m:Nat) (uk:List (List Int)):(byF m uk).Pairwise (fun a b=>leL [0,1,2] b a=false)∧∀ x,x∈byF m uk↔x∈xiz m uk:=by
 have h3:∀ x∈xfQ (leL [0,1,2]) (xiz m uk),x.length=3:=fun x hx=>xot m uk x (xm7.1 hx)
 obtain ⟨h1,h2⟩:=xAr (xfL (xeQ _) (xeP _) (xiz m uk)) (xyH h3)
 exact ⟨h1,fun x=>by rw [show byF m uk=ddR (xfQ (leL [0,1,2]) (xiz m uk)) from rfl,h2,xm7]⟩
end Go.Proofs.YthfjhbbpdhjklaaGreat
