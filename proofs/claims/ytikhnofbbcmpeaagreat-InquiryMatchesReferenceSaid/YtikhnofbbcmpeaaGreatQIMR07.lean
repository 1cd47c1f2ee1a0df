/- Several texts in one (wip/pack.py): XInq6D XInq6 XInqHD XInqH XInqS1D XInqS1 XInqS2D XInqS2 XInqOa XInqObD XInqOb XInqOcD XSyHx XInqOc XInqS4D XInqS4 XInqS5D XInqS5. -/
import Derived.Test.YtikhnofbbcmpeaaGreatRows
import Derived.Test.YtikhnofbbcmpeaaGreatQIMR06
set_option maxRecDepth 100000
set_option linter.unusedVariables false
namespace Go.Proofs.YtikhnofbbcmpeaaGreat
open Go Go.Sy
noncomputable def xmV (ua t un:Int) (ub um up:List (List Int)) (y0:List U):List (List Int) :=
 putRow 1 [(um.getD (gi y0 2).toNat []).getD 0 (0:Int)]
 [(um.getD (gi y0 2).toNat []).getD 0 (0:Int),encL (decL ((um.getD (gi y0 2).toNat []).getD 1 (0:Int)))] (gr y0 3)
noncomputable def xcM (ua t un:Int) (ub um up:List (List Int)):List U :=
 [.b (false),.i ((0:Int)),.i ((0:Int)),.r ([])]
noncomputable def xby (ua t un:Int) (ub um up:List (List Int)) (y0:List U):Option (Nat×List U) :=
 (bif decide (gi y0 2<(↑um.length:Int)) then xab (inR (gi y0 2) um) (xab (inR (gi y0 2) um) (xab (xaJ ((um.getD (gi y0 2).toNat []).getD 0 (0:Int)) (decL ((um.getD (gi y0 2).toNat []).getD 1 (0:Int)))) ((bif !xac ((um.getD (gi y0 2).toNat []).getD 0 (0:Int)) (decL ((um.getD (gi y0 2).toNat []).getD 1 (0:Int))) ||
 decide ((um.getD (gi y0 2).toNat []).getD 0 (0:Int)≤gi y0 1) then some (1,[.i (ua),.i (t),.i (un),.r (gr y0 3)]) else some (0,[.b (gb y0 0),.i ((um.getD (gi y0 2).toNat []).getD 0 (0:Int)),.i (IntKind.i64.wrap (gi y0 2+(1:Int))),.r ((xmV ua t un ub um up y0))]))))) else some (3,[.b (gb y0 0),.i (gi y0 1),.i (gi y0 2),.r (gr y0 3)]))
noncomputable def xaw (ua t un:Int) (ub um up:List (List Int)):Nat×List U:=xaf (xby ua t un ub um up) (xcM ua t un ub um up)
noncomputable def xdQ (ua t un:Int) (ub um up:List (List Int)):List U :=
 [.i ((0:Int)),.i ((0:Int))]
noncomputable def xbx (ua t un:Int) (ub um up:List (List Int)) (y1:List U):Option (Nat×List U) :=
 (bif decide (gi y1 1<(↑up.length:Int)) then xab (inR (gi y1 1) up) (xab (inR (gi y1 1) up) ((bif !(xco 1 [(up.getD (gi y1 1).toNat []).getD 0 (0:Int)] (gr (xaw ua t un ub um up).snd 3)).isSome then some (1,[.i (gi y1 1)]) else some (0,[.i (gi y1 0),.i (IntKind.i64.wrap (gi y1 1+(1:Int)))])))) else some (3,[.i (gi y1 0),.i (gi y1 1)]))
noncomputable def xb6 (ua t un:Int) (ub um up:List (List Int)):Nat×List U:=xaf (xbx ua t un ub um up) (xdQ ua t un ub um up)
noncomputable def xjh (ua t un:Int) (ub um up:List (List Int)) (y2:List U):List Int :=
 [((xas ua t un ub (gr (xaw ua t un ub um up).snd 3) up).getD (gi y2 0).toNat []).getD 0 (0:Int),
 ((xas ua t un ub (gr (xaw ua t un ub um up).snd 3) up).getD (gi y2 0).toNat []).getD 1 (0:Int)]
noncomputable def xiC (ua t un:Int) (ub um up:List (List Int)):List U :=
 [.i ((0:Int)),.r ([])]
noncomputable def xcL (ua t un:Int) (ub um up:List (List Int)) (y2:List U):Option (Nat×List U) :=
 (bif decide (gi y2 0<(↑(xas ua t un ub (gr (xaw ua t un ub um up).snd 3) up).length:Int)) then xab (inR (gi y2 0) (xas ua t un ub (gr (xaw ua t un ub um up).snd 3) up)) (xab (inR (gi y2 0) (xas ua t un ub (gr (xaw ua t un ub um up).snd 3) up)) (xab (xa5 16 ((gr y2 1).length+[(xjh ua t un ub um up y2)].length)) (some (0,[.i (IntKind.i64.wrap (gi y2 0+(1:Int))),.r (gr y2 1++[(xjh ua t un ub um up y2)])])))) else some (2,[.i (gi y2 0),.r (gr y2 1)]))
noncomputable def xmW (ua t un:Int) (ub um up:List (List Int)):Nat×List U:=xaf (xcL ua t un ub um up) (xiC ua t un ub um up)
noncomputable def xmU (ua t un:Int) (ub um up:List (List Int)):List (List Int) :=
 bif !!decide ((bif (xb6 ua t un ub um up).fst.beq 1 then gi (xb6 ua t un ub um up).snd 0 else (-1:Int))≥(0:Int)) then [] else gr (xmW ua t un ub um up).snd 1
noncomputable def xmT (ua t un:Int) (ub um up:List (List Int)):List (List Int) :=
 bif !xac ua ub||ua !=(0:Int)||!xaH up||!xaB t||decide (un<(0:Int))||decide (un>(100000:Int)) then []
else bif (xaw ua t un ub um up).fst.beq 1 then [] else (xmU ua t un ub um up)
noncomputable def xcq (ua t un:Int) (ub um up:List (List Int)):List (List Int) :=
 (xmT ua t un ub um up)
noncomputable def xmS (ua t un:Int) (ub um up:List (List Int)):Int :=
 bif !!decide ((bif (xb6 ua t un ub um up).fst.beq 1 then gi (xb6 ua t un ub um up).snd 0 else (-1:Int))≥(0:Int)) then (1:Int) else (0:Int)
noncomputable def xmR (ua t un:Int) (ub um up:List (List Int)):Int :=
 bif !xac ua ub||ua !=(0:Int)||!xaH up||!xaB t||decide (un<(0:Int))||decide (un>(100000:Int)) then
 (1:Int)
else bif (xaw ua t un ub um up).fst.beq 1 then (1:Int) else (xmS ua t un ub um up)
noncomputable def xdn (ua t un:Int) (ub um up:List (List Int)):Int :=
 (xmR ua t un ub um up)
def xcS (ua t un:Int) (ub um up:List (List Int)):Prop :=
 ((xaJ ua ub)∧((((!xac ua ub||ua !=(0:Int))=false)→(xbQ up))∧(((!xac ua ub||ua !=(0:Int)||!xaH up||!xaB t||decide (un<(0:Int))||decide (un>(100000:Int)))=false)→(((xav (xby ua t un ub um up) (xcM ua t un ub um up)))∧(((xaw ua t un ub um up).fst.beq 1=false)→(((xav (xbx ua t un ub um up) (xdQ ua t un ub um up)))∧(((!!decide ((bif (xb6 ua t un ub um up).fst.beq 1 then gi (xb6 ua t un ub um up).snd 0 else (-1:Int))≥(0:Int)))=false)→((xdK ua t un ub (gr (xaw ua t un ub um up).snd 3) up)∧((xav (xcL ua t un ub um up) (xiC ua t un ub um up)))))))))))
noncomputable def xpR (ua t un:Int) (ub um up:List (List Int)) (y0:List U):List (List Int) :=
 putRow 1 [(um.getD (gi y0 2).toNat []).getD 0 (0:Int)]
 [(um.getD (gi y0 2).toNat []).getD 0 (0:Int),encL (decL ((um.getD (gi y0 2).toNat []).getD 1 (0:Int)))] (gr y0 3)
noncomputable def xfr (ua t un:Int) (ub um up:List (List Int)):List U :=
 [.b (false),.i ((0:Int)),.i ((0:Int)),.r ([])]
noncomputable def xfq (ua t un:Int) (ub um up:List (List Int)) (y0:List U):Option (Nat×List U) :=
 (bif decide (gi y0 2<(↑um.length:Int)) then xab (inR (gi y0 2) um) (xab (inR (gi y0 2) um) (xab (xaJ ((um.getD (gi y0 2).toNat []).getD 0 (0:Int)) (decL ((um.getD (gi y0 2).toNat []).getD 1 (0:Int)))) ((bif !xac ((um.getD (gi y0 2).toNat []).getD 0 (0:Int)) (decL ((um.getD (gi y0 2).toNat []).getD 1 (0:Int))) ||
 decide ((um.getD (gi y0 2).toNat []).getD 0 (0:Int)≤gi y0 1) then some (1,[.i (ua),.i (t),.i (un),.r (gr y0 3)]) else some (0,[.b (gb y0 0),.i ((um.getD (gi y0 2).toNat []).getD 0 (0:Int)),.i (IntKind.i64.wrap (gi y0 2+(1:Int))),.r ((xpR ua t un ub um up y0))]))))) else some (3,[.b (gb y0 0),.i (gi y0 1),.i (gi y0 2),.r (gr y0 3)]))
noncomputable def xaW (ua t un:Int) (ub um up:List (List Int)):Nat×List U:=xaf (xfq ua t un ub um up) (xfr ua t un ub um up)
noncomputable def xfp (ua t un:Int) (ub um up:List (List Int)):List U :=
 [.i ((0:Int)),.i ((0:Int))]
noncomputable def xfo (ua t un:Int) (ub um up:List (List Int)) (y1:List U):Option (Nat×List U) :=
 (bif decide (gi y1 1<(↑up.length:Int)) then xab (inR (gi y1 1) up) (xab (inR (gi y1 1) up) ((bif !(xco 1 [(up.getD (gi y1 1).toNat []).getD 0 (0:Int)] (gr (xaW ua t un ub um up).snd 3)).isSome then some (1,[.i (gi y1 1)]) else some (0,[.i (gi y1 0),.i (IntKind.i64.wrap (gi y1 1+(1:Int)))])))) else some (3,[.i (gi y1 0),.i (gi y1 1)]))
noncomputable def xbJ (ua t un:Int) (ub um up:List (List Int)):Nat×List U:=xaf (xfo ua t un ub um up) (xfp ua t un ub um up)
noncomputable def xjL (ua t un:Int) (ub um up:List (List Int)):List (List Int) :=
 bif !!decide ((bif (xbJ ua t un ub um up).fst.beq 1 then gi (xbJ ua t un ub um up).snd 0 else (-1:Int))≥(0:Int)) then []
else xcQ (xas ua t un ub (gr (xaW ua t un ub um up).snd 3) up)
noncomputable def xjK (ua t un:Int) (ub um up:List (List Int)):List (List Int) :=
 bif !xac ua ub||ua !=(0:Int)||!xaH up||!xaB t||decide (un<(0:Int))||decide (un>(100000:Int)) then []
else bif (xaW ua t un ub um up).fst.beq 1 then [] else (xjL ua t un ub um up)
noncomputable def xbV (ua t un:Int) (ub um up:List (List Int)):List (List Int) :=
 (xjK ua t un ub um up)
noncomputable def xjJ (ua t un:Int) (ub um up:List (List Int)):List (List Int) :=
 bif !!decide ((bif (xbJ ua t un ub um up).fst.beq 1 then gi (xbJ ua t un ub um up).snd 0 else (-1:Int))≥(0:Int)) then []
else
 xB1 (↑(xcQ (xas ua t un ub (gr (xaW ua t un ub um up).snd 3) up)).length:Int)
  (xas ua t un ub (gr (xaW ua t un ub um up).snd 3) up)
noncomputable def xjI (ua t un:Int) (ub um up:List (List Int)):List (List Int) :=
 bif !xac ua ub||ua !=(0:Int)||!xaH up||!xaB t||decide (un<(0:Int))||decide (un>(100000:Int)) then []
else bif (xaW ua t un ub um up).fst.beq 1 then [] else (xjJ ua t un ub um up)
noncomputable def xcn (ua t un:Int) (ub um up:List (List Int)):List (List Int) :=
 (xjI ua t un ub um up)
noncomputable def xjH (ua t un:Int) (ub um up:List (List Int)):Int :=
 bif !!decide ((bif (xbJ ua t un ub um up).fst.beq 1 then gi (xbJ ua t un ub um up).snd 0 else (-1:Int))≥(0:Int)) then (1:Int) else (0:Int)
noncomputable def xjG (ua t un:Int) (ub um up:List (List Int)):Int :=
 bif !xac ua ub||ua !=(0:Int)||!xaH up||!xaB t||decide (un<(0:Int))||decide (un>(100000:Int)) then
 (1:Int)
else bif (xaW ua t un ub um up).fst.beq 1 then (1:Int) else (xjH ua t un ub um up)
noncomputable def xde (ua t un:Int) (ub um up:List (List Int)):Int :=
 (xjG ua t un ub um up)
def xbS (ua t un:Int) (ub um up:List (List Int)):Prop :=
 ((xaJ ua ub)∧((((!xac ua ub||ua !=(0:Int))=false)→(xbQ up))∧(((!xac ua ub||ua !=(0:Int)||!xaH up||!xaB t||decide (un<(0:Int))||decide (un>(100000:Int)))=false)→(((xav (xfq ua t un ub um up) (xfr ua t un ub um up)))∧(((xaW ua t un ub um up).fst.beq 1=false)→(((xav (xfo ua t un ub um up) (xfp ua t un ub um up)))∧(((!!decide ((bif (xbJ ua t un ub um up).fst.beq 1 then gi (xbJ ua t un ub um up).snd 0 else (-1:Int))≥(0:Int)))=false)→((xdK ua t un ub (gr (xaW ua t un ub um up).snd 3) up)∧((xcB (xas ua t un ub (gr (xaW ua t un ub um up).snd 3) up))∧(xxl (↑(xcQ (xas ua t un ub (gr (xaW ua t un ub um up).snd 3) up)).length:Int)
 (xas ua t un ub (gr (xaW ua t un ub um up).snd 3) up)))))))))))
noncomputable def xqR (ua t un:Int) (ub um up uk ur:List (List Int)) (y0:List U):List (List Int) :=
 putRow 1 [(um.getD (gi y0 2).toNat []).getD 0 (0:Int)]
 [(um.getD (gi y0 2).toNat []).getD 0 (0:Int),encL (decL ((um.getD (gi y0 2).toNat []).getD 1 (0:Int)))] (gr y0 3)
noncomputable def xf0 (ua t un:Int) (ub um up uk ur:List (List Int)):List U :=
 [.b (false),.i ((0:Int)),.i ((0:Int)),.r ([])]
noncomputable def xfZ (ua t un:Int) (ub um up uk ur:List (List Int)) (y0:List U):Option (Nat×List U) :=
 (bif decide (gi y0 2<(↑um.length:Int)) then xab (inR (gi y0 2) um) (xab (inR (gi y0 2) um) (xab (xaJ ((um.getD (gi y0 2).toNat []).getD 0 (0:Int)) (decL ((um.getD (gi y0 2).toNat []).getD 1 (0:Int)))) ((bif !xac ((um.getD (gi y0 2).toNat []).getD 0 (0:Int)) (decL ((um.getD (gi y0 2).toNat []).getD 1 (0:Int))) ||
 decide ((um.getD (gi y0 2).toNat []).getD 0 (0:Int)≤gi y0 1) then some (1,[.i (ua),.i (t),.i (un),.r (gr y0 3)]) else some (0,[.b (gb y0 0),.i ((um.getD (gi y0 2).toNat []).getD 0 (0:Int)),.i (IntKind.i64.wrap (gi y0 2+(1:Int))),.r ((xqR ua t un ub um up uk ur y0))]))))) else some (3,[.b (gb y0 0),.i (gi y0 1),.i (gi y0 2),.r (gr y0 3)]))
noncomputable def xau (ua t un:Int) (ub um up uk ur:List (List Int)):Nat×List U:=xaf (xfZ ua t un ub um up uk ur) (xf0 ua t un ub um up uk ur)
noncomputable def xfY (ua t un:Int) (ub um up uk ur:List (List Int)):List U :=
 [.i ((0:Int)),.i ((0:Int))]
noncomputable def xfX (ua t un:Int) (ub um up uk ur:List (List Int)) (y1:List U):Option (Nat×List U) :=
 (bif decide (gi y1 1<(↑up.length:Int)) then xab (inR (gi y1 1) up) (xab (inR (gi y1 1) up) ((bif !(xco 1 [(up.getD (gi y1 1).toNat []).getD 0 (0:Int)] (gr (xau ua t un ub um up uk ur).snd 3)).isSome then some (1,[.i (gi y1 1)]) else some (0,[.i (gi y1 0),.i (IntKind.i64.wrap (gi y1 1+(1:Int)))])))) else some (3,[.i (gi y1 0),.i (gi y1 1)]))
noncomputable def xdd (ua t un:Int) (ub um up uk ur:List (List Int)):Nat×List U:=xaf (xfX ua t un ub um up uk ur) (xfY ua t un ub um up uk ur)
noncomputable def xkN (ua t un:Int) (ub um up uk ur:List (List Int)) (y2:List U):Int :=
 xec ((uk.getD (IntKind.i64.wrap (gi y2 1-(1:Int))).toNat []).getD 0 (0:Int))
 ((uk.getD (IntKind.i64.wrap (gi y2 1-(1:Int))).toNat []).getD 1 (0:Int))
 ((uk.getD (IntKind.i64.wrap (gi y2 1-(1:Int))).toNat []).getD 2 (0:Int)) ((uk.getD (gi y2 1).toNat []).getD 0 (0:Int))
 ((uk.getD (gi y2 1).toNat []).getD 1 (0:Int)) ((uk.getD (gi y2 1).toNat []).getD 2 (0:Int))
noncomputable def xfW (ua t un:Int) (ub um up uk ur:List (List Int)):List U :=
 [.b (false),.i ((1:Int))]
noncomputable def xc5 (ua t un:Int) (ub um up uk ur:List (List Int)) (y2:List U):Option (Nat×List U) :=
 (bif decide (gi y2 1<(↑uk.length:Int)) then xab (inR (IntKind.i64.wrap (gi y2 1-(1:Int))) uk) (xab (inR (IntKind.i64.wrap (gi y2 1-(1:Int))) uk) (xab (inR (gi y2 1) uk) (xab (inR (gi y2 1) uk) (xab (xch ((uk.getD (IntKind.i64.wrap (gi y2 1-(1:Int))).toNat []).getD 0 (0:Int))
 ((uk.getD (IntKind.i64.wrap (gi y2 1-(1:Int))).toNat []).getD 1 (0:Int))
 ((uk.getD (IntKind.i64.wrap (gi y2 1-(1:Int))).toNat []).getD 2 (0:Int)) ((uk.getD (gi y2 1).toNat []).getD 0 (0:Int))
 ((uk.getD (gi y2 1).toNat []).getD 1 (0:Int)) ((uk.getD (gi y2 1).toNat []).getD 2 (0:Int))) ((bif decide ((xkN ua t un ub um up uk ur y2)≥(0:Int)) then some (1,[]) else some (0,[.b (gb y2 0),.i (IntKind.i64.wrap (gi y2 1+(1:Int)))]))))))) else some (3,[.b (gb y2 0),.i (gi y2 1)]))
noncomputable def xfb (ua t un:Int) (ub um up uk ur:List (List Int)):Nat×List U:=xaf (xc5 ua t un ub um up uk ur) (xfW ua t un ub um up uk ur)
noncomputable def xkM (ua t un:Int) (ub um up uk ur:List (List Int)) (y3:List U):Int :=
 xgm ((ur.getD (IntKind.i64.wrap (gi y3 1-(1:Int))).toNat []).getD 0 (0:Int))
 ((ur.getD (IntKind.i64.wrap (gi y3 1-(1:Int))).toNat []).getD 1 (0:Int)) ((ur.getD (gi y3 1).toNat []).getD 0 (0:Int))
 ((ur.getD (gi y3 1).toNat []).getD 1 (0:Int))
noncomputable def xfV (ua t un:Int) (ub um up uk ur:List (List Int)):List U :=
 [.b (false),.i ((1:Int))]
noncomputable def xc4 (ua t un:Int) (ub um up uk ur:List (List Int)) (y3:List U):Option (Nat×List U) :=
 (bif decide (gi y3 1<(↑ur.length:Int)) then xab (inR (IntKind.i64.wrap (gi y3 1-(1:Int))) ur) (xab (inR (IntKind.i64.wrap (gi y3 1-(1:Int))) ur) (xab (inR (gi y3 1) ur) (xab (inR (gi y3 1) ur) (xab (xeb ((ur.getD (IntKind.i64.wrap (gi y3 1-(1:Int))).toNat []).getD 0 (0:Int))
 ((ur.getD (IntKind.i64.wrap (gi y3 1-(1:Int))).toNat []).getD 1 (0:Int)) ((ur.getD (gi y3 1).toNat []).getD 0 (0:Int))
 ((ur.getD (gi y3 1).toNat []).getD 1 (0:Int))) ((bif decide ((xkM ua t un ub um up uk ur y3)≥(0:Int)) then some (1,[]) else some (0,[.b (gb y3 0),.i (IntKind.i64.wrap (gi y3 1+(1:Int)))]))))))) else some (3,[.b (gb y3 0),.i (gi y3 1)]))
noncomputable def xgD (ua t un:Int) (ub um up uk ur:List (List Int)):Nat×List U:=xaf (xc4 ua t un ub um up uk ur) (xfV ua t un ub um up uk ur)
noncomputable def xfT (ua t un:Int) (ub um up uk ur:List (List Int)) (y4:List U):List U :=
 [.i ((0:Int)),.i ((0:Int))]
noncomputable def xc3 (ua t un:Int) (ub um up uk ur:List (List Int)) (y4:List U) (y5:List U):Option (Nat×List U) :=
 (bif decide (gi y5 1<(↑uk.length:Int)) then xab (inR (gi y5 1) uk) (xab (inR (gi y5 1) uk) ((bif xh3 (((xas ua t un ub (gr (xau ua t un ub um up uk ur).snd 3) up).getD (gi y4 2).toNat []).getD 0 (0:Int))
 (((xas ua t un ub (gr (xau ua t un ub um up uk ur).snd 3) up).getD (gi y4 2).toNat []).getD 1 (0:Int))
 (((xas ua t un ub (gr (xau ua t un ub um up uk ur).snd 3) up).getD (gi y4 2).toNat []).getD 2 (0:Int) !=(0:Int))
 (((xas ua t un ub (gr (xau ua t un ub um up uk ur).snd 3) up).getD (gi y4 2).toNat []).getD 3 (0:Int) !=(0:Int))
 ((uk.getD (gi y5 1).toNat []).getD 0 (0:Int)) ((uk.getD (gi y5 1).toNat []).getD 1 (0:Int))
 ((uk.getD (gi y5 1).toNat []).getD 2 (0:Int)) then some (1,[.i (gi y5 1)]) else some (0,[.i (gi y5 0),.i (IntKind.i64.wrap (gi y5 1+(1:Int)))])))) else some (3,[.i (gi y5 0),.i (gi y5 1)]))
noncomputable def xgC (ua t un:Int) (ub um up uk ur:List (List Int)) (y4:List U):Nat×List U:=xaf (xc3 ua t un ub um up uk ur y4) (xfT ua t un ub um up uk ur y4)
noncomputable def xfS (ua t un:Int) (ub um up uk ur:List (List Int)) (y4:List U):List U :=
 [.i ((0:Int)),.i ((0:Int))]
noncomputable def xc2 (ua t un:Int) (ub um up uk ur:List (List Int)) (y4:List U) (y6:List U):Option (Nat×List U) :=
 (bif decide (gi y6 1<(↑ur.length:Int)) then xab (inR (gi y6 1) ur) (xab (inR (gi y6 1) ur) ((bif ((xas ua t un ub (gr (xau ua t un ub um up uk ur).snd 3) up).getD (gi y4 2).toNat []).getD 0 (0:Int) ==
  (ur.getD (gi y6 1).toNat []).getD 0 (0:Int) &&
 (((xas ua t un ub (gr (xau ua t un ub um up uk ur).snd 3) up).getD (gi y4 2).toNat []).getD 1 (0:Int) ==
   (ur.getD (gi y6 1).toNat []).getD 1 (0:Int) &&
  true) then some (1,[.i (gi y6 1)]) else some (0,[.i (gi y6 0),.i (IntKind.i64.wrap (gi y6 1+(1:Int)))])))) else some (3,[.i (gi y6 0),.i (gi y6 1)]))
noncomputable def xgB (ua t un:Int) (ub um up uk ur:List (List Int)) (y4:List U):Nat×List U:=xaf (xc2 ua t un ub um up uk ur y4) (xfS ua t un ub um up uk ur y4)
noncomputable def xfR (ua t un:Int) (ub um up uk ur:List (List Int)) (y4:List U):List U :=
 [.i ((0:Int)),.i ((0:Int))]
noncomputable def xc1 (ua t un:Int) (ub um up uk ur:List (List Int)) (y4:List U) (y7:List U):Option (Nat×List U) :=
 (bif decide (gi y7 1<(↑(gr y4 3).length:Int)) then xab (inR (gi y7 1) (gr y4 3)) (xab (inR (gi y7 1) (gr y4 3)) ((bif !xhC (((xas ua t un ub (gr (xau ua t un ub um up uk ur).snd 3) up).getD (gi y4 2).toNat []).getD 0 (0:Int))
  (((xas ua t un ub (gr (xau ua t un ub um up uk ur).snd 3) up).getD (gi y4 2).toNat []).getD 1 (0:Int))
  (((xas ua t un ub (gr (xau ua t un ub um up uk ur).snd 3) up).getD (gi y4 2).toNat []).getD 2 (0:Int) !=(0:Int))
  (((xas ua t un ub (gr (xau ua t un ub um up uk ur).snd 3) up).getD (gi y4 2).toNat []).getD 3 (0:Int) !=(0:Int))
  (((gr y4 3).getD (gi y7 1).toNat []).getD 0 (0:Int)) (((gr y4 3).getD (gi y7 1).toNat []).getD 1 (0:Int))
  (((gr y4 3).getD (gi y7 1).toNat []).getD 2 (0:Int) !=(0:Int)) (((gr y4 3).getD (gi y7 1).toNat []).getD 3 (0:Int) !=(0:Int)) then some (1,[.i (gi y7 1)]) else some (0,[.i (gi y7 0),.i (IntKind.i64.wrap (gi y7 1+(1:Int)))])))) else some (3,[.i (gi y7 0),.i (gi y7 1)]))
noncomputable def xgA (ua t un:Int) (ub um up uk ur:List (List Int)) (y4:List U):Nat×List U:=xaf (xc1 ua t un ub um up uk ur y4) (xfR ua t un ub um up uk ur y4)
noncomputable def xkL (ua t un:Int) (ub um up uk ur:List (List Int)) (y4:List U):List Int :=
 [bif ((xas ua t un ub (gr (xau ua t un ub um up uk ur).snd 3) up).getD (gi y4 2).toNat []).getD 2 (0:Int) !=(0:Int) then (1:Int)
 else (0:Int),
 bif ((xas ua t un ub (gr (xau ua t un ub um up uk ur).snd 3) up).getD (gi y4 2).toNat []).getD 3 (0:Int) !=(0:Int) then (1:Int)
 else (0:Int)]
noncomputable def xgz (ua t un:Int) (ub um up uk ur:List (List Int)) (y4:List U):List Int :=
 ((xas ua t un ub (gr (xau ua t un ub um up uk ur).snd 3) up).getD (gi y4 2).toNat []).getD 0 (0:Int) ::
 ((xas ua t un ub (gr (xau ua t un ub um up uk ur).snd 3) up).getD (gi y4 2).toNat []).getD 1 (0:Int)::(xkL ua t un ub um up uk ur y4)
noncomputable def xfU (ua t un:Int) (ub um up uk ur:List (List Int)):List U :=
 [.b (false),.i ((0:Int)),.i ((0:Int)),.r ([])]
noncomputable def xbC (ua t un:Int) (ub um up uk ur:List (List Int)) (y4:List U):Option (Nat×List U) :=
 (bif decide (gi y4 2<(↑(xas ua t un ub (gr (xau ua t un ub um up uk ur).snd 3) up).length:Int)) then xab (inR (gi y4 2) (xas ua t un ub (gr (xau ua t un ub um up uk ur).snd 3) up)) (xab (inR (gi y4 2) (xas ua t un ub (gr (xau ua t un ub um up uk ur).snd 3) up)) (xab ((xav (xc3 ua t un ub um up uk ur y4) (xfT ua t un ub um up uk ur y4))) ((bif !decide ((bif (xgC ua t un ub um up uk ur y4).fst.beq 1 then gi (xgC ua t un ub um up uk ur y4).snd 0 else (-1:Int))≥(0:Int)) then some (1,[]) else xab ((xav (xc2 ua t un ub um up uk ur y4) (xfS ua t un ub um up uk ur y4))) ((bif decide ((bif (xgB ua t un ub um up uk ur y4).fst.beq 1 then gi (xgB ua t un ub um up uk ur y4).snd 0 else (-1:Int))≥(0:Int)) then xab ((xav (xc1 ua t un ub um up uk ur y4) (xfR ua t un ub um up uk ur y4))) ((bif decide ((bif (xgA ua t un ub um up uk ur y4).fst.beq 1 then gi (xgA ua t un ub um up uk ur y4).snd 0 else (-1:Int))≥(0:Int)) then some (2,[]) else xab (xa5 24 ((gr y4 3).length+[(xgz ua t un ub um up uk ur y4)].length)) (some (0,[.b (gb y4 0),.i (gi y4 1),.i (IntKind.i64.wrap (gi y4 2+(1:Int))),.r (gr y4 3++[(xgz ua t un ub um up uk ur y4)])])))) else some (0,[.b (gb y4 0),.i (gi y4 1),.i (IntKind.i64.wrap (gi y4 2+(1:Int))),.r (gr y4 3)]))))))) else some (5,[.b (gb y4 0),.i (gi y4 1),.i (gi y4 2),.r (gr y4 3)]))
noncomputable def xbl (ua t un:Int) (ub um up uk ur:List (List Int)):Nat×List U:=xaf (xbC ua t un ub um up uk ur) (xfU ua t un ub um up uk ur)
noncomputable def xcR (ua t un:Int) (ub um up uk ur:List (List Int)):Bool :=
 bif !xac ua ub||ua !=(0:Int)||!xaH up||!xaB t||decide (un<(0:Int))||decide (un>(100000:Int)) then false
else
 bif (xau ua t un ub um up uk ur).fst.beq 1 then false
 else
  bif !!decide ((bif (xdd ua t un ub um up uk ur).fst.beq 1 then gi (xdd ua t un ub um up uk ur).snd 0 else (-1:Int))≥(0:Int)) then false
  else
   bif
     ((↑uk.length:Int) !=(↑ur.length:Int)||!bif (xfb ua t un ub um up uk ur).fst.beq 1 then false else true) ||
      !bif (xgD ua t un ub um up uk ur).fst.beq 1 then false else true then
    false
   else
    bif (xbl ua t un ub um up uk ur).fst.beq 1 then false
    else bif (xbl ua t un ub um up uk ur).fst.beq 2 then false else (↑(gr (xbl ua t un ub um up uk ur).snd 3).length:Int)==(↑ur.length:Int)
noncomputable def xkK (ua t un:Int) (ub um up uk ur:List (List Int)):Int :=
 bif ((↑uk.length:Int) !=(↑ur.length:Int)||!bif (xfb ua t un ub um up uk ur).fst.beq 1 then false else true)||!bif (xgD ua t un ub um up uk ur).fst.beq 1 then false else true then
 (0:Int)
else bif (xbl ua t un ub um up uk ur).fst.beq 1 then (0:Int) else bif (xbl ua t un ub um up uk ur).fst.beq 2 then (0:Int) else (0:Int)
noncomputable def xkJ (ua t un:Int) (ub um up uk ur:List (List Int)):Int :=
 bif !!decide ((bif (xdd ua t un ub um up uk ur).fst.beq 1 then gi (xdd ua t un ub um up uk ur).snd 0 else (-1:Int))≥(0:Int)) then (1:Int) else (xkK ua t un ub um up uk ur)
noncomputable def xkI (ua t un:Int) (ub um up uk ur:List (List Int)):Int :=
 bif !xac ua ub||ua !=(0:Int)||!xaH up||!xaB t||decide (un<(0:Int))||decide (un>(100000:Int)) then
 (1:Int)
else bif (xau ua t un ub um up uk ur).fst.beq 1 then (1:Int) else (xkJ ua t un ub um up uk ur)
noncomputable def xdJ (ua t un:Int) (ub um up uk ur:List (List Int)):Int :=
 (xkI ua t un ub um up uk ur)
def xb2 (ua t un:Int) (ub um up uk ur:List (List Int)):Prop :=
 ((xaJ ua ub)∧((((!xac ua ub||ua !=(0:Int))=false)→(xbQ up))∧(((!xac ua ub||ua !=(0:Int)||!xaH up||!xaB t||decide (un<(0:Int))||decide (un>(100000:Int)))=false)→(((xav (xfZ ua t un ub um up uk ur) (xf0 ua t un ub um up uk ur)))∧(((xau ua t un ub um up uk ur).fst.beq 1=false)→(((xav (xfX ua t un ub um up uk ur) (xfY ua t un ub um up uk ur)))∧(((!!decide ((bif (xdd ua t un ub um up uk ur).fst.beq 1 then gi (xdd ua t un ub um up uk ur).snd 0 else (-1:Int))≥(0:Int)))=false)→(((((↑uk.length:Int) !=(↑ur.length:Int))=false)→((xav (xc5 ua t un ub um up uk ur) (xfW ua t un ub um up uk ur))))∧(((((↑uk.length:Int) !=(↑ur.length:Int)||!bif (xfb ua t un ub um up uk ur).fst.beq 1 then false else true)=false)→((xav (xc4 ua t un ub um up uk ur) (xfV ua t un ub um up uk ur))))∧(((((↑uk.length:Int) !=(↑ur.length:Int)||!bif (xfb ua t un ub um up uk ur).fst.beq 1 then false else true)||!bif (xgD ua t un ub um up uk ur).fst.beq 1 then false else true)=false)→((xdK ua t un ub (gr (xau ua t un ub um up uk ur).snd 3) up)∧((xav (xbC ua t un ub um up uk ur) (xfU ua t un ub um up uk ur))))))))))))))
end Go.Proofs.YtikhnofbbcmpeaaGreat
set_option maxRecDepth 100000
set_option linter.unusedVariables false
namespace Go.Proofs.YtikhnofbbcmpeaaGreat
open Go Go.Sy
theorem xsq (ua t un:Int) (ub um up:List (List Int)):xam Tryz.prog 3 (xaG Tryz.prog K31 xbt 9 22 [.agg [.int .i64 ua,.sl 0],.sl 1,.sl 2,.int .i64 t,.int .i64 un] ⟨[⟨0,3,false,.row 29 [.int .i64,.int .i64,.int .i64,.int .u64] ub⟩,⟨1,3,false,.nst 24 [.c (.int .i64),.s 29 [.int .i64,.int .i64,.int .i64,.int .u64]] um⟩,⟨2,3,false,.row 41 [.int .i64,.int .i64,.int .i64] up⟩],3⟩)=some ⟨some (xcS ua t un ub um up),[],1,[⟨3,3,true,.row 52 [.int .i64,.int .i64] (xcq ua t un ub um up)⟩],.tup [.sl 3,.int .i64 (xdn ua t un ub um up)]⟩:=by kernel_rfl
noncomputable def xlN:List U→Option Eff
 | [.i ua,.i t,.i un,.r ub,.r um,.r up]=>some ⟨some (xcS ua t un ub um up),[],1,[⟨3,3,true,.row 52 [.int .i64,.int .i64] (xcq ua t un ub um up)⟩],.tup [.sl 3,.int .i64 (xdn ua t un ub um up)]⟩
 | _=>Option.none
noncomputable def K32:Con:=ext Tryz.prog K31 22 [.agg [.int .i64 0,.sl 0],.sl 1,.sl 2,.int .i64 0,.int .i64 0] [⟨0,0,false,.row 29 [.int .i64,.int .i64,.int .i64,.int .u64] []⟩,⟨1,0,false,.nst 24 [.c (.int .i64),.s 29 [.int .i64,.int .i64,.int .i64,.int .u64]] []⟩,⟨2,0,false,.row 41 [.int .i64,.int .i64,.int .i64] []⟩] xlN
theorem xHN:xaT Tryz.prog K32:=xak xar xHO (n:=9) rfl rfl fun us x h=>by
 unfold xlN at h
 split at h
 ·cases h; exact ⟨some (xcS _ _ _ _ _ _),xsq _ _ _ _ _ _,fun h=>h⟩
 ·cases h
theorem xoG (ua t un:Int) (ub um up:List (List Int)):xam Tryz.prog 3 (xaG Tryz.prog K32 xbt 9 24 [.agg [.int .i64 ua,.sl 0],.sl 1,.sl 2,.int .i64 t,.int .i64 un] ⟨[⟨0,3,false,.row 29 [.int .i64,.int .i64,.int .i64,.int .u64] ub⟩,⟨1,3,false,.nst 24 [.c (.int .i64),.s 29 [.int .i64,.int .i64,.int .i64,.int .u64]] um⟩,⟨2,3,false,.row 41 [.int .i64,.int .i64,.int .i64] up⟩],3⟩)=some ⟨some (xbS ua t un ub um up),[],2,[⟨3,3,true,.row 80 [.int .i64,.int .i64,.int .i64] (xbV ua t un ub um up)⟩,⟨4,3,true,.row 52 [.int .i64,.int .i64] (xcn ua t un ub um up)⟩],.tup [.sl 3,.sl 4,.int .i64 (xde ua t un ub um up)]⟩:=by kernel_rfl
noncomputable def xji:List U→Option Eff
 | [.i ua,.i t,.i un,.r ub,.r um,.r up]=>some ⟨some (xbS ua t un ub um up),[],2,[⟨3,3,true,.row 80 [.int .i64,.int .i64,.int .i64] (xbV ua t un ub um up)⟩,⟨4,3,true,.row 52 [.int .i64,.int .i64] (xcn ua t un ub um up)⟩],.tup [.sl 3,.sl 4,.int .i64 (xde ua t un ub um up)]⟩
 | _=>Option.none
noncomputable def K33:Con:=ext Tryz.prog K32 24 [.agg [.int .i64 0,.sl 0],.sl 1,.sl 2,.int .i64 0,.int .i64 0] [⟨0,0,false,.row 29 [.int .i64,.int .i64,.int .i64,.int .u64] []⟩,⟨1,0,false,.nst 24 [.c (.int .i64),.s 29 [.int .i64,.int .i64,.int .i64,.int .u64]] []⟩,⟨2,0,false,.row 41 [.int .i64,.int .i64,.int .i64] []⟩] xji
theorem xHM:xaT Tryz.prog K33:=xak xar xHN (n:=9) rfl rfl fun us x h=>by
 unfold xji at h
 split at h
 ·cases h; exact ⟨some (xbS _ _ _ _ _ _),xoG _ _ _ _ _ _,fun h=>h⟩
 ·cases h
theorem xpQ (ua t un:Int) (ub um up uk ur:List (List Int)):xam Tryz.prog 5 (xaG Tryz.prog K33 xbt 9 28 [.agg [.int .i64 ua,.sl 0],.sl 1,.sl 2,.int .i64 t,.int .i64 un,.sl 3,.sl 4] ⟨[⟨0,5,false,.row 29 [.int .i64,.int .i64,.int .i64,.int .u64] ub⟩,⟨1,5,false,.nst 24 [.c (.int .i64),.s 29 [.int .i64,.int .i64,.int .i64,.int .u64]] um⟩,⟨2,5,false,.row 41 [.int .i64,.int .i64,.int .i64] up⟩,⟨3,5,false,.row 80 [.int .i64,.int .i64,.int .i64] uk⟩,⟨4,5,false,.row 52 [.int .i64,.int .i64] ur⟩],5⟩)=some ⟨some (xb2 ua t un ub um up uk ur),[],0,[],.tup [.bool (xcR ua t un ub um up uk ur),.int .i64 (xdJ ua t un ub um up uk ur)]⟩:=by kernel_rfl
noncomputable def xjF:List U→Option Eff
 | [.i ua,.i t,.i un,.r ub,.r um,.r up,.r uk,.r ur]=>some ⟨some (xb2 ua t un ub um up uk ur),[],0,[],.tup [.bool (xcR ua t un ub um up uk ur),.int .i64 (xdJ ua t un ub um up uk ur)]⟩
 | _=>Option.none
noncomputable def K34:Con:=ext Tryz.prog K33 28 [.agg [.int .i64 0,.sl 0],.sl 1,.sl 2,.int .i64 0,.int .i64 0,.sl 3,.sl 4] [⟨0,0,false,.row 29 [.int .i64,.int .i64,.int .i64,.int .u64] []⟩,⟨1,0,false,.nst 24 [.c (.int .i64),.s 29 [.int .i64,.int .i64,.int .i64,.int .u64]] []⟩,⟨2,0,false,.row 41 [.int .i64,.int .i64,.int .i64] []⟩,⟨3,0,false,.row 80 [.int .i64,.int .i64,.int .i64] []⟩,⟨4,0,false,.row 52 [.int .i64,.int .i64] []⟩] xjF
theorem xHL:xaT Tryz.prog K34:=xak xar xHM (n:=9) rfl rfl fun us x h=>by
 unfold xjF at h
 split at h
 ·cases h; exact ⟨some (xb2 _ _ _ _ _ _ _ _),xpQ _ _ _ _ _ _ _ _,fun h=>h⟩
 ·cases h
end Go.Proofs.YtikhnofbbcmpeaaGreat
set_option maxRecDepth 100000
set_option linter.unusedVariables false
namespace Go.Proofs.YtikhnofbbcmpeaaGreat
open Go Go.Sy
noncomputable def xhs (a b:List (List Int)):List U :=
 [.b (false),.i ((0:Int))]
noncomputable def xeD (a b:List (List Int)) (y0:List U):Option (Nat×List U) :=
 (bif decide (gi y0 1<(↑a.length:Int)) then xab (inR (gi y0 1) a) (xab (inR (gi y0 1) a) (xab (inR (gi y0 1) b) (xab (inR (gi y0 1) b) ((bif (a.getD (gi y0 1).toNat []).getD 0 (0:Int) !=(b.getD (gi y0 1).toNat []).getD 0 (0:Int) then some (1,[]) else some (0,[.b (gb y0 0),.i (IntKind.i64.wrap (gi y0 1+(1:Int)))])))))) else some (3,[.b (gb y0 0),.i (gi y0 1)]))
noncomputable def xv5 (a b:List (List Int)):Nat×List U:=xaf (xeD a b) (xhs a b)
noncomputable def xbq (a b:List (List Int)):Bool :=
 bif (↑a.length:Int) !=(↑b.length:Int) then false else bif (xv5 a b).fst.beq 1 then false else true
def xdk (a b:List (List Int)):Prop :=
 ((((↑a.length:Int) !=(↑b.length:Int))=false)→((xav (xeD a b) (xhs a b))))
noncomputable def xfM (a b:List (List Int)):List U :=
 [.b (false),.i ((0:Int))]
noncomputable def xcW (a b:List (List Int)) (y0:List U):Option (Nat×List U) :=
 (bif decide (gi y0 1<(↑a.length:Int)) then xab (inR (gi y0 1) a) (xab (inR (gi y0 1) a) (xab (inR (gi y0 1) b) (xab (inR (gi y0 1) b) ((bif !((a.getD (gi y0 1).toNat []).getD 0 (0:Int)==(b.getD (gi y0 1).toNat []).getD 0 (0:Int) &&
  ((a.getD (gi y0 1).toNat []).getD 1 (0:Int)==(b.getD (gi y0 1).toNat []).getD 1 (0:Int)&&true)) then some (1,[]) else some (0,[.b (gb y0 0),.i (IntKind.i64.wrap (gi y0 1+(1:Int)))])))))) else some (3,[.b (gb y0 0),.i (gi y0 1)]))
noncomputable def xqu (a b:List (List Int)):Nat×List U:=xaf (xcW a b) (xfM a b)
noncomputable def xbe (a b:List (List Int)):Bool :=
 bif (↑a.length:Int) !=(↑b.length:Int) then false else bif (xqu a b).fst.beq 1 then false else true
def xbE (a b:List (List Int)):Prop :=
 ((((↑a.length:Int) !=(↑b.length:Int))=false)→((xav (xcW a b) (xfM a b))))
noncomputable def xef (a b:List (List Int)):List U :=
 [.b (false),.i ((0:Int))]
noncomputable def xbO (a b:List (List Int)) (y0:List U):Option (Nat×List U) :=
 (bif decide (gi y0 1<(↑a.length:Int)) then xab (inR (gi y0 1) a) (xab (inR (gi y0 1) a) (xab (inR (gi y0 1) b) (xab (inR (gi y0 1) b) ((bif !((a.getD (gi y0 1).toNat []).getD 0 (0:Int)==(b.getD (gi y0 1).toNat []).getD 0 (0:Int) &&
  ((a.getD (gi y0 1).toNat []).getD 1 (0:Int)==(b.getD (gi y0 1).toNat []).getD 1 (0:Int) &&
   ((a.getD (gi y0 1).toNat []).getD 2 (0:Int)==(b.getD (gi y0 1).toNat []).getD 2 (0:Int)&&true))) then some (1,[]) else some (0,[.b (gb y0 0),.i (IntKind.i64.wrap (gi y0 1+(1:Int)))])))))) else some (3,[.b (gb y0 0),.i (gi y0 1)]))
noncomputable def xl2 (a b:List (List Int)):Nat×List U:=xaf (xbO a b) (xef a b)
noncomputable def xbp (a b:List (List Int)):Bool :=
 bif (↑a.length:Int) !=(↑b.length:Int) then false else bif (xl2 a b).fst.beq 1 then false else true
def xbr (a b:List (List Int)):Prop :=
 ((((↑a.length:Int) !=(↑b.length:Int))=false)→((xav (xbO a b) (xef a b))))
noncomputable def xrO (owner:Int) (lines:List (List Int)) (y0:List U):Int :=
 xcI (gi y0 1) ((lines.getD (gi y0 0).toNat []).getD 0 (0:Int)) ((lines.getD (gi y0 0).toNat []).getD 1 (0:Int))
 ((lines.getD (gi y0 0).toNat []).getD 2 (0:Int)) (gr y0 2)
noncomputable def xrN (owner:Int) (lines:List (List Int)) (y0:List U):Int :=
 xcc (gi y0 1) ((lines.getD (gi y0 0).toNat []).getD 0 (0:Int)) ((lines.getD (gi y0 0).toNat []).getD 1 (0:Int))
 ((lines.getD (gi y0 0).toNat []).getD 2 (0:Int)) (gr y0 2)
noncomputable def xrM (owner:Int) (lines:List (List Int)) (y0:List U):List (List Int) :=
 xcd (gi y0 1) ((lines.getD (gi y0 0).toNat []).getD 0 (0:Int)) ((lines.getD (gi y0 0).toNat []).getD 1 (0:Int))
 ((lines.getD (gi y0 0).toNat []).getD 2 (0:Int)) (gr y0 2)
noncomputable def xky (owner:Int) (lines:List (List Int)):List U :=
 [.i ((0:Int)),.i (owner),.r ([])]
noncomputable def xea (owner:Int) (lines:List (List Int)) (y0:List U):Option (Nat×List U) :=
 (bif decide (gi y0 0<(↑lines.length:Int)) then xab (inR (gi y0 0) lines) (xab (inR (gi y0 0) lines) (xab (inR (gi y0 0) lines) (xab (inR (gi y0 0) lines) (xab (inR (gi y0 0) lines) (xab (inR (gi y0 0) lines) (xab (inR (gi y0 0) lines) (xab (inR (gi y0 0) lines) (xab (inR (gi y0 0) lines) (xab (xfc (gi y0 1) ((lines.getD (gi y0 0).toNat []).getD 0 (0:Int)) ((lines.getD (gi y0 0).toNat []).getD 1 (0:Int))
 ((lines.getD (gi y0 0).toNat []).getD 2 (0:Int)) (gr y0 2)) ((bif (xrO owner lines y0) !=(0:Int) then some (1,[.i (gi y0 1),.r (gr y0 2)]) else some (0,[.i (IntKind.i64.wrap (gi y0 0+(1:Int))),.i ((xrN owner lines y0)),.r ((xrM owner lines y0))])))))))))))) else some (3,[.i (gi y0 0),.i (gi y0 1),.r (gr y0 2)]))
noncomputable def xin (owner:Int) (lines:List (List Int)):Nat×List U:=xaf (xea owner lines) (xky owner lines)
noncomputable def xae (owner:Int) (lines:List (List Int)):List (List Int) :=
 bif (xin owner lines).fst.beq 1 then [] else gr (xin owner lines).snd 2
noncomputable def xad (owner:Int) (lines:List (List Int)):Int :=
 bif (xin owner lines).fst.beq 1 then (0:Int) else gi (xin owner lines).snd 1
def xca (owner:Int) (lines:List (List Int)):Prop :=
 ((xav (xea owner lines) (xky owner lines)))
noncomputable def xah  : List (List Int) :=
 [[(5:Int),(4:Int),(0:Int)],[(20:Int),(5:Int),(0:Int)],[(40:Int),(2:Int),(9:Int)]]
noncomputable def xaK  : List Int :=
 [xad (1:Int) [[(12:Int),(3:Int),(7:Int)]],encL (xae (1:Int) [[(12:Int),(3:Int),(7:Int)]])]
noncomputable def xaP  : List Int :=
 [(xaK),[xad (2:Int) [],encL (xae (2:Int) [])],[xad (3:Int) ((xah)),encL (xae (3:Int) ((xah)))]].getD
 (Int.toNat (0:Int)) []
noncomputable def xa8  : List (List Int) :=
 [[(3:Int),(7:Int),(10:Int)],[(2:Int),(9:Int),(30:Int)],[(3:Int),(9:Int),(30:Int)]]
noncomputable def xbG  : List Int :=
 [(xaK),[xad (2:Int) [],encL (xae (2:Int) [])],[xad (3:Int) ((xah)),encL (xae (3:Int) ((xah)))]].getD
 (Int.toNat (2:Int)) []
noncomputable def xdW  : List (List Int) :=
 xbV (xad (0:Int) [[(10:Int),(1:Int),(7:Int)]]) (50:Int) (5:Int) (xae (0:Int) [[(10:Int),(1:Int),(7:Int)]])
 [(xaK),[xad (2:Int) [],encL (xae (2:Int) [])],[xad (3:Int) ((xah)),encL (xae (3:Int) ((xah)))]]
 ([(1:Int),(7:Int),(10:Int)]::[(2:Int),(7:Int),(10:Int)]::(xa8))
noncomputable def xdl  : List (List Int) :=
 xcn (xad (0:Int) [[(10:Int),(1:Int),(7:Int)]]) (50:Int) (5:Int) (xae (0:Int) [[(10:Int),(1:Int),(7:Int)]])
 [(xaK),[xad (2:Int) [],encL (xae (2:Int) [])],[xad (3:Int) ((xah)),encL (xae (3:Int) ((xah)))]]
 ([(1:Int),(7:Int),(10:Int)]::[(2:Int),(7:Int),(10:Int)]::(xa8))
noncomputable def xiJ  : Int :=
 xbn (xad (0:Int) [[(10:Int),(1:Int),(7:Int)]]) (((xaP)).getD 0 (0:Int)) (10:Int) (xae (0:Int) [[(10:Int),(1:Int),(7:Int)]])
 (decL (((xaP)).getD 1 (0:Int))) ([(1:Int),(7:Int),(10:Int)]::[(2:Int),(7:Int),(10:Int)]::(xa8))
noncomputable def xiI  : Int :=
 xbn (xad (0:Int) [[(10:Int),(1:Int),(7:Int)]]) (((xbG)).getD 0 (0:Int)) (10:Int) (xae (0:Int) [[(10:Int),(1:Int),(7:Int)]])
 (decL (((xbG)).getD 1 (0:Int))) ([(1:Int),(7:Int),(10:Int)]::[(2:Int),(7:Int),(10:Int)]::(xa8))
noncomputable def xiH  : Int :=
 xdn (xad (0:Int) [[(10:Int),(1:Int),(7:Int)]]) (50:Int) (5:Int) (xae (0:Int) [[(10:Int),(1:Int),(7:Int)]])
 [(xaK),[xad (2:Int) [],encL (xae (2:Int) [])],[xad (3:Int) ((xah)),encL (xae (3:Int) ((xah)))]]
 ([(1:Int),(7:Int),(10:Int)]::[(2:Int),(7:Int),(10:Int)]::(xa8))
noncomputable def xie  : Int :=
 xde (xad (0:Int) [[(10:Int),(1:Int),(7:Int)]]) (50:Int) (5:Int) (xae (0:Int) [[(10:Int),(1:Int),(7:Int)]])
 [(xaK),[xad (2:Int) [],encL (xae (2:Int) [])],[xad (3:Int) ((xah)),encL (xae (3:Int) ((xah)))]]
 ([(1:Int),(7:Int),(10:Int)]::[(2:Int),(7:Int),(10:Int)]::(xa8))
noncomputable def xid  : Int :=
 xdJ (xad (0:Int) [[(10:Int),(1:Int),(7:Int)]]) (50:Int) (5:Int) (xae (0:Int) [[(10:Int),(1:Int),(7:Int)]])
 [(xaK),[xad (2:Int) [],encL (xae (2:Int) [])],[xad (3:Int) ((xah)),encL (xae (3:Int) ((xah)))]]
 ([(1:Int),(7:Int),(10:Int)]::[(2:Int),(7:Int),(10:Int)]::(xa8)) ((xdW)) ((xdl))
noncomputable def xgT  : List (List Int) :=
 xbf (xad (0:Int) [[(10:Int),(1:Int),(7:Int)]]) (((xaP)).getD 0 (0:Int)) (10:Int) (xae (0:Int) [[(10:Int),(1:Int),(7:Int)]])
 (decL (((xaP)).getD 1 (0:Int))) ([(1:Int),(7:Int),(10:Int)]::[(2:Int),(7:Int),(10:Int)]::(xa8))
noncomputable def xic  : List (List Int) :=
 xbf (xad (0:Int) [[(10:Int),(1:Int),(7:Int)]]) (((xbG)).getD 0 (0:Int)) (10:Int) (xae (0:Int) [[(10:Int),(1:Int),(7:Int)]])
 (decL (((xbG)).getD 1 (0:Int))) ([(1:Int),(7:Int),(10:Int)]::[(2:Int),(7:Int),(10:Int)]::(xa8))
noncomputable def xgS  : List (List Int) :=
 xcq (xad (0:Int) [[(10:Int),(1:Int),(7:Int)]]) (50:Int) (5:Int) (xae (0:Int) [[(10:Int),(1:Int),(7:Int)]])
 [(xaK),[xad (2:Int) [],encL (xae (2:Int) [])],[xad (3:Int) ((xah)),encL (xae (3:Int) ((xah)))]]
 ([(1:Int),(7:Int),(10:Int)]::[(2:Int),(7:Int),(10:Int)]::(xa8))
noncomputable def xj2  : List (List Int) :=
 [[(2:Int),(7:Int)],[(2:Int),(9:Int)],[(3:Int),(7:Int)],[(3:Int),(9:Int)]]
noncomputable def xj1  : List (List Int) :=
 [[(1:Int),(0:Int),(9:Int)],[(2:Int),(2:Int),(0:Int)],[(2:Int),(3:Int),(0:Int)]]
noncomputable def xb1  : Bool :=
 bif
  ((xiJ)==(0:Int)&&(xiI)==(0:Int)&&(xiH)==(0:Int)&&(xie)==(0:Int)&&(xid)==(0:Int) &&
     xbR (((xaP)).getD 0 (0:Int)) (12:Int) (decL (((xaP)).getD 1 (0:Int)))==(0:Int) &&
    xcR (xad (0:Int) [[(10:Int),(1:Int),(7:Int)]]) (50:Int) (5:Int) (xae (0:Int) [[(10:Int),(1:Int),(7:Int)]])
     [(xaK),[xad (2:Int) [],encL (xae (2:Int) [])],[xad (3:Int) ((xah)),encL (xae (3:Int) ((xah)))]]
     ([(1:Int),(7:Int),(10:Int)]::[(2:Int),(7:Int),(10:Int)]::(xa8)) ((xdW)) ((xdl))) ==
   true then
 bif (xbq ((xgT)) [[(7:Int)]]&&(↑((xic)).length:Int)==(0:Int))==true then
  bif xbq (xbm (((xaP)).getD 0 (0:Int)) (12:Int) (decL (((xaP)).getD 1 (0:Int)))) [[(7:Int)]]==true then
   bif xbe ((xgS)) ((xj2))==true then
    bif xbp ((xdW)) ((xj1))==true then
     bif xbe ((xdl)) [[(2:Int),(7:Int)],[(3:Int),(7:Int)],[(3:Int),(9:Int)]]==true then
      xac (((xbG)).getD 0 (0:Int)) (decL (((xbG)).getD 1 (0:Int)))
     else false
    else false
   else false
  else false
 else false
else false
def xfI  : Prop :=
 (((xca (1:Int) [[(12:Int),(3:Int),(7:Int)]])∧((xca (2:Int) [])∧((xca (3:Int) ((xah)))∧(xca (0:Int) [[(10:Int),(1:Int),(7:Int)]]))))∧((inR (0:Int) [(xaK),[xad (2:Int) [],encL (xae (2:Int) [])],[xad (3:Int) ((xah)),encL (xae (3:Int) ((xah)))]])∧((inR (0:Int) [(xaK),[xad (2:Int) [],encL (xae (2:Int) [])],[xad (3:Int) ((xah)),encL (xae (3:Int) ((xah)))]])∧((xbv (xad (0:Int) [[(10:Int),(1:Int),(7:Int)]]) (((xaP)).getD 0 (0:Int)) (10:Int) (xae (0:Int) [[(10:Int),(1:Int),(7:Int)]])
 (decL (((xaP)).getD 1 (0:Int))) ([(1:Int),(7:Int),(10:Int)]::[(2:Int),(7:Int),(10:Int)]::(xa8)))∧((inR (2:Int) [(xaK),[xad (2:Int) [],encL (xae (2:Int) [])],[xad (3:Int) ((xah)),encL (xae (3:Int) ((xah)))]])∧((inR (2:Int) [(xaK),[xad (2:Int) [],encL (xae (2:Int) [])],[xad (3:Int) ((xah)),encL (xae (3:Int) ((xah)))]])∧((xbv (xad (0:Int) [[(10:Int),(1:Int),(7:Int)]]) (((xbG)).getD 0 (0:Int)) (10:Int) (xae (0:Int) [[(10:Int),(1:Int),(7:Int)]])
 (decL (((xbG)).getD 1 (0:Int))) ([(1:Int),(7:Int),(10:Int)]::[(2:Int),(7:Int),(10:Int)]::(xa8)))∧((xcS (xad (0:Int) [[(10:Int),(1:Int),(7:Int)]]) (50:Int) (5:Int) (xae (0:Int) [[(10:Int),(1:Int),(7:Int)]])
 [(xaK),[xad (2:Int) [],encL (xae (2:Int) [])],[xad (3:Int) ((xah)),encL (xae (3:Int) ((xah)))]]
 ([(1:Int),(7:Int),(10:Int)]::[(2:Int),(7:Int),(10:Int)]::(xa8)))∧((xbS (xad (0:Int) [[(10:Int),(1:Int),(7:Int)]]) (50:Int) (5:Int) (xae (0:Int) [[(10:Int),(1:Int),(7:Int)]])
 [(xaK),[xad (2:Int) [],encL (xae (2:Int) [])],[xad (3:Int) ((xah)),encL (xae (3:Int) ((xah)))]]
 ([(1:Int),(7:Int),(10:Int)]::[(2:Int),(7:Int),(10:Int)]::(xa8)))∧((xb2 (xad (0:Int) [[(10:Int),(1:Int),(7:Int)]]) (50:Int) (5:Int) (xae (0:Int) [[(10:Int),(1:Int),(7:Int)]])
 [(xaK),[xad (2:Int) [],encL (xae (2:Int) [])],[xad (3:Int) ((xah)),encL (xae (3:Int) ((xah)))]]
 ([(1:Int),(7:Int),(10:Int)]::[(2:Int),(7:Int),(10:Int)]::(xa8)) ((xdW)) ((xdl)))∧((inR (0:Int) [(xaK),[xad (2:Int) [],encL (xae (2:Int) [])],[xad (3:Int) ((xah)),encL (xae (3:Int) ((xah)))]])∧((inR (0:Int) [(xaK),[xad (2:Int) [],encL (xae (2:Int) [])],[xad (3:Int) ((xah)),encL (xae (3:Int) ((xah)))]])∧((xcm (((xaP)).getD 0 (0:Int)) (12:Int) (decL (((xaP)).getD 1 (0:Int))))∧(((((xiJ)==(0:Int)&&(xiI)==(0:Int)&&(xiH)==(0:Int)&&(xie)==(0:Int)&&(xid)==(0:Int) &&
    xbR (((xaP)).getD 0 (0:Int)) (12:Int) (decL (((xaP)).getD 1 (0:Int)))==(0:Int) &&
   xcR (xad (0:Int) [[(10:Int),(1:Int),(7:Int)]]) (50:Int) (5:Int) (xae (0:Int) [[(10:Int),(1:Int),(7:Int)]])
    [(xaK),[xad (2:Int) [],encL (xae (2:Int) [])],[xad (3:Int) ((xah)),encL (xae (3:Int) ((xah)))]]
    ([(1:Int),(7:Int),(10:Int)]::[(2:Int),(7:Int),(10:Int)]::(xa8)) ((xdW)) ((xdl))) ==
  true) =
 true)→((xdk ((xgT)) [[(7:Int)]])∧((((xbq ((xgT)) [[(7:Int)]]&&(↑((xic)).length:Int)==(0:Int))==true)=true)→((xdk (xbm (((xaP)).getD 0 (0:Int)) (12:Int) (decL (((xaP)).getD 1 (0:Int)))) [[(7:Int)]])∧(((xbq (xbm (((xaP)).getD 0 (0:Int)) (12:Int) (decL (((xaP)).getD 1 (0:Int)))) [[(7:Int)]]==true)=true)→((xbE ((xgS)) ((xj2)))∧(((xbe ((xgS)) ((xj2))==true)=true)→((xbr ((xdW)) ((xj1)))∧(((xbp ((xdW)) ((xj1))==true)=true)→((xbE ((xdl)) [[(2:Int),(7:Int)],[(3:Int),(7:Int)],[(3:Int),(9:Int)]])∧(((xbe ((xdl)) [[(2:Int),(7:Int)],[(3:Int),(7:Int)],[(3:Int),(9:Int)]]=true)→(inR (2:Int) [(xaK),[xad (2:Int) [],encL (xae (2:Int) [])],[xad (3:Int) ((xah)),encL (xae (3:Int) ((xah)))]]))∧(((xbe ((xdl)) [[(2:Int),(7:Int)],[(3:Int),(7:Int)],[(3:Int),(9:Int)]]==true)=true)→((inR (2:Int) [(xaK),[xad (2:Int) [],encL (xae (2:Int) [])],[xad (3:Int) ((xah)),encL (xae (3:Int) ((xah)))]])∧(xaJ (((xbG)).getD 0 (0:Int)) (decL (((xbG)).getD 1 (0:Int))))))))))))))))))))))))))))))
end Go.Proofs.YtikhnofbbcmpeaaGreat
set_option maxRecDepth 100000
set_option linter.unusedVariables false
namespace Go.Proofs.YtikhnofbbcmpeaaGreat
open Go Go.Sy
theorem xuD (a b:List (List Int)):xam Tryz.prog 2 (xaG Tryz.prog K34 xbt 9 37 [.sl 0,.sl 1] ⟨[⟨0,2,false,.row 3 [.int .i64] a⟩,⟨1,2,false,.row 3 [.int .i64] b⟩],2⟩)=some ⟨some (xdk a b),[],0,[],.bool (xbq a b)⟩:=by kernel_rfl
noncomputable def xnY:List U→Option Eff
 | [.r a,.r b]=>some ⟨some (xdk a b),[],0,[],.bool (xbq a b)⟩
 | _=>Option.none
noncomputable def K35:Con:=ext Tryz.prog K34 37 [.sl 0,.sl 1] [⟨0,0,false,.row 3 [.int .i64] []⟩,⟨1,0,false,.row 3 [.int .i64] []⟩] xnY
theorem xHK:xaT Tryz.prog K35:=xak xar xHL (n:=9) rfl rfl fun us x h=>by
 unfold xnY at h
 split at h
 ·cases h; exact ⟨some (xdk _ _),xuD _ _,fun h=>h⟩
 ·cases h
theorem xpd (a b:List (List Int)):xam Tryz.prog 2 (xaG Tryz.prog K35 xbt 9 30 [.sl 0,.sl 1] ⟨[⟨0,2,false,.row 52 [.int .i64,.int .i64] a⟩,⟨1,2,false,.row 52 [.int .i64,.int .i64] b⟩],2⟩)=some ⟨some (xbE a b),[],0,[],.bool (xbe a b)⟩:=by kernel_rfl
noncomputable def xjw:List U→Option Eff
 | [.r a,.r b]=>some ⟨some (xbE a b),[],0,[],.bool (xbe a b)⟩
 | _=>Option.none
noncomputable def K36:Con:=ext Tryz.prog K35 30 [.sl 0,.sl 1] [⟨0,0,false,.row 52 [.int .i64,.int .i64] []⟩,⟨1,0,false,.row 52 [.int .i64,.int .i64] []⟩] xjw
theorem xHJ:xaT Tryz.prog K36:=xak xar xHK (n:=9) rfl rfl fun us x h=>by
 unfold xjw at h
 split at h
 ·cases h; exact ⟨some (xbE _ _),xpd _ _,fun h=>h⟩
 ·cases h
theorem xk7 (a b:List (List Int)):xam Tryz.prog 2 (xaG Tryz.prog K36 xbt 9 41 [.sl 0,.sl 1] ⟨[⟨0,2,false,.row 80 [.int .i64,.int .i64,.int .i64] a⟩,⟨1,2,false,.row 80 [.int .i64,.int .i64,.int .i64] b⟩],2⟩)=some ⟨some (xbr a b),[],0,[],.bool (xbp a b)⟩:=by kernel_rfl
noncomputable def xhn:List U→Option Eff
 | [.r a,.r b]=>some ⟨some (xbr a b),[],0,[],.bool (xbp a b)⟩
 | _=>Option.none
noncomputable def K37:Con:=ext Tryz.prog K36 41 [.sl 0,.sl 1] [⟨0,0,false,.row 80 [.int .i64,.int .i64,.int .i64] []⟩,⟨1,0,false,.row 80 [.int .i64,.int .i64,.int .i64] []⟩] xhn
theorem xHI:xaT Tryz.prog K37:=xak xar xHJ (n:=9) rfl rfl fun us x h=>by
 unfold xhn at h
 split at h
 ·cases h; exact ⟨some (xbr _ _),xk7 _ _,fun h=>h⟩
 ·cases h
theorem xwm (owner:Int) (lines:List (List Int)):xam Tryz.prog 1 (xaG Tryz.prog K37 xbt 9 86 [.int .i64 owner,.sl 0] ⟨[⟨0,1,false,.row 127 [.int .i64,.int .i64,.int .i64] lines⟩],1⟩)=some ⟨some (xca owner lines),[],1,[⟨1,1,true,.row 29 [.int .i64,.int .i64,.int .i64,.int .u64] (xae owner lines)⟩],.agg [.int .i64 (xad owner lines),.sl 1]⟩:=by kernel_rfl
noncomputable def xpG:List U→Option Eff
 | [.i owner,.r lines]=>some ⟨some (xca owner lines),[],1,[⟨1,1,true,.row 29 [.int .i64,.int .i64,.int .i64,.int .u64] (xae owner lines)⟩],.agg [.int .i64 (xad owner lines),.sl 1]⟩
 | _=>Option.none
noncomputable def K38:Con:=ext Tryz.prog K37 86 [.int .i64 0,.sl 0] [⟨0,0,false,.row 127 [.int .i64,.int .i64,.int .i64] []⟩] xpG
theorem xHH:xaT Tryz.prog K38:=xak xar xHI (n:=9) rfl rfl fun us x h=>by
 unfold xpG at h
 split at h
 ·cases h; exact ⟨some (xca _ _),xwm _ _,fun h=>h⟩
 ·cases h
theorem xuG  : xam Tryz.prog 0 (xaG Tryz.prog K38 xbt 9 12 [] ⟨[],0⟩)=some ⟨some (xfI),[],0,[],.bool (xb1)⟩:=by kernel_rfl
noncomputable def xn0:List U→Option Eff
 | []=>some ⟨some (xfI),[],0,[],.bool (xb1)⟩
 | _=>Option.none
noncomputable def K39:Con:=ext Tryz.prog K38 12 [] [] xn0
theorem xHG:xaT Tryz.prog K39:=xak xar xHH (n:=9) rfl rfl fun us x h=>by
 unfold xn0 at h
 split at h
 ·cases h; exact ⟨some (xfI),xuG,fun h=>h⟩
 ·cases h
end Go.Proofs.YtikhnofbbcmpeaaGreat
set_option maxRecDepth 100000
set_option linter.unusedVariables false
namespace Go.Proofs.YtikhnofbbcmpeaaGreat
open Go Go.Sy
noncomputable def xko (ue uq:Int) (uf:List (List Int)):List U :=
 [.b (false),.i ((0:Int))]
noncomputable def xd3 (ue uq:Int) (uf:List (List Int)) (y0:List U):Option (Nat×List U) :=
 (bif decide (gi y0 1<(↑uf.length:Int)) then xab (inR (gi y0 1) uf) (xab (inR (gi y0 1) uf) (xab (inR (gi y0 1) uf) (xab ((decide ((uf.getD (gi y0 1).toNat []).getD 0 (0:Int)≤uq)=true)→(inR (gi y0 1) uf)) (xab ((decide ((uf.getD (gi y0 1).toNat []).getD 0 (0:Int)≤uq)=true)→(inR (gi y0 1) uf)) (xab ((decide ((uf.getD (gi y0 1).toNat []).getD 0 (0:Int)≤uq)=true)→(inR (gi y0 1) uf)) (xab ((decide ((uf.getD (gi y0 1).toNat []).getD 0 (0:Int)≤uq)=true)→((((uf.getD (gi y0 1).toNat []).getD 1 (0:Int)==(4:Int))=false)→(inR (gi y0 1) uf))) (xab ((decide ((uf.getD (gi y0 1).toNat []).getD 0 (0:Int)≤uq)=true)→((((uf.getD (gi y0 1).toNat []).getD 1 (0:Int)==(4:Int))=false)→(inR (gi y0 1) uf))) (xab ((decide ((uf.getD (gi y0 1).toNat []).getD 0 (0:Int)≤uq)=true)→((((uf.getD (gi y0 1).toNat []).getD 1 (0:Int)==(4:Int))=false)→(inR (gi y0 1) uf))) ((bif decide ((uf.getD (gi y0 1).toNat []).getD 0 (0:Int)≤uq) &&
 ((uf.getD (gi y0 1).toNat []).getD 1 (0:Int)==(4:Int)||(uf.getD (gi y0 1).toNat []).getD 1 (0:Int)==(5:Int)) then xab (inR (gi y0 1) uf) (xab (inR (gi y0 1) uf) (xab (inR (gi y0 1) uf) (some (0,[.b ((uf.getD (gi y0 1).toNat []).getD 1 (0:Int)==(4:Int)),.i (IntKind.i64.wrap (gi y0 1+(1:Int)))])))) else some (0,[.b (gb y0 0),.i (IntKind.i64.wrap (gi y0 1+(1:Int)))]))))))))))) else some (3,[.b (gb y0 0),.i (gi y0 1)]))
noncomputable def xxg (ue uq:Int) (uf:List (List Int)):Nat×List U:=xaf (xd3 ue uq uf) (xko ue uq uf)
noncomputable def xaR (ue uq:Int) (uf:List (List Int)):Bool :=
 gb (xxg ue uq uf).snd 0
def xez (ue uq:Int) (uf:List (List Int)):Prop :=
 ((xav (xd3 ue uq uf) (xko ue uq uf)))
noncomputable def xkp (ue uu ut from_ until_:Int) (uf:List (List Int)):List U :=
 [.b (false),.i ((0:Int))]
noncomputable def xe3 (ue uu ut from_ until_:Int) (uf:List (List Int)) (y0:List U):Option (Nat×List U) :=
 (bif decide (gi y0 1<(↑uf.length:Int)) then xab (inR (gi y0 1) uf) (xab (inR (gi y0 1) uf) ((bif (uf.getD (gi y0 1).toNat []).getD 1 (0:Int)==uu&&(uf.getD (gi y0 1).toNat []).getD 2 (0:Int)==ut &&
  decide (from_≤(uf.getD (gi y0 1).toNat []).getD 0 (0:Int)) &&
 decide ((uf.getD (gi y0 1).toNat []).getD 0 (0:Int)≤until_) then some (1,[]) else some (0,[.b (gb y0 0),.i (IntKind.i64.wrap (gi y0 1+(1:Int)))])))) else some (3,[.b (gb y0 0),.i (gi y0 1)]))
noncomputable def xxh (ue uu ut from_ until_:Int) (uf:List (List Int)):Nat×List U:=xaf (xe3 ue uu ut from_ until_ uf) (xkp ue uu ut from_ until_ uf)
noncomputable def xeN (ue uu ut from_ until_:Int) (uf:List (List Int)):Bool :=
 bif (xxh ue uu ut from_ until_ uf).fst.beq 1 then true else false
def xfk (ue uu ut from_ until_:Int) (uf:List (List Int)):Prop :=
 ((xav (xe3 ue uu ut from_ until_ uf) (xkp ue uu ut from_ until_ uf)))
noncomputable def xkA (n:Int) (up:List (List Int)):List U :=
 [.b (false),.i ((0:Int))]
noncomputable def xkz (n:Int) (up:List (List Int)) (y0:List U):Option (Nat×List U) :=
 (bif decide (gi y0 1<(↑up.length:Int)) then xab (inR (gi y0 1) up) (xab (inR (gi y0 1) up) ((bif (up.getD (gi y0 1).toNat []).getD 0 (0:Int)==n then some (1,[]) else some (0,[.b (gb y0 0),.i (IntKind.i64.wrap (gi y0 1+(1:Int)))])))) else some (3,[.b (gb y0 0),.i (gi y0 1)]))
noncomputable def xxH (n:Int) (up:List (List Int)):Nat×List U:=xaf (xkz n up) (xkA n up)
noncomputable def xtx (n:Int) (up:List (List Int)):Bool :=
 bif (xxH n up).fst.beq 1 then true else false
def xld (n:Int) (up:List (List Int)):Prop :=
 ((xav (xkz n up) (xkA n up)))
end Go.Proofs.YtikhnofbbcmpeaaGreat
set_option maxRecDepth 100000
set_option linter.unusedVariables false
namespace Go.Proofs.YtikhnofbbcmpeaaGreat
open Go Go.Sy
theorem xvZ (ue uq:Int) (uf:List (List Int)):xam Tryz.prog 1 (xaG Tryz.prog K39 xbt 9 19 [.agg [.int .i64 ue,.sl 0],.int .i64 uq] ⟨[⟨0,1,false,.row 29 [.int .i64,.int .i64,.int .i64,.int .u64] uf⟩],1⟩)=some ⟨some (xez ue uq uf),[],0,[],.bool (xaR ue uq uf)⟩:=by kernel_rfl
noncomputable def xpi:List U→Option Eff
 | [.i ue,.i uq,.r uf]=>some ⟨some (xez ue uq uf),[],0,[],.bool (xaR ue uq uf)⟩
 | _=>Option.none
noncomputable def K40:Con:=ext Tryz.prog K39 19 [.agg [.int .i64 0,.sl 0],.int .i64 0] [⟨0,0,false,.row 29 [.int .i64,.int .i64,.int .i64,.int .u64] []⟩] xpi
theorem xHF:xaT Tryz.prog K40:=xak xar xHG (n:=9) rfl rfl fun us x h=>by
 unfold xpi at h
 split at h
 ·cases h; exact ⟨some (xez _ _ _),xvZ _ _ _,fun h=>h⟩
 ·cases h
theorem xv0 (ue uu ut from_ until_:Int) (uf:List (List Int)):xam Tryz.prog 1 (xaG Tryz.prog K40 xbt 9 20 [.agg [.int .i64 ue,.sl 0],.int .i64 uu,.int .i64 ut,.int .i64 from_,.int .i64 until_] ⟨[⟨0,1,false,.row 29 [.int .i64,.int .i64,.int .i64,.int .u64] uf⟩],1⟩)=some ⟨some (xfk ue uu ut from_ until_ uf),[],0,[],.bool (xeN ue uu ut from_ until_ uf)⟩:=by kernel_rfl
noncomputable def xpj:List U→Option Eff
 | [.i ue,.i uu,.i ut,.i from_,.i until_,.r uf]=>some ⟨some (xfk ue uu ut from_ until_ uf),[],0,[],.bool (xeN ue uu ut from_ until_ uf)⟩
 | _=>Option.none
noncomputable def K41:Con:=ext Tryz.prog K40 20 [.agg [.int .i64 0,.sl 0],.int .i64 0,.int .i64 0,.int .i64 0,.int .i64 0] [⟨0,0,false,.row 29 [.int .i64,.int .i64,.int .i64,.int .u64] []⟩] xpj
theorem xHE:xaT Tryz.prog K41:=xak xar xHF (n:=9) rfl rfl fun us x h=>by
 unfold xpj at h
 split at h
 ·cases h; exact ⟨some (xfk _ _ _ _ _ _),xv0 _ _ _ _ _ _,fun h=>h⟩
 ·cases h
theorem xwn (n:Int) (up:List (List Int)):xam Tryz.prog 1 (xaG Tryz.prog K41 xbt 9 18 [.sl 0,.int .i64 n] ⟨[⟨0,1,false,.row 3 [.int .i64] up⟩],1⟩)=some ⟨some (xld n up),[],0,[],.bool (xtx n up)⟩:=by kernel_rfl
noncomputable def xpH:List U→Option Eff
 | [.i n,.r up]=>some ⟨some (xld n up),[],0,[],.bool (xtx n up)⟩
 | _=>Option.none
noncomputable def K42:Con:=ext Tryz.prog K41 18 [.sl 0,.int .i64 0] [⟨0,0,false,.row 3 [.int .i64] []⟩] xpH
theorem xHD:xaT Tryz.prog K42:=xak xar xHE (n:=9) rfl rfl fun us x h=>by
 unfold xpH at h
 split at h
 ·cases h; exact ⟨some (xld _ _),xwn _ _,fun h=>h⟩
 ·cases h
end Go.Proofs.YtikhnofbbcmpeaaGreat
set_option maxRecDepth 100000
set_option linter.unusedVariables false
namespace Go.Proofs.YtikhnofbbcmpeaaGreat
open Go Go.Sy
noncomputable def xhW (ua:Int) (ub um ul:List (List Int)):List U :=
 [.b (false),.i ((0:Int))]
noncomputable def xd5 (ua:Int) (ub um ul:List (List Int)) (y0:List U):Option (Nat×List U) :=
 (bif decide (gi y0 1<(↑um.length:Int)) then xab (inR (gi y0 1) um) (xab (inR (gi y0 1) um) (xab (inR (gi y0 1) um) (xab ((decide ((↑(decL ((um.getD (gi y0 1).toNat []).getD 1 (0:Int))).length:Int)>(40:Int))=true)→(inR (gi y0 1) um)) (xab ((decide ((↑(decL ((um.getD (gi y0 1).toNat []).getD 1 (0:Int))).length:Int)>(40:Int))=true)→(inR (gi y0 1) um)) ((bif decide ((↑(decL ((um.getD (gi y0 1).toNat []).getD 1 (0:Int))).length:Int)>(40:Int))==true then xab (inR (gi y0 1) um) ((bif decide ((↑(decL ((um.getD (gi y0 1).toNat []).getD 1 (0:Int))).length:Int)≤(200:Int)) then some (1,[]) else some (0,[.b (gb y0 0),.i (IntKind.i64.wrap (gi y0 1+(1:Int)))]))) else some (0,[.b (gb y0 0),.i (IntKind.i64.wrap (gi y0 1+(1:Int)))]))))))) else some (4,[.b (gb y0 0),.i (gi y0 1)]))
noncomputable def xxi (ua:Int) (ub um ul:List (List Int)):Nat×List U:=xaf (xd5 ua ub um ul) (xhW ua ub um ul)
noncomputable def xdH (ua:Int) (ub um ul:List (List Int)):Bool :=
 bif
  decide ((↑ul.length:Int)>(16:Int))&&decide ((↑ul.length:Int)≤(200:Int))||decide ((↑um.length:Int)>(20:Int)) ||
   decide ((↑ub.length:Int)>(40:Int))&&decide ((↑ub.length:Int)≤(200:Int)) then
 false
else bif (xxi ua ub um ul).fst.beq 1 then false else true
def xgw (ua:Int) (ub um ul:List (List Int)):Prop :=
 (((decide ((↑ul.length:Int)>(16:Int))&&decide ((↑ul.length:Int)≤(200:Int))||decide ((↑um.length:Int)>(20:Int)) ||
  decide ((↑ub.length:Int)>(40:Int))&&decide ((↑ub.length:Int)≤(200:Int))) =
 false)→((xav (xd5 ua ub um ul) (xhW ua ub um ul))))
end Go.Proofs.YtikhnofbbcmpeaaGreat
set_option maxRecDepth 100000
set_option linter.unusedVariables false
namespace Go.Proofs.YtikhnofbbcmpeaaGreat
open Go Go.Sy
theorem xv1 (ua:Int) (ub um ul:List (List Int)):xam Tryz.prog 3 (xaG Tryz.prog K42 xbt 9 21 [.agg [.int .i64 ua,.sl 0],.sl 1,.sl 2] ⟨[⟨0,3,false,.row 29 [.int .i64,.int .i64,.int .i64,.int .u64] ub⟩,⟨1,3,false,.nst 24 [.c (.int .i64),.s 29 [.int .i64,.int .i64,.int .i64,.int .u64]] um⟩,⟨2,3,false,.row 41 [.int .i64,.int .i64,.int .i64] ul⟩],3⟩)=some ⟨some (xgw ua ub um ul),[],0,[],.bool (xdH ua ub um ul)⟩:=by kernel_rfl
noncomputable def xpl:List U→Option Eff
 | [.i ua,.r ub,.r um,.r ul]=>some ⟨some (xgw ua ub um ul),[],0,[],.bool (xdH ua ub um ul)⟩
 | _=>Option.none
noncomputable def K43:Con:=ext Tryz.prog K42 21 [.agg [.int .i64 0,.sl 0],.sl 1,.sl 2] [⟨0,0,false,.row 29 [.int .i64,.int .i64,.int .i64,.int .u64] []⟩,⟨1,0,false,.nst 24 [.c (.int .i64),.s 29 [.int .i64,.int .i64,.int .i64,.int .u64]] []⟩,⟨2,0,false,.row 41 [.int .i64,.int .i64,.int .i64] []⟩] xpl
theorem xr2:xaT Tryz.prog K43:=xak xar xHD (n:=9) rfl rfl fun us x h=>by
 unfold xpl at h
 split at h
 ·cases h; exact ⟨some (xgw _ _ _ _),xv1 _ _ _ _,fun h=>h⟩
 ·cases h
end Go.Proofs.YtikhnofbbcmpeaaGreat
set_option linter.unusedVariables false
namespace Go.Proofs.YtikhnofbbcmpeaaGreat
open Go Go.Sy
noncomputable def opc (n:Nat):Code:=(xiD n ((Tryz.f23.body).getD .skip)).getD .skip
def xpw:List Sy.Obj:=[⟨0,0,false,.nst 24 xCG []⟩]
def xzP:Sy.Obj:=⟨2,0,true,.cells [.int .i64 0,.val (.slice none 0 0)]⟩
def oLs:List (Nat×AV):=[(0,.sl 0),(1,.int .i64 0),(4,.ptr 2 0),(5,.int .i64 0)]
def o0:Sy.Spec:=⟨[(0,.sl 0),(1,.int .i64 0)],xpw,[],1,[]⟩
def oA:Sy.Spec:=⟨[(0,.sl 0),(1,.int .i64 0),(4,.ptr 2 0)],xpw++[xzP],[],3,[]⟩
def oL:Sy.Spec:=⟨oLs,xpw++[xzP],[],3,[]⟩
def oB:Sy.Spec:=⟨oLs++[(9,.bool false)],xpw++[xzP],[],3,[]⟩
def oC:Sy.Spec:=⟨oLs++[(18,.bool false)],xpw++[xzP],[],3,[]⟩
end Go.Proofs.YtikhnofbbcmpeaaGreat
set_option maxRecDepth 100000
set_option linter.unusedVariables false
namespace Go.Proofs.YtikhnofbbcmpeaaGreat
open Go Go.Sy
noncomputable def of0 (s:Int) (um:List (List Int)):Option (Nat×List U) :=
 some (0,[.i (s),.r (um),.i ((0:Int))])
noncomputable def of1 (s:Int) (um:List (List Int)) (z:Int):Option (Nat×List U) :=
 some (0,[.i (s),.i ((0:Int)),.r (um),.i (z)])
noncomputable def of2 (s i:Int) (um:List (List Int)) (z:Int):Option (Nat×List U) :=
 some (0,[.i (s),.i (i),.b (decide (i<(↑(um).length:Int))),.r (um),.i (z)])
noncomputable def of3 (s i:Int) (um:List (List Int)) (z:Int):Option (Nat×List U) :=
 some (0,[.i (s),.i (IntKind.i64.wrap (i+(1:Int))),.r (um),.i (z)])
noncomputable def of4 (s i:Int) (um:List (List Int)) (z:Int):Option (Nat×List U) :=
 xab (inR (i) (um)) (xab (inR (i) (um)) (xab (inR (i) (um)) (some (0,[.i (s),.i (i),.b (((um).getD (i).toNat []).getD 0 (0:Int)==s),.r (um),.i (z)]))))
noncomputable def of6 (s i:Int) (um:List (List Int)) (z:Int):Option (Nat×List U) :=
 some (0,[.i (s),.i (i),.r (um),.i ((0:Int))])
end Go.Proofs.YtikhnofbbcmpeaaGreat
set_option maxRecDepth 100000
set_option linter.unusedVariables false
namespace Go.Proofs.YtikhnofbbcmpeaaGreat
open Go Go.Sy
theorem xGp (s:Int) (um:List (List Int)):xfx Tryz.prog K43 9 24 (o0) [(.normal,oA)] (opc 0) [.i s,.r um]=of0 s um:=by kernel_rfl
theorem xGo (s:Int) (um:List (List Int)) (z:Int):xfx Tryz.prog K43 9 24 (oA) [(.normal,oL)] (opc 1) [.i s,.r um,.i z]=of1 s um z:=by kernel_rfl
theorem xEM (s i:Int) (um:List (List Int)) (z:Int):xfx Tryz.prog K43 9 24 (oL) [(.normal,oB)] (opc 2) [.i s,.i i,.r um,.i z]=of2 s i um z:=by kernel_rfl
theorem xGn (s i:Int) (um:List (List Int)) (z:Int):xfx Tryz.prog K43 9 24 (oL) [(.normal,oL)] (opc 3) [.i s,.i i,.r um,.i z]=of3 s i um z:=by kernel_rfl
theorem xGm (s i:Int) (um:List (List Int)) (z:Int):xfx Tryz.prog K43 9 24 (oL) [(.normal,oC)] (opc 4) [.i s,.i i,.r um,.i z]=of4 s i um z:=by kernel_rfl
theorem xGl (s i:Int) (um:List (List Int)) (z:Int):xfx Tryz.prog K43 9 24 (oL) [(.normal,oL)] (opc 6) [.i s,.i i,.r um,.i z]=of6 s i um z:=by kernel_rfl
end Go.Proofs.YtikhnofbbcmpeaaGreat
set_option linter.unusedVariables false
namespace Go.Proofs.YtikhnofbbcmpeaaGreat
open Go Go.Sy
noncomputable def xmy (s:Int) (um:List (List Int)):Int×List (List Int):=match um.find? (fun x=>x.getD 0 0==s) with
 | some x=>(x.getD 0 0,decL (x.getD 1 0))
 | none=>(0,[])
noncomputable def xbU (ship:Int) (um:List (List Int)):Int:=(xmy ship um).1
noncomputable def xd4 (ship:Int) (um:List (List Int)):List (List Int):=(xmy ship um).2
def xff (ship:Int) (um:List (List Int)):Prop:=um.length≤9223372036854775807
end Go.Proofs.YtikhnofbbcmpeaaGreat
set_option linter.unusedVariables false
namespace Go.Sy
open Go.RowKit
section
variable {P:Program} {X:List (Nat×Go.Obj)} {w0 w:World} {N:Nat} {E:Env} {ops:Array Oper} {rest:List Oper} {Q:Exit→Act→World→Prop} {c:Cfg} {a:Act} {o:Oper} {x:Eff} {d:Nat}
theorem xwl (hc:CfgOk X E w0 N c a w) (hg:o.guard=none) (hd:o.dst=some d) (hdN:d<N) (hz:xni P (rhoC c) c.heap.objs c.heap.next o.op=some x) (hx:x.holds)
  (h:∀ E' v w',(∀ k,k<c.heap.next→E' k=E k)→v=x.v.den E'→CfgOk X E' w0 N ⟨fun t=>match Nat.beq t d with | true=>some x.v | false=>c.tmps t,c.heap.eff x⟩ (a.put (some d) v) w'→wpListIn (FR none) 0 P ops Q rest (a.put (some d) v) w') :
  wpListIn (FR none) 0 P ops Q (o::rest) a w:=by
 obtain ⟨E',w',nx,g1,g2,g3,g4,g5,g6,_⟩:=hc.opE hz hx
 have henv:∀ k,(E' k).oneCell'=true:=by obtain ⟨_,_,_,_,hH⟩:=g4; exact hH.env
 have hp:=g4.put (d:=d) (v:=x.v.den E') (u:=some x.v) (E2:=E') hdN (fun o ho=>⟨rfl,xbN _⟩) henv (fun t y _ _=>(xa2 y).2 fun _ _=>rfl) (fun y hy=>by cases hy; exact ⟨rfl,g5⟩)
 refine xjC (v:=x.v.den E') hg g6 g1 g2 ?_
 rw [hd]
 exact h E' _ w' g3 rfl hp
theorem xEb (hc:CfgOk X E w0 N c a w) (hg:o.guard=none) (hd:o.dst=none) (hz:xni P (rhoC c) c.heap.objs c.heap.next o.op=some x) (hx:x.holds)
  (h:∀ E' w',(∀ k,k<c.heap.next→E' k=E k)→CfgOk X E' w0 N ⟨c.tmps,c.heap.eff x⟩ a w'→wpListIn (FR none) 0 P ops Q rest a w') :
  wpListIn (FR none) 0 P ops Q (o::rest) a w:=by
 obtain ⟨E',w',nx,g1,g2,g3,g4,g5,g6,_⟩:=hc.opE hz hx
 refine xjC (v:=x.v.den E') hg g6 g1 g2 ?_
 rw [hd]
 exact h E' w' g3 g4
theorem xA5 {t:TypeId} {y:Operand} {v:AV} (hc:CfgOk X E w0 N c a w) (hg:o.guard=none) (hd:o.dst=some d) (hdN:d<N) (ho:o.op=.load t y) (hy:rhoC c y=some v) (hz:xpC P c.heap.objs c.heap.next t v=some x) (hx:x.holds)
  (h:∀ E' u,(∀ k,k<c.heap.next→E' k=E k)→u=x.v.den E'→(∀ o∈x.add,∀ g,blkO (E' o.key)=some g→∃ o'∈c.heap.objs,Inn E w o'.key o'.body g) →
   CfgOk X E' w0 N ⟨fun t=>match Nat.beq t d with | true=>some x.v | false=>c.tmps t,c.heap.eff x⟩ (a.put (some d) u) w→wpListIn (FR none) 0 P ops Q rest (a.put (some d) u) w) :
  wpListIn (FR none) 0 P ops Q (o::rest) a w:=by
 obtain ⟨E',g1,g3,g4,g5,g6⟩:=hc.loadN ho hy hz hx
 have henv:∀ k,(E' k).oneCell'=true:=by obtain ⟨_,_,_,_,hH⟩:=g4; exact hH.env
 have hp:=g4.put (d:=d) (v:=x.v.den E') (u:=some x.v) (E2:=E') hdN (fun o ho=>⟨rfl,xbN _⟩) henv (fun t y _ _=>(xa2 y).2 fun _ _=>rfl) (fun y hy=>by cases hy; exact ⟨rfl,g5⟩)
 refine xjC (v:=x.v.den E') hg (fun c e=>by rw [ho] at e; cases e) g1 (.inl rfl) ?_
 rw [hd]
 exact h E' _ g3 rfl g6 hp
end
end Go.Sy
set_option linter.unusedVariables false
set_option maxRecDepth 100000
namespace Go.Proofs.YtikhnofbbcmpeaaGreat
open Go Go.Sy Go.Proofs Go.RowKit
noncomputable def ofF:Func:=Tryz.f23
noncomputable def ofB:Code:=ofF.body.getD .skip
theorem xCf:ofF.body=some ofB:=by kernel_rfl
theorem xzO:ofF.ntmps=24:=by kernel_rfl
noncomputable def xCg:Code:=Code.seq (.seq (opc 2) (.cond (.tmp 9) .skip (.exit 0))) (.seq (.block 1 (.seq (opc 4) (.cond (.tmp 18) (.seq (opc 5) .ret) .skip))) (opc 3))
theorem xA1:ofB=Code.seq (opc 0) (.seq (.seq (opc 1) (.block 0 (.loop xCg))) (.seq (opc 6) .ret)):=by kernel_rfl
theorem xDf {s:Int}:∀ {um:List (List Int)} {i:Nat} (hi:i<um.length),((um.getD i []).getD 0 0==s)=true→(∀ j,j<i→((um.getD j []).getD 0 0==s)=false)→xmy s um=(um[i].getD 0 0,decL (um[i].getD 1 0))
 | [],i,hi,_,_=>by simp at hi
 | x::r,0,hi,hp,hn=>by
  unfold xmy
  have:(x.getD 0 0==s)=true:=hp
  rw [List.find?_cons,this]; rfl
 | x::r,i+1,hi,hp,hn=>by
  have h0:(x.getD 0 0==s)=false:=hn 0 (by omega)
  have:=xDf (um:=r) (i:=i) (by simpa using hi) hp fun j hj=>hn (j+1) (by omega)
  unfold xmy at this ⊢
  rw [List.find?_cons,h0]
  exact this
theorem xDe {s:Int}:∀ {um:List (List Int)},(∀ j,j<um.length→((um.getD j []).getD 0 0==s)=false)→xmy s um=(0,[])
 | [],_=>rfl
 | x::r,hn=>by
  have h0:(x.getD 0 0==s)=false:=hn 0 (by simp)
  have:=xDe (um:=r) fun j hj=>hn (j+1) (by simpa using hj)
  unfold xmy at this ⊢
  rw [List.find?_cons,h0]
  exact this
theorem xIf {um:List (List Int)} {i:Nat} (hi:i<um.length):um.getD i []=um[i]:=by rw [List.getD_eq_getElem?_getD,List.getElem?_eq_getElem hi]; rfl
section
variable {E:Env} {w0 w:World} {a:Act} {s z:Int} {um:List (List Int)}
theorem xD5 {Q:Exit→Act→World→Prop} {b:Bool} {i:Nat} (hc:CfgOk [] E w0 24 (oC.st [.i s,.i i,.b b,.r um,.i z]) a w) (hi:i<um.length)
  (hQ:∀ E' c' a' w',(∀ k,k<4→E' k=E k)→CfgOk [] E' w0 24 c' a' w'→xfm Tryz.prog c' ofF.results.toList=some [.agg [.int .i64 (um[i].getD 0 0),.sl 4]] →
   (⟨4,4,false,.row 29 xCH (decL (um[i].getD 1 0))⟩:Sy.Obj)∈c'.heap.objs→(∃ w2,Blw w0.heap.size w0 w2∧∀ g,blkO (E' 4)=some g→Inn E w2 0 (.nst 24 xCG um) g)→Q .ret a' w') :
  (Code.seq (opc 5) .ret).wpIn (FR none) 0 Tryz.prog Q a w:=by
 have hin:inR (i:Int) um:=⟨by omega,by omega⟩
 have hgi:um.getD (i:Int).toNat []=um[i]:=by rw [Int.toNat_natCast]; exact xIf hi
 refine wpIn_seq (wpIn_region_list ?_)
 refine xwl (d:=19) hc rfl rfl (by omega) (x:=⟨none,[],0,[],.sl 0⟩) (by kernel_rfl) trivial fun E1 v1 w1 hE1 hv1 hc1=>?_
 refine xwl (d:=20) hc1 rfl rfl (by omega) (x:=⟨none,[],0,[],.int .i64 i⟩) (by kernel_rfl) trivial fun E2 v2 w2 hE2 hv2 hc2=>?_
 refine xwl (d:=21) hc2 rfl rfl (by omega) (x:=⟨some (inR i um),[],0,[],.ix 0 2 false i 0⟩) (by kernel_rfl) hin fun E3 v3 w3 hE3 hv3 hc3=>?_
 refine xA5 (d:=22) (t:=24) (y:=.tmp 21) (v:=.ix 0 2 false i 0) hc3 rfl rfl (by omega) rfl (by kernel_rfl)
  (x:=⟨some (inR i um),[],1,[⟨4,4,false,.row 29 xCH (decL ((um.getD (i:Int).toNat []).getD 1 0))⟩],.agg [.int .i64 ((um.getD (i:Int).toNat []).getD 0 0),.sl 4]⟩) (by kernel_rfl) hin fun E4 v4 hE4 hv4 hinn hc4=>?_
 have hbl:Blw w0.heap.size w0 w3:=by obtain ⟨_,_,_,_,hH⟩:=hc3; exact hH.below
 refine xEb hc4 rfl rfl (x:=⟨none,[2],0,[⟨2,5,true,.cells [.int .i64 ((um.getD (i:Int).toNat []).getD 0 0),.sl 4]⟩],.val undef⟩) (by kernel_rfl) trivial fun E5 w5 hE5 hc5=>?_
 show Code.wpIn _ _ _ _ _ _ _
 refine wpIn_ret ?_
 rw [hgi] at hinn hc5
 refine hQ E5 _ _ w5 (fun k hk=>?_) hc5 (by kernel_rfl) (by exact List.mem_of_getElem? (i:=1) (by kernel_rfl)) ⟨w3,hbl,fun g hg=>?_⟩
 ·rw [hE5 k (by show k<5; omega),hE4 k (by show k<4; omega),hE3 k (by show k<4; omega),hE2 k (by show k<4; omega),hE1 k (by show k<4; omega)]
 ·rw [hE5 4 (by show 4<5; omega)] at hg
  obtain ⟨o',ho',hi'⟩:=hinn _ (List.mem_singleton.2 rfl) g hg
  have e3:E3 0=E 0:=by rw [hE3 0 (by show 0<4; omega),hE2 0 (by show 0<4; omega),hE1 0 (by show 0<4; omega)]
  rcases List.mem_cons.1 ho' with rfl | ho'
  ·exact xhD e3 hi'
  ·rw [List.mem_singleton.1 ho'] at hi'
   exact hi'.elim
theorem xFv {Q:Exit→Act→World→Prop} (hlen:um.length≤9223372036854775807)
  (hno:(∀ j,j<um.length→((um.getD j []).getD 0 0==s)=false)→∀ E' a' w',E' 0=E 0→CfgOk [] E' w0 24 (oL.st [.i s,.i um.length,.r um,.i z]) a' w'→Q (.exit 0) a' w')
  (hyes:∀ i (hi:i<um.length),((um.getD i []).getD 0 0==s)=true→(∀ j,j<i→((um.getD j []).getD 0 0==s)=false)→∀ E' a' w',E' 0=E 0→CfgOk [] E' w0 24 (oC.st [.i s,.i i,.b true,.r um,.i z]) a' w' →
   ∀ Q':Exit→Act→World→Prop,(∀ a w,Q .ret a w→Q' .ret a w)→(Code.seq (opc 5) .ret).wpIn (FR none) 0 Tryz.prog Q' a' w') :
  ∀ (m i:Nat) (E1:Env) (w:World) (a:Act),i+m=um.length→(∀ j,j<i→((um.getD j []).getD 0 0==s)=false)→E1 0=E 0→CfgOk [] E1 w0 24 (oL.st [.i s,.i i,.r um,.i z]) a w→xqh (FR none) 0 Tryz.prog xCg Q a w:=by
 intro m
 induction m with
 | zero =>
  intro i E1 w a him hn hE hc
  have hi:i=um.length:=by omega
  subst hi
  refine xfh (wpIn_seq (wpIn_seq (xaO xr2 (i:=0) (y:=.normal) (T:=oB) hc (xEM _ _ _ _) rfl fun E2 a2 w2 hE2 hc2=>?_)))
  have h9:=(hc2.point (t:=9) (v:=.bool (decide ((um.length:Int)<(um.length:Int)))) (by kernel_rfl)).1
  refine wpIn_cond_false (h9.trans (by rw [decide_eq_false (by omega)]; rfl)) (wpIn_exit ?_)
  obtain ⟨E3,hE3,hc3⟩:=hc2.shape (P:=Tryz.prog) (T:=oL) (us:=[.i s,.i um.length,.r um,.i z]) (by kernel_rfl)
  exact hno hn E3 a2 w2 (((hE3 0 (by show 0<3; omega)).trans (hE2 0 (by show 0<3; omega) (by show 0<3; omega))).trans hE) hc3
 | succ m ih =>
  intro i E1 w a him hn hE hc
  have hi:i<um.length:=by omega
  have hin:inR (i:Int) um:=⟨by omega,by omega⟩
  refine xfh (wpIn_seq (wpIn_seq (xaO xr2 (i:=0) (y:=.normal) (T:=oB) hc (xEM _ _ _ _) rfl fun E2 a2 w2 hE2 hc2=>?_)))
  have h9:=(hc2.point (t:=9) (v:=.bool (decide ((i:Int)<(um.length:Int)))) (by kernel_rfl)).1
  refine wpIn_cond_true (h9.trans (by rw [decide_eq_true (by omega)]; rfl)) (wpIn_skip ?_)
  obtain ⟨E3,hE3,hc3⟩:=hc2.shape (P:=Tryz.prog) (T:=oL) (us:=[.i s,.i i,.r um,.i z]) (by kernel_rfl)
  show Code.wpIn _ _ _ _ _ _ _
  refine wpIn_seq (wpIn_block (wpIn_seq (xaO xr2 (i:=0) (y:=.normal) (T:=oC) hc3 ((xGm s i um z).trans (by unfold of4; rw [xaa hin,xaa hin,xaa hin])) rfl fun E4 a4 w4 hE4 hc4=>?_)))
  have e4:E4 0=E 0:=(((hE4 0 (by show 0<3; omega) (by show 0<3; omega)).trans (hE3 0 (by show 0<3; omega))).trans (hE2 0 (by show 0<3; omega) (by show 0<3; omega))).trans hE
  have h18:=(hc4.point (t:=18) (v:=.bool ((um.getD (i:Int).toNat []).getD 0 0==s)) (by kernel_rfl)).1
  rw [Int.toNat_natCast] at h18 hc4
  show Code.wpIn _ _ _ _ _ _ _
  cases hb:(um.getD i []).getD 0 0==s with
  | true =>
   rw [hb] at h18 hc4
   exact wpIn_cond_true h18 (hyes i hi hb hn E4 a4 w4 e4 hc4 _ fun a w h=>h)
  | false =>
   rw [hb] at h18 hc4
   refine wpIn_cond_false h18 (wpIn_skip ?_)
   obtain ⟨E5,hE5,hc5⟩:=hc4.shape (P:=Tryz.prog) (T:=oL) (us:=[.i s,.i i,.r um,.i z]) (by kernel_rfl)
   show Code.wpIn _ _ _ _ _ _ _
   refine xaO xr2 (i:=0) (y:=.normal) (T:=oL) hc5 (xGn _ _ _ _) rfl fun E6 a6 w6 hE6 hc6=>?_
   have hw:IntKind.i64.wrap ((i:Int)+1)=((i+1:Nat):Int):=by rw [xcJ (by omega)]; rfl
   rw [hw] at hc6
   refine ih (i+1) E6 w6 a6 (by omega) (fun j hj=>?_) (((hE6 0 (by show 0<3; omega) (by show 0<3; omega)).trans (hE5 0 (by show 0<3; omega))).trans e4) hc6
   rcases Nat.lt_or_ge j i with h | h
   ·exact hn j h
   ·rw [show j=i by omega]; exact hb
end
noncomputable def xrr:List U→Option Eff
 | [.i ship,.r um]=>some ⟨some (xff ship um),[],1,[⟨1,1,false,.row 29 [.int .i64,.int .i64,.int .i64,.int .u64] (xd4 ship um)⟩],.agg [.int .i64 (xbU ship um),.sl 1]⟩
 | _=>Option.none
theorem xFw:xer Tryz.prog 23:=⟨ofF,Tryz.func23,by
 have:(ofF.name == "runtime.NumGoroutine")=false:=by kernel_rfl
 simpa using this,by rw [xCf]; rfl⟩
theorem xD6 {E2:Env} {w:World} {s:Int} {um:List (List Int)} (hp:xff s um) (hH:xag [] E2 w ⟨(xaQ 1 [.i s,.r um] xpw 1).1,1⟩ w) :
  Calls Tryz.prog 23 (AV.denL E2 [.sl 0,.int .i64 s]).toArray w fun e w'=>∃ E',e=.returned ((AV.agg [.int .i64 (xbU s um),.sl 1]).den E') ∧
   xnE E2 w 1 ⟨some (xff s um),[],1,[⟨1,1,false,.row 29 [.int .i64,.int .i64,.int .i64,.int .u64] (xd4 s um)⟩],.agg [.int .i64 (xbU s um),.sl 1]⟩ E' w' fun b=>∃ o∈(xaQ 1 [.i s,.r um] xpw 1).1,Inn E2 w o.key o.body b:=by
 have hnst:(⟨0,1,false,.nst 24 xCG um⟩:Sy.Obj)∈(xaQ 1 [.i s,.r um] xpw 1).1:=List.mem_singleton.2 rfl
 have done:∀ (v:Value) (w':World),v.oneCell'=true→Blw w.heap.size w w'→xa6 w' false 29 4 v (xd4 s um).length (rowV [.int .i64,.int .i64,.int .i64,.int .u64] (xd4 s um)) →
   (∀ g,blkO v=some g→Inn E2 w 0 (.nst 24 xCG um) g)→∃ E',Ending.returned (.agg #[.int .i64 (xbU s um),v])=.returned ((AV.agg [.int .i64 (xbU s um),.sl 1]).den E') ∧
   xnE E2 w 1 ⟨some (xff s um),[],1,[⟨1,1,false,.row 29 [.int .i64,.int .i64,.int .i64,.int .u64] (xd4 s um)⟩],.agg [.int .i64 (xbU s um),.sl 1]⟩ E' w' fun b=>∃ o∈(xaQ 1 [.i s,.r um] xpw 1).1,Inn E2 w o.key o.body b:=by
  intro v w' hv hbl hr hi
  have e1:(fun k=>if k=1 then v else E2 k:Env) 1=v:=if_pos rfl
  refine ⟨fun k=>if k=1 then v else E2 k,rfl,⟨fun k hk=>if_neg (by omega),fun k=>?_,hbl,fun o ho=>?_,fun o ho b hb=>?_,fun o ho o' ho' hown hne=>?_,fun o ho b hb=>?_,fun o ho b hb=>?_⟩⟩
  ·show (if k=1 then v else E2 k).oneCell'=true
   split
   ·exact hv
   ·exact hH.env k
  ·rw [List.mem_singleton.1 ho]
   exact hr
  ·rw [List.mem_singleton.1 ho] at hb ⊢
   exact .inr ⟨rfl,rfl,_,hnst,hi b hb⟩
  ·rw [List.mem_singleton.1 ho] at hown
   cases hown
  ·rw [List.mem_singleton.1 ho] at hb
   exact hb.elim
  ·rw [List.mem_singleton.1 ho] at hb
   exact hb.elim
 refine xqZ (P:=Tryz.prog) (fn:=ofF) (code:=ofB) Tryz.func23 xCf (by rw [xzO]; exact (by decide:2≤24)) hH ⟨(by show 0<1; omega),trivial,trivial⟩ fun a hc=>?_
 rw [xzO] at hc ⊢
 obtain ⟨E1,hE1,hc1⟩:=hc.shape (P:=Tryz.prog) (T:=o0) (us:=[.i s,.r um]) (by kernel_rfl)
 have e1:E1 0=E2 0:=hE1 0 (by show 0<1; omega)
 rw [xA1]
 refine wpIn_seq (xaO xr2 (i:=0) (y:=.normal) (T:=oA) hc1 (xGp _ _) rfl fun E3 a3 w3 hE3 hc3=>?_)
 have e3:E3 0=E2 0:=(hE3 0 (by show 0<1; omega) (by show 0<3; omega)).trans e1
 show Code.wpIn _ _ _ _ _ _ _
 refine wpIn_seq (wpIn_seq (xaO xr2 (i:=0) (y:=.normal) (T:=oL) hc3 (xGo _ _ _) rfl fun E4 a4 w4 hE4 hc4=>?_))
 have e4:E4 0=E2 0:=(hE4 0 (by show 0<3; omega) (by show 0<3; omega)).trans e3
 show Code.wpIn _ _ _ _ _ _ _
 refine wpIn_block (xia (xFv (E:=E2) hp (fun hno E5 a5 w5 e5 hc5=>?_) (fun i hi hb hn E5 a5 w5 e5 hc5 Q' hQ'=>?_) um.length 0 E4 w4 a4 (by omega) (fun j hj=>by omega) e4 hc4))
 ·have e0:∀ Q':Exit→Act→World→Prop,Exit.inBlock 0 Q' (.exit 0) a5 w5=Q' .normal a5 w5:=fun Q'=>by
   show (if (0:Nat)=0 then Q' .normal a5 w5 else Q' (.exit 0) a5 w5)=_
   rw [if_pos rfl]
  rw [e0]
  show Code.wpIn _ _ _ _ _ _ _
  refine wpIn_seq (xaO xr2 (i:=0) (y:=.normal) (T:=oL) hc5 (xGl _ _ _ _) rfl fun E6 a6 w6 hE6 hc6=>?_)
  show Code.wpIn _ _ _ _ _ _ _
  refine wpIn_ret ⟨[],E6,_,.agg [.int .i64 0,.val (.slice none 0 0)],hc6,by kernel_rfl,fun w' hH'=>?_⟩
  have hf:=xDe hno
  have h0:xbU s um=0:=congrArg Prod.fst hf
  have h1:xd4 s um=[]:=congrArg Prod.snd hf
  have:=done (.slice none 0 0) w' rfl hH'.below (by
   rw [h1]
   have hr:xa6 w' true 29 4 (.slice none 0 0) 0 []:=xcO (.inl ⟨none,rfl,rfl⟩) rfl
   exact ⟨hr.reads,hr.len,fun h=>by cases h⟩) fun g hg=>by cases hg
  rw [h0] at this ⊢
  exact this
 ·refine xD5 hc5 hi fun E6 c' a6 w6 hE6 hc6 hres hmem ⟨w2,hbl2,hinn⟩=>hQ' _ _ ⟨[],E6,c',_,hc6,hres,fun w' hH'=>?_⟩
  have hf:=xDf hi hb hn
  have h0:xbU s um=um[i].getD 0 0:=congrArg Prod.fst hf
  have h1:xd4 s um=decL (um[i].getD 1 0):=congrArg Prod.snd hf
  have hb4:=hH'.objs _ hmem
  have:=done (E6 4) w' (hH'.env 4) hH'.below (by rw [h1]; exact hb4) fun g hg=>by
   have h2:=hinn g hg
   exact xjM (hH.objs _ hnst) e5 (fun g hg=>hbl2.block g (xok (hH.objs _ hnst) hg)) h2
  rw [h0] at this ⊢
  exact this
noncomputable def KOf:Con:=ext Tryz.prog K43 23 [.sl 0,.int .i64 0] [⟨0,0,false,.nst 24 [.c (.int .i64),.s 29 [.int .i64,.int .i64,.int .i64,.int .u64]] []⟩] xrr
theorem xG3:xaT Tryz.prog KOf:=xvs xr2 rfl rfl fun us x h=>by
 unfold xrr at h
 split at h
 ·cases h
  exact ⟨xFw,⟨rfl,fun o ho=>(by rw [List.mem_singleton.1 ho]; exact ⟨Nat.le_refl _,by show 1<1+1; omega⟩),by simp,fun o ho=>(by rw [List.mem_singleton.1 ho]; rfl),⟨trivial,(by show 1<1+1; omega),trivial⟩,fun o ho=>(by rw [List.mem_singleton.1 ho]; exact Nat.le_refl _)⟩,fun hp E2 w hH=>xD6 hp hH⟩
 ·cases h
end Go.Proofs.YtikhnofbbcmpeaaGreat
set_option maxRecDepth 100000
set_option linter.unusedVariables false
namespace Go.Proofs.YtikhnofbbcmpeaaGreat
open Go Go.Sy
noncomputable def xjv (n:Int) (up:List (List Int)):List U :=
 [.i ((0:Int)),.r ([])]
noncomputable def xdA (n:Int) (up:List (List Int)) (y0:List U):Option (Nat×List U) :=
 (bif decide (gi y0 0<(↑up.length:Int)) then xab (inR (gi y0 0) up) (xab (inR (gi y0 0) up) ((bif decide ((up.getD (gi y0 0).toNat []).getD 0 (0:Int)<n) then xab (inR (gi y0 0) up) (xab (inR (gi y0 0) up) (xab (xa5 8 ((gr y0 1).length+[[(up.getD (gi y0 0).toNat []).getD 0 (0:Int)]].length)) (some (0,[.i (IntKind.i64.wrap (gi y0 0+(1:Int))),.r (gr y0 1++[[(up.getD (gi y0 0).toNat []).getD 0 (0:Int)]])])))) else some (0,[.i (IntKind.i64.wrap (gi y0 0+(1:Int))),.r (gr y0 1)])))) else some (3,[.i (gi y0 0),.r (gr y0 1)]))
noncomputable def xk6 (n:Int) (up:List (List Int)):Nat×List U:=xaf (xdA n up) (xjv n up)
noncomputable def xf5 (n:Int) (up:List (List Int)):List U :=
 [.i ((0:Int)),.r (gr (xk6 n up).snd 1++[[n]])]
noncomputable def xev (n:Int) (up:List (List Int)) (y1:List U):Option (Nat×List U) :=
 (bif decide (gi y1 0<(↑up.length:Int)) then xab (inR (gi y1 0) up) (xab (inR (gi y1 0) up) ((bif decide ((up.getD (gi y1 0).toNat []).getD 0 (0:Int)>n) then xab (inR (gi y1 0) up) (xab (inR (gi y1 0) up) (xab (xa5 8 ((gr y1 1).length+[[(up.getD (gi y1 0).toNat []).getD 0 (0:Int)]].length)) (some (0,[.i (IntKind.i64.wrap (gi y1 0+(1:Int))),.r (gr y1 1++[[(up.getD (gi y1 0).toNat []).getD 0 (0:Int)]])])))) else some (0,[.i (IntKind.i64.wrap (gi y1 0+(1:Int))),.r (gr y1 1)])))) else some (3,[.i (gi y1 0),.r (gr y1 1)]))
noncomputable def xpb (n:Int) (up:List (List Int)):Nat×List U:=xaf (xev n up) (xf5 n up)
noncomputable def xew (n:Int) (up:List (List Int)):List (List Int) :=
 gr (xpb n up).snd 1
def xdg (n:Int) (up:List (List Int)):Prop :=
 (((xav (xdA n up) (xjv n up)))∧((xa5 8 ((gr (xk6 n up).snd 1).length+[[n]].length))∧((xav (xev n up) (xf5 n up)))))
noncomputable def xhl (uq un:Int) (um ul:List (List Int)) (y0:List U):List U :=
 [.i ((0:Int)),.r ([])]
noncomputable def xcv (uq un:Int) (um ul:List (List Int)) (y0:List U) (y1:List U):Option (Nat×List U) :=
 (bif decide (gi y1 0<(↑ul.length:Int)) then xab (inR (gi y1 0) ul) (xab (inR (gi y1 0) ul) (xab (inR (gi y0 0) um) (xab (inR (gi y0 0) um) (xab (xfk ((um.getD (gi y0 0).toNat []).getD 0 (0:Int)) (3:Int) ((ul.getD (gi y1 0).toNat []).getD 1 (0:Int)) (0:Int) uq
 (decL ((um.getD (gi y0 0).toNat []).getD 1 (0:Int)))) (xab (inR (gi y0 0) um) (xab (inR (gi y0 0) um) (xab (inR (gi y0 0) um) ((bif (ul.getD (gi y1 0).toNat []).getD 0 (0:Int)==(um.getD (gi y0 0).toNat []).getD 0 (0:Int) &&
  decide (IntKind.i64.wrap ((ul.getD (gi y1 0).toNat []).getD 2 (0:Int)+un)≤uq) &&
 !xeN ((um.getD (gi y0 0).toNat []).getD 0 (0:Int)) (3:Int) ((ul.getD (gi y1 0).toNat []).getD 1 (0:Int)) (0:Int) uq
   (decL ((um.getD (gi y0 0).toNat []).getD 1 (0:Int))) then xab (xdg ((ul.getD (gi y1 0).toNat []).getD 1 (0:Int)) (gr y1 1)) (some (0,[.i (IntKind.i64.wrap (gi y1 0+(1:Int))),.r (xew ((ul.getD (gi y1 0).toNat []).getD 1 (0:Int)) (gr y1 1))])) else some (0,[.i (IntKind.i64.wrap (gi y1 0+(1:Int))),.r (gr y1 1)])))))))))) else some (3,[.i (gi y1 0),.r (gr y1 1)]))
noncomputable def xhm (uq un:Int) (um ul:List (List Int)) (y0:List U):Nat×List U:=xaf (xcv uq un um ul y0) (xhl uq un um ul y0)
noncomputable def xk5 (uq un:Int) (um ul:List (List Int)) (y0 y2:List U):List (List Int) :=
 [[(um.getD (gi y0 0).toNat []).getD 0 (0:Int),((gr (xhm uq un um ul y0).snd 1).getD (gi y2 0).toNat []).getD 0 (0:Int)]]
noncomputable def xhk (uq un:Int) (um ul:List (List Int)) (y0:List U):List U :=
 [.i ((0:Int)),.r (gr y0 1)]
noncomputable def xcu (uq un:Int) (um ul:List (List Int)) (y0:List U) (y2:List U):Option (Nat×List U) :=
 (bif decide (gi y2 0<(↑(gr (xhm uq un um ul y0).snd 1).length:Int)) then xab (inR (gi y0 0) um) (xab (inR (gi y0 0) um) (xab (inR (gi y0 0) um) (xab (inR (gi y2 0) (gr (xhm uq un um ul y0).snd 1)) (xab (inR (gi y2 0) (gr (xhm uq un um ul y0).snd 1)) (xab (xa5 16 ((gr y2 1).length+((xk5 uq un um ul y0 y2)).length)) (some (0,[.i (IntKind.i64.wrap (gi y2 0+(1:Int))),.r (gr y2 1++(xk5 uq un um ul y0 y2))]))))))) else some (2,[.i (gi y2 0),.r (gr y2 1)]))
noncomputable def xpa (uq un:Int) (um ul:List (List Int)) (y0:List U):Nat×List U:=xaf (xcu uq un um ul y0) (xhk uq un um ul y0)
noncomputable def xju (uq un:Int) (um ul:List (List Int)):List U :=
 [.i ((0:Int)),.r ([])]
noncomputable def xdz (uq un:Int) (um ul:List (List Int)) (y0:List U):Option (Nat×List U) :=
 (bif decide (gi y0 0<(↑um.length:Int)) then xab ((xav (xcv uq un um ul y0) (xhl uq un um ul y0))) (xab ((xav (xcu uq un um ul y0) (xhk uq un um ul y0))) (some (0,[.i (IntKind.i64.wrap (gi y0 0+(1:Int))),.r (gr (xpa uq un um ul y0).snd 1)]))) else some (2,[.i (gi y0 0),.r (gr y0 1)]))
noncomputable def xvU (uq un:Int) (um ul:List (List Int)):Nat×List U:=xaf (xdz uq un um ul) (xju uq un um ul)
noncomputable def xaE (uq un:Int) (um ul:List (List Int)):List (List Int) :=
 gr (xvU uq un um ul).snd 1
def xfD (uq un:Int) (um ul:List (List Int)):Prop :=
 ((xav (xdz uq un um ul) (xju uq un um ul)))
noncomputable def xlx (uc uq un g_Ship g_Item:Int) (ud ul:List (List Int)):List U :=
 [.b (false),.i ((0:Int))]
noncomputable def xet (uc uq un g_Ship g_Item:Int) (ud ul:List (List Int)) (y0:List U):Option (Nat×List U) :=
 (bif decide (gi y0 1<(↑ul.length:Int)) then xab (inR (gi y0 1) ul) (xab (inR (gi y0 1) ul) ((bif (ul.getD (gi y0 1).toNat []).getD 0 (0:Int) !=g_Ship||(ul.getD (gi y0 1).toNat []).getD 1 (0:Int) !=g_Item ||
 decide (IntKind.i64.wrap ((ul.getD (gi y0 1).toNat []).getD 2 (0:Int)+un)>uq) then some (0,[.b (gb y0 0),.i (IntKind.i64.wrap (gi y0 1+(1:Int)))]) else xab (xez uc ((ul.getD (gi y0 1).toNat []).getD 2 (0:Int)) ud) (xab (((!xaR uc ((ul.getD (gi y0 1).toNat []).getD 2 (0:Int)) ud&&decide ((↑ud.length:Int)>(0:Int)))=true)→(inR (IntKind.i64.wrap ((↑ud.length:Int)-(1:Int))) ud)) (xab (((!xaR uc ((ul.getD (gi y0 1).toNat []).getD 2 (0:Int)) ud&&decide ((↑ud.length:Int)>(0:Int)))=true)→(inR (IntKind.i64.wrap ((↑ud.length:Int)-(1:Int))) ud)) (xab (((!xaR uc ((ul.getD (gi y0 1).toNat []).getD 2 (0:Int)) ud&&decide ((↑ud.length:Int)>(0:Int)))=true)→(inR (IntKind.i64.wrap ((↑ud.length:Int)-(1:Int))) ud)) ((bif !xaR uc ((ul.getD (gi y0 1).toNat []).getD 2 (0:Int)) ud&&decide ((↑ud.length:Int)>(0:Int)) &&
 decide ((ud.getD (IntKind.i64.wrap ((↑ud.length:Int)-(1:Int))).toNat []).getD 0 (0:Int)≥(ul.getD (gi y0 1).toNat []).getD 2 (0:Int)) then some (2,[]) else some (0,[.b (gb y0 0),.i (IntKind.i64.wrap (gi y0 1+(1:Int)))]))))))))) else some (4,[.b (gb y0 0),.i (gi y0 1)]))
noncomputable def xyC (uc uq un g_Ship g_Item:Int) (ud ul:List (List Int)):Nat×List U:=xaf (xet uc uq un g_Ship g_Item ud ul) (xlx uc uq un g_Ship g_Item ud ul)
noncomputable def xkn (uc uq un g_Ship g_Item:Int) (ud ul:List (List Int)):Bool :=
 bif (xyC uc uq un g_Ship g_Item ud ul).fst.beq 2 then false else true
def xha (uc uq un g_Ship g_Item:Int) (ud ul:List (List Int)):Prop :=
 ((xav (xet uc uq un g_Ship g_Item ud ul) (xlx uc uq un g_Ship g_Item ud ul)))
noncomputable def xrs (ua uq un:Int) (ub um ul:List (List Int)) (y0:List U):Int :=
 bif
  xkn (xbU (((xaE uq un um ul).getD (gi y0 0).toNat []).getD 0 (0:Int)) um) uq un
   (((xaE uq un um ul).getD (gi y0 0).toNat []).getD 0 (0:Int))
   (((xaE uq un um ul).getD (gi y0 0).toNat []).getD 1 (0:Int))
   (xd4 (((xaE uq un um ul).getD (gi y0 0).toNat []).getD 0 (0:Int)) um) ul then
 (1:Int)
else (0:Int)
noncomputable def xml (ua uq un:Int) (ub um ul:List (List Int)) (y0:List U):List Int :=
 [((xaE uq un um ul).getD (gi y0 0).toNat []).getD 1 (0:Int),
 bif !xeN ua (1:Int) (((xaE uq un um ul).getD (gi y0 0).toNat []).getD 1 (0:Int)) (0:Int) (10000000:Int) ub then (1:Int)
 else (0:Int),
 (xrs ua uq un ub um ul y0)]
noncomputable def xkt (ua uq un:Int) (ub um ul:List (List Int)):List U :=
 [.i ((0:Int)),.r ([])]
noncomputable def xd9 (ua uq un:Int) (ub um ul:List (List Int)) (y0:List U):Option (Nat×List U) :=
 (bif decide (gi y0 0<(↑(xaE uq un um ul).length:Int)) then xab (inR (gi y0 0) (xaE uq un um ul)) (xab (inR (gi y0 0) (xaE uq un um ul)) (xab (inR (gi y0 0) (xaE uq un um ul)) (xab (xfk ua (1:Int) (((xaE uq un um ul).getD (gi y0 0).toNat []).getD 1 (0:Int)) (0:Int) (10000000:Int) ub) (xab (inR (gi y0 0) (xaE uq un um ul)) (xab (inR (gi y0 0) (xaE uq un um ul)) (xab (inR (gi y0 0) (xaE uq un um ul)) (xab (xff (((xaE uq un um ul).getD (gi y0 0).toNat []).getD 0 (0:Int)) um) (xab (inR (gi y0 0) (xaE uq un um ul)) (xab (inR (gi y0 0) (xaE uq un um ul)) (xab (xha (xbU (((xaE uq un um ul).getD (gi y0 0).toNat []).getD 0 (0:Int)) um) uq un
 (((xaE uq un um ul).getD (gi y0 0).toNat []).getD 0 (0:Int))
 (((xaE uq un um ul).getD (gi y0 0).toNat []).getD 1 (0:Int))
 (xd4 (((xaE uq un um ul).getD (gi y0 0).toNat []).getD 0 (0:Int)) um) ul) (xab (inR (gi y0 0) (xaE uq un um ul)) (xab (inR (gi y0 0) (xaE uq un um ul)) (xab (xa5 24 ((gr y0 1).length+[((xaE uq un um ul).getD (gi y0 0).toNat []).getD 0 (0:Int)::(xml ua uq un ub um ul y0)].length)) (some (0,[.i (IntKind.i64.wrap (gi y0 0+(1:Int))),.r (gr y0 1++[((xaE uq un um ul).getD (gi y0 0).toNat []).getD 0 (0:Int)::(xml ua uq un ub um ul y0)])]))))))))))))))) else some (2,[.i (gi y0 0),.r (gr y0 1)]))
noncomputable def xxj (ua uq un:Int) (ub um ul:List (List Int)):Nat×List U:=xaf (xd9 ua uq un ub um ul) (xkt ua uq un ub um ul)
noncomputable def xdI (ua uq un:Int) (ub um ul:List (List Int)):List (List Int) :=
 gr (xxj ua uq un ub um ul).snd 1
def xfl (ua uq un:Int) (ub um ul:List (List Int)):Prop :=
 ((xfD uq un um ul)∧((xav (xd9 ua uq un ub um ul) (xkt ua uq un ub um ul))))
noncomputable def xhX (x_Gap_Ship x_Gap_Item:Int) (x_Sent x_On:Bool) (o_Kind o_Ship o_Item:Int):Bool :=
 bif o_Kind==(1:Int) then x_Sent&&o_Ship==(0:Int)&&o_Item==x_Gap_Item
else bif o_Kind==(2:Int) then x_On&&o_Ship==x_Gap_Ship&&o_Item==(0:Int) else o_Kind==(3:Int)&&o_Ship==x_Gap_Ship&&o_Item==x_Gap_Item
noncomputable def xbT (a_Kind a_Ship a_Item b_Kind b_Ship b_Item:Int):Bool :=
 bif a_Kind !=b_Kind then decide (a_Kind<b_Kind) else bif a_Ship !=b_Ship then decide (a_Ship<b_Ship) else decide (a_Item<b_Item)
noncomputable def xcY (up uk:List (List Int)):List U :=
 [.b (false),.i ((1:Int))]
noncomputable def xbz (up uk:List (List Int)) (y0:List U):Option (Nat×List U) :=
 (bif decide (gi y0 1<(↑uk.length:Int)) then xab (inR (IntKind.i64.wrap (gi y0 1-(1:Int))) uk) (xab (inR (IntKind.i64.wrap (gi y0 1-(1:Int))) uk) (xab (inR (gi y0 1) uk) (xab (inR (gi y0 1) uk) ((bif !xbT ((uk.getD (IntKind.i64.wrap (gi y0 1-(1:Int))).toNat []).getD 0 (0:Int))
  ((uk.getD (IntKind.i64.wrap (gi y0 1-(1:Int))).toNat []).getD 1 (0:Int))
  ((uk.getD (IntKind.i64.wrap (gi y0 1-(1:Int))).toNat []).getD 2 (0:Int)) ((uk.getD (gi y0 1).toNat []).getD 0 (0:Int))
  ((uk.getD (gi y0 1).toNat []).getD 1 (0:Int)) ((uk.getD (gi y0 1).toNat []).getD 2 (0:Int)) then some (1,[]) else some (0,[.b (gb y0 0),.i (IntKind.i64.wrap (gi y0 1+(1:Int)))])))))) else some (3,[.b (gb y0 0),.i (gi y0 1)]))
noncomputable def xd6 (up uk:List (List Int)):Nat×List U:=xaf (xbz up uk) (xcY up uk)
noncomputable def xfN (up uk:List (List Int)) (y1:List U):List U :=
 [.b (false),.i ((0:Int))]
noncomputable def xcX (up uk:List (List Int)) (y1:List U) (y2:List U):Option (Nat×List U) :=
 (bif decide (gi y2 1<(↑uk.length:Int)) then xab ((gb y2 0=false)→(inR (gi y1 1) up)) (xab ((gb y2 0=false)→(inR (gi y1 1) up)) (xab ((gb y2 0=false)→(inR (gi y2 1) uk)) (xab ((gb y2 0=false)→(inR (gi y2 1) uk)) (some (0,[.b (gb y2 0 ||
 xhX ((up.getD (gi y1 1).toNat []).getD 0 (0:Int)) ((up.getD (gi y1 1).toNat []).getD 1 (0:Int))
  ((up.getD (gi y1 1).toNat []).getD 2 (0:Int) !=(0:Int)) ((up.getD (gi y1 1).toNat []).getD 3 (0:Int) !=(0:Int))
  ((uk.getD (gi y2 1).toNat []).getD 0 (0:Int)) ((uk.getD (gi y2 1).toNat []).getD 1 (0:Int))
  ((uk.getD (gi y2 1).toNat []).getD 2 (0:Int))),.i (IntKind.i64.wrap (gi y2 1+(1:Int)))]))))) else some (2,[.b (gb y2 0),.i (gi y2 1)]))
noncomputable def xkq (up uk:List (List Int)) (y1:List U):Nat×List U:=xaf (xcX up uk y1) (xfN up uk y1)
noncomputable def xhO (up uk:List (List Int)):List U :=
 [.b (gb (xd6 up uk).snd 0),.i ((0:Int))]
noncomputable def xa7 (up uk:List (List Int)) (y1:List U):Option (Nat×List U) :=
 (bif decide (gi y1 1<(↑up.length:Int)) then xab ((xav (xcX up uk y1) (xfN up uk y1))) ((bif !gb (xkq up uk y1).snd 0 then some (1,[]) else some (0,[.b (gb y1 0),.i (IntKind.i64.wrap (gi y1 1+(1:Int)))]))) else some (3,[.b (gb y1 0),.i (gi y1 1)]))
noncomputable def xqv (up uk:List (List Int)):Nat×List U:=xaf (xa7 up uk) (xhO up uk)
noncomputable def xfv (up uk:List (List Int)):Bool :=
 bif (xd6 up uk).fst.beq 1 then false else bif (xqv up uk).fst.beq 1 then false else true
def xeA (up uk:List (List Int)):Prop :=
 (((xav (xbz up uk) (xcY up uk)))∧(((xd6 up uk).fst.beq 1=false)→((xav (xa7 up uk) (xhO up uk)))))
noncomputable def xi4 (a b:List (List Int)):List U :=
 [.b (false),.i ((0:Int))]
noncomputable def xcg (a b:List (List Int)) (y0:List U):Option (Nat×List U) :=
 (bif decide (gi y0 1<(↑a.length:Int)) then xab (inR (gi y0 1) a) (xab (inR (gi y0 1) a) (xab (inR (gi y0 1) b) (xab (inR (gi y0 1) b) ((bif !((a.getD (gi y0 1).toNat []).getD 0 (0:Int)==(b.getD (gi y0 1).toNat []).getD 0 (0:Int) &&
  ((a.getD (gi y0 1).toNat []).getD 1 (0:Int)==(b.getD (gi y0 1).toNat []).getD 1 (0:Int) &&
   ((a.getD (gi y0 1).toNat []).getD 2 (0:Int)==(b.getD (gi y0 1).toNat []).getD 2 (0:Int)&&true))) then xab (inR (gi y0 1) a) (xab (inR (gi y0 1) a) (xab (inR (gi y0 1) b) (xab (inR (gi y0 1) b) (some (1,[.b (xbT ((a.getD (gi y0 1).toNat []).getD 0 (0:Int)) ((a.getD (gi y0 1).toNat []).getD 1 (0:Int))
 ((a.getD (gi y0 1).toNat []).getD 2 (0:Int)) ((b.getD (gi y0 1).toNat []).getD 0 (0:Int)) ((b.getD (gi y0 1).toNat []).getD 1 (0:Int))
 ((b.getD (gi y0 1).toNat []).getD 2 (0:Int)))]))))) else some (0,[.b (gb y0 0),.i (IntKind.i64.wrap (gi y0 1+(1:Int)))])))))) else some (3,[.b (gb y0 0),.i (gi y0 1)]))
noncomputable def xnX (a b:List (List Int)):Nat×List U:=xaf (xcg a b) (xi4 a b)
noncomputable def xhq (a b:List (List Int)):Bool :=
 bif (xnX a b).fst.beq 1 then gb (xnX a b).snd 0 else false
def xe7 (a b:List (List Int)):Prop :=
 ((xav (xcg a b) (xi4 a b)))
end Go.Proofs.YtikhnofbbcmpeaaGreat
set_option maxRecDepth 100000
set_option linter.unusedVariables false
namespace Go.Proofs.YtikhnofbbcmpeaaGreat
open Go Go.Sy
theorem xur (n:Int) (up:List (List Int)):xam Tryz.prog 1 (xaG Tryz.prog KOf xbt 9 81 [.sl 0,.int .i64 n] ⟨[⟨0,1,false,.row 3 [.int .i64] up⟩],1⟩)=some ⟨some (xdg n up),[],1,[⟨1,1,true,.row 3 [.int .i64] (xew n up)⟩],.sl 1⟩:=by kernel_rfl
noncomputable def xnJ:List U→Option Eff
 | [.i n,.r up]=>some ⟨some (xdg n up),[],1,[⟨1,1,true,.row 3 [.int .i64] (xew n up)⟩],.sl 1⟩
 | _=>Option.none
noncomputable def K45:Con:=ext Tryz.prog KOf 81 [.sl 0,.int .i64 0] [⟨0,0,false,.row 3 [.int .i64] []⟩] xnJ
theorem xHC:xaT Tryz.prog K45:=xak xar xG3 (n:=9) rfl rfl fun us x h=>by
 unfold xnJ at h
 split at h
 ·cases h; exact ⟨some (xdg _ _),xur _ _,fun h=>h⟩
 ·cases h
theorem xuq (uq un:Int) (um ul:List (List Int)):xam Tryz.prog 2 (xaG Tryz.prog K45 xbt 9 59 [.sl 0,.sl 1,.int .i64 uq,.int .i64 un] ⟨[⟨0,2,false,.nst 24 [.c (.int .i64),.s 29 [.int .i64,.int .i64,.int .i64,.int .u64]] um⟩,⟨1,2,false,.row 41 [.int .i64,.int .i64,.int .i64] ul⟩],2⟩)=some ⟨some (xfD uq un um ul),[],1,[⟨2,2,true,.row 52 [.int .i64,.int .i64] (xaE uq un um ul)⟩],.sl 2⟩:=by kernel_rfl
noncomputable def xnI:List U→Option Eff
 | [.i uq,.i un,.r um,.r ul]=>some ⟨some (xfD uq un um ul),[],1,[⟨2,2,true,.row 52 [.int .i64,.int .i64] (xaE uq un um ul)⟩],.sl 2⟩
 | _=>Option.none
noncomputable def K46:Con:=ext Tryz.prog K45 59 [.sl 0,.sl 1,.int .i64 0,.int .i64 0] [⟨0,0,false,.nst 24 [.c (.int .i64),.s 29 [.int .i64,.int .i64,.int .i64,.int .u64]] []⟩,⟨1,0,false,.row 41 [.int .i64,.int .i64,.int .i64] []⟩] xnI
theorem xHB:xaT Tryz.prog K46:=xak xar xHC (n:=9) rfl rfl fun us x h=>by
 unfold xnI at h
 split at h
 ·cases h; exact ⟨some (xfD _ _ _ _),xuq _ _ _ _,fun h=>h⟩
 ·cases h
theorem xxf (uc uq un g_Ship g_Item:Int) (ud ul:List (List Int)):xam Tryz.prog 2 (xaG Tryz.prog K46 xbt 9 60 [.agg [.int .i64 uc,.sl 0],.sl 1,.int .i64 uq,.int .i64 un,.agg [.int .i64 g_Ship,.int .i64 g_Item]] ⟨[⟨0,2,false,.row 29 [.int .i64,.int .i64,.int .i64,.int .u64] ud⟩,⟨1,2,false,.row 41 [.int .i64,.int .i64,.int .i64] ul⟩],2⟩)=some ⟨some (xha uc uq un g_Ship g_Item ud ul),[],0,[],.bool (xkn uc uq un g_Ship g_Item ud ul)⟩:=by kernel_rfl
noncomputable def xrq:List U→Option Eff
 | [.i uc,.i uq,.i un,.i g_Ship,.i g_Item,.r ud,.r ul]=>some ⟨some (xha uc uq un g_Ship g_Item ud ul),[],0,[],.bool (xkn uc uq un g_Ship g_Item ud ul)⟩
 | _=>Option.none
noncomputable def K47:Con:=ext Tryz.prog K46 60 [.agg [.int .i64 0,.sl 0],.sl 1,.int .i64 0,.int .i64 0,.agg [.int .i64 0,.int .i64 0]] [⟨0,0,false,.row 29 [.int .i64,.int .i64,.int .i64,.int .u64] []⟩,⟨1,0,false,.row 41 [.int .i64,.int .i64,.int .i64] []⟩] xrq
theorem xHA:xaT Tryz.prog K47:=xak xar xHB (n:=9) rfl rfl fun us x h=>by
 unfold xrq at h
 split at h
 ·cases h; exact ⟨some (xha _ _ _ _ _ _ _),xxf _ _ _ _ _ _ _,fun h=>h⟩
 ·cases h
theorem xv3 (ua uq un:Int) (ub um ul:List (List Int)):xam Tryz.prog 3 (xaG Tryz.prog K47 xbt 9 25 [.agg [.int .i64 ua,.sl 0],.sl 1,.sl 2,.int .i64 uq,.int .i64 un] ⟨[⟨0,3,false,.row 29 [.int .i64,.int .i64,.int .i64,.int .u64] ub⟩,⟨1,3,false,.nst 24 [.c (.int .i64),.s 29 [.int .i64,.int .i64,.int .i64,.int .u64]] um⟩,⟨2,3,false,.row 41 [.int .i64,.int .i64,.int .i64] ul⟩],3⟩)=some ⟨some (xfl ua uq un ub um ul),[],1,[⟨3,3,true,.row 105 [.int .i64,.int .i64,.bool,.bool] (xdI ua uq un ub um ul)⟩],.sl 3⟩:=by kernel_rfl
noncomputable def xpp:List U→Option Eff
 | [.i ua,.i uq,.i un,.r ub,.r um,.r ul]=>some ⟨some (xfl ua uq un ub um ul),[],1,[⟨3,3,true,.row 105 [.int .i64,.int .i64,.bool,.bool] (xdI ua uq un ub um ul)⟩],.sl 3⟩
 | _=>Option.none
noncomputable def K48:Con:=ext Tryz.prog K47 25 [.agg [.int .i64 0,.sl 0],.sl 1,.sl 2,.int .i64 0,.int .i64 0] [⟨0,0,false,.row 29 [.int .i64,.int .i64,.int .i64,.int .u64] []⟩,⟨1,0,false,.nst 24 [.c (.int .i64),.s 29 [.int .i64,.int .i64,.int .i64,.int .u64]] []⟩,⟨2,0,false,.row 41 [.int .i64,.int .i64,.int .i64] []⟩] xpp
theorem xHz:xaT Tryz.prog K48:=xak xar xHA (n:=9) rfl rfl fun us x h=>by
 unfold xpp at h
 split at h
 ·cases h; exact ⟨some (xfl _ _ _ _ _ _),xv3 _ _ _ _ _ _,fun h=>h⟩
 ·cases h
theorem xv2 (x_Gap_Ship x_Gap_Item:Int) (x_Sent x_On:Bool) (o_Kind o_Ship o_Item:Int):xam Tryz.prog 0 (xaG Tryz.prog K48 xbt 9 62 [.agg [.int .i64 x_Gap_Ship,.int .i64 x_Gap_Item,.bool x_Sent,.bool x_On],.agg [.int .i64 o_Kind,.int .i64 o_Ship,.int .i64 o_Item]] ⟨[],0⟩)=some ⟨none,[],0,[],.bool (xhX x_Gap_Ship x_Gap_Item x_Sent x_On o_Kind o_Ship o_Item)⟩:=by kernel_rfl
noncomputable def xpo:List U→Option Eff
 | [.i x_Gap_Ship,.i x_Gap_Item,.b x_Sent,.b x_On,.i o_Kind,.i o_Ship,.i o_Item]=>some ⟨none,[],0,[],.bool (xhX x_Gap_Ship x_Gap_Item x_Sent x_On o_Kind o_Ship o_Item)⟩
 | _=>Option.none
noncomputable def K49:Con:=ext Tryz.prog K48 62 [.agg [.int .i64 0,.int .i64 0,.bool false,.bool false],.agg [.int .i64 0,.int .i64 0,.int .i64 0]] [] xpo
theorem xHy:xaT Tryz.prog K49:=xak xar xHz (n:=9) rfl rfl fun us x h=>by
 unfold xpo at h
 split at h
 ·cases h; exact ⟨none,xv2 _ _ _ _ _ _ _,fun _=>trivial⟩
 ·cases h
theorem xsb (a_Kind a_Ship a_Item b_Kind b_Ship b_Item:Int):xam Tryz.prog 0 (xaG Tryz.prog K49 xbt 9 61 [.agg [.int .i64 a_Kind,.int .i64 a_Ship,.int .i64 a_Item],.agg [.int .i64 b_Kind,.int .i64 b_Ship,.int .i64 b_Item]] ⟨[],0⟩)=some ⟨none,[],0,[],.bool (xbT a_Kind a_Ship a_Item b_Kind b_Ship b_Item)⟩:=by kernel_rfl
noncomputable def xlA:List U→Option Eff
 | [.i a_Kind,.i a_Ship,.i a_Item,.i b_Kind,.i b_Ship,.i b_Item]=>some ⟨none,[],0,[],.bool (xbT a_Kind a_Ship a_Item b_Kind b_Ship b_Item)⟩
 | _=>Option.none
noncomputable def K50:Con:=ext Tryz.prog K49 61 [.agg [.int .i64 0,.int .i64 0,.int .i64 0],.agg [.int .i64 0,.int .i64 0,.int .i64 0]] [] xlA
theorem xHx:xaT Tryz.prog K50:=xak xar xHy (n:=9) rfl rfl fun us x h=>by
 unfold xlA at h
 split at h
 ·cases h; exact ⟨none,xsb _ _ _ _ _ _,fun _=>trivial⟩
 ·cases h
theorem xpm (up uk:List (List Int)):xam Tryz.prog 2 (xaG Tryz.prog K50 xbt 9 26 [.sl 0,.sl 1] ⟨[⟨0,2,false,.row 105 [.int .i64,.int .i64,.bool,.bool] up⟩,⟨1,2,false,.row 80 [.int .i64,.int .i64,.int .i64] uk⟩],2⟩)=some ⟨some (xeA up uk),[],0,[],.bool (xfv up uk)⟩:=by kernel_rfl
noncomputable def xjy:List U→Option Eff
 | [.r up,.r uk]=>some ⟨some (xeA up uk),[],0,[],.bool (xfv up uk)⟩
 | _=>Option.none
noncomputable def K51:Con:=ext Tryz.prog K50 26 [.sl 0,.sl 1] [⟨0,0,false,.row 105 [.int .i64,.int .i64,.bool,.bool] []⟩,⟨1,0,false,.row 80 [.int .i64,.int .i64,.int .i64] []⟩] xjy
theorem xHw:xaT Tryz.prog K51:=xak xar xHx (n:=9) rfl rfl fun us x h=>by
 unfold xjy at h
 split at h
 ·cases h; exact ⟨some (xeA _ _),xpm _ _,fun h=>h⟩
 ·cases h
theorem xtd (a b:List (List Int)):xam Tryz.prog 2 (xaG Tryz.prog K51 xbt 9 27 [.sl 0,.sl 1] ⟨[⟨0,2,false,.row 80 [.int .i64,.int .i64,.int .i64] a⟩,⟨1,2,false,.row 80 [.int .i64,.int .i64,.int .i64] b⟩],2⟩)=some ⟨some (xe7 a b),[],0,[],.bool (xhq a b)⟩:=by kernel_rfl
noncomputable def xmm:List U→Option Eff
 | [.r a,.r b]=>some ⟨some (xe7 a b),[],0,[],.bool (xhq a b)⟩
 | _=>Option.none
noncomputable def K52:Con:=ext Tryz.prog K51 27 [.sl 0,.sl 1] [⟨0,0,false,.row 80 [.int .i64,.int .i64,.int .i64] []⟩,⟨1,0,false,.row 80 [.int .i64,.int .i64,.int .i64] []⟩] xmm
theorem xHv:xaT Tryz.prog K52:=xak xar xHw (n:=9) rfl rfl fun us x h=>by
 unfold xmm at h
 split at h
 ·cases h; exact ⟨some (xe7 _ _),xtd _ _,fun h=>h⟩
 ·cases h
end Go.Proofs.YtikhnofbbcmpeaaGreat
set_option maxRecDepth 100000
set_option linter.unusedVariables false
namespace Go.Proofs.YtikhnofbbcmpeaaGreat
open Go Go.Sy
noncomputable def xaI (t:Int):Bool :=
 decide (t≥(0:Int))&&decide (t≤(10000000:Int))
noncomputable def xdq (n:Int):Bool :=
 decide (n≥(1:Int))&&decide (n≤(10000:Int))
noncomputable def xcj (uq uu ut:Int):Bool :=
 bif !xaI uq then false else bif uu==(4:Int)||uu==(5:Int) then ut==(0:Int) else xdq ut&&(uu==(1:Int)||uu==(2:Int)||uu==(3:Int))
noncomputable def xdb (owner uu:Int):Bool :=
 (owner==(0:Int))==(uu==(1:Int))
noncomputable def xmn (up:List (List Int)) (y0:List U):Int :=
 (IntKind.u64.wrap (bXor IntKind.u64 (gi y0 0) (IntKind.u64.wrap ((up.getD (gi y0 1).toNat []).getD 0 (0:Int)))*(11507291218515648293:Int))).fdiv
 ((2:Int) ^ min (Int.toNat (32:Int)) IntKind.u64.bits)
noncomputable def xgJ (up:List (List Int)):List U :=
 [.i (IntKind.u64.wrap ((11400714819323198485:Int)+IntKind.u64.wrap (↑up.length:Int))),.i ((0:Int))]
noncomputable def xdO (up:List (List Int)) (y0:List U):Option (Nat×List U) :=
 (bif decide (gi y0 1<(↑up.length:Int)) then xab (inR (gi y0 1) up) (xab (inR (gi y0 1) up) (xab ((0:Int)≤(32:Int)) (some (0,[.i (bXor IntKind.u64 (IntKind.u64.wrap (bXor IntKind.u64 (gi y0 0) (IntKind.u64.wrap ((up.getD (gi y0 1).toNat []).getD 0 (0:Int)))*(11507291218515648293:Int)))
 ((xmn up y0))),.i (IntKind.i64.wrap (gi y0 1+(1:Int)))])))) else some (2,[.i (gi y0 0),.i (gi y0 1)]))
noncomputable def xmo (up:List (List Int)):Nat×List U:=xaf (xdO up) (xgJ up)
noncomputable def xgR (up:List (List Int)):Int :=
 gi (xmo up).snd 0
def xfw (up:List (List Int)):Prop :=
 ((xav (xdO up) (xgJ up)))
noncomputable def xga (owner last l_Time l_Kind l_Item l_Sum:Int):Int :=
 xgR [[owner],[IntKind.i64.wrap last],[l_Time],[l_Kind],[l_Item]]
def xfi (owner last l_Time l_Kind l_Item l_Sum:Int):Prop :=
 (xfw [[owner],[IntKind.i64.wrap last],[l_Time],[l_Kind],[l_Item]])
noncomputable def xnK (ue:Int) (uf:List (List Int)) (y0:List U):Int :=
 xga ue (gi y0 2) ((uf.getD (gi y0 3).toNat []).getD 0 (0:Int)) ((uf.getD (gi y0 3).toNat []).getD 1 (0:Int))
 ((uf.getD (gi y0 3).toNat []).getD 2 (0:Int)) ((uf.getD (gi y0 3).toNat []).getD 3 (0:Int))
noncomputable def xi0 (ue:Int) (uf:List (List Int)):List U :=
 [.b (false),.b (false),.i ((0:Int)),.i ((0:Int))]
noncomputable def xee (ue:Int) (uf:List (List Int)) (y0:List U):Option (Nat×List U) :=
 (bif decide (gi y0 3<(↑uf.length:Int)) then xab (inR (gi y0 3) uf) (xab (inR (gi y0 3) uf) (xab (((!xcj ((uf.getD (gi y0 3).toNat []).getD 0 (0:Int)) ((uf.getD (gi y0 3).toNat []).getD 1 (0:Int))
    ((uf.getD (gi y0 3).toNat []).getD 2 (0:Int)) ||
  !xdb ue ((uf.getD (gi y0 3).toNat []).getD 1 (0:Int))) =
 false)→((decide (gi y0 3>(0:Int))=true)→(inR (IntKind.i64.wrap (gi y0 3-(1:Int))) uf))) (xab (((!xcj ((uf.getD (gi y0 3).toNat []).getD 0 (0:Int)) ((uf.getD (gi y0 3).toNat []).getD 1 (0:Int))
    ((uf.getD (gi y0 3).toNat []).getD 2 (0:Int)) ||
  !xdb ue ((uf.getD (gi y0 3).toNat []).getD 1 (0:Int))) =
 false)→((decide (gi y0 3>(0:Int))=true)→(inR (IntKind.i64.wrap (gi y0 3-(1:Int))) uf))) (xab (((!xcj ((uf.getD (gi y0 3).toNat []).getD 0 (0:Int)) ((uf.getD (gi y0 3).toNat []).getD 1 (0:Int))
    ((uf.getD (gi y0 3).toNat []).getD 2 (0:Int)) ||
  !xdb ue ((uf.getD (gi y0 3).toNat []).getD 1 (0:Int))) =
 false)→((decide (gi y0 3>(0:Int))=true)→(inR (IntKind.i64.wrap (gi y0 3-(1:Int))) uf))) (xab (((!xcj ((uf.getD (gi y0 3).toNat []).getD 0 (0:Int)) ((uf.getD (gi y0 3).toNat []).getD 1 (0:Int))
     ((uf.getD (gi y0 3).toNat []).getD 2 (0:Int)) ||
   !xdb ue ((uf.getD (gi y0 3).toNat []).getD 1 (0:Int)) ||
  decide (gi y0 3>(0:Int)) &&
   decide ((uf.getD (gi y0 3).toNat []).getD 0 (0:Int)<(uf.getD (IntKind.i64.wrap (gi y0 3-(1:Int))).toNat []).getD 0 (0:Int))) =
 false)→(xfi ue (gi y0 2) ((uf.getD (gi y0 3).toNat []).getD 0 (0:Int)) ((uf.getD (gi y0 3).toNat []).getD 1 (0:Int))
 ((uf.getD (gi y0 3).toNat []).getD 2 (0:Int)) ((uf.getD (gi y0 3).toNat []).getD 3 (0:Int)))) ((bif !xcj ((uf.getD (gi y0 3).toNat []).getD 0 (0:Int)) ((uf.getD (gi y0 3).toNat []).getD 1 (0:Int))
     ((uf.getD (gi y0 3).toNat []).getD 2 (0:Int)) ||
   !xdb ue ((uf.getD (gi y0 3).toNat []).getD 1 (0:Int)) ||
  decide (gi y0 3>(0:Int)) &&
   decide ((uf.getD (gi y0 3).toNat []).getD 0 (0:Int)<(uf.getD (IntKind.i64.wrap (gi y0 3-(1:Int))).toNat []).getD 0 (0:Int)) ||
 (uf.getD (gi y0 3).toNat []).getD 3 (0:Int) !=(xnK ue uf y0) then some (1,[]) else (bif (uf.getD (gi y0 3).toNat []).getD 1 (0:Int)==(4:Int)&&gb y0 1 ||
 (uf.getD (gi y0 3).toNat []).getD 1 (0:Int)==(5:Int)&&!gb y0 1 then some (2,[]) else (bif (uf.getD (gi y0 3).toNat []).getD 1 (0:Int)==(4:Int)||(uf.getD (gi y0 3).toNat []).getD 1 (0:Int)==(5:Int) then some (0,[.b (gb y0 0),.b ((uf.getD (gi y0 3).toNat []).getD 1 (0:Int)==(4:Int)),.i ((uf.getD (gi y0 3).toNat []).getD 3 (0:Int)),.i (IntKind.i64.wrap (gi y0 3+(1:Int)))]) else some (0,[.b (gb y0 0),.b (gb y0 1),.i ((uf.getD (gi y0 3).toNat []).getD 3 (0:Int)),.i (IntKind.i64.wrap (gi y0 3+(1:Int)))])))))))))) else some (5,[.b (gb y0 0),.b (gb y0 1),.i (gi y0 2),.i (gi y0 3)]))
noncomputable def xjU (ue:Int) (uf:List (List Int)):Nat×List U:=xaf (xee ue uf) (xi0 ue uf)
noncomputable def xaq (ue:Int) (uf:List (List Int)):Bool :=
 bif decide (ue<(0:Int))||decide (ue>(8:Int))||decide ((↑uf.length:Int)>(200:Int)) then false
else bif (xjU ue uf).fst.beq 1 then false else bif (xjU ue uf).fst.beq 2 then false else true
def xbs (ue:Int) (uf:List (List Int)):Prop :=
 (((decide (ue<(0:Int))||decide (ue>(8:Int))||decide ((↑uf.length:Int)>(200:Int)))=false)→((xav (xee ue uf) (xi0 ue uf))))
noncomputable def xrA (ue uq uu ut:Int) (uf:List (List Int)):List (List Int) :=
 []++uf++[[uq,uu,ut,xga ue ((uf.getD (IntKind.i64.wrap ((↑uf.length:Int)-(1:Int))).toNat []).getD 3 (0:Int)) uq uu ut (0:Int)]]
noncomputable def xrz (ue uq uu ut:Int) (uf:List (List Int)):List (List Int) :=
 bif decide (uq<(uf.getD (IntKind.i64.wrap ((↑uf.length:Int)-(1:Int))).toNat []).getD 0 (0:Int)) then []
else bif uu==(4:Int)&&xaR ue (10000000:Int) uf||uu==(5:Int)&&!xaR ue (10000000:Int) uf then [] else (xrA ue uq uu ut uf)
noncomputable def xry (ue uq uu ut:Int) (uf:List (List Int)):List (List Int) :=
 bif uu==(4:Int)&&xaR ue (10000000:Int) uf||uu==(5:Int)&&!xaR ue (10000000:Int) uf then []
else []++uf++[[uq,uu,ut,xga ue (0:Int) uq uu ut (0:Int)]]
noncomputable def xrx (ue uq uu ut:Int) (uf:List (List Int)):List (List Int) :=
 bif decide ((↑uf.length:Int)≥(200:Int)) then [] else bif decide ((↑uf.length:Int)>(0:Int)) then (xrz ue uq uu ut uf) else (xry ue uq uu ut uf)
noncomputable def xei (ue uq uu ut:Int) (uf:List (List Int)):List (List Int) :=
 bif !xaq ue uf||!xcj uq uu ut then [] else bif !xdb ue uu then [] else (xrx ue uq uu ut uf)
noncomputable def xrw (ue uq uu ut:Int) (uf:List (List Int)):Int :=
 bif decide (uq<(uf.getD (IntKind.i64.wrap ((↑uf.length:Int)-(1:Int))).toNat []).getD 0 (0:Int)) then (0:Int)
else bif uu==(4:Int)&&xaR ue (10000000:Int) uf||uu==(5:Int)&&!xaR ue (10000000:Int) uf then (0:Int) else ue
noncomputable def xrv (ue uq uu ut:Int) (uf:List (List Int)):Int :=
 bif decide ((↑uf.length:Int)>(0:Int)) then (xrw ue uq uu ut uf)
else bif uu==(4:Int)&&xaR ue (10000000:Int) uf||uu==(5:Int)&&!xaR ue (10000000:Int) uf then (0:Int) else ue
noncomputable def xeh (ue uq uu ut:Int) (uf:List (List Int)):Int :=
 bif !xaq ue uf||!xcj uq uu ut then (0:Int)
else bif !xdb ue uu then (0:Int) else bif decide ((↑uf.length:Int)≥(200:Int)) then (0:Int) else (xrv ue uq uu ut uf)
noncomputable def xru (ue uq uu ut:Int) (uf:List (List Int)):Int :=
 bif decide (uq<(uf.getD (IntKind.i64.wrap ((↑uf.length:Int)-(1:Int))).toNat []).getD 0 (0:Int)) then (13:Int)
else bif uu==(4:Int)&&xaR ue (10000000:Int) uf||uu==(5:Int)&&!xaR ue (10000000:Int) uf then (6:Int) else (0:Int)
noncomputable def xrt (ue uq uu ut:Int) (uf:List (List Int)):Int :=
 bif decide ((↑uf.length:Int)>(0:Int)) then (xru ue uq uu ut uf)
else bif uu==(4:Int)&&xaR ue (10000000:Int) uf||uu==(5:Int)&&!xaR ue (10000000:Int) uf then (6:Int) else (0:Int)
noncomputable def xeP (ue uq uu ut:Int) (uf:List (List Int)):Int :=
 bif !xaq ue uf||!xcj uq uu ut then (1:Int)
else bif !xdb ue uu then (12:Int) else bif decide ((↑uf.length:Int)≥(200:Int)) then (2:Int) else (xrt ue uq uu ut uf)
def xhr (ue uq uu ut:Int) (uf:List (List Int)):Prop :=
 ((xbs ue uf)∧(((!xaq ue uf||!xcj uq uu ut)=false)→(((!xdb ue uu)=false)→((decide ((↑uf.length:Int)≥(200:Int))=false)→(((decide ((↑uf.length:Int)>(0:Int))=true)→((inR (IntKind.i64.wrap ((↑uf.length:Int)-(1:Int))) uf)∧((inR (IntKind.i64.wrap ((↑uf.length:Int)-(1:Int))) uf)∧((inR (IntKind.i64.wrap ((↑uf.length:Int)-(1:Int))) uf)∧((decide (uq<(uf.getD (IntKind.i64.wrap ((↑uf.length:Int)-(1:Int))).toNat []).getD 0 (0:Int))=false)→((inR (IntKind.i64.wrap ((↑uf.length:Int)-(1:Int))) uf)∧((inR (IntKind.i64.wrap ((↑uf.length:Int)-(1:Int))) uf)∧((inR (IntKind.i64.wrap ((↑uf.length:Int)-(1:Int))) uf)∧((xez ue (10000000:Int) uf)∧(((uu==(4:Int)&&xaR ue (10000000:Int) uf||uu==(5:Int)&&!xaR ue (10000000:Int) uf)=false)→((xfi ue ((uf.getD (IntKind.i64.wrap ((↑uf.length:Int)-(1:Int))).toNat []).getD 3 (0:Int)) uq uu ut (0:Int))∧((xa5 32 (0+uf.length))∧(xa5 32
 (([]++uf).length +
  [[uq,uu,ut,xga ue ((uf.getD (IntKind.i64.wrap ((↑uf.length:Int)-(1:Int))).toNat []).getD 3 (0:Int)) uq uu ut (0:Int)]].length))))))))))))))∧((decide ((↑uf.length:Int)>(0:Int))=false)→((xez ue (10000000:Int) uf)∧(((uu==(4:Int)&&xaR ue (10000000:Int) uf||uu==(5:Int)&&!xaR ue (10000000:Int) uf)=false)→((xfi ue (0:Int) uq uu ut (0:Int))∧((xa5 32 (0+uf.length))∧(xa5 32 (([]++uf).length+[[uq,uu,ut,xga ue (0:Int) uq uu ut (0:Int)]].length))))))))))))
noncomputable def xgb (ug uh ui uj:Int):Bool :=
 xaI uh&&decide (ug≥(0:Int))&&decide (ug≤(8:Int))&&decide (ui≥(0:Int))&&decide (ui≤(200:Int)) &&
 (decide (ui>(0:Int))||uj==(0:Int))
noncomputable def xi3 (ue ug uh ui uj:Int) (uf:List (List Int)):List U :=
 [.i ((0:Int)),.i ((0:Int)),.i ((0:Int))]
noncomputable def xcf (ue ug uh ui uj:Int) (uf:List (List Int)) (y0:List U):Option (Nat×List U) :=
 (bif decide (gi y0 2<(↑uf.length:Int))&&decide (gi y0 2<ui) then xab (inR (gi y0 2) uf) (xab (inR (gi y0 2) uf) (xab (inR (gi y0 2) uf) ((bif decide ((uf.getD (gi y0 2).toNat []).getD 0 (0:Int)>uh) then some (1,[]) else some (0,[.i (gi y0 0),.i (gi y0 1),.i (IntKind.i64.wrap (gi y0 2+(1:Int)))]))))) else some (3,[.i (gi y0 0),.i (gi y0 1),.i (gi y0 2)]))
noncomputable def xjW (ue ug uh ui uj:Int) (uf:List (List Int)):Nat×List U:=xaf (xcf ue ug uh ui uj uf) (xi3 ue ug uh ui uj uf)
noncomputable def xnV (ue ug uh ui uj:Int) (uf:List (List Int)):Int :=
 bif decide ((↑uf.length:Int)≥ui)&&decide (ui>(0:Int))&&(uf.getD (IntKind.i64.wrap (ui-(1:Int))).toNat []).getD 3 (0:Int) !=uj then (0:Int)
else bif (xjW ue ug uh ui uj uf).fst.beq 1 then (0:Int) else imax (0:Int) (IntKind.i64.wrap (ui-(↑uf.length:Int)))
noncomputable def xdj (ue ug uh ui uj:Int) (uf:List (List Int)):Int :=
 bif !xaq ue uf||!xgb ug uh ui uj||ue !=ug then (0:Int) else (xnV ue ug uh ui uj uf)
noncomputable def xnU (ue ug uh ui uj:Int) (uf:List (List Int)):Int :=
 bif decide ((↑uf.length:Int)≥ui)&&decide (ui>(0:Int))&&(uf.getD (IntKind.i64.wrap (ui-(1:Int))).toNat []).getD 3 (0:Int) !=uj then (18:Int)
else bif (xjW ue ug uh ui uj uf).fst.beq 1 then (18:Int) else (0:Int)
noncomputable def xdi (ue ug uh ui uj:Int) (uf:List (List Int)):Int :=
 bif !xaq ue uf||!xgb ug uh ui uj||ue !=ug then (1:Int) else (xnU ue ug uh ui uj uf)
def xe6 (ue ug uh ui uj:Int) (uf:List (List Int)):Prop :=
 ((xbs ue uf)∧(((!xaq ue uf||!xgb ug uh ui uj||ue !=ug)=false)→((((decide ((↑uf.length:Int)≥ui)&&decide (ui>(0:Int)))=true)→(inR (IntKind.i64.wrap (ui-(1:Int))) uf))∧((((decide ((↑uf.length:Int)≥ui)&&decide (ui>(0:Int)))=true)→(inR (IntKind.i64.wrap (ui-(1:Int))) uf))∧((((decide ((↑uf.length:Int)≥ui)&&decide (ui>(0:Int)))=true)→(inR (IntKind.i64.wrap (ui-(1:Int))) uf))∧(((decide ((↑uf.length:Int)≥ui)&&decide (ui>(0:Int))&&(uf.getD (IntKind.i64.wrap (ui-(1:Int))).toNat []).getD 3 (0:Int) !=uj)=false)→((xav (xcf ue ug uh ui uj uf) (xi3 ue ug uh ui uj uf)))))))))
noncomputable def xdr (up:List (List Int)):List U :=
 [.b (false),.i ((0:Int))]
noncomputable def xbP (up:List (List Int)) (y0:List U):Option (Nat×List U) :=
 (bif decide (gi y0 1<(↑up.length:Int)) then xab (inR (gi y0 1) up) (xab (inR (gi y0 1) up) (xab (inR (gi y0 1) up) (xab (inR (gi y0 1) up) (xab (inR (gi y0 1) up) (xab (inR (gi y0 1) up) (xab (((!xaI ((up.getD (gi y0 1).toNat []).getD 2 (0:Int))||!xdq ((up.getD (gi y0 1).toNat []).getD 1 (0:Int)))=false)→(inR (gi y0 1) up)) (xab (((!xaI ((up.getD (gi y0 1).toNat []).getD 2 (0:Int))||!xdq ((up.getD (gi y0 1).toNat []).getD 1 (0:Int)))=false)→(inR (gi y0 1) up)) (xab (((!xaI ((up.getD (gi y0 1).toNat []).getD 2 (0:Int))||!xdq ((up.getD (gi y0 1).toNat []).getD 1 (0:Int)))=false)→(inR (gi y0 1) up)) (xab (((!xaI ((up.getD (gi y0 1).toNat []).getD 2 (0:Int))||!xdq ((up.getD (gi y0 1).toNat []).getD 1 (0:Int)) ||
  decide ((up.getD (gi y0 1).toNat []).getD 0 (0:Int)<(1:Int))) =
 false)→(inR (gi y0 1) up)) (xab (((!xaI ((up.getD (gi y0 1).toNat []).getD 2 (0:Int))||!xdq ((up.getD (gi y0 1).toNat []).getD 1 (0:Int)) ||
  decide ((up.getD (gi y0 1).toNat []).getD 0 (0:Int)<(1:Int))) =
 false)→(inR (gi y0 1) up)) (xab (((!xaI ((up.getD (gi y0 1).toNat []).getD 2 (0:Int))||!xdq ((up.getD (gi y0 1).toNat []).getD 1 (0:Int)) ||
  decide ((up.getD (gi y0 1).toNat []).getD 0 (0:Int)<(1:Int))) =
 false)→(inR (gi y0 1) up)) ((bif !xaI ((up.getD (gi y0 1).toNat []).getD 2 (0:Int))||!xdq ((up.getD (gi y0 1).toNat []).getD 1 (0:Int)) ||
  decide ((up.getD (gi y0 1).toNat []).getD 0 (0:Int)<(1:Int)) ||
 decide ((up.getD (gi y0 1).toNat []).getD 0 (0:Int)>(8:Int)) then some (1,[]) else some (0,[.b (gb y0 0),.i (IntKind.i64.wrap (gi y0 1+(1:Int)))])))))))))))))) else some (3,[.b (gb y0 0),.i (gi y0 1)]))
noncomputable def xlz (up:List (List Int)):Nat×List U:=xaf (xbP up) (xdr up)
noncomputable def xcx (up:List (List Int)):Bool :=
 bif decide ((↑up.length:Int)>(200:Int)) then false else bif (xlz up).fst.beq 1 then false else true
def xd8 (up:List (List Int)):Prop :=
 ((decide ((↑up.length:Int)>(200:Int))=false)→((xav (xbP up) (xdr up))))
noncomputable def xi2 (ua uc uq:Int) (ub ud ul:List (List Int)):List U :=
 [.i ((0:Int)),.r ([])]
noncomputable def xdc (ua uc uq:Int) (ub ud ul:List (List Int)) (y0:List U):Option (Nat×List U) :=
 (bif decide (gi y0 0<(↑ul.length:Int)) then xab (inR (gi y0 0) ul) (xab (inR (gi y0 0) ul) (xab (xfk ua (1:Int) ((ul.getD (gi y0 0).toNat []).getD 1 (0:Int)) ((ul.getD (gi y0 0).toNat []).getD 2 (0:Int))
 ((ul.getD (gi y0 0).toNat []).getD 2 (0:Int)) ub) (xab (xez uc ((ul.getD (gi y0 0).toNat []).getD 2 (0:Int)) ud) ((bif (ul.getD (gi y0 0).toNat []).getD 0 (0:Int)==uc&&decide ((ul.getD (gi y0 0).toNat []).getD 2 (0:Int)≤uq) &&
  xeN ua (1:Int) ((ul.getD (gi y0 0).toNat []).getD 1 (0:Int)) ((ul.getD (gi y0 0).toNat []).getD 2 (0:Int))
   ((ul.getD (gi y0 0).toNat []).getD 2 (0:Int)) ub &&
 !xaR uc ((ul.getD (gi y0 0).toNat []).getD 2 (0:Int)) ud then xab (xdg ((ul.getD (gi y0 0).toNat []).getD 1 (0:Int)) (gr y0 1)) (some (0,[.i (IntKind.i64.wrap (gi y0 0+(1:Int))),.r (xew ((ul.getD (gi y0 0).toNat []).getD 1 (0:Int)) (gr y0 1))])) else some (0,[.i (IntKind.i64.wrap (gi y0 0+(1:Int))),.r (gr y0 1)])))))) else some (3,[.i (gi y0 0),.r (gr y0 1)]))
noncomputable def xuB (ua uc uq:Int) (ub ud ul:List (List Int)):Nat×List U:=xaf (xdc ua uc uq ub ud ul) (xi2 ua uc uq ub ud ul)
noncomputable def xdh (ua uc uq:Int) (ub ud ul:List (List Int)):List (List Int) :=
 bif !xaq ua ub||!xaq uc ud||!xcx ul||!xaI uq||ua !=(0:Int)||uc==(0:Int) then []
else gr (xuB ua uc uq ub ud ul).snd 1
noncomputable def xdV (ua uc uq:Int) (ub ud ul:List (List Int)):Int :=
 bif !xaq ua ub||!xaq uc ud||!xcx ul||!xaI uq||ua !=(0:Int)||uc==(0:Int) then
 (1:Int)
else (0:Int)
def xe5 (ua uc uq:Int) (ub ud ul:List (List Int)):Prop :=
 ((xbs ua ub)∧((xbs uc ud)∧((xd8 ul)∧(((!xaq ua ub||!xaq uc ud||!xcx ul||!xaI uq||ua !=(0:Int)||uc==(0:Int))=false)→((xav (xdc ua uc uq ub ud ul) (xi2 ua uc uq ub ud ul)))))))
noncomputable def xi1 (ue uq:Int) (uf:List (List Int)):List U :=
 [.i ((0:Int)),.r ([])]
noncomputable def xc9 (ue uq:Int) (uf:List (List Int)) (y0:List U):Option (Nat×List U) :=
 (bif decide (gi y0 0<(↑uf.length:Int)) then xab (inR (gi y0 0) uf) (xab (inR (gi y0 0) uf) (xab (inR (gi y0 0) uf) (xab ((((uf.getD (gi y0 0).toNat []).getD 1 (0:Int)==(3:Int))=true)→(inR (gi y0 0) uf)) (xab ((((uf.getD (gi y0 0).toNat []).getD 1 (0:Int)==(3:Int))=true)→(inR (gi y0 0) uf)) (xab ((((uf.getD (gi y0 0).toNat []).getD 1 (0:Int)==(3:Int))=true)→(inR (gi y0 0) uf)) ((bif (uf.getD (gi y0 0).toNat []).getD 1 (0:Int)==(3:Int)&&decide ((uf.getD (gi y0 0).toNat []).getD 0 (0:Int)≤uq) then xab (inR (gi y0 0) uf) (xab (inR (gi y0 0) uf) (xab (inR (gi y0 0) uf) (xab (xdg ((uf.getD (gi y0 0).toNat []).getD 2 (0:Int)) (gr y0 1)) (some (0,[.i (IntKind.i64.wrap (gi y0 0+(1:Int))),.r (xew ((uf.getD (gi y0 0).toNat []).getD 2 (0:Int)) (gr y0 1))]))))) else some (0,[.i (IntKind.i64.wrap (gi y0 0+(1:Int))),.r (gr y0 1)])))))))) else some (3,[.i (gi y0 0),.r (gr y0 1)]))
noncomputable def xut (ue uq:Int) (uf:List (List Int)):Nat×List U:=xaf (xc9 ue uq uf) (xi1 ue uq uf)
noncomputable def xdT (ue uq:Int) (uf:List (List Int)):List (List Int) :=
 bif !xaq ue uf||!xaI uq then [] else gr (xut ue uq uf).snd 1
noncomputable def xex (ue uq:Int) (uf:List (List Int)):Int :=
 bif !xaq ue uf||!xaI uq then (1:Int) else (0:Int)
def xe0 (ue uq:Int) (uf:List (List Int)):Prop :=
 ((xbs ue uf)∧(((!xaq ue uf||!xaI uq)=false)→((xav (xc9 ue uq uf) (xi1 ue uq uf)))))
noncomputable def xjA (ua uq un:Int) (ub um ul:List (List Int)):List U :=
 [.b (false),.i ((0:Int))]
noncomputable def xdC (ua uq un:Int) (ub um ul:List (List Int)) (y0:List U):Option (Nat×List U) :=
 (bif decide (gi y0 1<(↑um.length:Int)) then xab (inR (gi y0 1) um) (xab (inR (gi y0 1) um) (xab (xbs ((um.getD (gi y0 1).toNat []).getD 0 (0:Int)) (decL ((um.getD (gi y0 1).toNat []).getD 1 (0:Int)))) (xab (((!xaq ((um.getD (gi y0 1).toNat []).getD 0 (0:Int)) (decL ((um.getD (gi y0 1).toNat []).getD 1 (0:Int))))=false)→(inR (gi y0 1) um)) (xab (((!xaq ((um.getD (gi y0 1).toNat []).getD 0 (0:Int)) (decL ((um.getD (gi y0 1).toNat []).getD 1 (0:Int))))=false)→(inR (gi y0 1) um)) (xab (((!xaq ((um.getD (gi y0 1).toNat []).getD 0 (0:Int)) (decL ((um.getD (gi y0 1).toNat []).getD 1 (0:Int))))=false)→(inR (gi y0 1) um)) (xab (((!xaq ((um.getD (gi y0 1).toNat []).getD 0 (0:Int)) (decL ((um.getD (gi y0 1).toNat []).getD 1 (0:Int))) ||
  decide ((um.getD (gi y0 1).toNat []).getD 0 (0:Int)<(1:Int))) =
 false)→((decide (gi y0 1>(0:Int))=true)→(inR (gi y0 1) um))) (xab (((!xaq ((um.getD (gi y0 1).toNat []).getD 0 (0:Int)) (decL ((um.getD (gi y0 1).toNat []).getD 1 (0:Int))) ||
  decide ((um.getD (gi y0 1).toNat []).getD 0 (0:Int)<(1:Int))) =
 false)→((decide (gi y0 1>(0:Int))=true)→(inR (gi y0 1) um))) (xab (((!xaq ((um.getD (gi y0 1).toNat []).getD 0 (0:Int)) (decL ((um.getD (gi y0 1).toNat []).getD 1 (0:Int))) ||
  decide ((um.getD (gi y0 1).toNat []).getD 0 (0:Int)<(1:Int))) =
 false)→((decide (gi y0 1>(0:Int))=true)→(inR (gi y0 1) um))) (xab (((!xaq ((um.getD (gi y0 1).toNat []).getD 0 (0:Int)) (decL ((um.getD (gi y0 1).toNat []).getD 1 (0:Int))) ||
  decide ((um.getD (gi y0 1).toNat []).getD 0 (0:Int)<(1:Int))) =
 false)→((decide (gi y0 1>(0:Int))=true)→(inR (IntKind.i64.wrap (gi y0 1-(1:Int))) um))) (xab (((!xaq ((um.getD (gi y0 1).toNat []).getD 0 (0:Int)) (decL ((um.getD (gi y0 1).toNat []).getD 1 (0:Int))) ||
  decide ((um.getD (gi y0 1).toNat []).getD 0 (0:Int)<(1:Int))) =
 false)→((decide (gi y0 1>(0:Int))=true)→(inR (IntKind.i64.wrap (gi y0 1-(1:Int))) um))) (xab (((!xaq ((um.getD (gi y0 1).toNat []).getD 0 (0:Int)) (decL ((um.getD (gi y0 1).toNat []).getD 1 (0:Int))) ||
  decide ((um.getD (gi y0 1).toNat []).getD 0 (0:Int)<(1:Int))) =
 false)→((decide (gi y0 1>(0:Int))=true)→(inR (IntKind.i64.wrap (gi y0 1-(1:Int))) um))) ((bif !xaq ((um.getD (gi y0 1).toNat []).getD 0 (0:Int)) (decL ((um.getD (gi y0 1).toNat []).getD 1 (0:Int))) ||
  decide ((um.getD (gi y0 1).toNat []).getD 0 (0:Int)<(1:Int)) ||
 decide (gi y0 1>(0:Int)) &&
  decide ((um.getD (gi y0 1).toNat []).getD 0 (0:Int)≤(um.getD (IntKind.i64.wrap (gi y0 1-(1:Int))).toNat []).getD 0 (0:Int)) then some (1,[]) else some (0,[.b (gb y0 0),.i (IntKind.i64.wrap (gi y0 1+(1:Int)))])))))))))))))) else some (3,[.b (gb y0 0),.i (gi y0 1)]))
noncomputable def xeB (ua uq un:Int) (ub um ul:List (List Int)):Nat×List U:=xaf (xdC ua uq un ub um ul) (xjA ua uq un ub um ul)
noncomputable def xjz (ua uq un:Int) (ub um ul:List (List Int)):List U :=
 [.b (gb (xeB ua uq un ub um ul).snd 0),.i ((0:Int))]
noncomputable def xbF (ua uq un:Int) (ub um ul:List (List Int)) (y1:List U):Option (Nat×List U) :=
 (bif decide (gi y1 1<(↑ul.length:Int)) then xab (inR (gi y1 1) ul) (xab (inR (gi y1 1) ul) (xab (inR (gi y1 1) ul) (xab (xff ((ul.getD (gi y1 1).toNat []).getD 0 (0:Int)) um) ((bif xbU ((ul.getD (gi y1 1).toNat []).getD 0 (0:Int)) um==(0:Int) then some (1,[]) else some (0,[.b (gb y1 0),.i (IntKind.i64.wrap (gi y1 1+(1:Int)))])))))) else some (3,[.b (gb y1 0),.i (gi y1 1)]))
noncomputable def xpn (ua uq un:Int) (ub um ul:List (List Int)):Nat×List U:=xaf (xbF ua uq un ub um ul) (xjz ua uq un ub um ul)
noncomputable def xb0 (ua uq un:Int) (ub um ul:List (List Int)):Bool :=
 bif !xaq ua ub||!xcx ul||!xaI uq||ua !=(0:Int)||decide (un<(0:Int))||decide (un>(100000:Int)) then false
else bif (xeB ua uq un ub um ul).fst.beq 1 then false else bif (xpn ua uq un ub um ul).fst.beq 1 then false else true
def xd1 (ua uq un:Int) (ub um ul:List (List Int)):Prop :=
 ((xbs ua ub)∧((xd8 ul)∧(((!xaq ua ub||!xcx ul||!xaI uq||ua !=(0:Int)||decide (un<(0:Int))||decide (un>(100000:Int)))=false)→(((xav (xdC ua uq un ub um ul) (xjA ua uq un ub um ul)))∧(((xeB ua uq un ub um ul).fst.beq 1=false)→((xav (xbF ua uq un ub um ul) (xjz ua uq un ub um ul))))))))
noncomputable def xfg (ua uq un:Int) (ub um ul:List (List Int)):List (List Int) :=
 bif !xb0 ua uq un ub um ul then [] else xaE uq un um ul
noncomputable def xge (ua uq un:Int) (ub um ul:List (List Int)):Int :=
 bif !xb0 ua uq un ub um ul then (1:Int) else (0:Int)
def xfF (ua uq un:Int) (ub um ul:List (List Int)):Prop :=
 ((xd1 ua uq un ub um ul)∧(((!xb0 ua uq un ub um ul)=false)→(xfD uq un um ul)))
noncomputable def xmd (o_Kind o_Ship o_Item:Int) (up:List (List Int)) (y0:List U):List Int :=
 [(up.getD (gi y0 0).toNat []).getD 0 (0:Int),(up.getD (gi y0 0).toNat []).getD 1 (0:Int),(up.getD (gi y0 0).toNat []).getD 2 (0:Int)]
noncomputable def xkm (o_Kind o_Ship o_Item:Int) (up:List (List Int)):List U :=
 [.i ((0:Int)),.r ([])]
noncomputable def xd2 (o_Kind o_Ship o_Item:Int) (up:List (List Int)) (y0:List U):Option (Nat×List U) :=
 (bif decide (gi y0 0<(↑up.length:Int)) then xab (inR (gi y0 0) up) (xab (inR (gi y0 0) up) ((bif xbT ((up.getD (gi y0 0).toNat []).getD 0 (0:Int)) ((up.getD (gi y0 0).toNat []).getD 1 (0:Int))
 ((up.getD (gi y0 0).toNat []).getD 2 (0:Int)) o_Kind o_Ship o_Item then xab (inR (gi y0 0) up) (xab (inR (gi y0 0) up) (xab (xa5 24 ((gr y0 1).length+[(xmd o_Kind o_Ship o_Item up y0)].length)) (some (0,[.i (IntKind.i64.wrap (gi y0 0+(1:Int))),.r (gr y0 1++[(xmd o_Kind o_Ship o_Item up y0)])])))) else some (0,[.i (IntKind.i64.wrap (gi y0 0+(1:Int))),.r (gr y0 1)])))) else some (3,[.i (gi y0 0),.r (gr y0 1)]))
noncomputable def xme (o_Kind o_Ship o_Item:Int) (up:List (List Int)):Nat×List U:=xaf (xd2 o_Kind o_Ship o_Item up) (xkm o_Kind o_Ship o_Item up)
noncomputable def xmc (o_Kind o_Ship o_Item:Int) (up:List (List Int)) (y1:List U):List Int :=
 [(up.getD (gi y1 0).toNat []).getD 0 (0:Int),(up.getD (gi y1 0).toNat []).getD 1 (0:Int),(up.getD (gi y1 0).toNat []).getD 2 (0:Int)]
noncomputable def xgv (o_Kind o_Ship o_Item:Int) (up:List (List Int)):List U :=
 [.i ((0:Int)),.r (gr (xme o_Kind o_Ship o_Item up).snd 1++[[o_Kind,o_Ship,o_Item]])]
noncomputable def xe1 (o_Kind o_Ship o_Item:Int) (up:List (List Int)) (y1:List U):Option (Nat×List U) :=
 (bif decide (gi y1 0<(↑up.length:Int)) then xab (inR (gi y1 0) up) (xab (inR (gi y1 0) up) ((bif xbT o_Kind o_Ship o_Item ((up.getD (gi y1 0).toNat []).getD 0 (0:Int)) ((up.getD (gi y1 0).toNat []).getD 1 (0:Int))
 ((up.getD (gi y1 0).toNat []).getD 2 (0:Int)) then xab (inR (gi y1 0) up) (xab (inR (gi y1 0) up) (xab (xa5 24 ((gr y1 1).length+[(xmc o_Kind o_Ship o_Item up y1)].length)) (some (0,[.i (IntKind.i64.wrap (gi y1 0+(1:Int))),.r (gr y1 1++[(xmc o_Kind o_Ship o_Item up y1)])])))) else some (0,[.i (IntKind.i64.wrap (gi y1 0+(1:Int))),.r (gr y1 1)])))) else some (3,[.i (gi y1 0),.r (gr y1 1)]))
noncomputable def xrp (o_Kind o_Ship o_Item:Int) (up:List (List Int)):Nat×List U:=xaf (xe1 o_Kind o_Ship o_Item up) (xgv o_Kind o_Ship o_Item up)
noncomputable def xgd (o_Kind o_Ship o_Item:Int) (up:List (List Int)):List (List Int) :=
 gr (xrp o_Kind o_Ship o_Item up).snd 1
def xdU (o_Kind o_Ship o_Item:Int) (up:List (List Int)):Prop :=
 (((xav (xd2 o_Kind o_Ship o_Item up) (xkm o_Kind o_Ship o_Item up)))∧((xa5 24 ((gr (xme o_Kind o_Ship o_Item up).snd 1).length+[[o_Kind,o_Ship,o_Item]].length))∧((xav (xe1 o_Kind o_Ship o_Item up) (xgv o_Kind o_Ship o_Item up)))))
noncomputable def xjt (set:Int) (up:List (List Int)):List U :=
 [.i ((1:Int)),.r ([])]
noncomputable def xdy (set:Int) (up:List (List Int)) (y0:List U):Option (Nat×List U) :=
 (bif decide (gi y0 0≤(8:Int)) then xab ((0:Int)≤IntKind.i64.wrap (gi y0 0-(1:Int))) ((bif bAnd IntKind.i64 (set.fdiv ((2:Int) ^ min (IntKind.i64.wrap (gi y0 0-(1:Int))).toNat IntKind.i64.bits)) (1:Int)==(1:Int) then xab (xa5 24 ((gr y0 1).length+[[(2:Int),gi y0 0,(0:Int)]].length)) (some (0,[.i (IntKind.i64.wrap (gi y0 0+(1:Int))),.r (gr y0 1++[[(2:Int),gi y0 0,(0:Int)]])])) else some (0,[.i (IntKind.i64.wrap (gi y0 0+(1:Int))),.r (gr y0 1)]))) else some (3,[.i (gi y0 0),.r (gr y0 1)]))
noncomputable def xo9 (set:Int) (up:List (List Int)):Nat×List U:=xaf (xdy set up) (xjt set up)
noncomputable def xf4 (set:Int) (up:List (List Int)):List U :=
 [.i ((0:Int)),.r (gr (xo9 set up).snd 1)]
noncomputable def xeu (set:Int) (up:List (List Int)) (y1:List U):Option (Nat×List U) :=
 (bif decide (gi y1 0<(↑up.length:Int)) then xab (inR (gi y1 0) up) (xab (inR (gi y1 0) up) (xab (inR (gi y1 0) up) (xab (inR (gi y1 0) up) (xab (inR (gi y1 0) up) (xab (inR (gi y1 0) up) (xab ((((up.getD (gi y1 0).toNat []).getD 3 (0:Int) !=(0:Int))=true)→((0:Int)≤IntKind.i64.wrap ((up.getD (gi y1 0).toNat []).getD 0 (0:Int)-(1:Int)))) ((bif (up.getD (gi y1 0).toNat []).getD 3 (0:Int) !=(0:Int) &&
 bAnd IntKind.i64 (set.fdiv ((2:Int) ^ min (IntKind.i64.wrap ((up.getD (gi y1 0).toNat []).getD 0 (0:Int)-(1:Int))).toNat IntKind.i64.bits)) (1:Int)==(1:Int) then some (0,[.i (IntKind.i64.wrap (gi y1 0+(1:Int))),.r (gr y1 1)]) else xab (inR (gi y1 0) up) (xab (inR (gi y1 0) up) (xab (inR (gi y1 0) up) ((bif (up.getD (gi y1 0).toNat []).getD 2 (0:Int) !=(0:Int) then xab (xdU (1:Int) (0:Int) ((up.getD (gi y1 0).toNat []).getD 1 (0:Int)) (gr y1 1)) (some (0,[.i (IntKind.i64.wrap (gi y1 0+(1:Int))),.r (xgd (1:Int) (0:Int) ((up.getD (gi y1 0).toNat []).getD 1 (0:Int)) (gr y1 1))])) else xab (xdU (3:Int) ((up.getD (gi y1 0).toNat []).getD 0 (0:Int)) ((up.getD (gi y1 0).toNat []).getD 1 (0:Int)) (gr y1 1)) (some (0,[.i (IntKind.i64.wrap (gi y1 0+(1:Int))),.r (xgd (3:Int) ((up.getD (gi y1 0).toNat []).getD 0 (0:Int)) ((up.getD (gi y1 0).toNat []).getD 1 (0:Int)) (gr y1 1))])))))))))))))) else some (4,[.i (gi y1 0),.r (gr y1 1)]))
noncomputable def xo8 (set:Int) (up:List (List Int)):Nat×List U:=xaf (xeu set up) (xf4 set up)
noncomputable def xci (set:Int) (up:List (List Int)):List (List Int) :=
 gr (xo8 set up).snd 1
def xeL (set:Int) (up:List (List Int)):Prop :=
 (((xav (xdy set up) (xjt set up)))∧((xav (xeu set up) (xf4 set up))))
noncomputable def xeY (up:List (List Int)):List U :=
 [.i ((1:Int)),.r (xci (0:Int) up)]
noncomputable def xdN (up:List (List Int)) (y0:List U):Option (Nat×List U) :=
 (bif decide (gi y0 0<(256:Int)) then xab (xeL (gi y0 0) up) (xab ((decide ((↑(xci (gi y0 0) up).length:Int)<(↑(gr y0 1).length:Int))=false)→((((↑(xci (gi y0 0) up).length:Int)==(↑(gr y0 1).length:Int))=true)→(xe7 (xci (gi y0 0) up) (gr y0 1)))) ((bif decide ((↑(xci (gi y0 0) up).length:Int)<(↑(gr y0 1).length:Int)) ||
 (↑(xci (gi y0 0) up).length:Int)==(↑(gr y0 1).length:Int)&&xhq (xci (gi y0 0) up) (gr y0 1) then some (0,[.i (IntKind.i64.wrap (gi y0 0+(1:Int))),.r (xci (gi y0 0) up)]) else some (0,[.i (IntKind.i64.wrap (gi y0 0+(1:Int))),.r (gr y0 1)])))) else some (3,[.i (gi y0 0),.r (gr y0 1)]))
noncomputable def xmh (up:List (List Int)):Nat×List U:=xaf (xdN up) (xeY up)
noncomputable def xeO (up:List (List Int)):List (List Int) :=
 gr (xmh up).snd 1
def xcN (up:List (List Int)):Prop :=
 ((xeL (0:Int) up)∧((xav (xdN up) (xeY up))))
noncomputable def xeC (a_Gap_Ship a_Gap_Item:Int) (a_Sent a_On:Bool) (b_Gap_Ship b_Gap_Item:Int) (b_Sent b_On:Bool):Bool :=
 !(a_Sent&&b_Sent&&a_Gap_Item==b_Gap_Item)&&!(a_On&&b_On&&a_Gap_Ship==b_Gap_Ship)&&!(a_Gap_Ship==b_Gap_Ship&&(a_Gap_Item==b_Gap_Item&&true))
noncomputable def xk8 (i:Int) (up:List (List Int)) (y0:List U):List Int :=
 [bif (up.getD (gi y0 0).toNat []).getD 2 (0:Int) !=(0:Int) then (1:Int) else (0:Int),
 bif (up.getD (gi y0 0).toNat []).getD 3 (0:Int) !=(0:Int) then (1:Int) else (0:Int)]
noncomputable def xpe (i:Int) (up:List (List Int)) (y0:List U):List (List Int) :=
 gr y0 1++[(up.getD (gi y0 0).toNat []).getD 0 (0:Int)::(up.getD (gi y0 0).toNat []).getD 1 (0:Int)::(xk8 i up y0)]
noncomputable def xf7 (i:Int) (up:List (List Int)):List U :=
 [.i (IntKind.i64.wrap (i+(1:Int))),.r ([])]
noncomputable def xey (i:Int) (up:List (List Int)) (y0:List U):Option (Nat×List U) :=
 (bif decide (gi y0 0<(↑up.length:Int)) then xab (inR i up) (xab (inR i up) (xab (inR (gi y0 0) up) (xab (inR (gi y0 0) up) ((bif xeC ((up.getD i.toNat []).getD 0 (0:Int)) ((up.getD i.toNat []).getD 1 (0:Int)) ((up.getD i.toNat []).getD 2 (0:Int) !=(0:Int))
 ((up.getD i.toNat []).getD 3 (0:Int) !=(0:Int)) ((up.getD (gi y0 0).toNat []).getD 0 (0:Int)) ((up.getD (gi y0 0).toNat []).getD 1 (0:Int))
 ((up.getD (gi y0 0).toNat []).getD 2 (0:Int) !=(0:Int)) ((up.getD (gi y0 0).toNat []).getD 3 (0:Int) !=(0:Int)) then xab (inR (gi y0 0) up) (xab (inR (gi y0 0) up) (xab (xa5 24
 ((gr y0 1).length+[(up.getD (gi y0 0).toNat []).getD 0 (0:Int)::(up.getD (gi y0 0).toNat []).getD 1 (0:Int)::(xk8 i up y0)].length)) (some (0,[.i (IntKind.i64.wrap (gi y0 0+(1:Int))),.r ((xpe i up y0))])))) else some (0,[.i (IntKind.i64.wrap (gi y0 0+(1:Int))),.r (gr y0 1)])))))) else some (3,[.i (gi y0 0),.r (gr y0 1)]))
noncomputable def xpf (i:Int) (up:List (List Int)):Nat×List U:=xaf (xey i up) (xf7 i up)
noncomputable def xgc (i:Int) (up:List (List Int)):List (List Int) :=
 gr (xpf i up).snd 1
def xfE (i:Int) (up:List (List Int)):Prop :=
 ((xav (xey i up) (xf7 i up)))
noncomputable def xjV (up:List (List Int)) (y0 y1:List U):List (List Int) :=
 [[((gr y0 2).getD (gi y1 0).toNat []).getD 0 (0:Int),((gr y0 2).getD (gi y1 0).toNat []).getD 1 (0:Int)]]
noncomputable def xg1 (up:List (List Int)) (y0:List U):List U :=
 [.i ((0:Int))]
noncomputable def xce (up:List (List Int)) (y0:List U) (y1:List U):Option (Nat×List U) :=
 (bif decide (gi y1 0<(↑(gr y0 2).length:Int)) then xab (xfE (gi y1 0) (gr y0 2)) (xab (xcN (xgc (gi y1 0) (gr y0 2))) ((bif (↑(xeO (xgc (gi y1 0) (gr y0 2))).length:Int)==IntKind.i64.wrap (gi y0 0-(1:Int)) then xab (inR (gi y1 0) (gr y0 2)) (xab (inR (gi y1 0) (gr y0 2)) (xab (inR (gi y1 0) (gr y0 2)) (xab (xa5 16 ((gr y0 1).length+((xjV up y0 y1)).length)) (some (1,[.i (gi y1 0),.r (gr y0 1++(xjV up y0 y1)),.r (xgc (gi y1 0) (gr y0 2))]))))) else some (0,[.i (IntKind.i64.wrap (gi y1 0+(1:Int)))])))) else some (3,[.i (gi y1 0)]))
noncomputable def xib (up:List (List Int)) (y0:List U):Nat×List U:=xaf (xce up y0) (xg1 up y0)
noncomputable def xfj (up:List (List Int)):List U :=
 [.i ((↑(xeO up).length:Int)),.r ([]),.r (up)]
noncomputable def xda (up:List (List Int)) (y0:List U):Option (Nat×List U) :=
 (bif decide (gi y0 0>(0:Int)) then xab ((xav (xce up y0) (xg1 up y0))) ((bif (xib up y0).fst.beq 1 then some (0,[.i (IntKind.i64.wrap (gi y0 0-(1:Int))),.r (gr (xib up y0).snd 1),.r (gr (xib up y0).snd 2)]) else some (0,[.i (IntKind.i64.wrap (gi y0 0-(1:Int))),.r (gr y0 1),.r (gr y0 2)]))) else some (3,[.i (gi y0 0),.r (gr y0 1),.r (gr y0 2)]))
noncomputable def xnP (up:List (List Int)):Nat×List U:=xaf (xda up) (xfj up)
noncomputable def xhp (up:List (List Int)):List (List Int) :=
 gr (xnP up).snd 1
def xe2 (up:List (List Int)):Prop :=
 ((xcN up)∧((xav (xda up) (xfj up))))
noncomputable def xeg (ua uq un:Int) (ub um ul:List (List Int)):List (List Int) :=
 bif !xb0 ua uq un ub um ul then [] else xeO (xdI ua uq un ub um ul)
noncomputable def xe4 (ua uq un:Int) (ub um ul:List (List Int)):List (List Int) :=
 bif !xb0 ua uq un ub um ul then [] else xhp (xdI ua uq un ub um ul)
noncomputable def xgf (ua uq un:Int) (ub um ul:List (List Int)):Int :=
 bif !xb0 ua uq un ub um ul then (1:Int) else (0:Int)
def xd7 (ua uq un:Int) (ub um ul:List (List Int)):Prop :=
 ((xd1 ua uq un ub um ul)∧(((!xb0 ua uq un ub um ul)=false)→((xfl ua uq un ub um ul)∧((xcN (xdI ua uq un ub um ul))∧(xe2 (xdI ua uq un ub um ul))))))
noncomputable def xjx (g_Ship g_Item:Int) (up:List (List Int)):List U :=
 [.i ((0:Int)),.i ((0:Int))]
noncomputable def xcw (g_Ship g_Item:Int) (up:List (List Int)) (y0:List U):Option (Nat×List U) :=
 (bif decide (gi y0 1<(↑up.length:Int)) then xab (inR (gi y0 1) up) (xab (inR (gi y0 1) up) (xab (inR (gi y0 1) up) ((bif (up.getD (gi y0 1).toNat []).getD 0 (0:Int)==g_Ship&&((up.getD (gi y0 1).toNat []).getD 1 (0:Int)==g_Item&&true) then some (1,[.i (gi y0 1)]) else some (0,[.i (gi y0 0),.i (IntKind.i64.wrap (gi y0 1+(1:Int)))]))))) else some (3,[.i (gi y0 0),.i (gi y0 1)]))
noncomputable def xpk (g_Ship g_Item:Int) (up:List (List Int)):Nat×List U:=xaf (xcw g_Ship g_Item up) (xjx g_Ship g_Item up)
noncomputable def xaA (g_Ship g_Item:Int) (up:List (List Int)):Int :=
 bif (xpk g_Ship g_Item up).fst.beq 1 then gi (xpk g_Ship g_Item up).snd 0 else (-1:Int)
def xfG (g_Ship g_Item:Int) (up:List (List Int)):Prop :=
 ((xav (xcw g_Ship g_Item up) (xjx g_Ship g_Item up)))
noncomputable def xgI (up ur:List (List Int)) (y0:List U):List U :=
 [.b (gb y0 0),.i ((0:Int))]
noncomputable def xcK (up ur:List (List Int)) (y0:List U) (y1:List U):Option (Nat×List U) :=
 (bif decide (gi y1 1<gi y0 1) then xab (inR (gi y1 1) ur) (xab (inR (gi y1 1) ur) (xab (xfG ((ur.getD (gi y1 1).toNat []).getD 0 (0:Int)) ((ur.getD (gi y1 1).toNat []).getD 1 (0:Int)) up) (xab ((decide
  (xaA ((ur.getD (gi y1 1).toNat []).getD 0 (0:Int)) ((ur.getD (gi y1 1).toNat []).getD 1 (0:Int)) up ≥
   xaA ((ur.getD (gi y0 1).toNat []).getD 0 (0:Int)) ((ur.getD (gi y0 1).toNat []).getD 1 (0:Int)) up) =
 false)→(inR (xaA ((ur.getD (gi y1 1).toNat []).getD 0 (0:Int)) ((ur.getD (gi y1 1).toNat []).getD 1 (0:Int)) up) up)) (xab ((decide
  (xaA ((ur.getD (gi y1 1).toNat []).getD 0 (0:Int)) ((ur.getD (gi y1 1).toNat []).getD 1 (0:Int)) up ≥
   xaA ((ur.getD (gi y0 1).toNat []).getD 0 (0:Int)) ((ur.getD (gi y0 1).toNat []).getD 1 (0:Int)) up) =
 false)→(inR (xaA ((ur.getD (gi y1 1).toNat []).getD 0 (0:Int)) ((ur.getD (gi y1 1).toNat []).getD 1 (0:Int)) up) up)) (xab ((decide
  (xaA ((ur.getD (gi y1 1).toNat []).getD 0 (0:Int)) ((ur.getD (gi y1 1).toNat []).getD 1 (0:Int)) up ≥
   xaA ((ur.getD (gi y0 1).toNat []).getD 0 (0:Int)) ((ur.getD (gi y0 1).toNat []).getD 1 (0:Int)) up) =
 false)→(inR (xaA ((ur.getD (gi y0 1).toNat []).getD 0 (0:Int)) ((ur.getD (gi y0 1).toNat []).getD 1 (0:Int)) up) up)) (xab ((decide
  (xaA ((ur.getD (gi y1 1).toNat []).getD 0 (0:Int)) ((ur.getD (gi y1 1).toNat []).getD 1 (0:Int)) up ≥
   xaA ((ur.getD (gi y0 1).toNat []).getD 0 (0:Int)) ((ur.getD (gi y0 1).toNat []).getD 1 (0:Int)) up) =
 false)→(inR (xaA ((ur.getD (gi y0 1).toNat []).getD 0 (0:Int)) ((ur.getD (gi y0 1).toNat []).getD 1 (0:Int)) up) up)) ((bif decide
  (xaA ((ur.getD (gi y1 1).toNat []).getD 0 (0:Int)) ((ur.getD (gi y1 1).toNat []).getD 1 (0:Int)) up ≥
   xaA ((ur.getD (gi y0 1).toNat []).getD 0 (0:Int)) ((ur.getD (gi y0 1).toNat []).getD 1 (0:Int)) up) ||
 !xeC
   ((up.getD (xaA ((ur.getD (gi y1 1).toNat []).getD 0 (0:Int)) ((ur.getD (gi y1 1).toNat []).getD 1 (0:Int)) up).toNat []).getD 0
    (0:Int))
   ((up.getD (xaA ((ur.getD (gi y1 1).toNat []).getD 0 (0:Int)) ((ur.getD (gi y1 1).toNat []).getD 1 (0:Int)) up).toNat []).getD 1
    (0:Int))
   ((up.getD (xaA ((ur.getD (gi y1 1).toNat []).getD 0 (0:Int)) ((ur.getD (gi y1 1).toNat []).getD 1 (0:Int)) up).toNat []).getD 2
     (0:Int) !=
    (0:Int))
   ((up.getD (xaA ((ur.getD (gi y1 1).toNat []).getD 0 (0:Int)) ((ur.getD (gi y1 1).toNat []).getD 1 (0:Int)) up).toNat []).getD 3
     (0:Int) !=
    (0:Int))
   ((up.getD (xaA ((ur.getD (gi y0 1).toNat []).getD 0 (0:Int)) ((ur.getD (gi y0 1).toNat []).getD 1 (0:Int)) up).toNat []).getD 0
    (0:Int))
   ((up.getD (xaA ((ur.getD (gi y0 1).toNat []).getD 0 (0:Int)) ((ur.getD (gi y0 1).toNat []).getD 1 (0:Int)) up).toNat []).getD 1
    (0:Int))
   ((up.getD (xaA ((ur.getD (gi y0 1).toNat []).getD 0 (0:Int)) ((ur.getD (gi y0 1).toNat []).getD 1 (0:Int)) up).toNat []).getD 2
     (0:Int) !=
    (0:Int))
   ((up.getD (xaA ((ur.getD (gi y0 1).toNat []).getD 0 (0:Int)) ((ur.getD (gi y0 1).toNat []).getD 1 (0:Int)) up).toNat []).getD 3
     (0:Int) !=
    (0:Int)) then some (1,[]) else some (0,[.b (gb y1 0),.i (IntKind.i64.wrap (gi y1 1+(1:Int)))]))))))))) else some (3,[.b (gb y1 0),.i (gi y1 1)]))
noncomputable def xho (up ur:List (List Int)) (y0:List U):Nat×List U:=xaf (xcK up ur y0) (xgI up ur y0)
noncomputable def xiA (up ur:List (List Int)):List U :=
 [.b (false),.i ((0:Int))]
noncomputable def xbY (up ur:List (List Int)) (y0:List U):Option (Nat×List U) :=
 (bif decide (gi y0 1<(↑ur.length:Int)) then xab (inR (gi y0 1) ur) (xab (inR (gi y0 1) ur) (xab (xfG ((ur.getD (gi y0 1).toNat []).getD 0 (0:Int)) ((ur.getD (gi y0 1).toNat []).getD 1 (0:Int)) up) ((bif decide (xaA ((ur.getD (gi y0 1).toNat []).getD 0 (0:Int)) ((ur.getD (gi y0 1).toNat []).getD 1 (0:Int)) up<(0:Int)) then some (1,[]) else xab ((xav (xcK up ur y0) (xgI up ur y0))) ((bif (xho up ur y0).fst.beq 1 then some (2,[]) else some (0,[.b (gb (xho up ur y0).snd 0),.i (IntKind.i64.wrap (gi y0 1+(1:Int)))]))))))) else some (4,[.b (gb y0 0),.i (gi y0 1)]))
noncomputable def xmf (up ur:List (List Int)):Nat×List U:=xaf (xbY up ur) (xiA up ur)
noncomputable def xeM (up ur:List (List Int)):Bool :=
 bif (xmf up ur).fst.beq 1 then false else bif (xmf up ur).fst.beq 2 then false else true
def xfu (up ur:List (List Int)):Prop :=
 ((xav (xbY up ur) (xiA up ur)))
noncomputable def xgP (ua uq un:Int) (ub um ul uk ur:List (List Int)):Bool :=
 bif !xb0 ua uq un ub um ul then false
else
 xfv (xdI ua uq un ub um ul) uk&&xeM (xdI ua uq un ub um ul) ur &&
  (↑uk.length:Int)==(↑ur.length:Int)
noncomputable def xgO (ua uq un:Int) (ub um ul uk ur:List (List Int)):Int :=
 bif !xb0 ua uq un ub um ul then (1:Int) else (0:Int)
def xes (ua uq un:Int) (ub um ul uk ur:List (List Int)):Prop :=
 ((xd1 ua uq un ub um ul)∧(((!xb0 ua uq un ub um ul)=false)→((xfl ua uq un ub um ul)∧((xeA (xdI ua uq un ub um ul) uk)∧(xfu (xdI ua uq un ub um ul) ur)))))
noncomputable def xf6 (a_Owner b_Owner:Int) (uv uw:List (List Int)):List U :=
 [.b (false),.i ((0:Int))]
noncomputable def xdB (a_Owner b_Owner:Int) (uv uw:List (List Int)) (y0:List U):Option (Nat×List U) :=
 (bif decide (gi y0 1<(↑uv.length:Int)) then xab (inR (gi y0 1) uv) (xab (inR (gi y0 1) uv) (xab (inR (gi y0 1) uw) (xab (inR (gi y0 1) uw) ((bif !((uv.getD (gi y0 1).toNat []).getD 0 (0:Int)==(uw.getD (gi y0 1).toNat []).getD 0 (0:Int) &&
  ((uv.getD (gi y0 1).toNat []).getD 1 (0:Int)==(uw.getD (gi y0 1).toNat []).getD 1 (0:Int) &&
   ((uv.getD (gi y0 1).toNat []).getD 2 (0:Int)==(uw.getD (gi y0 1).toNat []).getD 2 (0:Int) &&
    ((uv.getD (gi y0 1).toNat []).getD 3 (0:Int)==(uw.getD (gi y0 1).toNat []).getD 3 (0:Int)&&true)))) then some (1,[]) else some (0,[.b (gb y0 0),.i (IntKind.i64.wrap (gi y0 1+(1:Int)))])))))) else some (3,[.b (gb y0 0),.i (gi y0 1)]))
noncomputable def xvW (a_Owner b_Owner:Int) (uv uw:List (List Int)):Nat×List U:=xaf (xdB a_Owner b_Owner uv uw) (xf6 a_Owner b_Owner uv uw)
noncomputable def xd0 (a_Owner b_Owner:Int) (uv uw:List (List Int)):Bool :=
 bif a_Owner !=b_Owner||(↑uv.length:Int) !=(↑uw.length:Int) then false else bif (xvW a_Owner b_Owner uv uw).fst.beq 1 then false else true
def xgQ (a_Owner b_Owner:Int) (uv uw:List (List Int)):Prop :=
 (((a_Owner !=b_Owner||(↑uv.length:Int) !=(↑uw.length:Int))=false)→((xav (xdB a_Owner b_Owner uv uw) (xf6 a_Owner b_Owner uv uw))))
end Go.Proofs.YtikhnofbbcmpeaaGreat
set_option maxRecDepth 100000
set_option linter.unusedVariables false
namespace Go.Proofs.YtikhnofbbcmpeaaGreat
open Go Go.Sy
theorem xus (t:Int):xam Tryz.prog 0 (xaG Tryz.prog K52 xbt 9 80 [.int .i64 t] ⟨[],0⟩)=some ⟨none,[],0,[],.bool (xaI t)⟩:=by kernel_rfl
noncomputable def xnL:List U→Option Eff
 | [.i t]=>some ⟨none,[],0,[],.bool (xaI t)⟩
 | _=>Option.none
noncomputable def K53:Con:=ext Tryz.prog K52 80 [.int .i64 0] [] xnL
theorem xHu:xaT Tryz.prog K53:=xak xar xHv (n:=9) rfl rfl fun us x h=>by
 unfold xnL at h
 split at h
 ·cases h; exact ⟨none,xus _,fun _=>trivial⟩
 ·cases h
theorem xuy (n:Int):xam Tryz.prog 0 (xaG Tryz.prog K53 xbt 9 106 [.int .i64 n] ⟨[],0⟩)=some ⟨none,[],0,[],.bool (xdq n)⟩:=by kernel_rfl
noncomputable def xnR:List U→Option Eff
 | [.i n]=>some ⟨none,[],0,[],.bool (xdq n)⟩
 | _=>Option.none
noncomputable def K54:Con:=ext Tryz.prog K53 106 [.int .i64 0] [] xnR
theorem xHt:xaT Tryz.prog K54:=xak xar xHu (n:=9) rfl rfl fun us x h=>by
 unfold xnR at h
 split at h
 ·cases h; exact ⟨none,xuy _,fun _=>trivial⟩
 ·cases h
theorem xux (uq uu ut:Int):xam Tryz.prog 0 (xaG Tryz.prog K54 xbt 9 75 [.int .i64 uq,.int .i64 uu,.int .i64 ut] ⟨[],0⟩)=some ⟨none,[],0,[],.bool (xcj uq uu ut)⟩:=by kernel_rfl
noncomputable def xnQ:List U→Option Eff
 | [.i uq,.i uu,.i ut]=>some ⟨none,[],0,[],.bool (xcj uq uu ut)⟩
 | _=>Option.none
noncomputable def K55:Con:=ext Tryz.prog K54 75 [.int .i64 0,.int .i64 0,.int .i64 0] [] xnQ
theorem xHs:xaT Tryz.prog K55:=xak xar xHt (n:=9) rfl rfl fun us x h=>by
 unfold xnQ at h
 split at h
 ·cases h; exact ⟨none,xux _ _ _,fun _=>trivial⟩
 ·cases h
theorem xvY (owner uu:Int):xam Tryz.prog 0 (xaG Tryz.prog K55 xbt 9 76 [.int .i64 owner,.int .i64 uu] ⟨[],0⟩)=some ⟨none,[],0,[],.bool (xdb owner uu)⟩:=by kernel_rfl
noncomputable def xph:List U→Option Eff
 | [.i owner,.i uu]=>some ⟨none,[],0,[],.bool (xdb owner uu)⟩
 | _=>Option.none
noncomputable def K56:Con:=ext Tryz.prog K55 76 [.int .i64 0,.int .i64 0] [] xph
theorem xHr:xaT Tryz.prog K56:=xak xar xHs (n:=9) rfl rfl fun us x h=>by
 unfold xph at h
 split at h
 ·cases h; exact ⟨none,xvY _ _,fun _=>trivial⟩
 ·cases h
theorem xsc (up:List (List Int)):xam Tryz.prog 1 (xaG Tryz.prog K56 xbt 9 107 [.sl 0] ⟨[⟨0,1,false,.row 3 [.int .i64] up⟩],1⟩)=some ⟨some (xfw up),[],0,[],.int .u64 (xgR up)⟩:=by kernel_rfl
noncomputable def xlB:List U→Option Eff
 | [.r up]=>some ⟨some (xfw up),[],0,[],.int .u64 (xgR up)⟩
 | _=>Option.none
noncomputable def K57:Con:=ext Tryz.prog K56 107 [.sl 0] [⟨0,0,false,.row 3 [.int .i64] []⟩] xlB
theorem xHq:xaT Tryz.prog K57:=xak xar xHr (n:=9) rfl rfl fun us x h=>by
 unfold xlB at h
 split at h
 ·cases h; exact ⟨some (xfw _),xsc _,fun h=>h⟩
 ·cases h
theorem xvV (owner last l_Time l_Kind l_Item l_Sum:Int):xam Tryz.prog 0 (xaG Tryz.prog K57 xbt 9 77 [.int .i64 owner,.int .u64 last,.agg [.int .i64 l_Time,.int .i64 l_Kind,.int .i64 l_Item,.int .u64 l_Sum]] ⟨[],0⟩)=some ⟨some (xfi owner last l_Time l_Kind l_Item l_Sum),[],0,[],.int .u64 (xga owner last l_Time l_Kind l_Item l_Sum)⟩:=by kernel_rfl
noncomputable def xpc:List U→Option Eff
 | [.i owner,.i last,.i l_Time,.i l_Kind,.i l_Item,.i l_Sum]=>some ⟨some (xfi owner last l_Time l_Kind l_Item l_Sum),[],0,[],.int .u64 (xga owner last l_Time l_Kind l_Item l_Sum)⟩
 | _=>Option.none
noncomputable def K58:Con:=ext Tryz.prog K57 77 [.int .i64 0,.int .u64 0,.agg [.int .i64 0,.int .i64 0,.int .i64 0,.int .u64 0]] [] xpc
theorem xHp:xaT Tryz.prog K58:=xak xar xHq (n:=9) rfl rfl fun us x h=>by
 unfold xpc at h
 split at h
 ·cases h; exact ⟨some (xfi _ _ _ _ _ _),xvV _ _ _ _ _ _,fun h=>h⟩
 ·cases h
theorem xs7 (ue:Int) (uf:List (List Int)):xam Tryz.prog 1 (xaG Tryz.prog K58 xbt 9 31 [.agg [.int .i64 ue,.sl 0]] ⟨[⟨0,1,false,.row 29 [.int .i64,.int .i64,.int .i64,.int .u64] uf⟩],1⟩)=some ⟨some (xbs ue uf),[],0,[],.bool (xaq ue uf)⟩:=by kernel_rfl
noncomputable def xma:List U→Option Eff
 | [.i ue,.r uf]=>some ⟨some (xbs ue uf),[],0,[],.bool (xaq ue uf)⟩
 | _=>Option.none
noncomputable def K59:Con:=ext Tryz.prog K58 31 [.agg [.int .i64 0,.sl 0]] [⟨0,0,false,.row 29 [.int .i64,.int .i64,.int .i64,.int .u64] []⟩] xma
theorem xHo:xaT Tryz.prog K59:=xak xar xHp (n:=9) rfl rfl fun us x h=>by
 unfold xma at h
 split at h
 ·cases h; exact ⟨some (xbs _ _),xs7 _ _,fun h=>h⟩
 ·cases h
theorem xv4 (ue uq uu ut:Int) (uf:List (List Int)):xam Tryz.prog 1 (xaG Tryz.prog K59 xbt 9 32 [.agg [.int .i64 ue,.sl 0],.int .i64 uq,.int .i64 uu,.int .i64 ut] ⟨[⟨0,1,false,.row 29 [.int .i64,.int .i64,.int .i64,.int .u64] uf⟩],1⟩)=some ⟨some (xhr ue uq uu ut uf),[],1,[⟨1,1,true,.row 29 [.int .i64,.int .i64,.int .i64,.int .u64] (xei ue uq uu ut uf)⟩],.tup [.agg [.int .i64 (xeh ue uq uu ut uf),.sl 1],.int .i64 (xeP ue uq uu ut uf)]⟩:=by kernel_rfl
noncomputable def xpq:List U→Option Eff
 | [.i ue,.i uq,.i uu,.i ut,.r uf]=>some ⟨some (xhr ue uq uu ut uf),[],1,[⟨1,1,true,.row 29 [.int .i64,.int .i64,.int .i64,.int .u64] (xei ue uq uu ut uf)⟩],.tup [.agg [.int .i64 (xeh ue uq uu ut uf),.sl 1],.int .i64 (xeP ue uq uu ut uf)]⟩
 | _=>Option.none
noncomputable def K60:Con:=ext Tryz.prog K59 32 [.agg [.int .i64 0,.sl 0],.int .i64 0,.int .i64 0,.int .i64 0] [⟨0,0,false,.row 29 [.int .i64,.int .i64,.int .i64,.int .u64] []⟩] xpq
theorem xHn:xaT Tryz.prog K60:=xak xar xHo (n:=9) rfl rfl fun us x h=>by
 unfold xpq at h
 split at h
 ·cases h; exact ⟨some (xhr _ _ _ _ _),xv4 _ _ _ _ _,fun h=>h⟩
 ·cases h
theorem xuu (ug uh ui uj:Int):xam Tryz.prog 0 (xaG Tryz.prog K60 xbt 9 78 [.agg [.int .i64 ug,.int .i64 uh,.int .i64 ui,.int .u64 uj]] ⟨[],0⟩)=some ⟨none,[],0,[],.bool (xgb ug uh ui uj)⟩:=by kernel_rfl
noncomputable def xnM:List U→Option Eff
 | [.i ug,.i uh,.i ui,.i uj]=>some ⟨none,[],0,[],.bool (xgb ug uh ui uj)⟩
 | _=>Option.none
noncomputable def K61:Con:=ext Tryz.prog K60 78 [.agg [.int .i64 0,.int .i64 0,.int .i64 0,.int .u64 0]] [] xnM
theorem xHm:xaT Tryz.prog K61:=xak xar xHn (n:=9) rfl rfl fun us x h=>by
 unfold xnM at h
 split at h
 ·cases h; exact ⟨none,xuu _ _ _ _,fun _=>trivial⟩
 ·cases h
theorem xtb (ue ug uh ui uj:Int) (uf:List (List Int)):xam Tryz.prog 1 (xaG Tryz.prog K61 xbt 9 35 [.agg [.int .i64 ue,.sl 0],.agg [.int .i64 ug,.int .i64 uh,.int .i64 ui,.int .u64 uj]] ⟨[⟨0,1,false,.row 29 [.int .i64,.int .i64,.int .i64,.int .u64] uf⟩],1⟩)=some ⟨some (xe6 ue ug uh ui uj uf),[],0,[],.tup [.int .i64 (xdj ue ug uh ui uj uf),.int .i64 (xdi ue ug uh ui uj uf)]⟩:=by kernel_rfl
noncomputable def xmj:List U→Option Eff
 | [.i ue,.i ug,.i uh,.i ui,.i uj,.r uf]=>some ⟨some (xe6 ue ug uh ui uj uf),[],0,[],.tup [.int .i64 (xdj ue ug uh ui uj uf),.int .i64 (xdi ue ug uh ui uj uf)]⟩
 | _=>Option.none
noncomputable def K62:Con:=ext Tryz.prog K61 35 [.agg [.int .i64 0,.sl 0],.agg [.int .i64 0,.int .i64 0,.int .i64 0,.int .u64 0]] [⟨0,0,false,.row 29 [.int .i64,.int .i64,.int .i64,.int .u64] []⟩] xmj
theorem xHl:xaT Tryz.prog K62:=xak xar xHm (n:=9) rfl rfl fun us x h=>by
 unfold xmj at h
 split at h
 ·cases h; exact ⟨some (xe6 _ _ _ _ _ _),xtb _ _ _ _ _ _,fun h=>h⟩
 ·cases h
theorem xqx (up:List (List Int)):xam Tryz.prog 1 (xaG Tryz.prog K62 xbt 9 79 [.sl 0] ⟨[⟨0,1,false,.row 41 [.int .i64,.int .i64,.int .i64] up⟩],1⟩)=some ⟨some (xd8 up),[],0,[],.bool (xcx up)⟩:=by kernel_rfl
noncomputable def xks:List U→Option Eff
 | [.r up]=>some ⟨some (xd8 up),[],0,[],.bool (xcx up)⟩
 | _=>Option.none
noncomputable def K63:Con:=ext Tryz.prog K62 79 [.sl 0] [⟨0,0,false,.row 41 [.int .i64,.int .i64,.int .i64] []⟩] xks
theorem xHk:xaT Tryz.prog K63:=xak xar xHl (n:=9) rfl rfl fun us x h=>by
 unfold xks at h
 split at h
 ·cases h; exact ⟨some (xd8 _),xqx _,fun h=>h⟩
 ·cases h
theorem xta (ua uc uq:Int) (ub ud ul:List (List Int)):xam Tryz.prog 3 (xaG Tryz.prog K63 xbt 9 36 [.agg [.int .i64 ua,.sl 0],.agg [.int .i64 uc,.sl 1],.sl 2,.int .i64 uq] ⟨[⟨0,3,false,.row 29 [.int .i64,.int .i64,.int .i64,.int .u64] ub⟩,⟨1,3,false,.row 29 [.int .i64,.int .i64,.int .i64,.int .u64] ud⟩,⟨2,3,false,.row 41 [.int .i64,.int .i64,.int .i64] ul⟩],3⟩)=some ⟨some (xe5 ua uc uq ub ud ul),[],1,[⟨3,3,true,.row 3 [.int .i64] (xdh ua uc uq ub ud ul)⟩],.tup [.sl 3,.int .i64 (xdV ua uc uq ub ud ul)]⟩:=by kernel_rfl
noncomputable def xmi:List U→Option Eff
 | [.i ua,.i uc,.i uq,.r ub,.r ud,.r ul]=>some ⟨some (xe5 ua uc uq ub ud ul),[],1,[⟨3,3,true,.row 3 [.int .i64] (xdh ua uc uq ub ud ul)⟩],.tup [.sl 3,.int .i64 (xdV ua uc uq ub ud ul)]⟩
 | _=>Option.none
noncomputable def K64:Con:=ext Tryz.prog K63 36 [.agg [.int .i64 0,.sl 0],.agg [.int .i64 0,.sl 1],.sl 2,.int .i64 0] [⟨0,0,false,.row 29 [.int .i64,.int .i64,.int .i64,.int .u64] []⟩,⟨1,0,false,.row 29 [.int .i64,.int .i64,.int .i64,.int .u64] []⟩,⟨2,0,false,.row 41 [.int .i64,.int .i64,.int .i64] []⟩] xmi
theorem xHj:xaT Tryz.prog K64:=xak xar xHk (n:=9) rfl rfl fun us x h=>by
 unfold xmi at h
 split at h
 ·cases h; exact ⟨some (xe5 _ _ _ _ _ _),xta _ _ _ _ _ _,fun h=>h⟩
 ·cases h
theorem xs8 (ue uq:Int) (uf:List (List Int)):xam Tryz.prog 1 (xaG Tryz.prog K64 xbt 9 38 [.agg [.int .i64 ue,.sl 0],.int .i64 uq] ⟨[⟨0,1,false,.row 29 [.int .i64,.int .i64,.int .i64,.int .u64] uf⟩],1⟩)=some ⟨some (xe0 ue uq uf),[],1,[⟨1,1,true,.row 3 [.int .i64] (xdT ue uq uf)⟩],.tup [.sl 1,.int .i64 (xex ue uq uf)]⟩:=by kernel_rfl
noncomputable def xmb:List U→Option Eff
 | [.i ue,.i uq,.r uf]=>some ⟨some (xe0 ue uq uf),[],1,[⟨1,1,true,.row 3 [.int .i64] (xdT ue uq uf)⟩],.tup [.sl 1,.int .i64 (xex ue uq uf)]⟩
 | _=>Option.none
noncomputable def K65:Con:=ext Tryz.prog K64 38 [.agg [.int .i64 0,.sl 0],.int .i64 0] [⟨0,0,false,.row 29 [.int .i64,.int .i64,.int .i64,.int .u64] []⟩] xmb
theorem xHi:xaT Tryz.prog K65:=xak xar xHj (n:=9) rfl rfl fun us x h=>by
 unfold xmb at h
 split at h
 ·cases h; exact ⟨some (xe0 _ _ _),xs8 _ _ _,fun h=>h⟩
 ·cases h
theorem xuC (ua uq un:Int) (ub um ul:List (List Int)):xam Tryz.prog 3 (xaG Tryz.prog K65 xbt 9 82 [.agg [.int .i64 ua,.sl 0],.sl 1,.sl 2,.int .i64 uq,.int .i64 un] ⟨[⟨0,3,false,.row 29 [.int .i64,.int .i64,.int .i64,.int .u64] ub⟩,⟨1,3,false,.nst 24 [.c (.int .i64),.s 29 [.int .i64,.int .i64,.int .i64,.int .u64]] um⟩,⟨2,3,false,.row 41 [.int .i64,.int .i64,.int .i64] ul⟩],3⟩)=some ⟨some (xd1 ua uq un ub um ul),[],0,[],.bool (xb0 ua uq un ub um ul)⟩:=by kernel_rfl
noncomputable def xnW:List U→Option Eff
 | [.i ua,.i uq,.i un,.r ub,.r um,.r ul]=>some ⟨some (xd1 ua uq un ub um ul),[],0,[],.bool (xb0 ua uq un ub um ul)⟩
 | _=>Option.none
noncomputable def K66:Con:=ext Tryz.prog K65 82 [.agg [.int .i64 0,.sl 0],.sl 1,.sl 2,.int .i64 0,.int .i64 0] [⟨0,0,false,.row 29 [.int .i64,.int .i64,.int .i64,.int .u64] []⟩,⟨1,0,false,.nst 24 [.c (.int .i64),.s 29 [.int .i64,.int .i64,.int .i64,.int .u64]] []⟩,⟨2,0,false,.row 41 [.int .i64,.int .i64,.int .i64] []⟩] xnW
theorem xHh:xaT Tryz.prog K66:=xak xar xHi (n:=9) rfl rfl fun us x h=>by
 unfold xnW at h
 split at h
 ·cases h; exact ⟨some (xd1 _ _ _ _ _ _),xuC _ _ _ _ _ _,fun h=>h⟩
 ·cases h
theorem xuz (ua uq un:Int) (ub um ul:List (List Int)):xam Tryz.prog 3 (xaG Tryz.prog K66 xbt 9 39 [.agg [.int .i64 ua,.sl 0],.sl 1,.sl 2,.int .i64 uq,.int .i64 un] ⟨[⟨0,3,false,.row 29 [.int .i64,.int .i64,.int .i64,.int .u64] ub⟩,⟨1,3,false,.nst 24 [.c (.int .i64),.s 29 [.int .i64,.int .i64,.int .i64,.int .u64]] um⟩,⟨2,3,false,.row 41 [.int .i64,.int .i64,.int .i64] ul⟩],3⟩)=some ⟨some (xfF ua uq un ub um ul),[],1,[⟨3,3,true,.row 52 [.int .i64,.int .i64] (xfg ua uq un ub um ul)⟩],.tup [.sl 3,.int .i64 (xge ua uq un ub um ul)]⟩:=by kernel_rfl
noncomputable def xnS:List U→Option Eff
 | [.i ua,.i uq,.i un,.r ub,.r um,.r ul]=>some ⟨some (xfF ua uq un ub um ul),[],1,[⟨3,3,true,.row 52 [.int .i64,.int .i64] (xfg ua uq un ub um ul)⟩],.tup [.sl 3,.int .i64 (xge ua uq un ub um ul)]⟩
 | _=>Option.none
noncomputable def K67:Con:=ext Tryz.prog K66 39 [.agg [.int .i64 0,.sl 0],.sl 1,.sl 2,.int .i64 0,.int .i64 0] [⟨0,0,false,.row 29 [.int .i64,.int .i64,.int .i64,.int .u64] []⟩,⟨1,0,false,.nst 24 [.c (.int .i64),.s 29 [.int .i64,.int .i64,.int .i64,.int .u64]] []⟩,⟨2,0,false,.row 41 [.int .i64,.int .i64,.int .i64] []⟩] xnS
theorem xHg:xaT Tryz.prog K67:=xak xar xHh (n:=9) rfl rfl fun us x h=>by
 unfold xnS at h
 split at h
 ·cases h; exact ⟨some (xfF _ _ _ _ _ _),xuz _ _ _ _ _ _,fun h=>h⟩
 ·cases h
theorem xvX (o_Kind o_Ship o_Item:Int) (up:List (List Int)):xam Tryz.prog 1 (xaG Tryz.prog K67 xbt 9 122 [.sl 0,.agg [.int .i64 o_Kind,.int .i64 o_Ship,.int .i64 o_Item]] ⟨[⟨0,1,false,.row 80 [.int .i64,.int .i64,.int .i64] up⟩],1⟩)=some ⟨some (xdU o_Kind o_Ship o_Item up),[],1,[⟨1,1,true,.row 80 [.int .i64,.int .i64,.int .i64] (xgd o_Kind o_Ship o_Item up)⟩],.sl 1⟩:=by kernel_rfl
noncomputable def xpg:List U→Option Eff
 | [.i o_Kind,.i o_Ship,.i o_Item,.r up]=>some ⟨some (xdU o_Kind o_Ship o_Item up),[],1,[⟨1,1,true,.row 80 [.int .i64,.int .i64,.int .i64] (xgd o_Kind o_Ship o_Item up)⟩],.sl 1⟩
 | _=>Option.none
noncomputable def K68:Con:=ext Tryz.prog K67 122 [.sl 0,.agg [.int .i64 0,.int .i64 0,.int .i64 0]] [⟨0,0,false,.row 80 [.int .i64,.int .i64,.int .i64] []⟩] xpg
theorem xHf:xaT Tryz.prog K68:=xak xar xHg (n:=9) rfl rfl fun us x h=>by
 unfold xpg at h
 split at h
 ·cases h; exact ⟨some (xdU _ _ _ _),xvX _ _ _ _,fun h=>h⟩
 ·cases h
theorem xup (set:Int) (up:List (List Int)):xam Tryz.prog 1 (xaG Tryz.prog K68 xbt 9 108 [.sl 0,.int .i64 set] ⟨[⟨0,1,false,.row 105 [.int .i64,.int .i64,.bool,.bool] up⟩],1⟩)=some ⟨some (xeL set up),[],1,[⟨1,1,true,.row 80 [.int .i64,.int .i64,.int .i64] (xci set up)⟩],.sl 1⟩:=by kernel_rfl
noncomputable def xnH:List U→Option Eff
 | [.i set,.r up]=>some ⟨some (xeL set up),[],1,[⟨1,1,true,.row 80 [.int .i64,.int .i64,.int .i64] (xci set up)⟩],.sl 1⟩
 | _=>Option.none
noncomputable def K69:Con:=ext Tryz.prog K68 108 [.sl 0,.int .i64 0] [⟨0,0,false,.row 105 [.int .i64,.int .i64,.bool,.bool] []⟩] xnH
theorem xHe:xaT Tryz.prog K69:=xak xar xHf (n:=9) rfl rfl fun us x h=>by
 unfold xnH at h
 split at h
 ·cases h; exact ⟨some (xeL _ _),xup _ _,fun h=>h⟩
 ·cases h
theorem xsa (up:List (List Int)):xam Tryz.prog 1 (xaG Tryz.prog K69 xbt 9 83 [.sl 0] ⟨[⟨0,1,false,.row 105 [.int .i64,.int .i64,.bool,.bool] up⟩],1⟩)=some ⟨some (xcN up),[],1,[⟨1,1,true,.row 80 [.int .i64,.int .i64,.int .i64] (xeO up)⟩],.sl 1⟩:=by kernel_rfl
noncomputable def xly:List U→Option Eff
 | [.r up]=>some ⟨some (xcN up),[],1,[⟨1,1,true,.row 80 [.int .i64,.int .i64,.int .i64] (xeO up)⟩],.sl 1⟩
 | _=>Option.none
noncomputable def K70:Con:=ext Tryz.prog K69 83 [.sl 0] [⟨0,0,false,.row 105 [.int .i64,.int .i64,.bool,.bool] []⟩] xly
theorem xHd:xaT Tryz.prog K70:=xak xar xHe (n:=9) rfl rfl fun us x h=>by
 unfold xly at h
 split at h
 ·cases h; exact ⟨some (xcN _),xsa _,fun h=>h⟩
 ·cases h
theorem xtc (a_Gap_Ship a_Gap_Item:Int) (a_Sent a_On:Bool) (b_Gap_Ship b_Gap_Item:Int) (b_Sent b_On:Bool):xam Tryz.prog 0 (xaG Tryz.prog K70 xbt 9 111 [.agg [.int .i64 a_Gap_Ship,.int .i64 a_Gap_Item,.bool a_Sent,.bool a_On],.agg [.int .i64 b_Gap_Ship,.int .i64 b_Gap_Item,.bool b_Sent,.bool b_On]] ⟨[],0⟩)=some ⟨none,[],0,[],.bool (xeC a_Gap_Ship a_Gap_Item a_Sent a_On b_Gap_Ship b_Gap_Item b_Sent b_On)⟩:=by kernel_rfl
noncomputable def xmk:List U→Option Eff
 | [.i a_Gap_Ship,.i a_Gap_Item,.b a_Sent,.b a_On,.i b_Gap_Ship,.i b_Gap_Item,.b b_Sent,.b b_On]=>some ⟨none,[],0,[],.bool (xeC a_Gap_Ship a_Gap_Item a_Sent a_On b_Gap_Ship b_Gap_Item b_Sent b_On)⟩
 | _=>Option.none
noncomputable def K71:Con:=ext Tryz.prog K70 111 [.agg [.int .i64 0,.int .i64 0,.bool false,.bool false],.agg [.int .i64 0,.int .i64 0,.bool false,.bool false]] [] xmk
theorem xHc:xaT Tryz.prog K71:=xak xar xHd (n:=9) rfl rfl fun us x h=>by
 unfold xmk at h
 split at h
 ·cases h; exact ⟨none,xtc _ _ _ _ _ _ _ _,fun _=>trivial⟩
 ·cases h
theorem xuw (i:Int) (up:List (List Int)):xam Tryz.prog 1 (xaG Tryz.prog K71 xbt 9 109 [.sl 0,.int .i64 i] ⟨[⟨0,1,false,.row 105 [.int .i64,.int .i64,.bool,.bool] up⟩],1⟩)=some ⟨some (xfE i up),[],1,[⟨1,1,true,.row 105 [.int .i64,.int .i64,.bool,.bool] (xgc i up)⟩],.sl 1⟩:=by kernel_rfl
noncomputable def xnO:List U→Option Eff
 | [.i i,.r up]=>some ⟨some (xfE i up),[],1,[⟨1,1,true,.row 105 [.int .i64,.int .i64,.bool,.bool] (xgc i up)⟩],.sl 1⟩
 | _=>Option.none
noncomputable def K72:Con:=ext Tryz.prog K71 109 [.sl 0,.int .i64 0] [⟨0,0,false,.row 105 [.int .i64,.int .i64,.bool,.bool] []⟩] xnO
theorem xHb:xaT Tryz.prog K72:=xak xar xHc (n:=9) rfl rfl fun us x h=>by
 unfold xnO at h
 split at h
 ·cases h; exact ⟨some (xfE _ _),xuw _ _,fun h=>h⟩
 ·cases h
theorem xs9 (up:List (List Int)):xam Tryz.prog 1 (xaG Tryz.prog K72 xbt 9 84 [.sl 0] ⟨[⟨0,1,false,.row 105 [.int .i64,.int .i64,.bool,.bool] up⟩],1⟩)=some ⟨some (xe2 up),[],1,[⟨1,1,true,.row 52 [.int .i64,.int .i64] (xhp up)⟩],.sl 1⟩:=by kernel_rfl
noncomputable def xmg:List U→Option Eff
 | [.r up]=>some ⟨some (xe2 up),[],1,[⟨1,1,true,.row 52 [.int .i64,.int .i64] (xhp up)⟩],.sl 1⟩
 | _=>Option.none
noncomputable def K73:Con:=ext Tryz.prog K72 84 [.sl 0] [⟨0,0,false,.row 105 [.int .i64,.int .i64,.bool,.bool] []⟩] xmg
theorem xHa:xaT Tryz.prog K73:=xak xar xHb (n:=9) rfl rfl fun us x h=>by
 unfold xmg at h
 split at h
 ·cases h; exact ⟨some (xe2 _),xs9 _,fun h=>h⟩
 ·cases h
theorem xqw (ua uq un:Int) (ub um ul:List (List Int)):xam Tryz.prog 3 (xaG Tryz.prog K73 xbt 9 40 [.agg [.int .i64 ua,.sl 0],.sl 1,.sl 2,.int .i64 uq,.int .i64 un] ⟨[⟨0,3,false,.row 29 [.int .i64,.int .i64,.int .i64,.int .u64] ub⟩,⟨1,3,false,.nst 24 [.c (.int .i64),.s 29 [.int .i64,.int .i64,.int .i64,.int .u64]] um⟩,⟨2,3,false,.row 41 [.int .i64,.int .i64,.int .i64] ul⟩],3⟩)=some ⟨some (xd7 ua uq un ub um ul),[],2,[⟨3,3,true,.row 80 [.int .i64,.int .i64,.int .i64] (xeg ua uq un ub um ul)⟩,⟨4,3,true,.row 52 [.int .i64,.int .i64] (xe4 ua uq un ub um ul)⟩],.tup [.sl 3,.sl 4,.int .i64 (xgf ua uq un ub um ul)]⟩:=by kernel_rfl
noncomputable def xkr:List U→Option Eff
 | [.i ua,.i uq,.i un,.r ub,.r um,.r ul]=>some ⟨some (xd7 ua uq un ub um ul),[],2,[⟨3,3,true,.row 80 [.int .i64,.int .i64,.int .i64] (xeg ua uq un ub um ul)⟩,⟨4,3,true,.row 52 [.int .i64,.int .i64] (xe4 ua uq un ub um ul)⟩],.tup [.sl 3,.sl 4,.int .i64 (xgf ua uq un ub um ul)]⟩
 | _=>Option.none
noncomputable def K74:Con:=ext Tryz.prog K73 40 [.agg [.int .i64 0,.sl 0],.sl 1,.sl 2,.int .i64 0,.int .i64 0] [⟨0,0,false,.row 29 [.int .i64,.int .i64,.int .i64,.int .u64] []⟩,⟨1,0,false,.nst 24 [.c (.int .i64),.s 29 [.int .i64,.int .i64,.int .i64,.int .u64]] []⟩,⟨2,0,false,.row 41 [.int .i64,.int .i64,.int .i64] []⟩] xkr
theorem xG9:xaT Tryz.prog K74:=xak xar xHa (n:=9) rfl rfl fun us x h=>by
 unfold xkr at h
 split at h
 ·cases h; exact ⟨some (xd7 _ _ _ _ _ _),xqw _ _ _ _ _ _,fun h=>h⟩
 ·cases h
theorem xuA (g_Ship g_Item:Int) (up:List (List Int)):xam Tryz.prog 1 (xaG Tryz.prog K74 xbt 9 110 [.sl 0,.agg [.int .i64 g_Ship,.int .i64 g_Item]] ⟨[⟨0,1,false,.row 105 [.int .i64,.int .i64,.bool,.bool] up⟩],1⟩)=some ⟨some (xfG g_Ship g_Item up),[],0,[],.int .i64 (xaA g_Ship g_Item up)⟩:=by kernel_rfl
noncomputable def xnT:List U→Option Eff
 | [.i g_Ship,.i g_Item,.r up]=>some ⟨some (xfG g_Ship g_Item up),[],0,[],.int .i64 (xaA g_Ship g_Item up)⟩
 | _=>Option.none
noncomputable def K75:Con:=ext Tryz.prog K74 110 [.sl 0,.agg [.int .i64 0,.int .i64 0]] [⟨0,0,false,.row 105 [.int .i64,.int .i64,.bool,.bool] []⟩] xnT
theorem xG8:xaT Tryz.prog K75:=xak xar xG9 (n:=9) rfl rfl fun us x h=>by
 unfold xnT at h
 split at h
 ·cases h; exact ⟨some (xfG _ _ _),xuA _ _ _,fun h=>h⟩
 ·cases h
theorem xr9 (up ur:List (List Int)):xam Tryz.prog 2 (xaG Tryz.prog K75 xbt 9 85 [.sl 0,.sl 1] ⟨[⟨0,2,false,.row 105 [.int .i64,.int .i64,.bool,.bool] up⟩,⟨1,2,false,.row 52 [.int .i64,.int .i64] ur⟩],2⟩)=some ⟨some (xfu up ur),[],0,[],.bool (xeM up ur)⟩:=by kernel_rfl
noncomputable def xlw:List U→Option Eff
 | [.r up,.r ur]=>some ⟨some (xfu up ur),[],0,[],.bool (xeM up ur)⟩
 | _=>Option.none
noncomputable def K76:Con:=ext Tryz.prog K75 85 [.sl 0,.sl 1] [⟨0,0,false,.row 105 [.int .i64,.int .i64,.bool,.bool] []⟩,⟨1,0,false,.row 52 [.int .i64,.int .i64] []⟩] xlw
theorem xG7:xaT Tryz.prog K76:=xak xar xG8 (n:=9) rfl rfl fun us x h=>by
 unfold xlw at h
 split at h
 ·cases h; exact ⟨some (xfu _ _),xr9 _ _,fun h=>h⟩
 ·cases h
theorem xr8 (ua uq un:Int) (ub um ul uk ur:List (List Int)):xam Tryz.prog 5 (xaG Tryz.prog K76 xbt 9 42 [.agg [.int .i64 ua,.sl 0],.sl 1,.sl 2,.int .i64 uq,.int .i64 un,.sl 3,.sl 4] ⟨[⟨0,5,false,.row 29 [.int .i64,.int .i64,.int .i64,.int .u64] ub⟩,⟨1,5,false,.nst 24 [.c (.int .i64),.s 29 [.int .i64,.int .i64,.int .i64,.int .u64]] um⟩,⟨2,5,false,.row 41 [.int .i64,.int .i64,.int .i64] ul⟩,⟨3,5,false,.row 80 [.int .i64,.int .i64,.int .i64] uk⟩,⟨4,5,false,.row 52 [.int .i64,.int .i64] ur⟩],5⟩)=some ⟨some (xes ua uq un ub um ul uk ur),[],0,[],.tup [.bool (xgP ua uq un ub um ul uk ur),.int .i64 (xgO ua uq un ub um ul uk ur)]⟩:=by kernel_rfl
noncomputable def xlv:List U→Option Eff
 | [.i ua,.i uq,.i un,.r ub,.r um,.r ul,.r uk,.r ur]=>some ⟨some (xes ua uq un ub um ul uk ur),[],0,[],.tup [.bool (xgP ua uq un ub um ul uk ur),.int .i64 (xgO ua uq un ub um ul uk ur)]⟩
 | _=>Option.none
noncomputable def K77:Con:=ext Tryz.prog K76 42 [.agg [.int .i64 0,.sl 0],.sl 1,.sl 2,.int .i64 0,.int .i64 0,.sl 3,.sl 4] [⟨0,0,false,.row 29 [.int .i64,.int .i64,.int .i64,.int .u64] []⟩,⟨1,0,false,.nst 24 [.c (.int .i64),.s 29 [.int .i64,.int .i64,.int .i64,.int .u64]] []⟩,⟨2,0,false,.row 41 [.int .i64,.int .i64,.int .i64] []⟩,⟨3,0,false,.row 80 [.int .i64,.int .i64,.int .i64] []⟩,⟨4,0,false,.row 52 [.int .i64,.int .i64] []⟩] xlv
theorem xG6:xaT Tryz.prog K77:=xak xar xG7 (n:=9) rfl rfl fun us x h=>by
 unfold xlv at h
 split at h
 ·cases h; exact ⟨some (xes _ _ _ _ _ _ _ _),xr8 _ _ _ _ _ _ _ _,fun h=>h⟩
 ·cases h
theorem xuv (a_Owner b_Owner:Int) (uv uw:List (List Int)):xam Tryz.prog 2 (xaG Tryz.prog K77 xbt 9 33 [.agg [.int .i64 a_Owner,.sl 0],.agg [.int .i64 b_Owner,.sl 1]] ⟨[⟨0,2,false,.row 29 [.int .i64,.int .i64,.int .i64,.int .u64] uv⟩,⟨1,2,false,.row 29 [.int .i64,.int .i64,.int .i64,.int .u64] uw⟩],2⟩)=some ⟨some (xgQ a_Owner b_Owner uv uw),[],0,[],.bool (xd0 a_Owner b_Owner uv uw)⟩:=by kernel_rfl
noncomputable def xnN:List U→Option Eff
 | [.i a_Owner,.i b_Owner,.r uv,.r uw]=>some ⟨some (xgQ a_Owner b_Owner uv uw),[],0,[],.bool (xd0 a_Owner b_Owner uv uw)⟩
 | _=>Option.none
noncomputable def K78:Con:=ext Tryz.prog K77 33 [.agg [.int .i64 0,.sl 0],.agg [.int .i64 0,.sl 1]] [⟨0,0,false,.row 29 [.int .i64,.int .i64,.int .i64,.int .u64] []⟩,⟨1,0,false,.row 29 [.int .i64,.int .i64,.int .i64,.int .u64] []⟩] xnN
theorem xG5:xaT Tryz.prog K78:=xak xar xG6 (n:=9) rfl rfl fun us x h=>by
 unfold xnN at h
 split at h
 ·cases h; exact ⟨some (xgQ _ _ _ _),xuv _ _ _ _,fun h=>h⟩
 ·cases h
end Go.Proofs.YtikhnofbbcmpeaaGreat
