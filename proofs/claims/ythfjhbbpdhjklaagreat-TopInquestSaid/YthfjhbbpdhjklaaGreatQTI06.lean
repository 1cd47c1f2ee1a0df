/- Several texts in one (wip/pack.py): XInq4D XInq4 XInq5D XInq5 XSyFh XSyHw XInqGa XInqGD XInqG XInqT XSySr XInqU XInqV XInqW XInqX XInqY XInqZ XInqZb XInqZc XInqZd XInqE XInqPD XInqP XInqR XInqK. -/
import Derived.Test.YthfjhbbpdhjklaaGreatRows
import Derived.DeepKeys3
import Derived.WideKeyArr
import Derived.Shelf.SlSortCmp.NoneTotal
import Derived.Test.YthfjhbbpdhjklaaGreatQTI04
import Derived.Test.YthfjhbbpdhjklaaGreatQTI05
set_option maxRecDepth 100000
set_option linter.unusedVariables false
namespace Go.Proofs.YthfjhbbpdhjklaaGreat
open Go Go.Sy
noncomputable def xga (set:Int) (uk:List (List Int)):List U :=
 [.i ((0:Int)),.r ([])]
noncomputable def xb3 (set:Int) (uk:List (List Int)) (y0:List U):Option (Nat×List U) :=
 (bif decide (gi y0 0<(9:Int)) then xac ((0:Int)≤gi y0 0) ((bif bAnd IntKind.i64 (set.fdiv ((2:Int) ^ min (gi y0 0).toNat IntKind.i64.bits)) (1:Int)==(1:Int) then xac (xa5 24 ((gr y0 1).length+[[(2:Int),gi y0 0,(0:Int)]].length)) (some (0,[.i (IntKind.i64.wrap (gi y0 0+(1:Int))),.r (gr y0 1++[[(2:Int),gi y0 0,(0:Int)]])])) else some (0,[.i (IntKind.i64.wrap (gi y0 0+(1:Int))),.r (gr y0 1)]))) else some (3,[.i (gi y0 0),.r (gr y0 1)]))
noncomputable def xjy (set:Int) (uk:List (List Int)):Nat×List U:=xat (xb3 set uk) (xga set uk)
noncomputable def xne (set:Int) (uk:List (List Int)) (y1:List U):List (List Int) :=
 gr y1 1++[[(3:Int),(uk.getD (gi y1 0).toNat []).getD 0 (0:Int),(uk.getD (gi y1 0).toNat []).getD 1 (0:Int)]]
noncomputable def xdu (set:Int) (uk:List (List Int)):List U :=
 [.i ((0:Int)),.r (gr (xjy set uk).snd 1)]
noncomputable def xcK (set:Int) (uk:List (List Int)) (y1:List U):Option (Nat×List U) :=
 (bif decide (gi y1 0<(↑uk.length:Int)) then xac (inR (gi y1 0) uk) (xac (inR (gi y1 0) uk) (xac ((((uk.getD (gi y1 0).toNat []).getD 3 (0:Int) !=(0:Int))=true)→((0:Int)≤(uk.getD (gi y1 0).toNat []).getD 0 (0:Int))) ((bif (uk.getD (gi y1 0).toNat []).getD 3 (0:Int) !=(0:Int) &&
 bAnd IntKind.i64 (set.fdiv ((2:Int) ^ min ((uk.getD (gi y1 0).toNat []).getD 0 (0:Int)).toNat IntKind.i64.bits)) (1:Int)==(1:Int) then some (0,[.i (IntKind.i64.wrap (gi y1 0+(1:Int))),.r (gr y1 1)]) else (bif (uk.getD (gi y1 0).toNat []).getD 2 (0:Int) !=(0:Int) then xac (xa5 24 ((gr y1 1).length+[[(1:Int),(0:Int),(uk.getD (gi y1 0).toNat []).getD 1 (0:Int)]].length)) (some (0,[.i (IntKind.i64.wrap (gi y1 0+(1:Int))),.r (gr y1 1++[[(1:Int),(0:Int),(uk.getD (gi y1 0).toNat []).getD 1 (0:Int)]])])) else xac (xa5 24 ((gr y1 1).length+[[(3:Int),(uk.getD (gi y1 0).toNat []).getD 0 (0:Int),(uk.getD (gi y1 0).toNat []).getD 1 (0:Int)]].length)) (some (0,[.i (IntKind.i64.wrap (gi y1 0+(1:Int))),.r ((xne set uk y1))]))))))) else some (4,[.i (gi y1 0),.r (gr y1 1)]))
noncomputable def xan (set:Int) (uk:List (List Int)):Nat×List U:=xat (xcK set uk) (xdu set uk)
noncomputable def xnd (set:Int) (uk:List (List Int)) (y2:List U):Int :=
 ((xaQ 3 [0,1,2] (gr (xan set uk).snd 1)).getD (IntKind.i64.wrap (gi y2 0-(1:Int))).toNat []).getD 0 (0:Int)
noncomputable def xnc (set:Int) (uk:List (List Int)) (y2:List U):Int :=
 ((xaQ 3 [0,1,2] (gr (xan set uk).snd 1)).getD (IntKind.i64.wrap (gi y2 0-(1:Int))).toNat []).getD 1 (0:Int)
noncomputable def xnb (set:Int) (uk:List (List Int)) (y2:List U):Int :=
 ((xaQ 3 [0,1,2] (gr (xan set uk).snd 1)).getD (IntKind.i64.wrap (gi y2 0-(1:Int))).toNat []).getD 2 (0:Int)
noncomputable def xjx (set:Int) (uk:List (List Int)) (y2:List U):Int :=
 (↑((xa1 (↑(xaQ 3 [0,1,2] (gr (xan set uk).snd 1)).length:Int) (some (gi y2 0)) none).snd.snd.toNat -
   loN (xa1 (↑(xaQ 3 [0,1,2] (gr (xan set uk).snd 1)).length:Int) (some (gi y2 0)) none).snd.fst) :
 Int)
noncomputable def xha (set:Int) (uk:List (List Int)) (y2:List U):Int :=
 (↑(loN (xa1 (↑(xaQ 3 [0,1,2] (gr (xan set uk).snd 1)).length:Int) (some (gi y2 0)) none).snd.fst):Int)
noncomputable def xcW (set:Int) (uk:List (List Int)) (y2 y3:List U):Int :=
 shI (xa1 (↑(xaQ 3 [0,1,2] (gr (xan set uk).snd 1)).length:Int) (some (gi y2 0)) none).snd.fst (gi y3 1)
noncomputable def xf8 (set:Int) (uk:List (List Int)) (y2 y3:List U):Int :=
 shI (xa1 (↑(xaQ 3 [0,1,2] (gr (xan set uk).snd 1)).length:Int) (some (gi y2 0)) none).snd.fst
 (IntKind.i64.wrap (gi y3 1-(1:Int)))
noncomputable def xna (set:Int) (uk:List (List Int)) (y2 y3:List U):List Int :=
 [((gr y3 2).getD ((xcW set uk y2 y3)).toNat []).getD 0 (0:Int),((gr y3 2).getD ((xcW set uk y2 y3)).toNat []).getD 1 (0:Int),
 ((gr y3 2).getD ((xcW set uk y2 y3)).toNat []).getD 2 (0:Int)]
noncomputable def xcJ (set:Int) (uk:List (List Int)) (y2:List U):List U :=
 [.i (gi y2 0),.i ((1:Int)),.r (xaQ 3 [0,1,2] (gr (xan set uk).snd 1))]
noncomputable def xb1 (set:Int) (uk:List (List Int)) (y2:List U) (y3:List U):Option (Nat×List U) :=
 (bif decide (gi y3 1<(xjx set uk y2)) then xac (((0:Int)≤gi y3 1)∧(((xha set uk y2)+gi y3 1<(xa1 (↑(xaQ 3 [0,1,2] (gr (xan set uk).snd 1)).length:Int) (some (gi y2 0)) none).snd.snd)∧((xa1 (↑(xaQ 3 [0,1,2] (gr (xan set uk).snd 1)).length:Int) (some (gi y2 0)) none).snd.snd≤(↑(gr y3 2).length:Int)))) (xac (inR ((xcW set uk y2 y3)) (gr y3 2)) (xac (((0:Int)≤IntKind.i64.wrap (gi y3 1-(1:Int)))∧(((xha set uk y2)+IntKind.i64.wrap (gi y3 1-(1:Int)) <
 (xa1 (↑(xaQ 3 [0,1,2] (gr (xan set uk).snd 1)).length:Int) (some (gi y2 0)) none).snd.snd)∧((xa1 (↑(xaQ 3 [0,1,2] (gr (xan set uk).snd 1)).length:Int) (some (gi y2 0)) none).snd.snd≤(↑(gr y3 2).length:Int)))) (xac (inR ((xf8 set uk y2 y3)) (gr y3 2)) ((bif !(((gr y3 2).getD ((xcW set uk y2 y3)).toNat []).getD 0 (0:Int)==((gr y3 2).getD ((xf8 set uk y2 y3)).toNat []).getD 0 (0:Int) &&
  (((gr y3 2).getD ((xcW set uk y2 y3)).toNat []).getD 1 (0:Int)==((gr y3 2).getD ((xf8 set uk y2 y3)).toNat []).getD 1 (0:Int) &&
   (((gr y3 2).getD ((xcW set uk y2 y3)).toNat []).getD 2 (0:Int)==((gr y3 2).getD ((xf8 set uk y2 y3)).toNat []).getD 2 (0:Int)&&true))) then xac (((0:Int)≤gi y3 1)∧(((xha set uk y2)+gi y3 1<(xa1 (↑(xaQ 3 [0,1,2] (gr (xan set uk).snd 1)).length:Int) (some (gi y2 0)) none).snd.snd)∧((xa1 (↑(xaQ 3 [0,1,2] (gr (xan set uk).snd 1)).length:Int) (some (gi y2 0)) none).snd.snd≤(↑(gr y3 2).length:Int)))) (xac (inR ((xcW set uk y2 y3)) (gr y3 2)) (xac (inR (gi y3 0) (gr y3 2)) (xac (inR (gi y3 0) (gr y3 2)) (some (0,[.i (IntKind.i64.wrap (gi y3 0+(1:Int))),.i (IntKind.i64.wrap (gi y3 1+(1:Int))),.r ((gr y3 2).set (gi y3 0).toNat (xlt 3 ((gr y3 2).getD (gi y3 0).toNat []) 0 ((xna set uk y2 y3))))]))))) else some (0,[.i (gi y3 0),.i (IntKind.i64.wrap (gi y3 1+(1:Int))),.r (gr y3 2)])))))) else some (3,[.i (gi y3 0),.i (gi y3 1),.r (gr y3 2)]))
noncomputable def xaq (set:Int) (uk:List (List Int)) (y2:List U):Nat×List U:=xat (xb1 set uk y2) (xcJ set uk y2)
noncomputable def xb0 (set:Int) (uk:List (List Int)) (y2:List U):Int :=
 (some (xa1 (↑(gr (xaq set uk y2).snd 2).length:Int) (some (gi (xaq set uk y2).snd 0)) none).snd.snd).getD (↑(gr (xaq set uk y2).snd 2).length:Int)
noncomputable def xlQ (set:Int) (uk:List (List Int)) (y2:List U):List (List Int) :=
 List.replicate (((xb0 set uk y2)).toNat-loN (xa1 (↑(gr (xaq set uk y2).snd 2).length:Int) (some (gi (xaq set uk y2).snd 0)) none).snd.fst)
 [(0:Int),(0:Int),(0:Int)]
noncomputable def xeh (set:Int) (uk:List (List Int)) (y2:List U):List (List Int) :=
 List.take (loN (xa1 (↑(gr (xaq set uk y2).snd 2).length:Int) (some (gi (xaq set uk y2).snd 0)) none).snd.fst) (gr (xaq set uk y2).snd 2) ++
 (xlQ set uk y2)
noncomputable def xir (set:Int) (uk:List (List Int)) (y2:List U):Int :=
 (xa1 (↑((xeh set uk y2)++List.drop ((xb0 set uk y2)).toNat (gr (xaq set uk y2).snd 2)).length:Int) none (some (gi (xaq set uk y2).snd 0))).snd.snd
noncomputable def xf9 (set:Int) (uk:List (List Int)):List U :=
 [.i ((1:Int))]
noncomputable def xb2 (set:Int) (uk:List (List Int)) (y2:List U):Option (Nat×List U) :=
 (bif decide (gi y2 0<(↑(xaQ 3 [0,1,2] (gr (xan set uk).snd 1)).length:Int)) then xac (inR (gi y2 0) (xaQ 3 [0,1,2] (gr (xan set uk).snd 1))) (xac (inR (gi y2 0) (xaQ 3 [0,1,2] (gr (xan set uk).snd 1))) (xac (inR (IntKind.i64.wrap (gi y2 0-(1:Int))) (xaQ 3 [0,1,2] (gr (xan set uk).snd 1))) (xac (inR (IntKind.i64.wrap (gi y2 0-(1:Int))) (xaQ 3 [0,1,2] (gr (xan set uk).snd 1))) ((bif ((xaQ 3 [0,1,2] (gr (xan set uk).snd 1)).getD (gi y2 0).toNat []).getD 0 (0:Int)==(xnd set uk y2) &&
 (((xaQ 3 [0,1,2] (gr (xan set uk).snd 1)).getD (gi y2 0).toNat []).getD 1 (0:Int)==(xnc set uk y2) &&
  (((xaQ 3 [0,1,2] (gr (xan set uk).snd 1)).getD (gi y2 0).toNat []).getD 2 (0:Int)==(xnb set uk y2)&&true)) then xac (((0:Int)≤gi y2 0)∧(gi y2 0≤(↑(xaQ 3 [0,1,2] (gr (xan set uk).snd 1)).length:Int))) (xac ((xax (xb1 set uk y2) (xcJ set uk y2))) (xac (((0:Int)≤gi (xaq set uk y2).snd 0)∧(gi (xaq set uk y2).snd 0≤(↑(gr (xaq set uk y2).snd 2).length:Int))) (xac (((↑(loN (xa1 (↑(gr (xaq set uk y2).snd 2).length:Int) (some (gi (xaq set uk y2).snd 0)) none).snd.fst):Int)≤(xb0 set uk y2))∧((xb0 set uk y2)≤(↑(gr (xaq set uk y2).snd 2).length:Int))) (xac (((0:Int)≤gi (xaq set uk y2).snd 0)∧(gi (xaq set uk y2).snd 0≤(↑((xeh set uk y2)++List.drop ((xb0 set uk y2)).toNat (gr (xaq set uk y2).snd 2)).length:Int))) (some (1,[.i ((xir set uk y2)),.r ((xeh set uk y2)++List.drop ((xb0 set uk y2)).toNat (gr (xaq set uk y2).snd 2))])))))) else some (0,[.i (IntKind.i64.wrap (gi y2 0+(1:Int)))])))))) else some (3,[.i (gi y2 0)]))
noncomputable def xbt (set:Int) (uk:List (List Int)):Nat×List U:=xat (xb2 set uk) (xf9 set uk)
noncomputable def xlP (set:Int) (uk:List (List Int)):List (List Int) :=
 bif (xbt set uk).fst.beq 1 then List.take (gi (xbt set uk).snd 0).toNat (gr (xbt set uk).snd 1)
else xaQ 3 [0,1,2] (gr (xan set uk).snd 1)
noncomputable def xlO (set:Int) (uk:List (List Int)):List (List Int) :=
 bif decide ((↑(xaQ 3 [0,1,2] (gr (xan set uk).snd 1)).length:Int)<(2:Int)) then
 xaQ 3 [0,1,2] (gr (xan set uk).snd 1)
else (xlP set uk)
noncomputable def xaP (set:Int) (uk:List (List Int)):List (List Int) :=
 (xlO set uk)
def xdB (set:Int) (uk:List (List Int)):Prop :=
 (((xax (xb3 set uk) (xga set uk)))∧(((xax (xcK set uk) (xdu set uk)))∧(((gr (xan set uk).snd 1).length<4611686018427387904)∧((decide ((↑(xaQ 3 [0,1,2] (gr (xan set uk).snd 1)).length:Int)<(2:Int))=false)→(((xax (xb2 set uk) (xf9 set uk)))∧(((xbt set uk).fst.beq 1=true)→(((0:Int)≤gi (xbt set uk).snd 0)∧(gi (xbt set uk).snd 0≤(↑(gr (xbt set uk).snd 1).length:Int)))))))))
noncomputable def xeo (uk:List (List Int)):List U :=
 [.i ((0:Int)),.i ((0:Int))]
noncomputable def xbp (uk:List (List Int)) (y0:List U):Option (Nat×List U) :=
 (bif decide (gi y0 1<(↑uk.length:Int)) then xac (inR (gi y0 1) uk) (xac (inR (gi y0 1) uk) ((bif (uk.getD (gi y0 1).toNat []).getD 3 (0:Int) !=(0:Int) then xac ((0:Int)≤(uk.getD (gi y0 1).toNat []).getD 0 (0:Int)) (some (0,[.i (bOr IntKind.i64 (gi y0 0) (bShl IntKind.i64 (1:Int) ((uk.getD (gi y0 1).toNat []).getD 0 (0:Int)))),.i (IntKind.i64.wrap (gi y0 1+(1:Int)))])) else some (0,[.i (gi y0 0),.i (IntKind.i64.wrap (gi y0 1+(1:Int)))])))) else some (3,[.i (gi y0 0),.i (gi y0 1)]))
noncomputable def xdP (uk:List (List Int)):Nat×List U:=xat (xbp uk) (xeo uk)
noncomputable def xgB (uk:List (List Int)) (y1 y2:List U):Int :=
 xc3 (((xaP (gi y1 0) uk).getD (gi y2 1).toNat []).getD 0 (0:Int))
 (((xaP (gi y1 0) uk).getD (gi y2 1).toNat []).getD 1 (0:Int)) (((xaP (gi y1 0) uk).getD (gi y2 1).toNat []).getD 2 (0:Int))
 (((gr y1 1).getD (gi y2 1).toNat []).getD 0 (0:Int)) (((gr y1 1).getD (gi y2 1).toNat []).getD 1 (0:Int))
 (((gr y1 1).getD (gi y2 1).toNat []).getD 2 (0:Int))
noncomputable def xce (uk:List (List Int)) (y1:List U):List U :=
 [.i ((0:Int)),.i ((0:Int))]
noncomputable def xbo (uk:List (List Int)) (y1:List U) (y2:List U):Option (Nat×List U) :=
 (bif decide (gi y2 1<(↑(xaP (gi y1 0) uk).length:Int)) then xac (inR (gi y2 1) (xaP (gi y1 0) uk)) (xac (inR (gi y2 1) (xaP (gi y1 0) uk)) ((bif decide (gi y2 1≥(↑(gr y1 1).length:Int)) then some (1,[]) else xac (inR (gi y2 1) (gr y1 1)) (xac (inR (gi y2 1) (gr y1 1)) (xac (xbJ (((xaP (gi y1 0) uk).getD (gi y2 1).toNat []).getD 0 (0:Int))
 (((xaP (gi y1 0) uk).getD (gi y2 1).toNat []).getD 1 (0:Int)) (((xaP (gi y1 0) uk).getD (gi y2 1).toNat []).getD 2 (0:Int))
 (((gr y1 1).getD (gi y2 1).toNat []).getD 0 (0:Int)) (((gr y1 1).getD (gi y2 1).toNat []).getD 1 (0:Int))
 (((gr y1 1).getD (gi y2 1).toNat []).getD 2 (0:Int))) ((bif (xgB uk y1 y2) !=(0:Int) then some (2,[.i ((xgB uk y1 y2))]) else some (0,[.i (gi y2 0),.i (IntKind.i64.wrap (gi y2 1+(1:Int)))])))))))) else some (4,[.i (gi y2 0),.i (gi y2 1)]))
noncomputable def xbk (uk:List (List Int)) (y1:List U):Nat×List U:=xat (xbo uk y1) (xce uk y1)
noncomputable def xdO (uk:List (List Int)) (y1:List U):Int :=
 bif decide ((↑(xaP (gi y1 0) uk).length:Int)<(↑(gr y1 1).length:Int)) then (-1:Int) else (0:Int)
noncomputable def xdh (uk:List (List Int)):List U :=
 [.i ((0:Int)),.r (xaP (0:Int) uk)]
noncomputable def xcf (uk:List (List Int)) (y1:List U):Option (Nat×List U) :=
 (bif decide (gi y1 0<IntKind.i64.wrap (gi (xdP uk).snd 0+(1:Int))) then (bif bNot IntKind.i64 (gi y1 0) (gi (xdP uk).snd 0) !=(0:Int) then some (0,[.i (IntKind.i64.wrap (gi y1 0+(1:Int))),.r (gr y1 1)]) else xac (xdB (gi y1 0) uk) (xac ((decide (xak (↑(xaP (gi y1 0) uk).length:Int) (↑(gr y1 1).length:Int)<(0:Int))=false)→(((xak (↑(xaP (gi y1 0) uk).length:Int) (↑(gr y1 1).length:Int)==(0:Int))=true)→((xax (xbo uk y1) (xce uk y1))))) ((bif decide (xak (↑(xaP (gi y1 0) uk).length:Int) (↑(gr y1 1).length:Int)<(0:Int)) ||
 xak (↑(xaP (gi y1 0) uk).length:Int) (↑(gr y1 1).length:Int)==(0:Int) &&
  decide ((bif (xbk uk y1).fst.beq 1 then (1:Int) else bif (xbk uk y1).fst.beq 2 then gi (xbk uk y1).snd 0 else (xdO uk y1))<(0:Int)) then some (0,[.i (IntKind.i64.wrap (gi y1 0+(1:Int))),.r (xaP (gi y1 0) uk)]) else some (0,[.i (IntKind.i64.wrap (gi y1 0+(1:Int))),.r (gr y1 1)]))))) else some (4,[.i (gi y1 0),.r (gr y1 1)]))
noncomputable def xi1 (uk:List (List Int)):Nat×List U:=xat (xcf uk) (xdh uk)
noncomputable def xb8 (uk:List (List Int)):List (List Int) :=
 gr (xi1 uk).snd 1
def xbX (uk:List (List Int)):Prop :=
 (((xax (xbp uk) (xeo uk)))∧((xdB (0:Int) uk)∧((xax (xcf uk) (xdh uk)))))
end Go.Proofs.YthfjhbbpdhjklaaGreat
set_option maxRecDepth 100000
set_option linter.unusedVariables false
namespace Go.Proofs.YthfjhbbpdhjklaaGreat
open Go Go.Sy
theorem xrB (set:Int) (uk:List (List Int)):xas Tryz.prog 1 (xaZ Tryz.prog K26 xcO 9 95 [.sl 0,.int .i64 set] ⟨[⟨0,1,false,.row 124 [.int .i64,.int .i64,.bool,.bool] uk⟩],1⟩)=some ⟨some (xdB set uk),[],1,[⟨1,1,true,.row 96 [.int .i64,.int .i64,.int .i64] (xaP set uk)⟩],.sl 1⟩:=by kernel_rfl
noncomputable def xlR:List U→Option Eff
 | [.i set,.r uk]=>some ⟨some (xdB set uk),[],1,[⟨1,1,true,.row 96 [.int .i64,.int .i64,.int .i64] (xaP set uk)⟩],.sl 1⟩
 | _=>Option.none
noncomputable def K27:Con:=ext Tryz.prog K26 95 [.sl 0,.int .i64 0] [⟨0,0,false,.row 124 [.int .i64,.int .i64,.bool,.bool] []⟩] xlR
theorem xDr:xbh Tryz.prog K27:=xav xaA xDs (n:=9) rfl rfl fun us x h=>by
 unfold xlR at h
 split at h
 ·cases h; exact ⟨some (xdB _ _),xrB _ _,fun h=>h⟩
 ·cases h
theorem xm9 (uk:List (List Int)):xas Tryz.prog 1 (xaZ Tryz.prog K27 xcO 9 36 [.sl 0] ⟨[⟨0,1,false,.row 124 [.int .i64,.int .i64,.bool,.bool] uk⟩],1⟩)=some ⟨some (xbX uk),[],1,[⟨1,1,true,.row 96 [.int .i64,.int .i64,.int .i64] (xb8 uk)⟩],.sl 1⟩:=by kernel_rfl
noncomputable def xh4:List U→Option Eff
 | [.r uk]=>some ⟨some (xbX uk),[],1,[⟨1,1,true,.row 96 [.int .i64,.int .i64,.int .i64] (xb8 uk)⟩],.sl 1⟩
 | _=>Option.none
noncomputable def K28:Con:=ext Tryz.prog K27 36 [.sl 0] [⟨0,0,false,.row 124 [.int .i64,.int .i64,.bool,.bool] []⟩] xh4
theorem xDq:xbh Tryz.prog K28:=xav xaA xDr (n:=9) rfl rfl fun us x h=>by
 unfold xh4 at h
 split at h
 ·cases h; exact ⟨some (xbX _),xm9 _,fun h=>h⟩
 ·cases h
end Go.Proofs.YthfjhbbpdhjklaaGreat
set_option maxRecDepth 100000
set_option linter.unusedVariables false
namespace Go.Proofs.YthfjhbbpdhjklaaGreat
open Go Go.Sy
noncomputable def xdJ (v:Int) (s:List (List Int)):List U :=
 [.i ((0:Int)),.i ((0:Int))]
noncomputable def xbe (v:Int) (s:List (List Int)) (y0:List U):Option (Nat×List U) :=
 (bif decide (gi y0 1<(↑s.length:Int)) then xac (inR (gi y0 1) s) (xac (inR (gi y0 1) s) ((bif v==(s.getD (gi y0 1).toNat []).getD 0 (0:Int) then some (1,[.i (gi y0 1)]) else some (0,[.i (gi y0 0),.i (IntKind.i64.wrap (gi y0 1+(1:Int)))])))) else some (3,[.i (gi y0 0),.i (gi y0 1)]))
noncomputable def xfi (v:Int) (s:List (List Int)):Nat×List U:=xat (xbe v s) (xdJ v s)
noncomputable def xbE (v:Int) (s:List (List Int)):Bool :=
 decide ((bif (xfi v s).fst.beq 1 then gi (xfi v s).snd 0 else (-1:Int))≥(0:Int))
def xbd (v:Int) (s:List (List Int)):Prop :=
 ((xax (xbe v s) (xdJ v s)))
end Go.Proofs.YthfjhbbpdhjklaaGreat
set_option maxRecDepth 100000
set_option linter.unusedVariables false
namespace Go.Proofs.YthfjhbbpdhjklaaGreat
open Go Go.Sy
theorem xho (v:Int) (s:List (List Int)):xas Tryz.prog 1 (xaZ Tryz.prog K28 xcO 9 91 [.sl 0,.int .i64 v] ⟨[⟨0,1,false,.row 3 [.int .i64] s⟩],1⟩)=some ⟨some (xbd v s),[],0,[],.bool (xbE v s)⟩:=by kernel_rfl
noncomputable def xeF:List U→Option Eff
 | [.i v,.r s]=>some ⟨some (xbd v s),[],0,[],.bool (xbE v s)⟩
 | _=>Option.none
noncomputable def K29:Con:=ext Tryz.prog K28 91 [.sl 0,.int .i64 0] [⟨0,0,false,.row 3 [.int .i64] []⟩] xeF
theorem xfm:xbh Tryz.prog K29:=xav xaA xDq (n:=9) rfl rfl fun us x h=>by
 unfold xeF at h
 split at h
 ·cases h; exact ⟨some (xbd _ _),xho _ _,fun h=>h⟩
 ·cases h
end Go.Proofs.YthfjhbbpdhjklaaGreat
set_option linter.unusedVariables false
namespace Go.Sy
open Go.RowKit
section
variable {P:Program} {Γ:Con} {Ξ:xo4}
theorem xxs (hΓ:xbh P Γ) {F:FuncId} {avs:List AV} {os:List Obj} {eff:List U→Option Eff} (hflat:os.all (fun o=>xa6 o.body&&Nat.blt o.key os.length)=true)
  (hargs:(AV.keysL avs).all (fun k=>Nat.blt k os.length)=true)
  (hcol:∀ us x,eff us=some x→xdE P F∧xgo os.length x∧(x.holds→∀ (E2:Env) (w:World),xah [] E2 w ⟨(xaR os.length us os (xcl us avs 0).2).1,os.length⟩ w →
   Calls P F (AV.denL E2 (xcl us avs 0).1).toArray w fun e w'=>∃ E',e=.returned (x.v.den E')∧xnE E2 w os.length x E' w' fun b=>∃ o∈(xaR os.length us os (xcl us avs 0).2).1,Inn E2 w o.key o.body b)):xbh P (ext P Γ F avs os eff):=by
 intro f args objs x h
 unfold ext at h
 split at h
 case isFalse=>exact hΓ f args objs x h
 rename_i hf
 have hf:f=F:=Nat.eq_of_beq_eq_true hf
 subst hf
 split at h
 case isFalse=>cases h
 rename_i hl
 rw [Bool.and_eq_true] at hl
 have hl1:args.length=avs.length:=Nat.eq_of_beq_eq_true hl.1
 have hl2:objs.length=os.length:=Nat.eq_of_beq_eq_true hl.2
 split at h
 case h_2=>cases h
 rename_i us hm
 obtain ⟨hfun,hwf,hrun⟩:=hcol us x h
 unfold xvS
 rw [hl2]
 refine ⟨fun _=>⟨hfun,hwf,fun hp E w hpre=>?_⟩,fun hne=>absurd hwf.rm hne⟩
 obtain ⟨M,hM⟩:=xox (AV.keysL args++objs.map (fun o=>o.key))
 have hmem:∀ o∈Sy.frozen objs,∃ o'∈objs,o={ o' with own:=false,body:=xwR o'.body }:=fun o ho=>by
  obtain ⟨o',ho',rfl⟩:=List.mem_map.1 ho
  exact ⟨o',ho',rfl⟩
 have hH:xah [] E w ⟨Sy.frozen objs,M⟩ w:=by
  refine ⟨Blw.refl _ _,hpre.env,?_,?_,?_,?_,?_,?_,?_,?_,?_⟩
  ·intro o ho; obtain ⟨o',ho',rfl⟩:=hmem o ho
   have:=(hpre.rows o' ho').1
   obtain ⟨k,v,own,b⟩:=o'
   cases b<;>first | exact this | exact this.2
  ·intro o ho hown; obtain ⟨o',ho',rfl⟩:=hmem o ho; cases hown
  ·intro o ho o2 ho2 hown; obtain ⟨o',ho',rfl⟩:=hmem o ho; cases hown
  ·intro o ho o2 ho2 hk
   obtain ⟨o',ho',rfl⟩:=hmem o ho
   obtain ⟨o2',ho2',rfl⟩:=hmem o2 ho2
   rw [hpre.uniq o' ho' o2' ho2' hk]
  ·intro o ho
   obtain ⟨o',ho',rfl⟩:=hmem o ho
   exact ⟨hM _ (List.mem_append.2 (.inr (List.mem_map.2 ⟨o',ho',rfl⟩))),by
    have:=xca (p:=fun k=>k<M) (hpre.rows o' ho').2.1
    obtain ⟨k,v,own,b⟩:=o'
    cases b<;>exact this⟩
  ·intro y hy; cases hy
  ·intro o ho b hb o2 ho2 hown; obtain ⟨o',ho',rfl⟩:=hmem o2 ho2; cases hown
  ·intro y hy; cases hy
  ·intro o ho b hb
   obtain ⟨o',ho',rfl⟩:=hmem o ho
   rcases hb with ⟨h1,_⟩ | ⟨⟨h1,_⟩,_⟩
   ·obtain ⟨k,v,own,bd⟩:=o'
    cases bd<;>cases h1
   ·cases h1
 have hS:xaH E M 0 [] (xal fun t=>args[t]?) { tmps:=(AV.denL E args).toArray,defers:=[] }:=by
  refine ⟨rfl,Nat.zero_le _,fun t=>?_⟩
  cases ht:args[t]? with
  | none =>
   have e:xal (fun t=>args[t]?) t=.junk:=by simp [xal,ht]
   rw [e]; trivial
  | some v =>
   have e:xal (fun t=>args[t]?) t=.is v:=by simp [xal,ht]
   rw [e]
   refine ⟨?_,(xen _ _).1 ((xcm _).2 fun k hk=>hM k (List.mem_append.2 (.inl hk))) v (List.mem_of_getElem? ht)⟩
   rw [Array.getD_eq_getD_getElem?]
   simp [xar,ht]
 have hm':(xhM avs os).match_ P [] 1 ⟨fun t=>args[t]?,⟨Sy.frozen objs,M⟩⟩=some us:=hm
 obtain ⟨E2,g1,g2,g3,g4⟩:=xgx (wr:=[]) (tm:=fun _=>none) hm' hH hS (fun o ho=>by cases ho) (fun o ho=>by cases ho) (fun t v _ hv=>by cases hv)
 have hz:=xs6 us avs 0 0
 have hgs:∀ t v,(xcl us avs 0).1[t]?=some v→((xhM avs os).gen [] [] (fun _=>none) us).tmps t=some v:=by
  intro t v ht
  have e:((xhM avs os).gen [] [] (fun _=>none) us).tmps t=(match xdA t (xaD us (avs.zipIdx.map fun x=>(x.2,x.1)) 0).1 with | some v=>some v | none=>if ([]:List Nat).any (Nat.beq t) then none else none):=rfl
  rw [e,hz]
  have:=xn2 (xcl us avs 0).1 0 t
  rw [Nat.zero_add] at this
  rw [this,ht]
 have hden:AV.denL E2 (xcl us avs 0).1=AV.denL E args:=by
  apply List.ext_getElem?
  intro t
  rw [xar,xar,List.getElem?_map,List.getElem?_map]
  cases ht:(xcl us avs 0).1[t]? with
  | none =>
   have h1:=List.getElem?_eq_none_iff.1 ht
   rw [xgT] at h1
   rw [List.getElem?_eq_none (by omega)]
   rfl
  | some v =>
   have h1:=(List.getElem?_eq_some_iff.1 ht).1
   rw [xgT] at h1
   have hpt:=g2.ok t
   have e:xal ((xhM avs os).gen [] [] (fun _=>none) us).tmps t=.is v:=by simp [xal,hgs t v ht]
   rw [e] at hpt
   have h2:args[t]?=some args[t]:=List.getElem?_eq_getElem (by omega)
   rw [h2]
   have h3:=hpt.1
   simp only [Array.getD_eq_getD_getElem?,xar] at h3
   simp only [List.getElem?_toArray,List.getElem?_map,h2,Option.map_some,Option.getD_some] at h3
   simp only [Option.map_some,h3]
 have hHc:xah [] E2 w ⟨(xaR os.length us os (xcl us avs 0).2).1,os.length⟩ w:=by
  refine g3.sub (fun o ho=>?_) (fun o ho=>?_)
  ·have e:((xhM avs os).gen [] [] (fun _=>none) us).heap.objs=(xaR os.length us os (xaD us (avs.zipIdx.map fun x=>(x.2,x.1)) 0).2).1++[]++[]:=rfl
   rw [e,hz,List.append_nil,List.append_nil]
   exact ho
  ·obtain ⟨s,h1,h2,h3⟩:=xjD _ _ _ _ o ho
   have h4:=List.all_eq_true.1 hflat s h1
   rw [Bool.and_eq_true] at h4
   exact ⟨by rw [h2]; simpa using h4.2,xca (by rw [h3]; exact h4.1)⟩
 have hin:∀ o∈(xaR os.length us os (xcl us avs 0).2).1,∀ b,Inn E2 w o.key o.body b→∃ o'∈objs,Inn E w o'.key o'.body b:=by
  intro o ho b hb
  have hm2:=hm'
  unfold Spec.match_ at hm2
  split at hm2
  case h_2=>cases hm2
  rename_i m1 h1
  split at hm2
  case h_2=>cases hm2
  rename_i m2 h2
  split at hm2
  case h_2=>cases hm2
  rename_i m3 h3
  split at hm2
  case isFalse=>cases hm2
  cases hm2
  have h3:some m2=some m3:=h3
  cases h3
  have hpre2:Pre m2.us m2.us.reverse:=⟨[],by simp⟩
  obtain ⟨x1,y1⟩:=xgZ _ _ _ h1
  obtain ⟨x2,y2⟩:=xhx (ver:=os.length) _ _ _ h2
  have e1:=(y1 m2.us.reverse (Pre.of_ext x2 hpre2)).1
  have e1:(xaD m2.us.reverse (avs.zipIdx.map fun x=>(x.2,x.1)) 0).2=m1.us.length:=e1
  rw [hz] at e1
  have e1:(xcl m2.us.reverse avs 0).2=m1.us.length:=e1
  have e2:=(y2 m2.us.reverse hpre2).2
  rw [← e1] at e2
  obtain ⟨_,⟨sp,hsp,hspk⟩,_,o1,ho1,hk1,_,hbf,_⟩:=e2 o ho
  obtain ⟨o2,ho2,rfl⟩:=hmem o1 ho1
  have hlt:o.key<os.length:=by
   have h4:=List.all_eq_true.1 hflat sp hsp
   rw [Bool.and_eq_true] at h4
   rw [← hspk]; simpa using h4.2
  have hE:E2 o.key=E o2.key:=by
   have:o2.key=o.key:=hk1
   rw [this]; exact g1 o.key hlt
  refine ⟨o2,ho2,?_⟩
  have key:o2.body=o.body∨(∃ e ks,o.body=.nst e ks [])∨xog o.body=true:=by
   obtain ⟨ok,ov,oo,ob⟩:=o
   obtain ⟨ok2,ov2,oo2,ob2⟩:=o2
   simp only [] at hbf ⊢
   cases ob with
   | nst e ks l =>
    rcases hbf.2.1 e ks l rfl with h | h
    ·left
     cases ob2<;>first | exact h | cases h
    ·right; left
     exact ⟨e,ks,by rw [h]⟩
   | mq kt et q ks l =>
    have h:=hbf.2.2 kt et q ks l rfl
    left
    cases ob2<;>first | exact h | cases h
   | sub e ks l =>
    have h:=hbf.1 rfl
    cases ob2<;>cases h
   | _=>right; right; rfl
  rcases key with h | ⟨e,ks,h⟩ | h
  ·rw [h]; exact xsY hE hb
  ·rw [h] at hb
   obtain ⟨_,j,_,_,hj,_⟩:=hb
   simp at hj
  ·exact xcL h hb
 rw [← hden]
 refine (hrun hp E2 w hHc).mono fun e w' ⟨E',he,hg⟩=>⟨E',he,⟨fun k hk=>by rw [hg.agree k hk]; exact g1 k hk,hg.env,hg.below,hg.bodies,fun o ho b hb=>(hg.own o ho b hb).imp id fun ⟨q1,q2,o1,ho1,hi⟩=>⟨q1,q2,hin o1 ho1 b hi⟩,hg.inj,hg.inn,hg.dq⟩⟩
theorem xxt (hΓ:xbh P Γ) {F:FuncId} {avs:List AV} {os:List Obj} {eff:List U→Option Eff} (hflat:os.all (fun o=>xa6 o.body&&Nat.blt o.key os.length)=true)
  (hargs:(AV.keysL avs).all (fun k=>Nat.blt k os.length)=true)
  (hcol:∀ us x,eff us=some x→xdE P F∧xgo os.length x∧(x.holds→∀ (E2:Env) (w:World),xah [] E2 w ⟨(xaR os.length us os (xcl us avs 0).2).1,os.length⟩ w →
   Calls P F (AV.denL E2 (xcl us avs 0).1).toArray w fun e w'=>∃ E',e=.returned (x.v.den E')∧xnE E2 w os.length x E' w')):xbh P (ext P Γ F avs os eff) :=
 xxs hΓ hflat hargs fun us x h=>by
  obtain ⟨h1,h2,h3⟩:=hcol us x h
  exact ⟨h1,h2,fun hp E2 w hH=>(h3 hp E2 w hH).mono fun e w' ⟨E',he,hg⟩=>⟨E',he,hg.mono fun _ h=>h.elim⟩⟩
end
end Go.Sy
set_option linter.unusedVariables false
namespace Go.Sy
open Go.RowKit
section
variable {P:Program} {Γ:Con} {Ξ:xo4} {X:List (Nat×Go.Obj)} {w0 w:World} {N:Nat} {E:Env}
def Spec.st (S:Spec) (us:List U):Cfg:=S.gen [] [] (fun _=>none) us
def outP (P:Program):List (xct×Spec)→Nat→xct×Cfg→Option (Nat×List U)
 | [],_,_=>none
 | (y,T)::r,n,x=>if y.same x.1 then (match T.match_ P [] 0 x.2 with | some us=>some (n,us) | none=>none) else outP P r (n+1) x
def outT (P:Program) (outs:List (xct×Spec)) (x:xct×Cfg):Tree (Nat×List U):=match outP P outs 0 x with | some r=>.ret r | none=>.bad
noncomputable def xf2 (P:Program) (Γ:Con) (n N:Nat) (S:Spec) (outs:List (xct×Spec)) (code:Code) (us:List U):Option (Nat×List U) :=
 ((xaN P Γ (xaZ P Γ xcO n) (xoW P Γ xcO n) false [] N code (S.st us)).bind (outT P outs)).opt
theorem xBt {x y:xct} (h:x.same y=true):x=y:=by
 cases x<;>cases y<;>first | rfl | (cases h; done) | skip
 ·rw [Nat.eq_of_beq_eq_true h]
theorem xtN:∀ {outs:List (xct×Spec)} {n:Nat} {x:xct×Cfg} {i:Nat} {us:List U},outP P outs n x=some (i,us)→∃ T,n≤i∧outs[i-n]?=some (x.1,T)∧T.match_ P [] 0 x.2=some us
 | [],n,x,i,us,h=>by cases h
 | (y,T)::r,n,x,i,us,h=>by
  unfold outP at h
  split at h
  ·rename_i hs
   have hs:=xBt hs
   split at h
   ·rename_i us' hm
    cases h
    exact ⟨T,Nat.le_refl _,by rw [Nat.sub_self]; simp [hs],hm⟩
   ·cases h
  ·obtain ⟨T',h1,h2,h3⟩:=xtN h
   refine ⟨T',by omega,?_,h3⟩
   rw [show i-n=(i-(n+1))+1 by omega]
   simpa using h2
theorem CfgOk.shape {T:Spec} {c:Cfg} {a:Act} {us:List U} (h:T.match_ P [] 0 c=some us) (hc:CfgOk X E w0 N c a w):∃ E2:Env,(∀ k,k<T.base→E2 k=E k)∧CfgOk X E2 w0 N (T.st us) a w:=by
 obtain ⟨rs,h1,h2,hS,hH⟩:=hc
 obtain ⟨E2,g1,g2,g3,_⟩:=xgx (wr:=[]) (tm:=fun _=>none) h hH hS (fun o ho=>by cases ho) (fun o ho=>by cases ho) (fun t v _ hv=>by cases hv)
 exact ⟨E2,g1,rs,h1,h2,g2,g3⟩
theorem xba (hΓ:xbh P Γ) {n:Nat} {S:Spec} {outs:List (xct×Spec)} {code:Code} {us:List U} {a:Act} {i:Nat} {us':List U} {y:xct} {T:Spec} (hc:CfgOk X E w0 N (S.st us) a w) (h:xf2 P Γ n N S outs code us=some (i,us')) (ho:outs[i]?=some (y,T)) {Q:Exit→Act→World→Prop}
  (hQ:∀ E' a' w',(∀ k,k<S.base→k<T.base→E' k=E k)→CfgOk X E' w0 N (T.st us') a' w'→Q y.toExit a' w'):code.wpIn (FR none) 0 P Q a w:=by
 refine xbl (rnd:=none) hΓ (xny hΓ xaA n) (xfw xaA n) (xBq hΓ xaA n).2 (rb:=false) (res:=[]) (fun _=>rfl) code (S.st us) E a w Q hc ?_
 have h1:=xfM (Q:=fun r=>r=(i,us')) rfl h
 refine xaM (fun x hx=>?_) (xbw h1)
 intro E1 a1 w1 hE hc1 hle hold
 unfold outT at hx
 cases hp:outP P outs 0 x with
 | none=>rw [hp] at hx; exact hx.elim
 | some r =>
  rw [hp] at hx
  have hx:r=(i,us'):=hx
  subst hx
  obtain ⟨T',h2,h3,h4⟩:=xtN hp
  rw [Nat.sub_zero,ho] at h3
  cases h3
  obtain ⟨E2,g1,g2⟩:=hc1.shape h4
  refine hQ E2 a1 w1 (fun k hk hk'=>?_) g2
  rw [g1 k hk']
  exact hE k (by show k<S.base+S.rows.length+1; omega)
theorem xah.envTo {H:Heap} {E2:Env} (h:xah X E w0 H w) (hE:∀ o∈H.objs,E2 o.key=E o.key∧xa7 (fun k=>E2 k=E k) o.body) (henv:∀ k,(E2 k).oneCell'=true):xah X E2 w0 H w :=
 ⟨h.below,henv,fun o ho=>(h.objs o ho).keep (hE o ho).1 (hE o ho).2 (fun _ _=>rfl) (Nat.le_refl _) (fun _ _=>rfl),
  fun o ho hown b hb=>h.high o ho hown b (by rw [← (hE o ho).1]; exact hb),
  fun o ho o' ho' hown hne b hb=>by rw [(hE o ho).1] at hb; rw [(hE o' ho').1]; exact h.inj o ho o' ho' hown hne b hb,
  h.uniq,h.lt,fun x hx=>⟨(h.prot x hx).1,fun o ho=>by rw [(hE o ho).1]; exact (h.prot x hx).2 o ho⟩,
  fun o ho b hb o' ho' hown=>by rw [(hE o' ho').1]; exact h.deep o ho b (xgD (hE o ho).1 hb) o' ho' hown,
  fun x hx o ho hb=>h.protD x hx o ho (xgD (hE o ho).1 hb),
  fun o ho b hb=>h.fsh o ho b (hb.imp (fun h1=>⟨h1.1,by rw [← (hE o ho).1]; exact h1.2⟩) fun h1=>⟨h1.1,xgD (hE o ho).1 h1.2⟩)⟩
theorem CfgOk.put {c:Cfg} {a:Act} (hc:CfgOk X E w0 N c a w) {d:Nat} {v:Value} {u:Option AV} {E2:Env} (hd:d<N) (hE:∀ o∈c.heap.objs,E2 o.key=E o.key∧xa7 (fun k=>E2 k=E k) o.body) (henv:∀ k,(E2 k).oneCell'=true)
  (hs:∀ t x,t≠d→c.tmps t=some x→AV.all (fun k=>E2 k=E k) x) (hu:∀ x,u=some x→v=x.den E2∧AV.lt c.heap.next x):CfgOk X E2 w0 N ⟨fun t=>match Nat.beq t d with | true=>u | false=>c.tmps t,c.heap⟩ (a.put (some d) v) w:=by
 obtain ⟨rs,h1,h2,hS,hH⟩:=hc
 refine ⟨rs,h1,h2,⟨?_,?_,fun t=>?_⟩,hH.envTo hE henv⟩
 ·exact hS.defers
 ·have:=hS.size
  simp only [Act.put]
  simpa using this
 ·have hdl:d<a.tmps.size:=Nat.lt_of_lt_of_le hd hS.size
  by_cases e:t=d
  ·subst e
   cases hu':u with
   | none =>
    have e1:xal (fun t'=>match Nat.beq t' t with | true=>(none:Option AV) | false=>c.tmps t') t=.junk:=by simp [xal]
    show xjn _ _ _ t (xal (fun t'=>match Nat.beq t' t with | true=>(none:Option AV) | false=>c.tmps t') t)
    rw [e1]; trivial
   | some x =>
    obtain ⟨g1,g2⟩:=hu x hu'
    have e1:xal (fun t'=>match Nat.beq t' t with | true=>some x | false=>c.tmps t') t=.is x:=by simp [xal]
    show xjn _ _ _ t (xal (fun t'=>match Nat.beq t' t with | true=>some x | false=>c.tmps t') t)
    rw [e1]
    refine ⟨?_,g2⟩
    rw [← g1]
    simp [Act.put,Array.getD_eq_getD_getElem?,hdl]
  ·have e0:(match Nat.beq t d with | true=>u | false=>c.tmps t)=c.tmps t:=by rw [xhQ e]
   have e1:xal (fun t'=>match Nat.beq t' d with | true=>u | false=>c.tmps t') t=xal c.tmps t:=by simp only [xal,e0]
   show xjn _ _ _ t (xal (fun t'=>match Nat.beq t' d with | true=>u | false=>c.tmps t') t)
   rw [e1]
   have hp:=hS.ok t
   cases ht:c.tmps t with
   | none =>
    have e2:xal c.tmps t=.junk:=by simp [xal,ht]
    rw [e2]; trivial
   | some x =>
    have e2:xal c.tmps t=.is x:=by simp [xal,ht]
    rw [e2] at hp ⊢
    refine ⟨?_,hp.2⟩
    rw [xcy (fun k hk=>hk) x (hs t x e ht),← hp.1]
    simp [Act.put,Array.getD_eq_getD_getElem?,Array.getElem?_setIfInBounds,Ne.symm e]
theorem xah.turn {H:Heap} {w2:World} {bs:List Nat} {X2:List (Nat×Go.Obj)} (h:xah X E w0 H w) (hc:Chg w w2 bs) (hbs:∀ b∈bs,w0.heap.size≤b∧∃ o,(b,o)∈X)
  (hX2:∀ x∈X2,w2.heap[x.1]?=some x.2∧((∃ o,(x.1,o)∈X)∨w.heap.size≤x.1)):xah X2 E w0 H w2:=by
 have hno:∀ o∈H.objs,∀ b∈bs,blkO (E o.key)≠some b:=fun o ho b hb=>by
  obtain ⟨_,ob,hm⟩:=hbs b hb
  exact (h.prot (b,ob) hm).2 o ho
 have hnoD:∀ o∈H.objs,∀ b∈bs,¬ Inn E w o.key o.body b:=fun o ho b hb hi=>by
  obtain ⟨_,ob,hm⟩:=hbs b hb
  exact h.protD (b,ob) hm o ho hi
 have hsame:∀ o∈H.objs,∀ g,blkO (E o.key)=some g→w2.heap[g]?=w.heap[g]?:=fun o ho g hg=>hc.block g (xnB (h.objs o ho) hg) fun hm=>hno o ho g hm hg
 have hin:∀ o∈H.objs,∀ g,Inn E w2 o.key o.body g→Inn E w o.key o.body g:=fun o ho g hg=>xjz (h.objs o ho) rfl (hsame o ho) hg
 refine ⟨h.below.chg hc fun b hb=>(hbs b hb).1,h.env,fun o ho=>(h.objs o ho).keep rfl (xbB E) (hsame o ho) hc.size (fun g hg=>hc.block g (xoS (h.objs o ho) hg) fun hm=>hnoD o ho g hm hg),h.high,h.inj,h.uniq,h.lt,fun x hx=>?_,
  fun o1 ho1 b hb=>h.deep o1 ho1 b (hin o1 ho1 b hb),fun x hx o1 ho1 hb=>?_,fun o1 ho1 b hb=>h.fsh o1 ho1 b (hb.imp id fun h=>⟨h.1,hin o1 ho1 b h.2⟩)⟩
 ·obtain ⟨h1,h2⟩:=hX2 x hx
  refine ⟨h1,fun o ho=>?_⟩
  rcases h2 with ⟨ob,hm⟩ | h2
  ·exact (h.prot (x.1,ob) hm).2 o ho
  ·intro he
   have:=xnB (h.objs o ho) he
   omega
 ·obtain ⟨h1,h2⟩:=hX2 x hx
  have hb:=hin o1 ho1 _ hb
  rcases h2 with ⟨ob,hm⟩ | h2
  ·exact h.protD (x.1,ob) hm o1 ho1 hb
  ·have:=xoS (h.objs o1 ho1) hb
   omega
theorem CfgOk.turn {c:Cfg} {a:Act} {w2:World} {bs:List Nat} {X2:List (Nat×Go.Obj)} (h:CfgOk X E w0 N c a w) (hc:Chg w w2 bs) (hbs:∀ b∈bs,w0.heap.size≤b∧∃ o,(b,o)∈X)
  (hX2:∀ x∈X2,w2.heap[x.1]?=some x.2∧((∃ o,(x.1,o)∈X)∨w.heap.size≤x.1)):CfgOk X2 E w0 N c a w2:=by
 obtain ⟨rs,h1,h2,hS,hH⟩:=h
 have hrs:∀ r∈rs,r<w.heap.size∧w.heap[r]?=some (Go.Obj.deferred (some [])):=fun r hr=>by
  have:=(hH.prot (r,_) (List.mem_append.2 (.inl (List.mem_map.2 ⟨r,hr,rfl⟩)))).1
  exact ⟨(Array.getElem?_eq_some_iff.1 this).1,this⟩
 have hne:∀ r∈rs,r∉bs:=fun r hr hb=>by
  obtain ⟨_,o,hm⟩:=hbs r hb
  exact (h1 r hr).2 _ hm rfl
 refine ⟨rs,fun r hr=>⟨(h1 r hr).1,fun x hx e=>?_⟩,h2,hS,hH.turn hc (fun b hb=>?_) fun x hx=>?_⟩
 ·rcases (hX2 x hx).2 with ⟨o,hm⟩ | h3
  ·exact (h1 r hr).2 _ hm e
  ·have:=(hrs r hr).1; omega
 ·obtain ⟨g1,o,g2⟩:=hbs b hb
  exact ⟨g1,o,List.mem_append.2 (.inr g2)⟩
 ·rcases List.mem_append.1 hx with hx | hx
  ·obtain ⟨r,hr,rfl⟩:=List.mem_map.1 hx
   refine ⟨?_,.inl ⟨_,List.mem_append.2 (.inl (List.mem_map.2 ⟨r,hr,rfl⟩))⟩⟩
   show w2.heap[r]?=_
   rw [hc.block r (hrs r hr).1 (hne r hr)]
   exact (hrs r hr).2
  ·obtain ⟨g1,g2⟩:=hX2 x hx
   exact ⟨g1,g2.imp (fun ⟨o,hm⟩=>⟨o,List.mem_append.2 (.inr hm)⟩) id⟩
theorem CfgOk.hide {tm:Nat→Option AV} {H:Heap} {a:Act} {o:Obj} {l:Nat} {ob:Go.Obj} (h:CfgOk X E w0 N ⟨tm,H⟩ a w) (ho:o∈H.objs) (hown:o.own=true) (hb:blkO (E o.key)=some l) (hl:w.heap[l]?=some ob):CfgOk ((l,ob)::X) E w0 N ⟨tm,xom o.key H⟩ a w∧w0.heap.size≤l∧∀ x∈X,x.1≠l:=by
 obtain ⟨rs,h1,h2,hS,hH⟩:=h
 obtain ⟨g1,g2,g3⟩:=hH.hide ho hown hb hl
 refine ⟨⟨rs,fun r hr=>⟨(h1 r hr).1,fun x hx=>?_⟩,h2,hS,?_⟩,g2,fun x hx=>g3 x (List.mem_append.2 (.inr hx))⟩
 ·rcases List.mem_cons.1 hx with rfl | hx
  ·exact fun e=>g3 (r,_) (List.mem_append.2 (.inl (List.mem_map.2 ⟨r,hr,rfl⟩))) e.symm
  ·exact (h1 r hr).2 x hx
 ·refine g1.turn (Chg.refl _ []) (by simp) fun x hx=>?_
  have hm:x∈(l,ob)::xmR rs X:=by
   rcases List.mem_append.1 hx with hx | hx
   ·exact List.mem_cons_of_mem _ (List.mem_append.2 (.inl hx))
   ·rcases List.mem_cons.1 hx with rfl | hx
    ·exact List.mem_cons_self
    ·exact List.mem_cons_of_mem _ (List.mem_append.2 (.inr hx))
  exact ⟨(g1.prot x hm).1,.inl ⟨x.2,hm⟩⟩
theorem CfgOk.show_ {tm:Nat→Option AV} {H:Heap} {a:Act} {l key ver:Nat} {ob:Go.Obj} {b:Body} (h:CfgOk ((l,ob)::X) E w0 N ⟨tm,H⟩ a w) (hl:w0.heap.size≤l) (hX:∀ x∈X,x.1≠l) (hE:E key=.pointer (some ⟨l,0,none⟩)) (hb:xa0 E w key true b) (hk:key<H.next) (hall:xa7 (fun k=>k<H.next) b)
  (hno:∀ o∈H.objs,o.key≠key) (hf:xog b=true:=by rfl):CfgOk X E w0 N ⟨tm,⟨⟨key,ver,true,b⟩::H.objs,H.next⟩⟩ a w:=by
 obtain ⟨rs,h1,h2,hS,hH⟩:=h
 have hr:∀ r∈rs,r≠l:=fun r hr e=>(h1 r hr).2 (l,ob) List.mem_cons_self e.symm
 refine ⟨rs,fun r hr=>⟨(h1 r hr).1,fun x hx=>(h1 r hr).2 x (List.mem_cons_of_mem _ hx)⟩,h2,hS,?_⟩
 have hH2:xah ((l,ob)::xmR rs X) E w0 H w:=by
  refine hH.turn (Chg.refl _ []) (by simp) fun x hx=>?_
  have hm:x∈xmR rs ((l,ob)::X):=by
   rcases List.mem_cons.1 hx with rfl | hx
   ·exact List.mem_append.2 (.inr List.mem_cons_self)
   ·rcases List.mem_append.1 hx with hx | hx
    ·exact List.mem_append.2 (.inl hx)
    ·exact List.mem_append.2 (.inr (List.mem_cons_of_mem _ hx))
  exact ⟨(hH.prot x hm).1,.inl ⟨x.2,hm⟩⟩
 refine hH2.show_ hl (fun x hx=>?_) hE hb hk hall hno hf
 rcases List.mem_append.1 hx with hx | hx
 ·obtain ⟨r,hr',rfl⟩:=List.mem_map.1 hx
  exact hr r hr'
 ·exact hX x hx
def Fin (P:Program) (fn:Func) (w0:World) (N:Nat) (R:Ending→World→Prop):Exit→Act→World→Prop
 | .ret,a,w | .normal,a,w=>∃ (X:List (Nat×Go.Obj)) (E:Env) (c:Cfg) (v:AV),CfgOk X E w0 N c a w∧xeG P c fn.results.toList=some [v]∧∀ w',xah X E w0 c.heap w'→R (.returned (v.den E)) w'
 | _,_,_=>False
theorem xr6 {f:FuncId} {fn:Func} {code:Code} (hf:P.funcs[f]?=some fn) (hb:fn.body=some code) {args:List AV} {H:Heap} {R:Ending→World→Prop} (hl:args.length≤fn.ntmps) (hH:xah X E w0 H w) (hargs:AV.ltL H.next args)
  (h:∀ a,CfgOk X E w0 fn.ntmps ⟨fun t=>match args[t]? with | some v=>some v | none=>some (.val undef),H⟩ a w→code.wpIn (FR none) 0 P (Fin P fn w0 fn.ntmps R) a w):Calls P f (AV.denL E args).toArray w R:=by
 refine xlq.1 (callsIn_of_wp_marks (F:=FR none) (n:=0) hf hb trivial (wpIn_mono (h _ ⟨[],(fun _ h=>by cases h),List.nodup_nil,⟨rfl,?_,fun t=>?_⟩,hH⟩) fun e a' w' hx=>?_))
 ·simp [xar]; omega
 ·have hal:=(xen _ _).1 hargs
  unfold xal
  by_cases ht:t<args.length
  ·have e1:args[t]?=some args[t]:=List.getElem?_eq_getElem ht
   simp only [e1]
   refine ⟨?_,hal _ (List.getElem_mem ht)⟩
   rw [Array.getD_eq_getD_getElem?,Array.getElem?_append_left (by simp [xar]; exact ht)]
   simp [xar,ht]
  ·have e1:args[t]?=none:=List.getElem?_eq_none (by omega)
   simp only [e1]
   refine ⟨?_,trivial⟩
   rw [Array.getD_eq_getD_getElem?,Array.getElem?_append_right (by simp [xar]; omega),Array.getElem?_replicate]
   split<;>rfl
 ·have fin:(∃ (X:List (Nat×Go.Obj)) (E:Env) (c:Cfg) (v:AV),CfgOk X E w0 fn.ntmps c a' w'∧xeG P c fn.results.toList=some [v]∧∀ w',xah X E w0 c.heap w'→R (.returned (v.den E)) w')→LeavesInM (FR none) 0 P fn a'.tmps R a'.defers .returning w':=by
   rintro ⟨X2,E2,c,v,⟨rs,hrs1,hrs2,hS,hH'⟩,hv,hR⟩
   rw [hS.defers]
   refine xkG rs w' hrs1 hrs2 hH' fun w'' hH2=>⟨_,xjp hS hH2 hv,?_⟩
   have:=hR w'' hH2
   simpa [AV.denL] using this
  cases e with
  | ret=>exact fin hx
  | normal=>exact fin hx
  | _=>exact hx.elim
def Spec.free (S:Spec) (k d:Nat):Bool :=
 S.slots.all (fun x=>Nat.beq x.1 d||!((AV.keys x.2).any (Nat.beq k)))&&S.objs.all (fun o=>!(Nat.beq k o.key)&&(match o.body with
  | .cells cs=>!((AV.keysL cs).any (Nat.beq k))
  | b=>xa6 b))&&S.rows.isEmpty
theorem xjC (us:List U):∀ (l:List (Nat×AV)) (j t:Nat) (v:AV),xdA t (xaD us l j).1=some v→∃ x∈l,x.1=t∧AV.keys v=AV.keys x.2
 | [],_,_,_,h=>by cases h
 | (t0,v0)::r,j,t,v,h=>by
  have e:(xaD us ((t0,v0)::r) j).1=(t0,(xeA us v0 j).1)::(xaD us r (xeA us v0 j).2).1:=rfl
  rw [e] at h
  unfold xdA at h
  by_cases ht:Nat.beq t t0=true
  ·rw [if_pos ht] at h
   cases h
   exact ⟨_,List.mem_cons_self,(Nat.eq_of_beq_eq_true ht).symm,xsa us v0 j⟩
  ·rw [if_neg ht] at h
   obtain ⟨x,h1,h2⟩:=xjC us r _ t v h
   exact ⟨x,List.mem_cons_of_mem _ h1,h2⟩
theorem xoV (ver:Nat) (us:List U):∀ (l:List Obj) (j:Nat),∀ o∈(xaR ver us l j).1,∃ s∈l,o.key=s.key∧∃ j',o.body=(xgc us s.body j').1
 | [],_,o,h=>by cases h
 | s::r,j,o,h=>by
  have e:(xaR ver us (s::r) j).1=⟨s.key,ver,s.own,(xgc us s.body j).1⟩::(xaR ver us r (xgc us s.body j).2).1:=rfl
  rw [e] at h
  rcases List.mem_cons.1 h with rfl | h
  ·exact ⟨s,List.mem_cons_self,rfl,j,rfl⟩
  ·obtain ⟨s',h1,h2⟩:=xoV ver us r _ o h
   exact ⟨s',List.mem_cons_of_mem _ h1,h2⟩
theorem Spec.free_ok {S:Spec} {us:List U} {d k:Nat} {v:Value} (hf:S.free k d=true):(∀ o∈(S.st us).heap.objs,upd E k v o.key=E o.key∧xa7 (fun k'=>upd E k v k'=E k') o.body)∧∀ t x,t≠d→(S.st us).tmps t=some x→AV.all (fun k'=>upd E k v k'=E k') x:=by
 unfold Spec.free at hf
 rw [Bool.and_eq_true,Bool.and_eq_true] at hf
 obtain ⟨⟨hf1,hf2⟩,hf3⟩:=hf
 have hrows:S.rows=[]:=by simpa using hf3
 have hne:∀ k',k'≠k→upd E k v k'=E k':=fun k' h=>xcS _ _ h
 refine ⟨fun o ho=>?_,fun t x ht hx=>?_⟩
 ·have e:(S.st us).heap.objs=(xaR S.base us S.objs (xaD us S.slots 0).2).1++xcX S.base us S.base S.rows (xaR S.base us S.objs (xaD us S.slots 0).2).2++[]:=rfl
  rw [e,hrows] at ho
  have ho:o∈(xaR S.base us S.objs (xaD us S.slots 0).2).1:=by simpa [xcX] using ho
  obtain ⟨s,h1,h2,j,h3⟩:=xoV _ _ _ _ o ho
  have h4:=List.all_eq_true.1 hf2 s h1
  rw [Bool.and_eq_true] at h4
  have hkey:o.key≠k:=by
   rw [h2]
   intro e
   have:=h4.1
   rw [e,xcM] at this
   cases this
  refine ⟨hne _ hkey,?_⟩
  rw [h3]
  have h5:=h4.2
  generalize s.body=b at h5
  cases b with
  | cells cs =>
   simp only [] at h5
   show AV.allL _ (xcl us cs j).1
   refine (xcm _).2 fun k' hk'=>hne k' fun e=>?_
   rw [xgE] at hk'
   subst e
   have:(AV.keysL cs).any (Nat.beq k')=true:=List.any_eq_true.2 ⟨k',hk',xcM k'⟩
   rw [this] at h5
   cases h5
  | row=>exact xca rfl
  | nst=>exact xca rfl
  | sub=>exact xca rfl
  | mq=>exact xca rfl
  | nil=>exact xca rfl
  | arr=>cases h5
  | mp=>cases h5
  | fin=>cases h5
  | loop=>cases h5
 ·have e:(S.st us).tmps t=(match xdA t (xaD us S.slots 0).1 with | some v=>some v | none=>if ([]:List Nat).any (Nat.beq t) then none else none):=rfl
  rw [e] at hx
  cases hl:xdA t (xaD us S.slots 0).1 with
  | none=>rw [hl] at hx; simp at hx
  | some v' =>
   rw [hl] at hx
   cases hx
   obtain ⟨y,h1,h2,h3⟩:=xjC us _ _ _ _ hl
   have h4:=List.all_eq_true.1 hf1 y h1
   refine (xaW _).2 fun k' hk'=>hne k' fun e=>?_
   rw [h3] at hk'
   subst e
   have hb:Nat.beq y.1 d=false:=by rw [h2]; exact xhQ ht
   have:(AV.keys y.2).any (Nat.beq k')=true:=List.any_eq_true.2 ⟨k',hk',xcM k'⟩
   rw [hb,this] at h4
   cases h4
theorem CfgOk.putS {S:Spec} {us:List U} {a:Act} (hc:CfgOk X E w0 N (S.st us) a w) {d k:Nat} {v:Value} (hf:S.free k d=true) (hk:k<S.base) (hd:d<N) (hv:v.oneCell'=true) :
  CfgOk X (upd E k v) w0 N ⟨fun t=>match Nat.beq t d with | true=>some (.sl k) | false=>(S.st us).tmps t,(S.st us).heap⟩ (a.put (some d) v) w:=by
 have henv:∀ k,(E k).oneCell'=true:=by obtain ⟨_,_,_,_,hH⟩:=hc; exact hH.env
 obtain ⟨f1,f2⟩:=Spec.free_ok (us:=us) (E:=E) (v:=v) hf
 refine hc.put hd f1 (fun k'=>?_) f2 fun x hx=>?_
 ·by_cases e:k'=k
  ·rw [e,xbH]; exact hv
  ·rw [xcS _ _ e]; exact henv k'
 ·cases hx
  refine ⟨by show v=upd E k v k; rw [xbH],?_⟩
  show k<S.base+S.rows.length+1
  omega
theorem CfgOk.envS {S:Spec} {us:List U} {a:Act} (hc:CfgOk X E w0 N (S.st us) a w) {k:Nat} {v:Value} (hf:S.free k 1000000=true) (h0:(S.st us).tmps 1000000=none) (hv:v.oneCell'=true):CfgOk X (upd E k v) w0 N (S.st us) a w:=by
 have henv:∀ k,(E k).oneCell'=true:=by obtain ⟨_,_,_,_,hH⟩:=hc; exact hH.env
 obtain ⟨f1,f2⟩:=Spec.free_ok (us:=us) (E:=E) (v:=v) hf
 obtain ⟨rs,h1,h2,hS,hH⟩:=hc
 refine ⟨rs,h1,h2,⟨hS.defers,hS.size,fun t=>?_⟩,hH.envTo f1 fun k'=>?_⟩
 ·have hp:=hS.ok t
  cases ht:(S.st us).tmps t with
  | none =>
   have e2:xal (S.st us).tmps t=.junk:=by simp [xal,ht]
   rw [e2]; trivial
  | some x =>
   have e2:xal (S.st us).tmps t=.is x:=by simp [xal,ht]
   rw [e2] at hp ⊢
   refine ⟨?_,hp.2⟩
   rw [xcy (fun k hk=>hk) x (f2 t x (fun e=>by rw [e,h0] at ht; cases ht) ht)]
   exact hp.1
 ·by_cases e:k'=k
  ·rw [e,xbH]; exact hv
  ·rw [xcS _ _ e]; exact henv k'
def rhoC (c:Cfg):Operand→Option AV
 | .tmp t=>c.tmps t
 | .const v=>some (ofValue v)
 | _=>none
theorem CfgOk.op {c:Cfg} {a:Act} {o:Oper} {u:AV} (hc:CfgOk X E w0 N c a w) (hz:xmC P (rhoC c) c.heap.objs c.heap.next o.op=some ⟨none,[],0,[],u⟩) :
  ∃ w' nx,(execOp a.eval o).run P w=.ok nx w'∧(nx=.value (u.den E)∨(nx=.skip∧u.den E=undef))∧CfgOk X E w0 N c a w'∧Chg w w' []∧(∀ d,o.op≠.defer d)∧AV.lt c.heap.next u:=by
 have hnd:∀ d,o.op≠.defer d:=fun d e=>by
  rw [e] at hz
  unfold xmC at hz
  simp [xfk] at hz
 have hρ:∀ x v,rhoC c x=some v→a.eval x=v.den E∧AV.lt c.heap.next v:=by
  intro x v hx
  cases x with
  | tmp t=>exact hc.point hx
  | const u=>cases hx; exact ⟨(xgG E u).symm,xfI _ u⟩
  | global=>cases hx
  | func=>cases hx
 have hH:∃ X',xah X' E w0 c.heap w∧∀ x∈X,x∈X':=by
  obtain ⟨rs,_,_,_,hH⟩:=hc
  exact ⟨_,hH,fun x hx=>List.mem_append.2 (.inr hx)⟩
 obtain ⟨X',hH,hX⟩:=hH
 obtain ⟨h1,h2,_⟩:=xhR (P:=P) (objs:=c.heap.objs) (n:=c.heap.next) (K:=c.heap.next) (ρ:=rhoC c) hH hρ (Nat.le_refl _) o hz (fun hn=>absurd rfl hn)
 obtain ⟨E',w',nx,g1,g2,g3⟩:=h2 trivial
 have hE:E'=E:=funext fun k=>g3.agree k (by
  show k<c.heap.next∨c.heap.next+0≤k
  omega)
 subst hE
 have hch:Chg w w' []:=g3.chg
 refine ⟨w',nx,g1,g2,hc.turn hch (by simp) fun x hx=>⟨?_,.inl ⟨x.2,hx⟩⟩,hch,hnd,?_⟩
 ·have:=(hH.prot x (hX x hx)).1
  rw [hch.block x.1 (Array.getElem?_eq_some_iff.1 this).1 (by simp)]
  exact this
 ·refine xdU (fun k hk=>?_) u h1.val
  rcases hk with hk | hk
  ·exact hk
  ·have:k<c.heap.next+0:=hk
   omega
theorem CfgOk.opE {c:Cfg} {a:Act} {o:Oper} {x:Eff} (hc:CfgOk X E w0 N c a w) (hz:xmC P (rhoC c) c.heap.objs c.heap.next o.op=some x) (hx:x.holds) :
  ∃ E' w' nx,(execOp a.eval o).run P w=.ok nx w'∧(nx=.value (x.v.den E')∨(nx=.skip∧x.v.den E'=undef))∧(∀ k,k<c.heap.next→E' k=E k)∧CfgOk X E' w0 N ⟨c.tmps,c.heap.eff x⟩ a w'∧AV.lt (c.heap.next+x.nk) x.v∧(∀ d,o.op≠.defer d)∧w.heap.size≤w'.heap.size:=by
 have hnd:∀ d,o.op≠.defer d:=fun d e=>by
  rw [e] at hz
  unfold xmC at hz
  simp [xfk] at hz
 have hρ:∀ x v,rhoC c x=some v→a.eval x=v.den E∧AV.lt c.heap.next v:=by
  intro x v hx
  cases x with
  | tmp t=>exact hc.point hx
  | const u=>cases hx; exact ⟨(xgG E u).symm,xfI _ u⟩
  | global=>cases hx
  | func=>cases hx
 obtain ⟨rs,q1,q2,hS,hH⟩:=hc
 obtain ⟨f1,h2,_⟩:=xhR (P:=P) (objs:=c.heap.objs) (n:=c.heap.next) (K:=c.heap.next) (ρ:=rhoC c) hH hρ (Nat.le_refl _) o hz (fun _ o ho=>⟨Nat.ne_of_lt (hH.lt o ho).1,xaU (fun k hk=>Nat.ne_of_lt hk) (hH.lt o ho).2⟩)
 obtain ⟨E',w',nx,g1,g2,g3⟩:=h2 hx
 have hH3:=hH.effAt f1 g3 (fun o ho=>⟨.inl (hH.lt o ho).1,xaU (fun k hk=>.inl hk) (hH.lt o ho).2⟩) (n':=c.heap.next+x.nk) (Nat.le_add_right _ _) (Nat.le_refl _)
 have hE:∀ k,k<c.heap.next→E' k=E k:=fun k hk=>g3.agree k (.inl hk)
 exact ⟨E',w',nx,g1,g2,hE,⟨rs,q1,q2,hS.env hE (Nat.le_add_right _ _),hH3⟩,xdU (fun k hk=>(hk.elim (fun h=>Nat.lt_of_lt_of_le h (Nat.le_add_right _ _)) (fun h=>h):k<c.heap.next+x.nk)) _ f1.val,hnd,g3.chg.size⟩
theorem CfgOk.at_ {c:Cfg} {a:Act} (hc:CfgOk X E w0 N c a w) {x:Nat×Go.Obj} (hx:x∈X):w.heap[x.1]?=some x.2:=by
 obtain ⟨rs,_,_,_,hH⟩:=hc
 exact (hH.prot x (List.mem_append.2 (.inr hx))).1
theorem CfgOk.body {c:Cfg} {a:Act} (hc:CfgOk X E w0 N c a w) {o:Obj} (ho:o∈c.heap.objs):xa0 E w o.key o.own o.body:=by
 obtain ⟨rs,_,_,_,hH⟩:=hc
 exact hH.objs o ho
theorem xhs {w2:World} {e:TypeId} {sz n:Nat} {v:Value} {vs:List Value} (h:xfl w e sz v n vs) (hw:∀ g,blkO v=some g→w2.heap[g]?=w.heap[g]?):xfl w2 e sz v n vs:=by
 rcases h with ⟨a,rfl,hn⟩ | ⟨g,cap,cur,rfl,hg,h1,h2,h3,h4⟩
 ·exact .inl ⟨a,rfl,hn⟩
 ·by_cases hc:cap=0
  ·refine .inl ⟨some ⟨g,0,none⟩,?_,by omega⟩
   have:n=0:=by omega
   rw [this,hc]
  ·exact .inr ⟨g,cap,cur,rfl,by rw [hw g (by simp [blkO,hc])]; exact hg,h1,h2,h3,h4⟩
end
end Go.Sy
set_option linter.unusedVariables false
namespace Go.Proofs.YthfjhbbpdhjklaaGreat
open Go Go.Sy
def xhZ (n:Nat):Code→Option Code
 | .region i ops d=>if Nat.beq i n then some (.region i ops d) else none
 | .seq a b=>match xhZ n a with | some c=>some c | none=>xhZ n b
 | .cond _ a b=>match xhZ n a with | some c=>some c | none=>xhZ n b
 | .block _ a=>xhZ n a
 | .loop a=>xhZ n a
 | .scope a=>xhZ n a
 | _=>none
noncomputable def gpc (n:Nat):Code:=(xhZ n ((Tryz.f35.body).getD .skip)).getD .skip
def xBM:List CK:=[.int .i64,.int .i64,.int .i64,.int .u64]
def xDQ:List NK:=[.c (.int .i64),.s 178 xBM]
def kCh:List CK:=[.int .i64,.int .i64,.int .i64]
def xkY:List Sy.Obj:=[⟨0,0,false,.row 178 xBM []⟩,⟨1,0,false,.mq 3 39 .i64 xDQ []⟩,⟨2,0,false,.row 53 kCh []⟩]
def qObj:Sy.Obj:=⟨6,0,true,.cells [.int .i64 0,.sl 0,.sl 1,.sl 2,.int .i64 0,.int .i64 0]⟩
def cObj:Sy.Obj:=⟨8,0,true,.cells [.int .i64 0,.int .i64 0,.int .i64 0]⟩
def lObj:Sy.Obj:=⟨10,0,false,.row 178 xBM []⟩
def xuS:Sy.Obj:=⟨11,0,true,.cells [.int .i64 0,.sl 10]⟩
def xua:Sy.Obj:=⟨13,0,true,.cells [.int .i64 0,.int .i64 0]⟩
def gObj:Sy.Obj:=⟨15,0,true,.cells [.int .i64 0,.int .i64 0,.bool false,.bool false]⟩
def g0:Sy.Spec:=⟨[(0,.agg [.int .i64 0,.sl 0,.sl 1,.sl 2,.int .i64 0,.int .i64 0])],xkY,[],5,[]⟩
def g1:Sy.Spec:=⟨[(1,.ptr 6 0)],xkY++[qObj],[],7,[]⟩
def g2:Sy.Spec:=⟨[(1,.ptr 6 0),(3,.sl 3),(4,.sl 4)],xkY++[qObj],[],7,[]⟩
def gLs:List (Nat×AV):=[(1,.ptr 6 0),(3,.sl 3),(4,.sl 4),(18,.sl 2),(19,.int .i64 0),(20,.int .i64 0)]
def gL:Sy.Spec:=⟨gLs,xkY++[qObj],[],7,[]⟩
def g4:Sy.Spec:=⟨gLs++[(21,.bool false)],xkY++[qObj],[],7,[]⟩
def g5:Sy.Spec:=⟨gLs++[(6,.ptr 8 0)],xkY++[qObj,cObj],[],9,[]⟩
def g6:Sy.Spec:=⟨gLs++[(6,.ptr 8 0),(7,.ptr 11 0)],xkY++[qObj,cObj,lObj,xuS],[],12,[]⟩
def g7:Sy.Spec:=⟨gLs++[(6,.ptr 8 0),(7,.ptr 11 0),(45,.bool false)],xkY++[qObj,cObj,lObj,xuS],[],12,[]⟩
def g8:Sy.Spec:=⟨gLs++[(6,.ptr 8 0),(7,.ptr 11 0),(8,.ptr 13 0)],xkY++[qObj,cObj,lObj,xuS,xua],[],14,[]⟩
def g9:Sy.Spec:=⟨gLs++[(6,.ptr 8 0),(7,.ptr 11 0),(8,.ptr 13 0),(9,.sl 5),(10,.bool false)],xkY++[qObj,cObj,lObj,xuS,xua],[],14,[]⟩
def g10:Sy.Spec:=⟨gLs++[(6,.ptr 8 0),(7,.ptr 11 0),(8,.ptr 13 0),(9,.sl 5),(10,.bool false),(58,.bool false)],xkY++[qObj,cObj,lObj,xuS,xua],[],14,[]⟩
def gF:Sy.Spec:=⟨gLs++[(6,.ptr 8 0),(7,.ptr 11 0),(8,.ptr 13 0),(9,.ptr 15 0)],xkY++[qObj,cObj,lObj,xuS,xua,gObj],[],16,[]⟩
def g14:Sy.Spec:=⟨gLs++[(6,.ptr 8 0),(7,.ptr 11 0),(8,.ptr 13 0),(9,.ptr 15 0),(11,.int .i64 0)],xkY++[qObj,cObj,lObj,xuS,xua,gObj],[],16,[]⟩
end Go.Proofs.YthfjhbbpdhjklaaGreat
set_option maxRecDepth 100000
set_option linter.unusedVariables false
namespace Go.Proofs.YthfjhbbpdhjklaaGreat
open Go Go.Sy
noncomputable def gq0 (ow tm dl:Int) (uj uh uk:List (List Int)):Option (Nat×List U) :=
 some (0,[.r (uj),.r (uh),.r (uk),.i (ow),.i (tm),.i (dl)])
noncomputable def gq3 (uj uh uk:List (List Int)) (ow tm dl:Int):Option (Nat×List U) :=
 some (0,[.i ((↑(uk).length:Int)),.i ((0:Int)),.r (uj),.r (uh),.r (uk),.i (ow),.i (tm),.i (dl)])
noncomputable def gq4 (n j:Int) (uj uh uk:List (List Int)) (ow tm dl:Int):Option (Nat×List U) :=
 some (0,[.i (n),.i (j),.b (decide (j<n)),.r (uj),.r (uh),.r (uk),.i (ow),.i (tm),.i (dl)])
noncomputable def xwt (n j:Int) (uj uh uk:List (List Int)) (ow tm dl:Int):List Int :=
 (uk).getD (j).toNat []
noncomputable def gq5 (n j:Int) (uj uh uk:List (List Int)) (ow tm dl:Int):Option (Nat×List U) :=
 xac (inR (j) (uk)) (xac (inR (j) (uk)) (some (0,[.i (n),.i (j),.r (uj),.r (uh),.r (uk),.i (ow),.i (tm),.i (dl),.i (((xwt n j uj uh uk ow tm dl)).getD 0 (0:Int)),.i (((xwt n j uj uh uk ow tm dl)).getD 1 (0:Int)),.i (((xwt n j uj uh uk ow tm dl)).getD 2 (0:Int))])))
noncomputable def xA2 (n j:Int) (uj uh uk:List (List Int)) (ow tm dl cs ci ct:Int):List Int :=
 (xbO 1 [cs]
   (uh)).getD
 [(0:Int),encL []]
noncomputable def gq6 (n j:Int) (uj uh uk:List (List Int)) (ow tm dl cs ci ct:Int):Option (Nat×List U) :=
 some (0,[.i (n),.i (j),.r (uj),.r (uh),.r (uk),.i (ow),.i (tm),.i (dl),.i (cs),.i (ci),.i (ct),.r (decL (((xA2 n j uj uh uk ow tm dl cs ci ct)).getD 1 (0:Int))),.i (((xA2 n j uj uh uk ow tm dl cs ci ct)).getD 0 (0:Int))])
noncomputable def xws (n j:Int) (uj uh uk:List (List Int)) (ow tm dl cs ci ct:Int) (sl:List (List Int)) (so:Int):Int :=
 ct +
 dl
noncomputable def xyR (n j:Int) (uj uh uk:List (List Int)) (ow tm dl cs ci ct:Int) (sl:List (List Int)) (so:Int):List (List Int) :=
 xcF (so)
 (tm)
 (sl)
noncomputable def gq7 (n j:Int) (uj uh uk:List (List Int)) (ow tm dl cs ci ct:Int) (sl:List (List Int)) (so:Int):Option (Nat×List U) :=
 (bif decide (IntKind.i64.wrap ((xws n j uj uh uk ow tm dl cs ci ct sl so))>tm) then xac (decide (IntKind.i64.wrap ((xws n j uj uh uk ow tm dl cs ci ct sl so))>tm)=true) (some (0,[.i (n),.i (j),.b (true),.r (uj),.r (uh),.r (uk),.i (ow),.i (tm),.i (dl),.i (cs),.i (ci),.i (ct),.r (sl),.i (so)])) else xac (decide (IntKind.i64.wrap ((xws n j uj uh uk ow tm dl cs ci ct sl so))>tm)=false) (xac ((false=false)→(xbK (so)
 (tm)
 (sl))) (xac ((false=false)→(xbd (ci) ((xyR n j uj uh uk ow tm dl cs ci ct sl so)))) (some (0,[.i (n),.i (j),.b (xbE (ci) ((xyR n j uj uh uk ow tm dl cs ci ct sl so))),.r (uj),.r (uh),.r (uk),.i (ow),.i (tm),.i (dl),.i (cs),.i (ci),.i (ct),.r (sl),.i (so)])))))
noncomputable def gq8 (n j:Int) (uj uh uk:List (List Int)) (ow tm dl cs ci ct:Int) (sl:List (List Int)) (so:Int):Option (Nat×List U) :=
 some (0,[.i (n),.i (j),.r (uj),.r (uh),.r (uk),.i (ow),.i (tm),.i (dl),.i (cs),.i (ci),.i (ct),.r (sl),.i (so),.i (cs),.i (ci)])
noncomputable def gq10 (n j:Int) (is:Bool) (uj uh uk:List (List Int)) (ow tm dl cs ci ct:Int) (sl:List (List Int)) (so ks ki:Int):Option (Nat×List U) :=
 some (0,[.i (n),.i (j),.b (is),.b (!is),.r (uj),.r (uh),.r (uk),.i (ow),.i (tm),.i (dl),.i (cs),.i (ci),.i (ct),.r (sl),.i (so),.i (ks),.i (ki)])
noncomputable def gq11 (n j:Int) (is:Bool) (uj uh uk:List (List Int)) (ow tm dl cs ci ct:Int) (sl:List (List Int)) (so ks ki:Int):Option (Nat×List U) :=
 xac (xb7 (ow)
 (ci) (-1:Int)
 (uj)) (some (0,[.i (n),.i (j),.r (uj),.r (uh),.r (uk),.i (ow),.i (tm),.i (dl),.i (cs),.i (ci),.i (ct),.r (sl),.i (so),.i (ks),.i (ki),.i (ks),.i (ki),.b (!xaG (ow)
  (ci) (-1:Int)
  (uj)),.b (true)]))
noncomputable def gq14 (n j:Int) (uj uh uk:List (List Int)) (ow tm dl cs ci ct:Int) (sl:List (List Int)) (so ks ki gs gi_:Int) (gt go:Bool):Option (Nat×List U) :=
 xac (xbI so sl) (some (0,[.i n,.i j,.i (xa4 so sl),.r uj,.r uh,.r uk,.i ow,.i tm,.i dl,.i cs,.i ci,.i ct,.r sl,.i so,.i ks,.i ki,.i gs,.i gi_,.b gt,.b go]))
noncomputable def gq15 (n j now:Int) (uj uh uk:List (List Int)) (ow tm dl cs ci ct:Int) (sl:List (List Int)) (so ks ki gs gi_:Int) (gt go:Bool):Option (Nat×List U) :=
 xac ((go=true)→((decide (now<ct)=false)→(xcx so ct sl))) (some (0,[.i n,.i j,.r uj,.r uh,.r uk,.i ow,.i tm,.i dl,.i cs,.i ci,.i ct,.r sl,.i so,.i ks,.i ki,.i gs,.i gi_,.b gt,.b (go &&
 (decide (now<ct)||!xaF so ct sl))]))
noncomputable def gq16 (n j:Int) (uj uh uk:List (List Int)) (ow tm dl:Int):Option (Nat×List U) :=
 some (0,[.i (n),.i (IntKind.i64.wrap (j+(1:Int))),.r (uj),.r (uh),.r (uk),.i (ow),.i (tm),.i (dl)])
end Go.Proofs.YthfjhbbpdhjklaaGreat
set_option maxRecDepth 100000
set_option linter.unusedVariables false
namespace Go.Proofs.YthfjhbbpdhjklaaGreat
open Go Go.Sy
theorem xCJ (ow tm dl:Int) (uj uh uk:List (List Int)):xf2 Tryz.prog K29 9 117 (g0) [(.normal,g1)] (gpc 0) [.i ow,.i tm,.i dl,.r uj,.r uh,.r uk]=gq0 ow tm dl uj uh uk:=by kernel_rfl
theorem xCI (uj uh uk:List (List Int)) (ow tm dl:Int):xf2 Tryz.prog K29 9 117 (g2) [(.normal,gL)] (gpc 3) [.r uj,.r uh,.r uk,.i ow,.i tm,.i dl]=gq3 uj uh uk ow tm dl:=by kernel_rfl
theorem xA3 (n j:Int) (uj uh uk:List (List Int)) (ow tm dl:Int):xf2 Tryz.prog K29 9 117 (gL) [(.normal,g4)] (gpc 4) [.i n,.i j,.r uj,.r uh,.r uk,.i ow,.i tm,.i dl]=gq4 n j uj uh uk ow tm dl:=by kernel_rfl
theorem xCH (n j:Int) (uj uh uk:List (List Int)) (ow tm dl:Int):xf2 Tryz.prog K29 9 117 (gL) [(.normal,g5)] (gpc 5) [.i n,.i j,.r uj,.r uh,.r uk,.i ow,.i tm,.i dl]=gq5 n j uj uh uk ow tm dl:=by kernel_rfl
theorem xCG (n j:Int) (uj uh uk:List (List Int)) (ow tm dl cs ci ct:Int):xf2 Tryz.prog K29 9 117 (g5) [(.normal,g6)] (gpc 6) [.i n,.i j,.r uj,.r uh,.r uk,.i ow,.i tm,.i dl,.i cs,.i ci,.i ct]=gq6 n j uj uh uk ow tm dl cs ci ct:=by kernel_rfl
theorem xCF (n j:Int) (uj uh uk:List (List Int)) (ow tm dl cs ci ct:Int) (sl:List (List Int)) (so:Int):xf2 Tryz.prog K29 9 117 (g6) [(.normal,g7)] (gpc 7) [.i n,.i j,.r uj,.r uh,.r uk,.i ow,.i tm,.i dl,.i cs,.i ci,.i ct,.r sl,.i so]=gq7 n j uj uh uk ow tm dl cs ci ct sl so:=by kernel_rfl
theorem xCE (n j:Int) (uj uh uk:List (List Int)) (ow tm dl cs ci ct:Int) (sl:List (List Int)) (so:Int):xf2 Tryz.prog K29 9 117 (g6) [(.normal,g8)] (gpc 8) [.i n,.i j,.r uj,.r uh,.r uk,.i ow,.i tm,.i dl,.i cs,.i ci,.i ct,.r sl,.i so]=gq8 n j uj uh uk ow tm dl cs ci ct sl so:=by kernel_rfl
theorem xyS (n j:Int) (is:Bool) (uj uh uk:List (List Int)) (ow tm dl cs ci ct:Int) (sl:List (List Int)) (so ks ki:Int):xf2 Tryz.prog K29 9 117 (g9) [(.normal,g10)] (gpc 10) [.i n,.i j,.b is,.r uj,.r uh,.r uk,.i ow,.i tm,.i dl,.i cs,.i ci,.i ct,.r sl,.i so,.i ks,.i ki]=gq10 n j is uj uh uk ow tm dl cs ci ct sl so ks ki:=by kernel_rfl
theorem xBV (n j:Int) (is:Bool) (uj uh uk:List (List Int)) (ow tm dl cs ci ct:Int) (sl:List (List Int)) (so ks ki:Int):xf2 Tryz.prog K29 9 117 (g9) [(.normal,gF)] (gpc 11) [.i n,.i j,.b is,.r uj,.r uh,.r uk,.i ow,.i tm,.i dl,.i cs,.i ci,.i ct,.r sl,.i so,.i ks,.i ki]=gq11 n j is uj uh uk ow tm dl cs ci ct sl so ks ki:=by kernel_rfl
theorem xBU (n j:Int) (uj uh uk:List (List Int)) (ow tm dl cs ci ct:Int) (sl:List (List Int)) (so ks ki gs gi_:Int) (gt go:Bool):xf2 Tryz.prog K29 9 117 (gF) [(.normal,g14)] (gpc 14) [.i n,.i j,.r uj,.r uh,.r uk,.i ow,.i tm,.i dl,.i cs,.i ci,.i ct,.r sl,.i so,.i ks,.i ki,.i gs,.i gi_,.b gt,.b go]=gq14 n j uj uh uk ow tm dl cs ci ct sl so ks ki gs gi_ gt go:=by kernel_rfl
theorem xBT (n j now:Int) (uj uh uk:List (List Int)) (ow tm dl cs ci ct:Int) (sl:List (List Int)) (so ks ki gs gi_:Int) (gt go:Bool):xf2 Tryz.prog K29 9 117 (g14) [(.normal,gF)] (gpc 15) [.i n,.i j,.i now,.r uj,.r uh,.r uk,.i ow,.i tm,.i dl,.i cs,.i ci,.i ct,.r sl,.i so,.i ks,.i ki,.i gs,.i gi_,.b gt,.b go]=gq15 n j now uj uh uk ow tm dl cs ci ct sl so ks ki gs gi_ gt go:=by kernel_rfl
theorem xBS (n j:Int) (uj uh uk:List (List Int)) (ow tm dl:Int):xf2 Tryz.prog K29 9 117 (gL) [(.normal,gL)] (gpc 16) [.i n,.i j,.r uj,.r uh,.r uk,.i ow,.i tm,.i dl]=gq16 n j uj uh uk ow tm dl:=by kernel_rfl
end Go.Proofs.YthfjhbbpdhjklaaGreat
set_option linter.unusedVariables false
set_option maxRecDepth 100000
namespace Go.Proofs.YthfjhbbpdhjklaaGreat
open Go Go.Sy Go.RowKit
theorem xvn:WideMaps.KeyLaw Tryz.prog 122:=deep_law (m:=2) (by omega) (by kernel_rfl) (by kernel_rfl) (by kernel_rfl)
def xCu (x:Int):Option (List Lit):=if IntKind.i64=IntKind.i64∧(Lit.int .i64 x).wf=true then some [.int .i64 x] else none
theorem xBW (a b:Int):keyOf Tryz.prog 122 (.agg #[.int .i64 a,.int .i64 b])=(([a,b].mapM xCu).map List.flatten).map fun ls=>.string (keyBytes ls):=by kernel_rfl
theorem xs1 {a b:Int} (ha:(Lit.int .i64 a).wf=true) (hb:(Lit.int .i64 b).wf=true):∃ l,keyOf Tryz.prog 122 (.agg #[.int .i64 a,.int .i64 b])=some l:=by
 rw [xBW]
 exact ⟨.string (keyBytes [.int .i64 a,.int .i64 b]),by simp [xCu,ha,hb]⟩
structure Tab where
 bm:Nat
 es:Array MapEntry
 clk:Nat
 bs:List Nat
 gs:List (List Int)
def gPtr (b:Nat):Value:=.pointer (some ⟨b,0,none⟩)
def gKey (g:List Int):Value:=.agg #[.int .i64 (g.getD 0 0),.int .i64 (g.getD 1 0)]
structure xiC (w:World) (t:Tab):Prop where
 at_:w.heap[t.bm]?=some (.map t.es t.clk)
 len:t.bs.length=t.gs.length
 ents:t.es.toList.map (fun e=>(e.key,e.val))=(t.bs.zip t.gs).map fun y=>(gKey y.2,gPtr y.1)
 wf:∀ g∈t.gs,(Lit.int .i64 (g.getD 0 0)).wf=true∧(Lit.int .i64 (g.getD 1 0)).wf=true
 nodup:(t.gs.map fun g=>(g.getD 0 0,g.getD 1 0)).Nodup
theorem xqL:Tryz.prog.underlying 197=some (.map 122 201):=by kernel_rfl
theorem xiC.find {w:World} {t:Tab} (h:xiC w t) {a b:Int} (ha:(Lit.int .i64 a).wf=true) (hb:(Lit.int .i64 b).wf=true) :
  ((Instr.findKey 122 (.agg #[.int .i64 a,.int .i64 b]) t.es.toList).run Tryz.prog w=.ok none w∧∀ g∈t.gs,¬ (g.getD 0 0=a∧g.getD 1 0=b)) ∨
  ∃ (i b0:Nat) (g:List Int),(Instr.findKey 122 (.agg #[.int .i64 a,.int .i64 b]) t.es.toList).run Tryz.prog w=.ok (some (i,gPtr b0)) w∧t.bs[i]?=some b0∧t.gs[i]?=some g∧g.getD 0 0=a∧g.getD 1 0=b:=by
 obtain ⟨lx,hx⟩:=xs1 ha hb
 have hlen:t.es.toList.length=t.gs.length:=by
  have:=congrArg List.length h.ents
  simpa [h.len] using this
 have pt:∀ (i:Nat) e,t.es.toList[i]?=some e→∃ b0 g,t.bs[i]?=some b0∧t.gs[i]?=some g∧e.key=gKey g∧e.val=gPtr b0:=by
  intro i e he
  have hi:i<t.gs.length:=by rw [← hlen]; exact (List.getElem?_eq_some_iff.1 he).1
  have hi2:i<t.bs.length:=by rw [h.len]; exact hi
  have hbi:t.bs[i]?=some t.bs[i]:=List.getElem?_eq_getElem hi2
  have hg:t.gs[i]?=some t.gs[i]:=List.getElem?_eq_getElem hi
  have hz:(t.bs.zip t.gs)[i]?=some (t.bs[i],t.gs[i]):=List.getElem?_zip_eq_some.2 ⟨hbi,hg⟩
  have:=congrArg (fun z=>z[i]?) h.ents
  simp only [List.getElem?_map,he,hz,Option.map_some,Option.some.injEq,Prod.mk.injEq] at this
  exact ⟨_,_,hbi,hg,this.1,this.2⟩
 have hkeys:∀ e∈t.es.toList,∃ l',keyOf Tryz.prog 122 e.key=some l':=by
  intro e he
  obtain ⟨i,hi⟩:=List.mem_iff_getElem?.1 he
  obtain ⟨b0,g,_,hg,hk,_⟩:=pt i e hi
  rw [hk]
  have:=h.wf g (List.mem_of_getElem? hg)
  exact xs1 this.1 this.2
 have keq:∀ g:List Int,gKey g=.agg #[.int .i64 a,.int .i64 b]↔g.getD 0 0=a∧g.getD 1 0=b:=fun g=>by simp [gKey]
 rcases xvn.find w hx t.es.toList hkeys with ⟨h1,h2⟩ | ⟨j,e,h1,h2,h3⟩
 ·refine .inl ⟨h1,fun g hg hk=>?_⟩
  obtain ⟨i,hi⟩:=List.mem_iff_getElem?.1 hg
  have hil:i<t.es.toList.length:=by rw [hlen]; exact (List.getElem?_eq_some_iff.1 hi).1
  obtain ⟨b0,g',_,hg',hk',_⟩:=pt i t.es.toList[i] (List.getElem?_eq_getElem hil)
  rw [hi] at hg'
  cases hg'
  exact h2 _ (List.getElem_mem hil) (by rw [hk']; exact (keq g).2 hk)
 ·obtain ⟨b0,g,hb0,hg,hk,hv⟩:=pt j e h2
  have:=(keq g).1 (by rw [← hk,h3])
  exact .inr ⟨j,b0,g,by rw [h1,hv],hb0,hg,this.1,this.2⟩
theorem xDR (w:World):(zeroValue 201).run Tryz.prog w=.ok (.pointer none) w:=xiN (P:=Tryz.prog) (z:=.val (.pointer none)) (by kernel_rfl) (fun _=>.slice none 0 0) w
theorem xiC.lookup {w:World} {t:Tab} (h:xiC w t) {a b:Int} (ha:(Lit.int .i64 a).wf=true) (hb:(Lit.int .i64 b).wf=true) :
  ((Instr.lookup 197 (.map (some t.bm)) (.agg #[.int .i64 a,.int .i64 b]) true).run Tryz.prog w=.ok (.tuple #[.pointer none,.bool false]) w∧∀ g∈t.gs,¬ (g.getD 0 0=a∧g.getD 1 0=b)) ∨
  ∃ (i b0:Nat) (g:List Int),(Instr.lookup 197 (.map (some t.bm)) (.agg #[.int .i64 a,.int .i64 b]) true).run Tryz.prog w=.ok (.tuple #[gPtr b0,.bool true]) w∧t.bs[i]?=some b0∧t.gs[i]?=some g∧g.getD 0 0=a∧g.getD 1 0=b:=by
 obtain ⟨lx,hx⟩:=xs1 ha hb
 have hck:=xvn.check w t.es.isEmpty hx
 rcases h.find ha hb with ⟨h1,h2⟩ | ⟨i,b0,g,h1,h2⟩
 ·refine .inl ⟨?_,h2⟩
  unfold Instr.lookup
  simp only [Sem.run_bind,run_underlying xqL,Result.andThen_ok,Go.MapKept.run_getObj_map h.at_,Sem.run_pure,hck,h1,xDR]
  rfl
 ·refine .inr ⟨i,b0,g,?_,h2⟩
  unfold Instr.lookup
  simp only [Sem.run_bind,run_underlying xqL,Result.andThen_ok,Go.MapKept.run_getObj_map h.at_,Sem.run_pure,hck,h1]
  rfl
def Tab.add (t:Tab) (b0:Nat) (g:List Int):Tab:=⟨t.bm,t.es.push { key:=gKey g,val:=gPtr b0,born:=t.clk },t.clk+1,t.bs++[b0],t.gs++[g]⟩
theorem xiC.add {w:World} {t:Tab} (h:xiC w t) {g:List Int} (b0:Nat) (ha:(Lit.int .i64 (g.getD 0 0)).wf=true) (hb:(Lit.int .i64 (g.getD 1 0)).wf=true) (hno:∀ x∈t.gs,¬ (x.getD 0 0=g.getD 0 0∧x.getD 1 0=g.getD 1 0)) :
  (Instr.mapUpdate 197 (.map (some t.bm)) (gKey g) (gPtr b0)).run Tryz.prog w=.ok () { w with heap:=w.heap.setIfInBounds t.bm (.map (t.add b0 g).es (t.add b0 g).clk) } ∧
  xiC { w with heap:=w.heap.setIfInBounds t.bm (.map (t.add b0 g).es (t.add b0 g).clk) } (t.add b0 g)∧Chg w { w with heap:=w.heap.setIfInBounds t.bm (.map (t.add b0 g).es (t.add b0 g).clk) } [t.bm]:=by
 obtain ⟨lx,hx⟩:=xs1 ha hb
 have hck:=xvn.check w false hx
 have hbl:t.bm<w.heap.size:=(Array.getElem?_eq_some_iff.1 h.at_).1
 refine ⟨?_,⟨?_,?_,?_,?_,?_⟩,⟨Nat.le_refl _,rfl,rfl,rfl,by simp,fun k hk hne=>?_⟩⟩
 ·rcases h.find ha hb with ⟨h1,_⟩ | ⟨i,b1,g1,_,_,h3,h4⟩
  ·unfold gKey
   simp only [Instr.mapUpdate,Sem.run_bind,run_underlying xqL,Result.andThen_ok,Go.MapKept.run_getObj_map h.at_,hck,h1,Go.MapKept.run_setObj_map _ h.at_]
   rfl
  ·exact absurd h4 (hno g1 (List.mem_of_getElem? h3))
 ·simp [Tab.add,hbl]
 ·simp [Tab.add,h.len]
 ·have e:(t.bs++[b0]).zip (t.gs++[g])=t.bs.zip t.gs++[(b0,g)]:=by rw [List.zip_append h.len]; rfl
  simp [Tab.add,e,h.ents]
 ·intro x hx
  rcases List.mem_append.1 hx with hx | hx
  ·exact h.wf x hx
  ·rw [List.mem_singleton.1 hx]; exact ⟨ha,hb⟩
 ·show ((t.gs++[g]).map fun g=>(g.getD 0 0,g.getD 1 0)).Nodup
  rw [List.map_append]
  refine List.nodup_append.2 ⟨h.nodup,by simp,fun x hx y hy e=>?_⟩
  obtain ⟨g1,hg1,rfl⟩:=List.mem_map.1 hx
  simp only [List.map_cons,List.map_nil,List.mem_singleton] at hy
  rw [hy] at e
  exact hno g1 hg1 ⟨(Prod.mk.inj e).1,(Prod.mk.inj e).2⟩
 ·have:k≠t.bm:=fun e=>hne (by simp [e])
  simp [Array.getElem?_setIfInBounds_ne (fun e=>this e.symm)]
theorem xiC.keep {w w2:World} {t:Tab} (h:xiC w t) (hw:w2.heap[t.bm]?=w.heap[t.bm]?):xiC w2 t:=⟨hw.trans h.at_,h.len,h.ents,h.wf,h.nodup⟩
def Tab.put (t:Tab) (i:Nat) (g:List Int):Tab:={ t with gs:=t.gs.set i g }
theorem xiC.put {w:World} {t:Tab} (h:xiC w t) {i:Nat} {g g0:List Int} (hi:t.gs[i]?=some g0) (h0:g.getD 0 0=g0.getD 0 0) (h1:g.getD 1 0=g0.getD 1 0):xiC w (t.put i g):=by
 have hil:i<t.gs.length:=(List.getElem?_eq_some_iff.1 hi).1
 have ek:gKey g=gKey g0:=by unfold gKey; rw [h0,h1]
 have e1:(t.gs.set i g).map (fun g=>(g.getD 0 0,g.getD 1 0))=t.gs.map fun g=>(g.getD 0 0,g.getD 1 0):=by
  apply List.ext_getElem?
  intro j
  rw [List.getElem?_map,List.getElem?_map,List.getElem?_set]
  by_cases hij:i=j
  ·subst hij; rw [if_pos rfl,if_pos hil,hi]; simp only [Option.map_some,h0,h1]
  ·simp [hij]
 refine ⟨h.at_,by simp [Tab.put,h.len],?_,?_,?_⟩
 ·rw [show (t.put i g).es=t.es from rfl,h.ents]
  apply List.ext_getElem?
  intro j
  simp only [List.getElem?_map,Tab.put]
  by_cases hij:i=j
  ·subst hij
   have hb:i<t.bs.length:=by rw [h.len]; exact hil
   have z1:(t.bs.zip t.gs)[i]?=some (t.bs[i],g0):=List.getElem?_zip_eq_some.2 ⟨List.getElem?_eq_getElem hb,hi⟩
   have z2:(t.bs.zip (t.gs.set i g))[i]?=some (t.bs[i],g):=List.getElem?_zip_eq_some.2 ⟨List.getElem?_eq_getElem hb,by simp [List.getElem?_set,hil]⟩
   rw [z1,z2]
   simp [ek]
  ·have:(t.bs.zip (t.gs.set i g))[j]?=(t.bs.zip t.gs)[j]?:=by
    simp only [List.zip,List.getElem?_zipWith,List.getElem?_set,if_neg hij]
   rw [this]
 ·intro x hx
  obtain ⟨j,hj⟩:=List.mem_iff_getElem?.1 hx
  simp only [Tab.put,List.getElem?_set] at hj
  by_cases hij:i=j
  ·subst hij
   rw [if_pos rfl] at hj
   split at hj
   ·cases hj
    have:=h.wf g0 (List.mem_of_getElem? hi)
    rw [h0,h1]; exact this
   ·rename_i hn; exact absurd hil hn
  ·rw [if_neg hij] at hj
   exact h.wf x (List.mem_of_getElem? hj)
 ·show ((t.gs.set i g).map fun g=>(g.getD 0 0,g.getD 1 0)).Nodup
  rw [e1]; exact h.nodup
end Go.Proofs.YthfjhbbpdhjklaaGreat
set_option linter.unusedVariables false
namespace Go.Sy
open Go.RowKit
section
variable {P:Program} {ops:Array Oper} {Q:Exit→Act→World→Prop} {a:Act} {w:World} {rnd:Option Nat}
theorem xm4 {o:Oper} {rest:List Oper} {nx:Next} {v:Value} {w':World} (hg:o.guard=none) (ho:∀ c,o.op≠.defer c) (hr:(execOp a.eval o).run P w=.ok nx w') (hv:nx=.value v∨(nx=.skip∧v=undef))
  (h:wpListIn (FR rnd) 0 P ops Q rest (a.put o.dst v) w'):wpListIn (FR rnd) 0 P ops Q (o::rest) a w:=by
 unfold wpListIn
 rw [if_pos (by simp [Region.wanted,hg])]
 exact xht ho hr hv h
theorem xbV {o:Oper} {rest:List Oper} {v:Value} {w':World} (hg:o.guard=none) (ho:∀ c,o.op≠.defer c) (hr:(execOp a.eval o).run P w=.ok (.value v) w')
  (h:wpListIn (FR rnd) 0 P ops Q rest (a.put o.dst v) w'):wpListIn (FR rnd) 0 P ops Q (o::rest) a w:=xm4 hg ho hr (.inl rfl) h
theorem xyF {o:Oper} {rest:List Oper} {f:FuncId} {args:Array Value} {w':World} (hg:o.guard=none) (ho:∀ c,o.op≠.defer c) (hr:(execOp a.eval o).run P w=.ok (.enter f args) w')
  (hc:Calls P f args w' fun e w''=>∃ v,e=.returned v∧wpListIn (FR rnd) 0 P ops Q rest (a.put o.dst v) w''):wpListIn (FR rnd) 0 P ops Q (o::rest) a w:=by
 unfold wpListIn
 rw [if_pos (by simp [Region.wanted,hg])]
 exact xh2 ho hr hc
end
end Go.Sy
set_option linter.unusedVariables false
set_option maxRecDepth 100000
namespace Go.Proofs.YthfjhbbpdhjklaaGreat
open Go Go.Sy Go.RowKit
noncomputable def gapF:Func:=Tryz.f35
noncomputable def gapB:Code:=gapF.body.getD .skip
theorem xwu:gapF.body=some gapB:=by kernel_rfl
theorem xuf:gapF.ntmps=117:=by kernel_rfl
def gus (uj uh uk:List (List Int)) (ow tm dl:Int):List U:=[.r uj,.r uh,.r uk,.i ow,.i tm,.i dl]
theorem xyZ {X:List (Nat×Go.Obj)} {E:Env} {w0 w:World} {a:Act} {ow tm dl:Int} {uj uh uk:List (List Int)} {Q:Exit→Act→World→Prop}
  (hc:CfgOk X E w0 117 (g0.st [.i ow,.i tm,.i dl,.r uj,.r uh,.r uk]) a w)
  (hQ:∀ E' a' w',(∀ k,k<5→E' k=E k)→CfgOk X E' w0 117 (g1.st (gus uj uh uk ow tm dl)) a' w'→Q .normal a' w'):(gpc 0).wpIn (FR none) 0 Tryz.prog Q a w :=
 xba xfm (i:=0) (y:=.normal) (T:=g1) hc (xCJ ow tm dl uj uh uk) rfl fun E' a' w' hE hc'=>hQ E' a' w' (fun k hk=>hE k hk (by show k<7; omega)) hc'
theorem xzt {w:World} (o:Go.Obj):Chg w (w.alloc o) []:=⟨Nat.le_refl _,rfl,rfl,rfl,(xcR w o).size,fun k hk _=>(xcR w o).block k hk⟩
theorem xAk {a:Act} {o:Oper} {w:World} (ho:o.op=.makeMap 197 none):(execOp a.eval o).run Tryz.prog w=.ok (.value (.map (some w.heap.size))) (w.alloc (.map #[] 0)):=by
 simp only [execOp,ho,Option.map_none,Sem.run_bind]
 simp [Instr.makeMap,Sem.run_bind,run_newObj_alloc]
def g1a:Sy.Spec:=⟨[(1,.ptr 6 0),(16,.sl 3)],xkY++[qObj],[],7,[]⟩
def g1b:Sy.Spec:=⟨[(1,.ptr 6 0),(3,.sl 3)],xkY++[qObj],[],7,[]⟩
theorem xgs {a:Act} {o:Oper} {t:Nat} {w:World} {v:Value} (hv:a.tmps.getD t undef=v) (ho:o.op=.move (.tmp t)∨o.op=.assign (.tmp t)):(execOp a.eval o).run Tryz.prog w=.ok (.value v) w:=by
 have:a.eval (.tmp t)=v:=hv
 rcases ho with ho | ho<;>simp only [execOp,ho,this]<;>rfl
theorem xx2 {a:Act} {o:Oper} {v:Value} {w:World} (ho:o.op=.move (.const v)∨o.op=.assign (.const v)):(execOp a.eval o).run Tryz.prog w=.ok (.value v) w:=by
 rcases ho with ho | ho<;>simp only [execOp,ho]<;>rfl
theorem _root_.Go.Sy.CfgOk.envs {X:List (Nat×Go.Obj)} {E:Env} {w0 w:World} {N:Nat} {c:Cfg} {a:Act} (h:CfgOk X E w0 N c a w):∀ k,(E k).oneCell'=true:=by obtain ⟨_,_,_,_,hH⟩:=h; exact hH.env
end Go.Proofs.YthfjhbbpdhjklaaGreat
set_option linter.unusedVariables false
set_option maxRecDepth 100000
namespace Go.Proofs.YthfjhbbpdhjklaaGreat
open Go Go.Sy Go.RowKit
def us8 (n j:Int) (uj uh uk:List (List Int)) (ow tm dl cs ci ct:Int) (sl:List (List Int)) (so ks ki:Int):List U :=
 [.i n,.i j,.r uj,.r uh,.r uk,.i ow,.i tm,.i dl,.i cs,.i ci,.i ct,.r sl,.i so,.i ks,.i ki]
def us9 (is:Bool) (n j:Int) (uj uh uk:List (List Int)) (ow tm dl cs ci ct:Int) (sl:List (List Int)) (so ks ki:Int):List U :=
 [.i n,.i j,.b is,.r uj,.r uh,.r uk,.i ow,.i tm,.i dl,.i cs,.i ci,.i ct,.r sl,.i so,.i ks,.i ki]
theorem xw0 {a:Act} {o:Oper} {w w':World} {m k v:Value} {x y:Nat} (ho:o.op=.lookup 197 (.tmp x) (.tmp y) true) (hm:a.tmps.getD x undef=m) (hk:a.tmps.getD y undef=k) (h:(Instr.lookup 197 m k true).run Tryz.prog w=.ok v w'):(execOp a.eval o).run Tryz.prog w=.ok (.value v) w':=by
 have h1:a.eval (.tmp x)=m:=hm
 have h2:a.eval (.tmp y)=k:=hk
 simp only [execOp,ho,h1,h2,Sem.run_bind,h,Result.andThen_ok,Sem.run_pure]
theorem xp1 {a:Act} {o:Oper} {w:World} {p q:Value} {x i:Nat} (ho:o.op=.extract (.tmp x) i) (hm:a.tmps.getD x undef=.tuple #[p,q]) (hi:i=0∨i=1):(execOp a.eval o).run Tryz.prog w=.ok (.value (if i=0 then p else q)) w:=by
 have h1:a.eval (.tmp x)=.tuple #[p,q]:=hm
 rcases hi with rfl | rfl<;>simp [execOp,ho,h1,Instr.extract]
theorem xA5 {X:List (Nat×Go.Obj)} {E:Env} {w0 w:World} {a:Act} {n j:Int} {uj uh uk:List (List Int)} {ow tm dl cs ci ct:Int} {sl:List (List Int)} {so ks ki:Int} {Q:Exit→Act→World→Prop} {m p:Value} {is:Bool}
  (hc:CfgOk X E w0 117 (g8.st (us8 n j uj uh uk ow tm dl cs ci ct sl so ks ki)) a w) (e3:E 3=m) (hp:p.oneCell'=true)
  (hl:∀ w',Chg w w' []→(Instr.lookup 197 m (.agg #[.int .i64 ks,.int .i64 ki]) true).run Tryz.prog w'=.ok (.tuple #[p,.bool is]) w')
  (hQ:∀ E' a' w',(∀ k,k<14→k≠5→E' k=E k)→E' 5=p→Chg w w' []→CfgOk X E' w0 117 (g9.st (us9 is n j uj uh uk ow tm dl cs ci ct sl so ks ki)) a' w'→Q .normal a' w'):(gpc 9).wpIn (FR none) 0 Tryz.prog Q a w:=by
 have hc0:=hc.envS (k:=5) (v:=p) (by kernel_rfl) (by kernel_rfl) hp
 have e5:upd E 5 p 5=p:=xbH _ _ _
 have e3':upd E 5 p 3=m:=(xcS _ _ (by omega)).trans e3
 refine wpIn_region_list ?_
 have h3:=(hc0.point (t:=3) (v:=.sl 3) (by kernel_rfl)).1
 refine xbV rfl (fun c e=>by cases e) (xgs (v:=m) (t:=3) (h3.trans e3') (.inl rfl)) ?_
 have hc1:=hc0.put (d:=52) (v:=m) (u:=some (.sl 3)) (E2:=upd E 5 p) (by omega) (fun o ho=>⟨rfl,xbB _⟩) (Go.Sy.CfgOk.envs hc0) (fun t x _ _=>(xaW x).2 fun _ _=>rfl) (fun x hx=>by cases hx; exact ⟨e3'.symm,by show 3<15; omega⟩)
 obtain ⟨w2,nx,r1,r2,hc2,hch2,hnd,hlt⟩:=hc1.op (P:=Tryz.prog) (o:={ dst:=some 53,op:=Op.load 122 (Operand.tmp 8),type:=122,pos := "inquiry.go:239",after:=#[],guard:=none }) (u:=.agg [.int .i64 ks,.int .i64 ki]) (by kernel_rfl)
 refine xm4 rfl hnd r1 r2 ?_
 have hc3:=hc2.put (d:=53) (v:=.agg #[.int .i64 ks,.int .i64 ki]) (u:=some (.agg [.int .i64 ks,.int .i64 ki])) (E2:=upd E 5 p) (by omega) (fun o ho=>⟨rfl,xbB _⟩) (Go.Sy.CfgOk.envs hc2) (fun t x _ _=>(xaW x).2 fun _ _=>rfl) (fun x hx=>by cases hx; exact ⟨rfl,hlt⟩)
 have h52:=(hc3.point (t:=52) (v:=.sl 3) (by kernel_rfl)).1
 have h53:=(hc3.point (t:=53) (v:=.agg [.int .i64 ks,.int .i64 ki]) (by kernel_rfl)).1
 refine xbV rfl (fun c e=>by cases e) (xw0 (m:=m) (k:=.agg #[.int .i64 ks,.int .i64 ki]) rfl (h52.trans e3') h53 (hl w2 hch2)) ?_
 have hc4:=hc3.put (d:=54) (v:=.tuple #[p,.bool is]) (u:=some (.val (.tuple #[p,.bool is]))) (E2:=upd E 5 p) (by omega) (fun o ho=>⟨rfl,xbB _⟩) (Go.Sy.CfgOk.envs hc3) (fun t x _ _=>(xaW x).2 fun _ _=>rfl) (fun x hx=>by cases hx; exact ⟨rfl,trivial⟩)
 have h54:=(hc4.point (t:=54) (v:=.val (.tuple #[p,.bool is])) (by kernel_rfl)).1
 refine xbV rfl (fun c e=>by cases e) (xgs (v:=.tuple #[p,.bool is]) (t:=54) h54 (.inl rfl)) ?_
 have hc5:=hc4.put (d:=51) (v:=.tuple #[p,.bool is]) (u:=some (.val (.tuple #[p,.bool is]))) (E2:=upd E 5 p) (by omega) (fun o ho=>⟨rfl,xbB _⟩) (Go.Sy.CfgOk.envs hc4) (fun t x _ _=>(xaW x).2 fun _ _=>rfl) (fun x hx=>by cases hx; exact ⟨rfl,trivial⟩)
 have h51:=(hc5.point (t:=51) (v:=.val (.tuple #[p,.bool is])) (by kernel_rfl)).1
 refine xbV rfl (fun c e=>by cases e) (xp1 (x:=51) (i:=0) (p:=p) (q:=.bool is) rfl h51 (.inl rfl)) ?_
 have hc6:=hc5.put (d:=55) (v:=p) (u:=some (.sl 5)) (E2:=upd E 5 p) (by omega) (fun o ho=>⟨rfl,xbB _⟩) (Go.Sy.CfgOk.envs hc5) (fun t x _ _=>(xaW x).2 fun _ _=>rfl) (fun x hx=>by cases hx; exact ⟨e5.symm,by show 5<15; omega⟩)
 have h51':=(hc6.point (t:=51) (v:=.val (.tuple #[p,.bool is])) (by kernel_rfl)).1
 refine xbV rfl (fun c e=>by cases e) (xp1 (x:=51) (i:=1) (p:=p) (q:=.bool is) rfl h51' (.inr rfl)) ?_
 have hc7:=hc6.put (d:=56) (v:=.bool is) (u:=some (.bool is)) (E2:=upd E 5 p) (by omega) (fun o ho=>⟨rfl,xbB _⟩) (Go.Sy.CfgOk.envs hc6) (fun t x _ _=>(xaW x).2 fun _ _=>rfl) (fun x hx=>by cases hx; exact ⟨rfl,trivial⟩)
 have h55:=(hc7.point (t:=55) (v:=.sl 5) (by kernel_rfl)).1
 refine xbV rfl (fun c e=>by cases e) (xgs (v:=p) (t:=55) (h55.trans e5) (.inr rfl)) ?_
 have hc8:=hc7.put (d:=9) (v:=p) (u:=some (.sl 5)) (E2:=upd E 5 p) (by omega) (fun o ho=>⟨rfl,xbB _⟩) (Go.Sy.CfgOk.envs hc7) (fun t x _ _=>(xaW x).2 fun _ _=>rfl) (fun x hx=>by cases hx; exact ⟨e5.symm,by show 5<15; omega⟩)
 have h56:=(hc8.point (t:=56) (v:=.bool is) (by kernel_rfl)).1
 refine xbV rfl (fun c e=>by cases e) (xgs (v:=.bool is) (t:=56) h56 (.inr rfl)) ?_
 have hc9:=hc8.put (d:=10) (v:=.bool is) (u:=some (.bool is)) (E2:=upd E 5 p) (by omega) (fun o ho=>⟨rfl,xbB _⟩) (Go.Sy.CfgOk.envs hc8) (fun t x _ _=>(xaW x).2 fun _ _=>rfl) (fun x hx=>by cases hx; exact ⟨rfl,trivial⟩)
 obtain ⟨E',hE',hc10⟩:=hc9.shape (P:=Tryz.prog) (T:=g9) (us:=us9 is n j uj uh uk ow tm dl cs ci ct sl so ks ki) (by kernel_rfl)
 exact hQ E' _ _ (fun k hk h5=>(hE' k (by show k<14; exact hk)).trans (xcS _ _ h5)) ((hE' 5 (by show 5<14; omega)).trans e5) hch2 hc10
def usF (n j:Int) (uj uh uk:List (List Int)) (ow tm dl cs ci ct:Int) (sl:List (List Int)) (so ks ki gs gt:Int) (g2 g3:Bool):List U :=
 [.i n,.i j,.r uj,.r uh,.r uk,.i ow,.i tm,.i dl,.i cs,.i ci,.i ct,.r sl,.i so,.i ks,.i ki,.i gs,.i gt,.b g2,.b g3]
theorem xwY {a:Act} {o:Oper} {w w':World} {m k v:Value} {x y z:Nat} (ho:o.op=.mapUpdate 197 (.tmp x) (.tmp y) (.tmp z)) (hm:a.tmps.getD x undef=m) (hk:a.tmps.getD y undef=k) (hv:a.tmps.getD z undef=v) (h:(Instr.mapUpdate 197 m k v).run Tryz.prog w=.ok () w'):(execOp a.eval o).run Tryz.prog w=.ok .skip w':=by
 have h1:a.eval (.tmp x)=m:=hm
 have h2:a.eval (.tmp y)=k:=hk
 have h3:a.eval (.tmp z)=v:=hv
 simp only [execOp,ho,h1,h2,h3,Sem.run_bind,h,Result.andThen_ok,Sem.run_pure]
theorem xBZ {X X2:List (Nat×Go.Obj)} {E:Env} {w0 w:World} {a:Act} {n j:Int} {uj uh uk:List (List Int)} {ow tm dl cs ci ct:Int} {sl:List (List Int)} {so ks ki gs gt:Int} {g2 g3:Bool} {Q:Exit→Act→World→Prop} {m p:Value} {bs:List Nat} {Z:World→Prop}
  (hc:CfgOk X E w0 117 (gF.st (usF n j uj uh uk ow tm dl cs ci ct sl so ks ki gs gt g2 g3)) a w) (e3:E 3=m) (hp:(AV.ptr 15 0).den E=p)
  (hl:∀ w',Chg w w' []→∃ w2,(Instr.mapUpdate 197 m (.agg #[.int .i64 ks,.int .i64 ki]) p).run Tryz.prog w'=.ok () w2∧Chg w' w2 bs∧(∀ x∈X2,w2.heap[x.1]?=some x.2∧((∃ o,(x.1,o)∈X)∨w'.heap.size≤x.1))∧Z w2)
  (hbs:∀ b∈bs,w0.heap.size≤b∧∃ o,(b,o)∈X)
  (hQ:∀ E' a' w',(∀ k,k<16→E' k=E k)→Z w'→CfgOk X2 E' w0 117 (gF.st (usF n j uj uh uk ow tm dl cs ci ct sl so ks ki gs gt g2 g3)) a' w'→Q .normal a' w'):(gpc 12).wpIn (FR none) 0 Tryz.prog Q a w:=by
 refine wpIn_region_list ?_
 have h3:=(hc.point (t:=3) (v:=.sl 3) (by kernel_rfl)).1
 refine xbV rfl (fun c e=>by cases e) (xgs (v:=m) (t:=3) (h3.trans e3) (.inl rfl)) ?_
 have hc1:=hc.put (d:=68) (v:=m) (u:=some (.sl 3)) (E2:=E) (by omega) (fun o ho=>⟨rfl,xbB _⟩) (Go.Sy.CfgOk.envs hc) (fun t x _ _=>(xaW x).2 fun _ _=>rfl) (fun x hx=>by cases hx; exact ⟨e3.symm,by show 3<17; omega⟩)
 obtain ⟨w2,nx,r1,r2,hc2,hch2,hnd,hlt⟩:=hc1.op (P:=Tryz.prog) (o:={ dst:=some 69,op:=Op.load 122 (Operand.tmp 8),type:=122,pos := "inquiry.go:242",after:=#[],guard:=none }) (u:=.agg [.int .i64 ks,.int .i64 ki]) (by kernel_rfl)
 refine xm4 rfl hnd r1 r2 ?_
 have hc3:=hc2.put (d:=69) (v:=.agg #[.int .i64 ks,.int .i64 ki]) (u:=some (.agg [.int .i64 ks,.int .i64 ki])) (E2:=E) (by omega) (fun o ho=>⟨rfl,xbB _⟩) (Go.Sy.CfgOk.envs hc2) (fun t x _ _=>(xaW x).2 fun _ _=>rfl) (fun x hx=>by cases hx; exact ⟨rfl,hlt⟩)
 have h9:=(hc3.point (t:=9) (v:=.ptr 15 0) (by kernel_rfl)).1
 refine xbV rfl (fun c e=>by cases e) (xgs (v:=p) (t:=9) (h9.trans hp) (.inl rfl)) ?_
 have hc4:=hc3.put (d:=70) (v:=p) (u:=some (.ptr 15 0)) (E2:=E) (by omega) (fun o ho=>⟨rfl,xbB _⟩) (Go.Sy.CfgOk.envs hc3) (fun t x _ _=>(xaW x).2 fun _ _=>rfl) (fun x hx=>by cases hx; exact ⟨hp.symm,by show 15<17; omega⟩)
 have h68:=(hc4.point (t:=68) (v:=.sl 3) (by kernel_rfl)).1
 have h69:=(hc4.point (t:=69) (v:=.agg [.int .i64 ks,.int .i64 ki]) (by kernel_rfl)).1
 have h70:=(hc4.point (t:=70) (v:=.ptr 15 0) (by kernel_rfl)).1
 obtain ⟨w5,r5,hch5,hX5,hZ⟩:=hl w2 hch2
 refine xm4 (v:=undef) rfl (fun c e=>by cases e) (xwY (m:=m) (k:=.agg #[.int .i64 ks,.int .i64 ki]) (v:=p) rfl (h68.trans e3) h69 (h70.trans hp) r5) (.inr ⟨rfl,rfl⟩) ?_
 have hc5:=hc4.turn hch5 hbs hX5
 obtain ⟨E',hE',hc6⟩:=hc5.shape (P:=Tryz.prog) (T:=gF) (us:=usF n j uj uh uk ow tm dl cs ci ct sl so ks ki gs gt g2 g3) (by kernel_rfl)
 exact hQ E' _ _ (fun k hk=>hE' k (by show k<16; exact hk)) hZ hc6
theorem xmr:Tryz.prog.underlying 198=some (.slice 201):=by kernel_rfl
theorem xDT:(Tryz.prog.info? 201).map (fun i=>(i.size,i.bytes,i.zero.map fun z=>z.cells.size))=some (1,8,some 1):=by kernel_rfl
theorem xxj {w:World} {v v2 p:Value} {m:Nat} {vs:List Value} (ho:xfl w 201 1 v m vs) (hl:vs.length=m) (hs:xxG w v2 1 [p]) (hp:p.oneCell'=true) (hf:xa5 8 (m+1)) :
  ∃ v' w',(Builtin.append_ #[198,198] 198 #[v,v2]).run Tryz.prog w=.ok v' w'∧xfl w' 201 1 v' (m+1) (vs++[p])∧Chg w w' (blkO v).toList∧(∀ b,blkO v'=some b→w.heap.size≤b∨blkO v=some b)∧v'.oneCell'=true:=by
 have hinfo:=xDT
 cases hi:Tryz.prog.info? 201 with
 | none=>rw [hi] at hinfo; cases hinfo
 | some ie =>
 rw [hi] at hinfo
 simp only [Option.map_some,Option.some.injEq,Prod.mk.injEq] at hinfo
 obtain ⟨h1,h2,h3⟩:=hinfo
 cases hz:ie.zero with
 | none=>rw [hz] at h3; cases h3
 | some z =>
 rw [hz] at h3
 simp only [Option.map_some,Option.some.injEq] at h3
 have:=xoy (P:=Tryz.prog) (ty:=198) xmr hi hz (by rw [h3,h1]) (by omega) (v:=v) (v2:=v2) (m:=m) (m2:=1) (vs:=vs) (ws:=[p]) (by rw [h1]; exact ho) (by rw [h1]; omega) hs (by rw [h1]; rfl) (fun u hu=>by rw [List.mem_singleton.1 hu]; exact hp) (by rw [h2]; exact hf)
 rw [h1] at this
 exact this
theorem xw1 {a:Act} {o:Oper} {w w':World} {u v v':Value} {x y:Nat} (ho:o.op=.call { callee:=.builtin .append,args:=#[.tmp x,.tmp y],argTypes:=#[198,198] }) (ht:o.type=198) (hx:a.tmps.getD x undef=u) (hy:a.tmps.getD y undef=v)
  (h:(Builtin.append_ #[198,198] 198 #[u,v]).run Tryz.prog w=.ok v' w'):(execOp a.eval o).run Tryz.prog w=.ok (.value v') w':=by
 have h1:a.eval (.tmp x)=u:=hx
 have h2:a.eval (.tmp y)=v:=hy
 have e:#[Operand.tmp x,Operand.tmp y].map a.eval=#[u,v]:=by simp [h1,h2]
 simp only [execOp,ho,resolve,Sem.run_bind,Sem.run_pure,Result.andThen_ok,invoke,builtin,e,ht,h]
theorem xBY {X:List (Nat×Go.Obj)} {E:Env} {w0 w:World} {a:Act} {n j:Int} {uj uh uk:List (List Int)} {ow tm dl cs ci ct:Int} {sl:List (List Int)} {so ks ki gs gt:Int} {g2 g3:Bool} {Q:Exit→Act→World→Prop} {p:Value} {m:Nat} {vs:List Value}
  (hc:CfgOk X E w0 117 (gF.st (usF n j uj uh uk ow tm dl cs ci ct sl so ks ki gs gt g2 g3)) a w) (hp:(AV.ptr 15 0).den E=p)
  (ho:xfl w 201 1 (E 4) m vs) (hl:vs.length=m) (hX:∀ g,blkO (E 4)=some g→w0.heap.size≤g∧∃ o,(g,o)∈X) (hf:xa5 8 (m+1))
  (hQ:∀ E' a' w' X2 v',(∀ k,k<16→k≠4→E' k=E k)→E' 4=v'→xfl w' 201 1 v' (m+1) (vs++[p])→(∀ g,blkO v'=some g→w0.heap.size≤g∧(∃ o,(g,o)∈X2)∧(blkO (E 4)=some g∨w.heap.size≤g))→(∀ x∈X,blkO (E 4)≠some x.1→x∈X2) →
   CfgOk X2 E' w0 117 (gF.st (usF n j uj uh uk ow tm dl cs ci ct sl so ks ki gs gt g2 g3)) a' w'→Q .normal a' w'):(gpc 13).wpIn (FR none) 0 Tryz.prog Q a w:=by
 refine wpIn_region_list ?_
 have h4:=(hc.point (t:=4) (v:=.sl 4) (by kernel_rfl)).1
 refine xbV rfl (fun c e=>by cases e) (xgs (v:=E 4) (t:=4) h4 (.inl rfl)) ?_
 have hc1:=hc.put (d:=71) (v:=E 4) (u:=some (.sl 4)) (E2:=E) (by omega) (fun o ho=>⟨rfl,xbB _⟩) (Go.Sy.CfgOk.envs hc) (fun t x _ _=>(xaW x).2 fun _ _=>rfl) (fun x hx=>by cases hx; exact ⟨rfl,by show 4<17; omega⟩)
 have h9:=(hc1.point (t:=9) (v:=.ptr 15 0) (by kernel_rfl)).1
 refine xbV rfl (fun c e=>by cases e) (xgs (v:=p) (t:=9) (h9.trans hp) (.inl rfl)) ?_
 have hc2:=hc1.put (d:=72) (v:=p) (u:=some (.ptr 15 0)) (E2:=E) (by omega) (fun o ho=>⟨rfl,xbB _⟩) (Go.Sy.CfgOk.envs hc1) (fun t x _ _=>(xaW x).2 fun _ _=>rfl) (fun x hx=>by cases hx; exact ⟨hp.symm,by show 15<17; omega⟩)
 obtain ⟨E3,w3,nx,r1,r2,hE3,hc3,hlt,hnd,hsz⟩:=hc2.opE (P:=Tryz.prog) (o:={ dst:=some 73,op:=Op.buildSlice 198 1 #[(0,Operand.tmp 72)],type:=198,pos := "inquiry.go:243",after:=#[{ on:=1,ground:=Ground.data }],guard:=none }) (x:=⟨none,[],1,[⟨17,17,true,.arr 201 1 [[.ptr 15 0]]⟩],.sl 17⟩) (by kernel_rfl) trivial
 refine xm4 rfl hnd r1 r2 ?_
 have hc4:=hc3.put (d:=73) (v:=E3 17) (u:=some (.sl 17)) (E2:=E3) (by omega) (fun o ho=>⟨rfl,xbB _⟩) (Go.Sy.CfgOk.envs hc3) (fun t x _ _=>(xaW x).2 fun _ _=>rfl) (fun x hx=>by cases hx; exact ⟨rfl,hlt⟩)
 have e34:E3 4=E 4:=hE3 4 (by show 4<17; omega)
 have hb17:xa0 E3 w3 17 true (.arr 201 1 [[.ptr 15 0]]):=hc3.body (o:=⟨17,17,true,.arr 201 1 [[.ptr 15 0]]⟩) (by
  show _∈xeB _ _
  simp [xeB])
 have hp3:(AV.ptr 15 0).den E3=p:=by
  have:E3 15=E 15:=hE3 15 (by show 15<17; omega)
  simpa only [AV.den,this] using hp
 have hread:xxG w3 (E3 17) 1 [p]:=by
  have:=hb17.1.reads
  simpa [AV.denL,hp3] using this
 have hpc:p.oneCell'=true:=by rw [← hp]; rfl
 have ho3:xfl w3 201 1 (E3 4) m vs:=by
  rw [e34]
  refine xhs ho fun g hg=>?_
  obtain ⟨_,ob,hm⟩:=hX g hg
  rw [hc3.at_ hm,hc.at_ hm]
 obtain ⟨v',w4,k1,k2,k3,k4,k5⟩:=xxj ho3 hl hread hpc hf
 have h71:=(hc4.point (t:=71) (v:=.sl 4) (by kernel_rfl)).1
 have h73:=(hc4.point (t:=73) (v:=.sl 17) (by kernel_rfl)).1
 refine xbV rfl (fun c e=>by cases e) (xw1 (u:=E3 4) (v:=E3 17) (x:=71) (y:=73) rfl rfl h71 h73 k1) ?_
 let Y:List (Nat×Go.Obj):=match blkO v' with | some g=>(match w4.heap[g]? with | some o=>[(g,o)] | none=>[]) | none=>[]
 have hY:∀ x∈Y,blkO v'=some x.1∧w4.heap[x.1]?=some x.2:=by
  intro x hx
  cases hb:blkO v' with
  | none=>simp [Y,hb] at hx
  | some g=>cases hg:w4.heap[g]? with
   | none=>simp [Y,hb,hg] at hx
   | some o =>
    have:x=(g,o):=by simpa [Y,hb,hg] using hx
    subst this
    exact ⟨rfl,hg⟩
 have hc5:=hc4.turn (X2:=(X.filter fun x=>decide (blkO (E 4)≠some x.1))++Y) k3 (fun b hb=>by
   rw [e34] at hb
   exact hX b (by simpa using hb)) (fun x hx=>by
  rcases List.mem_append.1 hx with hx | hx
  ·obtain ⟨q1,q2⟩:=List.mem_filter.1 hx
   have q2:blkO (E 4)≠some x.1:=by simpa using q2
   have q3:=hc4.at_ q1
   refine ⟨?_,.inl ⟨x.2,q1⟩⟩
   rw [k3.block x.1 (Array.getElem?_eq_some_iff.1 q3).1 (by rw [e34]; simpa using q2)]
   exact q3
  ·obtain ⟨q1,q2⟩:=hY x hx
   refine ⟨q2,?_⟩
   rcases k4 _ q1 with q3 | q3
   ·exact .inr q3
   ·rw [e34] at q3
    exact .inl (hX _ q3).2)
 have hc6:=hc5.put (d:=74) (v:=v') (u:=some (.val v')) (E2:=E3) (by omega) (fun o ho=>⟨rfl,xbB _⟩) (Go.Sy.CfgOk.envs hc5) (fun t x _ _=>(xaW x).2 fun _ _=>rfl) (fun x hx=>by cases hx; exact ⟨rfl,trivial⟩)
 have h74:=(hc6.point (t:=74) (v:=.val v') (by kernel_rfl)).1
 obtain ⟨E7,hE7,hc7⟩:=hc6.shape (P:=Tryz.prog) (T:=gF) (us:=usF n j uj uh uk ow tm dl cs ci ct sl so ks ki gs gt g2 g3) (by kernel_rfl)
 refine xbV rfl (fun c e=>by cases e) (xgs (v:=v') (t:=74) h74 (.inr rfl)) ?_
 have hc8:=hc7.putS (d:=4) (k:=4) (v:=v') (by kernel_rfl) (by show 4<16; omega) (by omega) k5
 obtain ⟨E9,hE9,hc9⟩:=hc8.shape (P:=Tryz.prog) (T:=gF) (us:=usF n j uj uh uk ow tm dl cs ci ct sl so ks ki gs gt g2 g3) (by kernel_rfl)
 have hw0:w0.heap.size≤w.heap.size:=by obtain ⟨_,_,_,_,hH⟩:=hc; exact hH.below.size
 refine hQ E9 _ w4 _ v' (fun k hk hk4=>?_) ((hE9 4 (by show 4<16; omega)).trans (xbH _ _ _)) k2 (fun g hg=>?_) (fun x hx hne=>List.mem_append.2 (.inl (List.mem_filter.2 ⟨hx,by simpa using hne⟩))) hc9
 ·rw [hE9 k hk,xcS _ _ hk4,hE7 k hk]
  exact hE3 k (by show k<17; omega)
 ·have hin:∃ o,(g,o)∈Y:=by
   rcases k2 with ⟨a0,rfl,h0⟩ | ⟨g0,cap,cur,rfl,hg0,_⟩
   ·omega
   ·have:g0=g:=by
     simp only [blkO] at hg
     split at hg
     ·cases hg
     ·simpa using hg
    subst this
    exact ⟨_,by simp only [Y,hg,hg0]; exact List.mem_singleton.2 rfl⟩
  obtain ⟨o,ho'⟩:=hin
  refine ⟨?_,⟨o,List.mem_append.2 (.inr ho')⟩,?_⟩
  ·rcases k4 g hg with q | q
   ·omega
   ·rw [e34] at q; exact (hX g q).1
  ·rcases k4 g hg with q | q
   ·exact .inr (by omega)
   ·rw [e34] at q; exact .inl q
end Go.Proofs.YthfjhbbpdhjklaaGreat
set_option linter.unusedVariables false
set_option maxRecDepth 100000
namespace Go.Proofs.YthfjhbbpdhjklaaGreat
open Go Go.Sy Go.RowKit
theorem xwd {α:Type} {l:List α} (h:l.Nodup) {i j:Nat} {x:α} (hi:l[i]?=some x) (hj:l[j]?=some x):i=j:=by
 obtain ⟨l1,e1⟩:=List.getElem?_eq_some_iff.1 hi
 obtain ⟨l2,e2⟩:=List.getElem?_eq_some_iff.1 hj
 have hp:=List.pairwise_iff_getElem.1 (List.nodup_iff_pairwise_ne.1 h)
 rcases Nat.lt_trichotomy i j with hlt | hlt | hlt
 ·exact absurd (e1.trans e2.symm) (hp i j l1 l2 hlt)
 ·exact hlt
 ·exact absurd (e2.trans e1.symm) (hp j i l2 l1 hlt)
def kGap:List CK:=[.int .i64,.int .i64,.bool,.bool]
def xlw (g:List Int):Array Value:=(elV kGap 0 g).toArray
structure GSt (X:List (Nat×Go.Obj)) (E:Env) (w0 w:World) (t:Tab) (s:Option Nat):Prop where
 tab:xiC w t
 e3:E 3=.map (some t.bm)
 bm:∃ o,(t.bm,o)∈X
 bm0:w0.heap.size≤t.bm
 out:xfl w 201 1 (E 4) t.bs.length (t.bs.map gPtr)
 outX:∀ g,blkO (E 4)=some g→w0.heap.size≤g∧(∃ o,(g,o)∈X)∧g≠t.bm∧g∉t.bs
 cells:∀ i b g,some i≠s→t.bs[i]?=some b→t.gs[i]?=some g→∃ T,(b,Go.Obj.cells (xlw g) T (0,0))∈X
 bs0:∀ b∈t.bs,w0.heap.size≤b
 bsm:t.bm∉t.bs
 nodup:t.bs.Nodup
theorem _root_.Go.Sy.CfgOk.subX {X X2:List (Nat×Go.Obj)} {E:Env} {w0 w:World} {N:Nat} {c:Cfg} {a:Act} (h:CfgOk X E w0 N c a w) (hX:∀ x∈X2,x∈X):CfgOk X2 E w0 N c a w :=
 h.turn (Chg.refl _ []) (by simp) fun x hx=>⟨h.at_ (hX x hx),.inl ⟨x.2,hX x hx⟩⟩
theorem _root_.Go.Sy.CfgOk.noX {X:List (Nat×Go.Obj)} {E:Env} {w0 w:World} {N:Nat} {c:Cfg} {a:Act} (h:CfgOk X E w0 N c a w) {x:Nat×Go.Obj} (hx:x∈X) {o:Sy.Obj} (ho:o∈c.heap.objs):blkO (E o.key)≠some x.1:=by
 obtain ⟨rs,_,_,_,hH⟩:=h
 exact (hH.prot x (List.mem_append.2 (.inr hx))).2 o ho
theorem _root_.Go.Sy.CfgOk.high {X:List (Nat×Go.Obj)} {E:Env} {w0 w:World} {N:Nat} {c:Cfg} {a:Act} (h:CfgOk X E w0 N c a w) {o:Sy.Obj} (ho:o∈c.heap.objs) (hown:o.own=true) {b:Nat} (hb:blkO (E o.key)=some b):w0.heap.size≤b:=by
 obtain ⟨rs,_,_,_,hH⟩:=h
 exact hH.high o ho hown b hb
theorem GSt.move {X:List (Nat×Go.Obj)} {E E' Ea:Env} {w0 w w':World} {t:Tab} {s:Option Nat} {N M:Nat} {c c':Cfg} {a a':Act} (h:GSt X E w0 w t s) (hc:CfgOk X Ea w0 N c a w) (h3:E' 3=E 3) (h4:E' 4=E 4) (hc':CfgOk X E' w0 M c' a' w'):GSt X E' w0 w' t s:=by
 have same:∀ x∈X,w'.heap[x.1]?=w.heap[x.1]?:=fun x hx=>(hc'.at_ hx).trans (hc.at_ hx).symm
 obtain ⟨ob,hbm⟩:=h.bm
 refine ⟨h.tab.keep (same _ hbm),h3.trans h.e3,h.bm,h.bm0,?_,fun g hg=>h.outX g (by rw [← h4]; exact hg),h.cells,h.bs0,h.bsm,h.nodup⟩
 rw [h4]
 refine xhs h.out fun g hg=>?_
 obtain ⟨_,⟨o,ho⟩,_⟩:=h.outX g hg
 exact same _ ho
def xqM (key x0:Nat) (a b:Int) (c d:Bool):Sy.Obj:=⟨key,x0,true,.cells [.int .i64 a,.int .i64 b,.bool c,.bool d]⟩
theorem xAj {X:List (Nat×Go.Obj)} {E:Env} {w0 w:World} {N:Nat} {tm:Nat→Option AV} {H:Heap} {a:Act} {t:Tab} {i b key ver:Nat} {g:List Int} (h:GSt X E w0 w t none) (hc:CfgOk X E w0 N ⟨tm,H⟩ a w) (hb:t.bs[i]?=some b) (hg:t.gs[i]?=some g) (hE:E key=gPtr b) (hk:key<H.next) (hno:∀ o∈H.objs,o.key≠key) :
  ∃ X2,GSt X2 E w0 w t (some i)∧CfgOk X2 E w0 N ⟨tm,⟨xqM key ver (g.getD 0 0) (g.getD 1 0) (g.getD 2 0 !=0) (g.getD 3 0 !=0)::H.objs,H.next⟩⟩ a w:=by
 obtain ⟨T,hm⟩:=h.cells i b g (by simp) hb hg
 have hbm:b∈t.bs:=List.mem_of_getElem? hb
 refine ⟨X.filter fun x=>decide (x.1≠b),⟨h.tab,h.e3,?_,h.bm0,h.out,fun g' hg'=>?_,fun j b' g' hj hb' hg'=>?_,h.bs0,h.bsm,h.nodup⟩,?_⟩
 ·obtain ⟨o,ho⟩:=h.bm
  exact ⟨o,List.mem_filter.2 ⟨ho,by simpa using fun e:t.bm=b=>h.bsm (e▸hbm)⟩⟩
 ·obtain ⟨q1,⟨o,q2⟩,q3,q4⟩:=h.outX g' hg'
  exact ⟨q1,⟨o,List.mem_filter.2 ⟨q2,by simpa using fun e:g'=b=>q4 (e▸hbm)⟩⟩,q3,q4⟩
 ·obtain ⟨T',hm'⟩:=h.cells j b' g' (by simp) hb' hg'
  refine ⟨T',List.mem_filter.2 ⟨hm',?_⟩⟩
  have hne:j≠i:=fun e=>hj (by rw [e])
  have:b'≠b:=fun e=>hne (by
   subst e
   exact xwd h.nodup hb' hb)
  simpa using this
 ·have hc1:CfgOk ((b,Go.Obj.cells (xlw g) T (0,0))::X.filter fun x=>decide (x.1≠b)) E w0 N ⟨tm,H⟩ a w:=hc.subX fun x hx=>by
   rcases List.mem_cons.1 hx with rfl | hx
   ·exact hm
   ·exact (List.mem_filter.1 hx).1
  exact hc1.show_ (h.bs0 b hbm) (fun x hx=>by simpa using (List.mem_filter.1 hx).2) hE ⟨b,T,hE,hc.at_ hm⟩ hk ⟨trivial,trivial,trivial,trivial,trivial⟩ hno
def b2 (b:Bool):Int:=bif b then 1 else 0
theorem xCV (b:Bool):(b2 b !=0)=b:=by cases b<;>rfl
theorem xAm {X:List (Nat×Go.Obj)} {E:Env} {w0 w:World} {N:Nat} {tm:Nat→Option AV} {H:Heap} {a:Act} {t:Tab} {i b key ver:Nat} {g0:List Int} {x0 x1:Int} {x2 x3:Bool} (h:GSt X E w0 w t (some i)) (hc:CfgOk X E w0 N ⟨tm,H⟩ a w) (hb:t.bs[i]?=some b) (hg:t.gs[i]?=some g0) (hE:E key=gPtr b)
  (ho:xqM key ver x0 x1 x2 x3∈H.objs) (h0:x0=g0.getD 0 0) (h1:x1=g0.getD 1 0) :
  ∃ X2,GSt X2 E w0 w (t.put i [x0,x1,b2 x2,b2 x3]) none∧CfgOk X2 E w0 N ⟨tm,xom key H⟩ a w:=by
 obtain ⟨b',T,e1,e2⟩:∃ b' T,E key=.pointer (some ⟨b',0,none⟩)∧w.heap[b']?=some (.cells (AV.denL E [.int .i64 x0,.int .i64 x1,.bool x2,.bool x3]).toArray T (0,0)):=hc.body ho
 have eb:b'=b:=by
  rw [e1] at hE
  have:(Value.pointer (some ⟨b',0,none⟩))=.pointer (some ⟨b,0,none⟩):=hE
  simpa using this
 subst eb
 have hbm:b'∈t.bs:=List.mem_of_getElem? hb
 have hil:i<t.gs.length:=(List.getElem?_eq_some_iff.1 hg).1
 have hblk:blkO (E key)=some b':=by rw [hE]; rfl
 obtain ⟨k1,k2,k3⟩:=hc.hide ho rfl hblk e2
 have egc:(AV.denL E [.int .i64 x0,.int .i64 x1,.bool x2,.bool x3]).toArray=xlw [x0,x1,b2 x2,b2 x3]:=by
  cases x2<;>cases x3<;>rfl
 rw [egc] at k1
 refine ⟨_,⟨h.tab.put hg h0 h1,h.e3,?_,h.bm0,h.out,fun g' hg'=>?_,fun j b2' g' _ hb' hg'=>?_,h.bs0,h.bsm,h.nodup⟩,k1⟩
 ·obtain ⟨o,ho⟩:=h.bm
  exact ⟨o,List.mem_cons_of_mem _ ho⟩
 ·obtain ⟨q1,⟨o,q2⟩,q3,q4⟩:=h.outX g' hg'
  exact ⟨q1,⟨o,List.mem_cons_of_mem _ q2⟩,q3,q4⟩
 ·have hg':(t.gs.set i [x0,x1,b2 x2,b2 x3])[j]?=some g':=hg'
  have hb':t.bs[j]?=some b2':=hb'
  rw [List.getElem?_set] at hg'
  by_cases e:i=j
  ·subst e
   rw [if_pos rfl,if_pos hil] at hg'
   rw [hb] at hb'
   cases hg'; cases hb'
   exact ⟨T,List.mem_cons_self⟩
  ·rw [if_neg e] at hg'
   obtain ⟨T',hm'⟩:=h.cells j b2' g' (fun e'=>e (by cases e'; rfl)) hb' hg'
   exact ⟨T',List.mem_cons_of_mem _ hm'⟩
theorem _root_.Go.Sy.CfgOk.next {X:List (Nat×Go.Obj)} {E:Env} {w0 w:World} {N n n':Nat} {tm:Nat→Option AV} {os:List Sy.Obj} {a:Act} (h:CfgOk X E w0 N ⟨tm,⟨os,n⟩⟩ a w) (hn:n≤n'):CfgOk X E w0 N ⟨tm,⟨os,n'⟩⟩ a w:=by
 obtain ⟨rs,h1,h2,hS,hH⟩:=h
 exact ⟨rs,h1,h2,hS.env (fun _ _=>rfl) hn,⟨hH.below,hH.env,hH.objs,hH.high,hH.inj,hH.uniq,fun o ho=>⟨Nat.lt_of_lt_of_le (hH.lt o ho).1 hn,xaU (fun k hk=>Nat.lt_of_lt_of_le hk hn) (hH.lt o ho).2⟩,hH.prot,hH.deep,hH.protD,hH.fsh⟩⟩
theorem _root_.Go.Sy.CfgOk.reslot {X:List (Nat×Go.Obj)} {E:Env} {w0 w:World} {N:Nat} {c:Cfg} {a:Act} (h:CfgOk X E w0 N c a w) {d:Nat} {x u:AV} (hx:c.tmps d=some x) (hu:x.den E=u.den E) (hlt:AV.lt c.heap.next u):CfgOk X E w0 N ⟨fun t=>match Nat.beq t d with | true=>some u | false=>c.tmps t,c.heap⟩ a w:=by
 have hp0:=h.point hx
 obtain ⟨rs,h1,h2,hS,hH⟩:=h
 refine ⟨rs,h1,h2,⟨hS.defers,hS.size,fun t=>?_⟩,hH⟩
 by_cases e:t=d
 ·subst e
  have e1:xal (fun t'=>match Nat.beq t' t with | true=>some u | false=>c.tmps t') t=.is u:=by simp [xal]
  show xjn _ _ _ t (xal (fun t'=>match Nat.beq t' t with | true=>some u | false=>c.tmps t') t)
  rw [e1]
  exact ⟨hp0.1.trans hu,hlt⟩
 ·have e0:(match Nat.beq t d with | true=>some u | false=>c.tmps t)=c.tmps t:=by rw [xhQ e]
  have e1:xal (fun t'=>match Nat.beq t' d with | true=>some u | false=>c.tmps t') t=xal c.tmps t:=by simp only [xal,e0]
  show xjn _ _ _ t (xal (fun t'=>match Nat.beq t' d with | true=>some u | false=>c.tmps t') t)
  rw [e1]
  exact hS.ok t
def usL (n j:Int) (uj uh uk:List (List Int)) (ow tm dl:Int):List U:=[.i n,.i j,.r uj,.r uh,.r uk,.i ow,.i tm,.i dl]
theorem xAi {X:List (Nat×Go.Obj)} {E:Env} {w0 w:World} {a:Act} {n j:Int} {uj uh uk:List (List Int)} {ow tm dl cs ci ct:Int} {sl:List (List Int)} {so ks ki gs gi_:Int} {gt go:Bool} {Q:Exit→Act→World→Prop} {t:Tab} {i b:Nat} {gg:List Int}
  (hc:CfgOk X E w0 117 (gF.st (usF n j uj uh uk ow tm dl cs ci ct sl so ks ki gs gi_ gt go)) a w) (h:GSt X E w0 w t (some i)) (hE:E 15=gPtr b) (hb:t.bs[i]?=some b) (hg:t.gs[i]?=some gg) (h0:gs=gg.getD 0 0) (h1:gi_=gg.getD 1 0)
  (p1:xbI so sl) (p2:go=true→decide (xa4 so sl<ct)=false→xcx so ct sl)
  (hQ:∀ E' a' w' X',GSt X' E' w0 w' (t.put i [gs,gi_,b2 gt,b2 (go&&(decide (xa4 so sl<ct)||!xaF so ct sl))]) none→CfgOk X' E' w0 117 (gL.st (usL n j uj uh uk ow tm dl)) a' w'→Q .normal a' w'):(Code.seq (gpc 14) (gpc 15)).wpIn (FR none) 0 Tryz.prog Q a w:=by
 refine wpIn_seq (xba xfm (i:=0) (y:=.normal) (T:=g14) hc ((xBU n j uj uh uk ow tm dl cs ci ct sl so ks ki gs gi_ gt go).trans (xaa p1)) rfl fun E1 a1 w1 hE1 hc1=>?_)
 have hE1:∀ k,k<16→E1 k=E k:=fun k hk=>hE1 k hk hk
 have s1:=h.move hc (hE1 3 (by omega)) (hE1 4 (by omega)) hc1
 show (gpc 15).wpIn (FR none) 0 Tryz.prog Q a1 w1
 refine xba xfm (i:=0) (y:=.normal) (T:=gF) hc1 ((xBT n j (xa4 so sl) uj uh uk ow tm dl cs ci ct sl so ks ki gs gi_ gt go).trans (xaa p2)) rfl fun E2 a2 w2 hE2 hc2=>?_
 have hE2:∀ k,k<16→E2 k=E1 k:=fun k hk=>hE2 k hk hk
 have s2:=s1.move hc1 (hE2 3 (by omega)) (hE2 4 (by omega)) hc2
 obtain ⟨X3,s3,hc3⟩:=xAm (ver:=16) s2 hc2 hb hg (((hE2 15 (by omega)).trans (hE1 15 (by omega))).trans hE) (List.mem_of_getElem? (i:=8) (by kernel_rfl)) h0 h1
 obtain ⟨E4,hE4,hc4⟩:=hc3.shape (P:=Tryz.prog) (T:=gL) (us:=usL n j uj uh uk ow tm dl) (by kernel_rfl)
 exact hQ E4 a2 w2 X3 (s3.move hc3 (hE4 3 (by show 3<7; omega)) (hE4 4 (by show 4<7; omega)) hc4) hc4
end Go.Proofs.YthfjhbbpdhjklaaGreat
set_option linter.unusedVariables false
set_option maxRecDepth 100000
namespace Go.Proofs.YthfjhbbpdhjklaaGreat
open Go Go.Sy Go.RowKit
theorem xy2 {X:List (Nat×Go.Obj)} {E:Env} {w0 w:World} {t:Tab} (h:GSt X E w0 w t none):∀ b∈t.bs,∃ o,(b,o)∈X:=by
 intro b hb
 obtain ⟨i,hi⟩:=List.mem_iff_getElem?.1 hb
 have hil:i<t.gs.length:=by rw [← h.tab.len]; exact (List.getElem?_eq_some_iff.1 hi).1
 obtain ⟨T,hm⟩:=h.cells i b t.gs[i] (by simp) hi (List.getElem?_eq_getElem hil)
 exact ⟨_,hm⟩
theorem xB0 {X:List (Nat×Go.Obj)} {E:Env} {w0 w:World} {a:Act} {n j:Int} {uj uh uk:List (List Int)} {ow tm dl cs ci ct:Int} {sl:List (List Int)} {so ks ki:Int} {Q:Exit→Act→World→Prop} {t:Tab}
  (hc:CfgOk X E w0 117 (g9.st (us9 false n j uj uh uk ow tm dl cs ci ct sl so ks ki)) a w) (h:GSt X E w0 w t none) (p1:xb7 ow ci (-1:Int) uj) (hf:xa5 8 (t.bs.length+1))
  (ha:(Lit.int .i64 ks).wf=true) (hb:(Lit.int .i64 ki).wf=true) (hno:∀ x∈t.gs,¬ (x.getD 0 0=ks∧x.getD 1 0=ki))
  (hQ:∀ E' a' w' X' b,b∉t.bs→E' 15=gPtr b→GSt X' E' w0 w' (t.add b [ks,ki,b2 (!xaG ow ci (-1:Int) uj),1]) (some t.bs.length)→CfgOk X' E' w0 117 (gF.st (usF n j uj uh uk ow tm dl cs ci ct sl so ks ki ks ki (!xaG ow ci (-1:Int) uj) true)) a' w'→Q .normal a' w') :
  (Code.seq (gpc 11) (Code.seq (gpc 12) (gpc 13))).wpIn (FR none) 0 Tryz.prog Q a w:=by
 refine wpIn_seq (xba xfm (i:=0) (y:=.normal) (T:=gF) hc ((xBV n j false uj uh uk ow tm dl cs ci ct sl so ks ki).trans (xaa p1)) rfl fun E1 a1 w1 hE1 hc1=>?_)
 have hE1:∀ k,k<14→E1 k=E k:=fun k hk=>hE1 k hk (by show k<16; omega)
 have s1:=h.move hc (hE1 3 (by omega)) (hE1 4 (by omega)) hc1
 have ho15:xqM 15 16 ks ki (!xaG ow ci (-1:Int) uj) true∈(gF.st (usF n j uj uh uk ow tm dl cs ci ct sl so ks ki ks ki (!xaG ow ci (-1:Int) uj) true)).heap.objs:=List.mem_of_getElem? (i:=8) (by kernel_rfl)
 obtain ⟨b,T,e1,e2⟩:∃ b T,E1 15=.pointer (some ⟨b,0,none⟩)∧w1.heap[b]?=some (.cells (AV.denL E1 [.int .i64 ks,.int .i64 ki,.bool (!xaG ow ci (-1:Int) uj),.bool true]).toArray T (0,0)):=hc1.body ho15
 have hblk:blkO (E1 15)=some b:=by rw [e1]; rfl
 have hb0:w0.heap.size≤b:=hc1.high ho15 rfl hblk
 have hbX:∀ x∈X,x.1≠b:=fun x hx e=>hc1.noX hx ho15 (by rw [e]; exact hblk)
 have hbm:t.bm≠b:=by obtain ⟨o,ho⟩:=s1.bm; exact hbX _ ho
 have hbt:b∉t.bs:=fun hm=>by obtain ⟨o,ho⟩:=xy2 s1 b hm; exact hbX _ ho rfl
 generalize hgg:[ks,ki,b2 (!xaG ow ci (-1:Int) uj),1]=gg at *
 have g0:gg.getD 0 0=ks:=by rw [← hgg]; rfl
 have g1:gg.getD 1 0=ki:=by rw [← hgg]; rfl
 show (Code.seq (gpc 12) (gpc 13)).wpIn (FR none) 0 Tryz.prog Q a1 w1
 refine wpIn_seq ?_
 have hlt:∀ x∈X,x.1<w1.heap.size:=fun x hx=>(Array.getElem?_eq_some_iff.1 (hc1.at_ hx)).1
 refine xBZ (X2:=(t.bm,.map (t.add b gg).es (t.add b gg).clk)::X.filter fun x=>decide (x.1≠t.bm)) (bs:=[t.bm]) (Z:=fun w2=>xiC w2 (t.add b gg)) (m:=.map (some t.bm)) (p:=gPtr b) hc1 s1.e3 (by simp only [AV.den,e1]; rfl) (fun w' hw'=>?_) (fun b' hb'=>?_) fun E2 a2 w2 hE2 hZ hc2=>?_
 ·have ht':xiC w' t:=s1.tab.keep (hw'.block t.bm (by obtain ⟨o,ho⟩:=s1.bm; exact hlt _ ho) (by simp))
  obtain ⟨k1,k2,k3⟩:=ht'.add (g:=gg) b (by rw [g0]; exact ha) (by rw [g1]; exact hb) (by rw [g0,g1]; exact hno)
  refine ⟨_,?_,k3,fun x hx=>?_,k2⟩
  ·have ek:gKey gg=.agg #[.int .i64 ks,.int .i64 ki]:=by unfold gKey; rw [g0,g1]
   rw [← ek]; exact k1
  ·rcases List.mem_cons.1 hx with rfl | hx
   ·exact ⟨k2.at_,.inl s1.bm⟩
   ·obtain ⟨q1,q2⟩:=List.mem_filter.1 hx
    have q2:x.1≠t.bm:=by simpa using q2
    refine ⟨?_,.inl ⟨x.2,q1⟩⟩
    rw [k3.block x.1 (Nat.lt_of_lt_of_le (hlt x q1) hw'.size) (by simpa using q2),hw'.block x.1 (hlt x q1) (by simp)]
    exact hc1.at_ q1
 ·rw [List.mem_singleton.1 hb']
  exact ⟨s1.bm0,s1.bm⟩
 ·show (gpc 13).wpIn (FR none) 0 Tryz.prog Q a2 w2
  have e2':E2 4=E1 4:=hE2 4 (by omega)
  have hX2:∀ x∈X,x.1≠t.bm→x∈((t.bm,.map (t.add b gg).es (t.add b gg).clk)::X.filter fun x=>decide (x.1≠t.bm):List (Nat×Go.Obj)):=fun x hx hne=>List.mem_cons_of_mem _ (List.mem_filter.2 ⟨hx,by simpa using hne⟩)
  have ho2:xfl w2 201 1 (E2 4) t.bs.length (t.bs.map gPtr):=by
   rw [e2']
   refine xhs s1.out fun g hg=>?_
   obtain ⟨_,⟨o,ho⟩,hne,_⟩:=s1.outX g hg
   rw [hc2.at_ (hX2 _ ho hne),hc1.at_ ho]
  refine xBY (p:=gPtr b) (m:=t.bs.length) (vs:=t.bs.map gPtr) hc2 (by simp only [AV.den,hE2 15 (by omega),e1]; rfl) ho2 (by simp) (fun g hg=>?_) hf fun E3 a3 w3 X3 v' hE3 hv hrow hfacts hX3 hc3=>?_
  ·rw [e2'] at hg
   obtain ⟨q1,⟨o,ho⟩,hne,_⟩:=s1.outX g hg
   exact ⟨q1,o,hX2 _ ho hne⟩
  ·rw [e2'] at hX3 hfacts
   have outne:∀ g,blkO (E1 4)=some g→g≠b:=fun g hg=>by
    obtain ⟨_,⟨o,ho⟩,_⟩:=s1.outX g hg
    exact hbX _ ho
   have bmX3:(t.bm,Go.Obj.map (t.add b gg).es (t.add b gg).clk)∈X3:=hX3 _ List.mem_cons_self fun e=>(s1.outX _ e).2.2.1 rfl
   have hb2:b<w2.heap.size:=by
    have ho15':xqM 15 16 ks ki (!xaG ow ci (-1:Int) uj) true∈(gF.st (usF n j uj uh uk ow tm dl cs ci ct sl so ks ki ks ki (!xaG ow ci (-1:Int) uj) true)).heap.objs:=ho15
    obtain ⟨b',T',f1,f2⟩:∃ b T,E2 15=.pointer (some ⟨b,0,none⟩)∧w2.heap[b]?=some (.cells (AV.denL E2 [.int .i64 ks,.int .i64 ki,.bool (!xaG ow ci (-1:Int) uj),.bool true]).toArray T (0,0)):=hc2.body ho15'
    have:b'=b:=by
     rw [hE2 15 (by omega),e1] at f1
     simpa using f1.symm
    rw [← this]
    exact (Array.getElem?_eq_some_iff.1 f2).1
   refine hQ E3 a3 w3 X3 b hbt ((hE3 15 (by omega) (by omega)).trans ((hE2 15 (by omega)).trans e1)) ⟨hZ.keep ?_,?_,⟨_,bmX3⟩,s1.bm0,?_,fun g hg=>?_,fun i b' g hi hb' hg=>?_,fun b' hb'=>?_,?_,?_⟩ hc3
   ·show w3.heap[t.bm]?=w2.heap[t.bm]?
    rw [hc3.at_ bmX3,hc2.at_ (x:=(t.bm,_)) List.mem_cons_self]
   ·rw [hE3 3 (by omega) (by omega),hE2 3 (by omega)]
    exact s1.e3
   ·rw [hv]
    have:(t.add b gg).bs=t.bs++[b]:=rfl
    rw [this,List.map_append,List.length_append]
    exact hrow
   ·rw [hv] at hg
    obtain ⟨q1,q2,q3⟩:=hfacts g hg
    refine ⟨q1,q2,?_⟩
    have:(t.add b gg).bs=t.bs++[b]:=rfl
    rw [this]
    show g≠t.bm∧g∉t.bs++[b]
    rcases q3 with q3 | q3
    ·obtain ⟨_,_,r1,r2⟩:=s1.outX g q3
     refine ⟨r1,fun hm=>?_⟩
     rcases List.mem_append.1 hm with hm | hm
     ·exact r2 hm
     ·exact outne g q3 (List.mem_singleton.1 hm)
    ·have lt2:∀ x∈X,x.1≠t.bm→x.1<w2.heap.size:=fun x hx hne=>(Array.getElem?_eq_some_iff.1 (hc2.at_ (hX2 x hx hne))).1
     have ltm:t.bm<w2.heap.size:=(Array.getElem?_eq_some_iff.1 (hc2.at_ (x:=(t.bm,_)) List.mem_cons_self)).1
     refine ⟨fun e=>by omega,fun hm=>?_⟩
     rcases List.mem_append.1 hm with hm | hm
     ·obtain ⟨o,ho⟩:=xy2 s1 g hm
      have:g<w2.heap.size:=lt2 _ ho fun e=>by
       have e:g=t.bm:=e
       exact s1.bsm (e▸hm)
      omega
     ·rw [List.mem_singleton.1 hm] at q3
      omega
   ·have hb'':(t.bs++[b])[i]?=some b':=hb'
    have hg'':(t.gs++[gg])[i]?=some g:=hg
    have hi':i≠t.bs.length:=fun e=>hi (by rw [e])
    have hil:i<t.bs.length:=by
     have:=(List.getElem?_eq_some_iff.1 hb'').1
     simp at this
     omega
    rw [List.getElem?_append_left hil] at hb''
    rw [List.getElem?_append_left (by rw [← s1.tab.len]; exact hil)] at hg''
    obtain ⟨T',hm⟩:=s1.cells i b' g (by simp) hb'' hg''
    have hbb:b'∈t.bs:=List.mem_of_getElem? hb''
    refine ⟨T',hX3 _ (hX2 _ hm fun e=>s1.bsm (by rw [← e]; exact hbb)) fun e=>(s1.outX _ e).2.2.2 hbb⟩
   ·have:b'∈t.bs++[b]:=hb'
    rcases List.mem_append.1 this with hm | hm
    ·exact s1.bs0 b' hm
    ·rw [List.mem_singleton.1 hm]; exact hb0
   ·show t.bm∉t.bs++[b]
    intro hm
    rcases List.mem_append.1 hm with hm | hm
    ·exact s1.bsm hm
    ·exact hbm (List.mem_singleton.1 hm)
   ·show (t.bs++[b]).Nodup
    refine List.nodup_append.2 ⟨s1.nodup,by simp,fun x hx y hy e=>?_⟩
    rw [List.mem_singleton.1 hy] at e
    exact hbt (e▸hx)
theorem xyY {X:List (Nat×Go.Obj)} {E:Env} {w0 w:World} {a:Act} {n j:Int} {uj uh uk:List (List Int)} {ow tm dl cs ci ct:Int} {sl:List (List Int)} {so ks ki:Int} {t:Tab} {i b:Nat} {g:List Int}
  (hc:CfgOk X E w0 117 (g9.st (us9 true n j uj uh uk ow tm dl cs ci ct sl so ks ki)) a w) (h:GSt X E w0 w t none) (hE:E 5=gPtr b) (hb:t.bs[i]?=some b) (hg:t.gs[i]?=some g) :
  ∃ E' X',GSt X' E' w0 w t (some i)∧E' 15=gPtr b∧CfgOk X' E' w0 117 (gF.st (usF n j uj uh uk ow tm dl cs ci ct sl so ks ki (g.getD 0 0) (g.getD 1 0) (g.getD 2 0 !=0) (g.getD 3 0 !=0))) a w:=by
 have hc1:=hc.envS (k:=15) (v:=gPtr b) (by kernel_rfl) (by kernel_rfl) rfl
 have hno:∀ o∈(g9.st (us9 true n j uj uh uk ow tm dl cs ci ct sl so ks ki)).heap.objs,o.key≠15:=fun o ho=>Nat.ne_of_lt (hc1.lt o ho).1
 have hc2:CfgOk X (upd E 15 (gPtr b)) w0 117 ⟨(g9.st (us9 true n j uj uh uk ow tm dl cs ci ct sl so ks ki)).tmps,⟨(g9.st (us9 true n j uj uh uk ow tm dl cs ci ct sl so ks ki)).heap.objs,16⟩⟩ a w:=CfgOk.next (n:=15) hc1 (by omega)
 have s2:=h.move hc (xcS _ _ (by omega)) (xcS _ _ (by omega)) hc2
 have e15:upd E 15 (gPtr b) 15=gPtr b:=xbH _ _ _
 have e5:upd E 15 (gPtr b) 5=gPtr b:=(xcS _ _ (by omega)).trans hE
 obtain ⟨X3,s3,hc3⟩:=xAj (key:=15) (ver:=16) s2 hc2 hb hg e15 (by show 15<16; omega) hno
 have hc4:=hc3.reslot (d:=9) (x:=.sl 5) (u:=.ptr 15 0) (by kernel_rfl) (by simp only [AV.den,e15,e5]; rfl) (by show 15<16; omega)
 obtain ⟨E5,hE5,hc5⟩:=hc4.shape (P:=Tryz.prog) (T:=gF) (us:=usF n j uj uh uk ow tm dl cs ci ct sl so ks ki (g.getD 0 0) (g.getD 1 0) (g.getD 2 0 !=0) (g.getD 3 0 !=0)) (by kernel_rfl)
 exact ⟨E5,X3,s3.move hc3 (hE5 3 (by show 3<16; omega)) (hE5 4 (by show 4<16; omega)) hc5,(hE5 15 (by show 15<16; omega)).trans e15,hc5⟩
noncomputable def xB2 (uh:List (List Int)) (c:List Int):List Int:=(xbO 1 [c.getD 0 0] uh).getD [0,encL []]
noncomputable def gSl (uh:List (List Int)) (c:List Int):List (List Int):=decL ((xB2 uh c).getD 1 0)
noncomputable def gSo (uh:List (List Int)) (c:List Int):Int:=(xB2 uh c).getD 0 0
noncomputable def xy4 (tm dl:Int) (c:List Int):Bool:=decide (IntKind.i64.wrap (c.getD 2 0+dl)>tm)
noncomputable def xrE (uh:List (List Int)) (tm dl:Int) (c:List Int):Bool:=xy4 tm dl c||xbE (c.getD 1 0) (xcF (gSo uh c) tm (gSl uh c))
noncomputable def gUpd (uh:List (List Int)) (c g:List Int):List Int :=
 [g.getD 0 0,g.getD 1 0,b2 (g.getD 2 0 !=0),b2 ((g.getD 3 0 !=0)&&(decide (xa4 (gSo uh c) (gSl uh c)<c.getD 2 0)||!xaF (gSo uh c) (c.getD 2 0) (gSl uh c)))]
def xfr (c g:List Int):Bool:=g.getD 0 0==c.getD 0 0&&g.getD 1 0==c.getD 1 0
noncomputable def xms (uj uh:List (List Int)) (ow tm dl:Int) (gs:List (List Int)) (c:List Int):List (List Int) :=
 bif xrE uh tm dl c then gs else
 bif gs.any (xfr c) then gs.map fun g=>bif xfr c g then gUpd uh c g else g
 else gs++[gUpd uh c [c.getD 0 0,c.getD 1 0,b2 (!xaG ow (c.getD 1 0) (-1:Int) uj),1]]
structure GPre (uj uh:List (List Int)) (ow tm dl:Int) (c:List Int):Prop where
 w0:(Lit.int .i64 (c.getD 0 0)).wf=true
 w1:(Lit.int .i64 (c.getD 1 0)).wf=true
 sh:xy4 tm dl c=false→xbK (gSo uh c) tm (gSl uh c)∧xbd (c.getD 1 0) (xcF (gSo uh c) tm (gSl uh c))
 rest:xrE uh tm dl c=false→xb7 ow (c.getD 1 0) (-1:Int) uj∧xbI (gSo uh c) (gSl uh c)∧xcx (gSo uh c) (c.getD 2 0) (gSl uh c)
theorem xvm {t:Tab} {w:World} (h:xiC w t) {i j:Nat} {g g':List Int} (hi:t.gs[i]?=some g) (hj:t.gs[j]?=some g') (h0:g.getD 0 0=g'.getD 0 0) (h1:g.getD 1 0=g'.getD 1 0):i=j:=by
 refine xwd (x:=(g.getD 0 0,g.getD 1 0)) h.nodup ?_ ?_
 ·rw [List.getElem?_map,hi]; rfl
 ·rw [List.getElem?_map,hj,Option.map_some,h0,h1]
theorem xiC.lookup2 {w:World} {t:Tab} (h:xiC w t) {a b:Int} (ha:(Lit.int .i64 a).wf=true) (hb:(Lit.int .i64 b).wf=true) :
  ((∀ w',xiC w' t→(Instr.lookup 197 (.map (some t.bm)) (.agg #[.int .i64 a,.int .i64 b]) true).run Tryz.prog w'=.ok (.tuple #[.pointer none,.bool false]) w')∧∀ g∈t.gs,¬ (g.getD 0 0=a∧g.getD 1 0=b)) ∨
  ∃ (i b0:Nat) (g:List Int),(∀ w',xiC w' t→(Instr.lookup 197 (.map (some t.bm)) (.agg #[.int .i64 a,.int .i64 b]) true).run Tryz.prog w'=.ok (.tuple #[gPtr b0,.bool true]) w')∧t.bs[i]?=some b0∧t.gs[i]?=some g∧g.getD 0 0=a∧g.getD 1 0=b:=by
 rcases h.lookup ha hb with ⟨_,h2⟩ | ⟨i,b0,g,_,h2,h3,h4,h5⟩
 ·refine .inl ⟨fun w' h'=>?_,h2⟩
  rcases h'.lookup ha hb with ⟨h1,_⟩ | ⟨i,b0,g,_,_,h3,h4⟩
  ·exact h1
  ·exact absurd h4 (h2 g (List.mem_of_getElem? h3))
 ·refine .inr ⟨i,b0,g,fun w' h'=>?_,h2,h3,h4,h5⟩
  rcases h'.lookup ha hb with ⟨_,k⟩ | ⟨i',b0',g',k1,k2,k3,k4,k5⟩
  ·exact absurd ⟨h4,h5⟩ (k g (List.mem_of_getElem? h3))
  ·have:i'=i:=xvm h k3 h3 (by rw [k4,h4]) (by rw [k5,h5])
   subst this
   rw [h2] at k2; cases k2
   exact k1
end Go.Proofs.YthfjhbbpdhjklaaGreat
set_option linter.unusedVariables false
set_option maxRecDepth 100000
namespace Go.Proofs.YthfjhbbpdhjklaaGreat
open Go Go.Sy Go.RowKit
theorem xy0 {X:List (Nat×Go.Obj)} {E:Env} {w0 w:World} {a:Act} {k:Nat} {n:Int} {uj uh uk:List (List Int)} {ow tm dl:Int} {Q:Exit→Act→World→Prop} {t:Tab} (hk:k<4611686018427387904)
  (hc:CfgOk X E w0 117 (gL.st (usL n k uj uh uk ow tm dl)) a w) (h:GSt X E w0 w t none)
  (hQ:∀ E' a' w',GSt X E' w0 w' t none→CfgOk X E' w0 117 (gL.st (usL n ((k+1:Nat):Int) uj uh uk ow tm dl)) a' w'→Q .normal a' w'):(gpc 16).wpIn (FR none) 0 Tryz.prog Q a w:=by
 refine xba xfm (i:=0) (y:=.normal) (T:=gL) hc ((xBS n k uj uh uk ow tm dl).trans (by unfold gq16; rw [xpL hk]; done)) rfl fun E1 a1 w1 hE1 hc1=>?_
 exact hQ E1 a1 w1 (h.move hc (hE1 3 (by show 3<7; omega) (by show 3<7; omega)) (hE1 4 (by show 4<7; omega) (by show 4<7; omega)) hc1) hc1
theorem xyX {X:List (Nat×Go.Obj)} {E:Env} {w0 w:World} {a:Act} {k:Nat} {n:Int} {uj uh uk:List (List Int)} {ow tm dl:Int} {Q:Exit→Act→World→Prop} {t:Tab} (hk:k<uk.length) (hlen:uk.length<4611686018427387904)
  (hc:CfgOk X E w0 117 (gL.st (usL n k uj uh uk ow tm dl)) a w) (h:GSt X E w0 w t none) (hp:GPre uj uh ow tm dl (uk.getD k [])) (hf:xa5 8 (t.bs.length+1))
  (hQ:∀ E' a' w' X' t',t'.gs=xms uj uh ow tm dl t.gs (uk.getD k [])→GSt X' E' w0 w' t' none→CfgOk X' E' w0 117 (gL.st (usL n ((k+1:Nat):Int) uj uh uk ow tm dl)) a' w'→Q .normal a' w') :
  (Code.seq (.block 1 (.seq (gpc 5) (.seq (gpc 6) (.seq (.seq (gpc 7) (.cond (.tmp 45) (.exit 1) .skip)) (.seq (gpc 8) (.seq (gpc 9) (.seq (.seq (gpc 10) (.cond (.tmp 58) (.seq (gpc 11) (.seq (gpc 12) (gpc 13))) .skip)) (.seq (gpc 14) (gpc 15))))))))) (gpc 16)).wpIn (FR none) 0 Tryz.prog Q a w:=by
 generalize hcc:uk.getD k []=c at *
 have h5:gq5 n (k:Int) uj uh uk ow tm dl=some (0,usL n k uj uh uk ow tm dl++[.i (c.getD 0 0),.i (c.getD 1 0),.i (c.getD 2 0)]):=by
  unfold gq5 xwt
  rw [xaa (xaw hk),xaa (xaw hk),Int.toNat_natCast,hcc]
  rfl
 refine wpIn_seq (wpIn_block (wpIn_seq (xba xfm (i:=0) (y:=.normal) (T:=g5) hc ((xCH n k uj uh uk ow tm dl).trans h5) rfl fun E1 a1 w1 hE1 hc1=>?_)))
 have hE1:∀ k,k<7→E1 k=E k:=fun k hk=>hE1 k hk (by show k<9; omega)
 have s1:=h.move hc (hE1 3 (by omega)) (hE1 4 (by omega)) hc1
 have h6:gq6 n (k:Int) uj uh uk ow tm dl (c.getD 0 0) (c.getD 1 0) (c.getD 2 0)=some (0,usL n k uj uh uk ow tm dl++[.i (c.getD 0 0),.i (c.getD 1 0),.i (c.getD 2 0),.r (gSl uh c),.i (gSo uh c)]):=rfl
 refine wpIn_seq (xba xfm (i:=0) (y:=.normal) (T:=g6) hc1 ((xCG n k uj uh uk ow tm dl (c.getD 0 0) (c.getD 1 0) (c.getD 2 0)).trans h6) rfl fun E2 a2 w2 hE2 hc2=>?_)
 have hE2:∀ k,k<9→E2 k=E1 k:=fun k hk=>hE2 k hk (by show k<12; omega)
 have s2:=s1.move hc1 (hE2 3 (by omega)) (hE2 4 (by omega)) hc2
 generalize hsl:gSl uh c=sl at *
 generalize hso:gSo uh c=so at *
 have h7:gq7 n (k:Int) uj uh uk ow tm dl (c.getD 0 0) (c.getD 1 0) (c.getD 2 0) sl so=some (0,[.i n,.i k,.b (xrE uh tm dl c),.r uj,.r uh,.r uk,.i ow,.i tm,.i dl,.i (c.getD 0 0),.i (c.getD 1 0),.i (c.getD 2 0),.r sl,.i so]):=by
  have hsh:=hp.sh
  rw [hsl,hso] at hsh
  unfold gq7 xws xyR xrE
  rw [hsl,hso]
  cases hl:xy4 tm dl c with
  | true =>
   have hl':decide (IntKind.i64.wrap (c.getD 2 0+dl)>tm)=true:=hl
   rw [hl',cond_true,xaa rfl]
   rfl
  | false =>
   have hl':decide (IntKind.i64.wrap (c.getD 2 0+dl)>tm)=false:=hl
   obtain ⟨q1,q2⟩:=hsh hl
   rw [hl',cond_false,xaa rfl,xaa (fun _=>q1),xaa (fun _=>q2)]
   rfl
 refine wpIn_seq (wpIn_seq (xba xfm (i:=0) (y:=.normal) (T:=g7) hc2 ((xCF n k uj uh uk ow tm dl (c.getD 0 0) (c.getD 1 0) (c.getD 2 0) sl so).trans h7) rfl fun E3 a3 w3 hE3 hc3=>?_))
 have hE3:∀ k,k<12→E3 k=E2 k:=fun k hk=>hE3 k hk hk
 have s3:=s2.move hc2 (hE3 3 (by omega)) (hE3 4 (by omega)) hc3
 have h45:=(hc3.point (t:=45) (v:=.bool (xrE uh tm dl c)) (by kernel_rfl)).1
 show Code.wpIn _ _ _ _ _ _ _
 refine wpIn_cond_split (t:=xrE uh tm dl c) h45 (fun hs=>wpIn_exit ?_) (fun hs=>wpIn_skip ?_)
 ·obtain ⟨E4,hE4,hc4⟩:=hc3.shape (P:=Tryz.prog) (T:=gL) (us:=usL n k uj uh uk ow tm dl) (by kernel_rfl)
  have s4:=s3.move hc3 (hE4 3 (by show 3<7; omega)) (hE4 4 (by show 4<7; omega)) hc4
  have e0:∀ Q':Exit→Act→World→Prop,Exit.inBlock 1 Q' (.exit 1) a3 w3=Q' .normal a3 w3:=fun Q'=>by
   show (if (1:Nat)=1 then Q' .normal a3 w3 else Q' (.exit 1) a3 w3)=_
   rw [if_pos rfl]
  show Exit.inBlock 1 (Exit.then ((gpc 16).wpIn (FR none) 0 Tryz.prog Q) Q) (.exit 1) a3 w3
  rw [e0]
  show (gpc 16).wpIn _ _ _ _ _ _
  refine xy0 (by omega) hc4 s4 fun E5 a5 w5 s5 hc5=>hQ E5 a5 w5 X t ?_ s5 hc5
  unfold xms
  rw [hs,cond_true]
 ·obtain ⟨E4,hE4,hc4⟩:=hc3.shape (P:=Tryz.prog) (T:=g6) (us:=usL n k uj uh uk ow tm dl++[.i (c.getD 0 0),.i (c.getD 1 0),.i (c.getD 2 0),.r sl,.i so]) (by kernel_rfl)
  have s4:=s3.move hc3 (hE4 3 (by show 3<12; omega)) (hE4 4 (by show 4<12; omega)) hc4
  obtain ⟨r1,r2,r3⟩:=hp.rest hs
  rw [hsl,hso] at r2 r3
  show Code.wpIn _ _ _ _ _ _ _
  refine wpIn_seq (xba xfm (i:=0) (y:=.normal) (T:=g8) hc4 ((xCE n k uj uh uk ow tm dl (c.getD 0 0) (c.getD 1 0) (c.getD 2 0) sl so).trans rfl) rfl fun E5 a5 w5 hE5 hc5=>?_)
  have hE5:∀ k,k<12→E5 k=E4 k:=fun k hk=>hE5 k hk (by show k<14; omega)
  have s5:=s4.move hc4 (hE5 3 (by omega)) (hE5 4 (by omega)) hc5
  show Code.wpIn _ _ _ _ _ _ _
  have tail:∀ {X:List (Nat×Go.Obj)} {E:Env} {w:World} {a:Act} {t1:Tab} {i b:Nat} {gg:List Int} {gt go:Bool},
    CfgOk X E w0 117 (gF.st (usF n k uj uh uk ow tm dl (c.getD 0 0) (c.getD 1 0) (c.getD 2 0) sl so (c.getD 0 0) (c.getD 1 0) (gg.getD 0 0) (gg.getD 1 0) gt go)) a w→GSt X E w0 w t1 (some i)→E 15=gPtr b→t1.bs[i]?=some b→t1.gs[i]?=some gg→gt=(gg.getD 2 0 !=0)→go=(gg.getD 3 0 !=0) →
    t1.gs.set i (gUpd uh c gg)=xms uj uh ow tm dl t.gs c →
    (Code.seq (gpc 14) (gpc 15)).wpIn (FR none) 0 Tryz.prog (Exit.inBlock 1 (Exit.then ((gpc 16).wpIn (FR none) 0 Tryz.prog Q) Q)) a w:=by
   intro X E w a t1 i b gg gt go hc s hE hb hg hgt hgo hres
   refine xAi hc s hE hb hg rfl rfl r2 (fun _ _=>r3) fun E' a' w' X' s' hc'=>?_
   show (gpc 16).wpIn _ _ _ _ _ _
   refine xy0 (by omega) hc' s' fun E5 a5 w5 s5 hc5=>hQ E5 a5 w5 X' _ ?_ s5 hc5
   rw [← hres]
   show t1.gs.set i _=_
   unfold gUpd
   rw [hsl,hso,hgt,hgo]
  rcases s5.tab.lookup2 hp.w0 hp.w1 with ⟨l1,l2⟩ | ⟨i,b0,g,l1,l2,l3,l4,l5⟩
  ·refine wpIn_seq (xA5 (m:=.map (some t.bm)) (p:=.pointer none) (is:=false) hc5 s5.e3 rfl (fun w' hw'=>l1 w' (s5.tab.keep (hw'.block t.bm (by obtain ⟨o,ho⟩:=s5.bm; exact (Array.getElem?_eq_some_iff.1 (hc5.at_ ho)).1) (by simp)))) fun E6 a6 w6 hE6 _ hw6 hc6=>?_)
   have s6:=s5.move hc5 (hE6 3 (by omega) (by omega)) (hE6 4 (by omega) (by omega)) hc6
   show Code.wpIn _ _ _ _ _ _ _
   refine wpIn_seq (wpIn_seq (xba xfm (i:=0) (y:=.normal) (T:=g10) hc6 ((xyS n k false uj uh uk ow tm dl (c.getD 0 0) (c.getD 1 0) (c.getD 2 0) sl so (c.getD 0 0) (c.getD 1 0)).trans rfl) rfl fun E7 a7 w7 hE7 hc7=>?_))
   have hE7:∀ k,k<14→E7 k=E6 k:=fun k hk=>hE7 k hk hk
   have s7:=s6.move hc6 (hE7 3 (by omega)) (hE7 4 (by omega)) hc7
   have h58:=(hc7.point (t:=58) (v:=.bool (!false)) (by kernel_rfl)).1
   show Code.wpIn _ _ _ _ _ _ _
   refine wpIn_cond_true h58 ?_
   obtain ⟨E8,hE8,hc8⟩:=hc7.shape (P:=Tryz.prog) (T:=g9) (us:=us9 false n k uj uh uk ow tm dl (c.getD 0 0) (c.getD 1 0) (c.getD 2 0) sl so (c.getD 0 0) (c.getD 1 0)) (by kernel_rfl)
   have s8:=s7.move hc7 (hE8 3 (by show 3<14; omega)) (hE8 4 (by show 4<14; omega)) hc8
   refine xB0 hc8 s8 r1 hf hp.w0 hp.w1 l2 fun E9 a9 w9 X9 b hbt h15 s9 hc9=>?_
   have hlen9:t.bs.length=t.gs.length:=s8.tab.len
   refine tail (gg:=[c.getD 0 0,c.getD 1 0,b2 (!xaG ow (c.getD 1 0) (-1:Int) uj),1]) hc9 s9 h15 (by
    show (t.bs++[b])[t.bs.length]?=some b
    simp) (by
    show (t.gs++[_])[t.bs.length]?=some _
    rw [hlen9]; simp) (by rw [show (List.getD [c.getD 0 0,c.getD 1 0,b2 (!xaG ow (c.getD 1 0) (-1:Int) uj),1] 2 0)=b2 (!xaG ow (c.getD 1 0) (-1:Int) uj) from rfl,xCV]) rfl ?_
   show (t.gs++[_]).set t.bs.length _=_
   have hno:t.gs.any (xfr c)=false:=by
    rw [List.any_eq_false]
    intro g hg hk'
    unfold xfr at hk'
    rw [Bool.and_eq_true,beq_iff_eq,beq_iff_eq] at hk'
    exact l2 g hg hk'
   unfold xms
   rw [hs,cond_false,hno,cond_false,hlen9]
   simp
  ·refine wpIn_seq (xA5 (m:=.map (some t.bm)) (p:=gPtr b0) (is:=true) hc5 s5.e3 rfl (fun w' hw'=>l1 w' (s5.tab.keep (hw'.block t.bm (by obtain ⟨o,ho⟩:=s5.bm; exact (Array.getElem?_eq_some_iff.1 (hc5.at_ ho)).1) (by simp)))) fun E6 a6 w6 hE6 h65 hw6 hc6=>?_)
   have s6:=s5.move hc5 (hE6 3 (by omega) (by omega)) (hE6 4 (by omega) (by omega)) hc6
   show Code.wpIn _ _ _ _ _ _ _
   refine wpIn_seq (wpIn_seq (xba xfm (i:=0) (y:=.normal) (T:=g10) hc6 ((xyS n k true uj uh uk ow tm dl (c.getD 0 0) (c.getD 1 0) (c.getD 2 0) sl so (c.getD 0 0) (c.getD 1 0)).trans rfl) rfl fun E7 a7 w7 hE7 hc7=>?_))
   have hE7:∀ k,k<14→E7 k=E6 k:=fun k hk=>hE7 k hk hk
   have s7:=s6.move hc6 (hE7 3 (by omega)) (hE7 4 (by omega)) hc7
   have h58:=(hc7.point (t:=58) (v:=.bool (!true)) (by kernel_rfl)).1
   show Code.wpIn _ _ _ _ _ _ _
   refine wpIn_cond_false h58 (wpIn_skip ?_)
   obtain ⟨E8,hE8,hc8⟩:=hc7.shape (P:=Tryz.prog) (T:=g9) (us:=us9 true n k uj uh uk ow tm dl (c.getD 0 0) (c.getD 1 0) (c.getD 2 0) sl so (c.getD 0 0) (c.getD 1 0)) (by kernel_rfl)
   have s8:=s7.move hc7 (hE8 3 (by show 3<14; omega)) (hE8 4 (by show 4<14; omega)) hc8
   obtain ⟨E9,X9,s9,h15,hc9⟩:=xyY hc8 s8 (((hE8 5 (by show 5<14; omega)).trans (hE7 5 (by omega))).trans h65) l2 l3
   show Code.wpIn _ _ _ _ _ _ _
   refine tail hc9 s9 h15 l2 l3 rfl rfl ?_
   have hyes:t.gs.any (xfr c)=true:=by
    rw [List.any_eq_true]
    exact ⟨g,List.mem_of_getElem? l3,by unfold xfr; rw [l4,l5]; simp⟩
   unfold xms
   rw [hs,cond_false,hyes,cond_true]
   apply List.ext_getElem?
   intro j
   rw [List.getElem?_set,List.getElem?_map]
   by_cases hij:i=j
   ·subst hij
    have hil:=(List.getElem?_eq_some_iff.1 l3).1
    rw [if_pos rfl,if_pos hil,l3,Option.map_some]
    have:xfr c g=true:=by unfold xfr; rw [l4,l5]; simp
    rw [this,cond_true]
   ·rw [if_neg hij]
    cases hj:t.gs[j]? with
    | none=>rfl
    | some g' =>
     rw [Option.map_some]
     have:xfr c g'=false:=by
      cases hk':xfr c g' with
      | false=>rfl
      | true =>
       unfold xfr at hk'
       rw [Bool.and_eq_true,beq_iff_eq,beq_iff_eq] at hk'
       exact absurd (xvm s8.tab l3 hj (by rw [l4,hk'.1]) (by rw [l5,hk'.2])) hij
     rw [this,cond_false]
noncomputable def xA6:Code:=Code.seq (gpc 4) (.seq (.cond (.tmp 21) .skip (.exit 0)) (.seq (.block 1 (.seq (gpc 5) (.seq (gpc 6) (.seq (.seq (gpc 7) (.cond (.tmp 45) (.exit 1) .skip)) (.seq (gpc 8) (.seq (gpc 9) (.seq (.seq (gpc 10) (.cond (.tmp 58) (.seq (gpc 11) (.seq (gpc 12) (gpc 13))) .skip)) (.seq (gpc 14) (gpc 15))))))))) (gpc 16)))
theorem xug (uj uh:List (List Int)) (ow tm dl:Int) (gs:List (List Int)) (c:List Int):(xms uj uh ow tm dl gs c).length≤gs.length+1:=by
 unfold xms
 cases xrE uh tm dl c
 ·rw [cond_false]
  cases gs.any (xfr c)
  ·rw [cond_false]; simp
  ·rw [cond_true]; simp
 ·rw [cond_true]; omega
theorem xAl {uj uh uk:List (List Int)} {ow tm dl:Int} {w0:World} {Q:Exit→Act→World→Prop} (hlen:uk.length≤1000000) (hp:∀ c∈uk,GPre uj uh ow tm dl c)
  (hQ:∀ E a w X t,t.gs=uk.foldl (xms uj uh ow tm dl) []→t.bs.length≤uk.length→GSt X E w0 w t none→CfgOk X E w0 117 (gL.st (usL uk.length uk.length uj uh uk ow tm dl)) a w→Q (.exit 0) a w) :
  ∀ (m k:Nat) (X:List (Nat×Go.Obj)) (E:Env) (w:World) (a:Act) (t:Tab),k+m=uk.length→t.gs=(uk.take k).foldl (xms uj uh ow tm dl) []→t.bs.length≤k→GSt X E w0 w t none→CfgOk X E w0 117 (gL.st (usL uk.length k uj uh uk ow tm dl)) a w→xo5 (FR none) 0 Tryz.prog xA6 Q a w:=by
 intro m
 induction m with
 | zero =>
  intro k X E w a t hkm ht hb h hc
  have hk:k=uk.length:=by omega
  subst hk
  refine xfK (wpIn_seq (xba xfm (i:=0) (y:=.normal) (T:=g4) hc ((xA3 _ _ uj uh uk ow tm dl).trans rfl) rfl fun E1 a1 w1 hE1 hc1=>?_))
  have s1:=h.move hc (hE1 3 (by show 3<7; omega) (by show 3<7; omega)) (hE1 4 (by show 4<7; omega) (by show 4<7; omega)) hc1
  have h21:=(hc1.point (t:=21) (v:=.bool (decide ((uk.length:Int)<(uk.length:Int)))) (by kernel_rfl)).1
  refine wpIn_seq (wpIn_cond_false (h21.trans (by rw [decide_eq_false (by omega)]; rfl)) (wpIn_exit ?_))
  obtain ⟨E2,hE2,hc2⟩:=hc1.shape (P:=Tryz.prog) (T:=gL) (us:=usL uk.length uk.length uj uh uk ow tm dl) (by kernel_rfl)
  rw [List.take_length] at ht
  exact hQ E2 a1 w1 X t ht hb (s1.move hc1 (hE2 3 (by show 3<7; omega)) (hE2 4 (by show 4<7; omega)) hc2) hc2
 | succ m ih =>
  intro k X E w a t hkm ht hb h hc
  have hk:k<uk.length:=by omega
  refine xfK (wpIn_seq (xba xfm (i:=0) (y:=.normal) (T:=g4) hc ((xA3 _ _ uj uh uk ow tm dl).trans rfl) rfl fun E1 a1 w1 hE1 hc1=>?_))
  have s1:=h.move hc (hE1 3 (by show 3<7; omega) (by show 3<7; omega)) (hE1 4 (by show 4<7; omega) (by show 4<7; omega)) hc1
  have h21:=(hc1.point (t:=21) (v:=.bool (decide ((k:Int)<(uk.length:Int)))) (by kernel_rfl)).1
  refine wpIn_seq (wpIn_cond_true (h21.trans (by rw [decide_eq_true (by omega)]; rfl)) (wpIn_skip ?_))
  obtain ⟨E2,hE2,hc2⟩:=hc1.shape (P:=Tryz.prog) (T:=gL) (us:=usL uk.length k uj uh uk ow tm dl) (by kernel_rfl)
  have s2:=s1.move hc1 (hE2 3 (by show 3<7; omega)) (hE2 4 (by show 4<7; omega)) hc2
  have hmem:uk.getD k []∈uk:=by
   rw [List.getD_eq_getElem?_getD,List.getElem?_eq_getElem hk]
   exact List.getElem_mem hk
  refine xyX hk (by omega) hc2 s2 (hp _ hmem) (by unfold xa5 maxLen; omega) fun E3 a3 w3 X3 t3 ht3 s3 hc3=>?_
  have hlt:t3.bs.length≤t.bs.length+1:=by
   rw [s3.tab.len,ht3,h.tab.len]
   exact xug _ _ _ _ _ _ _
  refine ih (k+1) X3 E3 w3 a3 t3 (by omega) ?_ (by omega) s3 hc3
  rw [ht3,ht,List.take_succ_eq_append_getElem hk,List.foldl_append]
  have:uk.getD k []=uk[k]:=by rw [List.getD_eq_getElem?_getD,List.getElem?_eq_getElem hk]; rfl
  rw [this]
  rfl
end Go.Proofs.YthfjhbbpdhjklaaGreat
set_option linter.unusedVariables false
set_option maxRecDepth 100000
namespace Go.Proofs.YthfjhbbpdhjklaaGreat
open Go Go.Sy Go.Proofs Go.RowKit Go.Sort
theorem xw8 {w:World} {e:TypeId} {v:Value} {n:Nat} {vs:List Value} (h:xfl w e 1 v n vs) (hlen:vs.length=n):(∃ a,v=.slice a 0 0∧n=0) ∨
  ∃ b cap,cap≠0∧v=.slice (some ⟨b,0,none⟩) n cap∧blkO v=some b∧b<w.heap.size ∧
   (∀ (β:Type) (_:Inhabited β) (enc:β→Value) (d:Array β),d.toList.map enc=vs→Holds enc w b 0 d) ∧
   ∀ (β:Type) (_:Inhabited β) (enc:β→Value) (d:Array β) (m:Nat) (os:Array Go.Obj),d.size=n →
    xfl (grow (Go.Sort.putRow enc (Sort.ahead w m) b 0 d) os) e 1 v n (d.toList.map enc)∧Chg w (grow (Go.Sort.putRow enc (Sort.ahead w m) b 0 d) os) [b]:=by
 have hr:=xcC h (by omega)
 rcases h with ⟨a,h1,h2⟩ | ⟨b,cap,cur,h1,h2,h3,h4,h5,h6⟩
 ·exact .inl ⟨a,h1,h2⟩
 ·by_cases hc:cap=0
  ·subst hc
   have:n=0:=by omega
   subst this
   exact .inl ⟨_,h1,rfl⟩
  ·have hb:blkO v=some b:=by rw [h1]; simp [blkO,hc]
   have hlt:=hr.reads.blk b hb
   refine .inr ⟨b,cap,hc,h1,hb,hlt,fun β _ enc d hd j hj=>?_,fun β _ enc d m os hd=>?_⟩
   ·have hsz:d.size=vs.length:=by rw [← hd]; simp
    have hjc:j<cur.size:=by omega
    have:=xkW hd hj
    rw [← h6,List.getElem?_take] at this
    split at this
    ·refine ⟨?_,?_⟩
     ·simp only [World.cell?,Nat.zero_add,h2]
      simpa using this
     ·simp only [World.frozen?,Nat.zero_add,h2]
      simp
    ·cases this
   ·have hw:(grow (Go.Sort.putRow enc (Sort.ahead w m) b 0 d) os).heap[b]?=some (.cells (putCells enc 0 d cur) e (0,0)):=by
     have e1:(Go.Sort.putRow enc (Sort.ahead w m) b 0 d).heap[b]?=some (.cells (putCells enc 0 d cur) e (0,0)):=by
      simp [Go.Sort.putRow,mapBlock,Sort.ahead,Array.getElem?_modify,h2,onCells]
     have e2:b<(Go.Sort.putRow enc (Sort.ahead w m) b 0 d).heap.size:=by simpa [Go.Sort.putRow,mapBlock,Sort.ahead] using hlt
     show ((Go.Sort.putRow enc (Sort.ahead w m) b 0 d).heap++os)[b]?=_
     rw [Array.getElem?_append_left e2]
     exact e1
    refine ⟨.inr ⟨b,cap,_,h1,hw,h3,h4,by simp [putCells,h5],?_⟩,?_⟩
    ·rw [Nat.mul_one,← hd]
     exact xv6 enc d cur (by omega)
    ·refine ⟨Nat.le_add_right _ _,rfl,rfl,rfl,by simp [grow,Go.Sort.putRow,mapBlock,Sort.ahead],fun k hk hn=>?_⟩
     have hne:b≠k:=fun h=>hn (by simp [h])
     show ((Go.Sort.putRow enc (Sort.ahead w m) b 0 d).heap++os)[k]?=_
     rw [Array.getElem?_append_left (by simpa [Go.Sort.putRow,mapBlock,Sort.ahead] using hk)]
     simp [Go.Sort.putRow,mapBlock,Sort.ahead,Array.getElem?_modify,hne]
noncomputable def cmpF:Func:=Tryz.f94
noncomputable def cmpB:Code:=cmpF.body.getD .skip
theorem xAt:cmpF.body=some cmpB:=by kernel_rfl
theorem xuu:cmpF.ntmps=14:=by kernel_rfl
def xCh (key:Nat) (a b:Int) (c d:Bool):Sy.Obj:=⟨key,0,false,.cells [.int .i64 a,.int .i64 b,.bool c,.bool d]⟩
def c0:Sy.Spec:=⟨[(0,.ptr 0 0),(1,.ptr 1 0)],[xCh 0 0 0 false false,xCh 1 0 0 false false],[],2,[]⟩
def c1:Sy.Spec:=⟨[(4,.int .i64 0)],[],[],2,[]⟩
def usC (x y:List Int):List U:=[.i (x.getD 0 0),.i (x.getD 1 0),.b (x.getD 2 0 !=0),.b (x.getD 3 0 !=0),.i (y.getD 0 0),.i (y.getD 1 0),.b (y.getD 2 0 !=0),.b (y.getD 3 0 !=0)]
noncomputable def cfG (x y:List Int):Int:=xeT (x.getD 0 0) (x.getD 1 0) (y.getD 0 0) (y.getD 1 0)
theorem xzq (x y:List Int):xf2 Tryz.prog K29 9 14 c0 [(.ret,c1)] cmpB (usC x y)=xac (xc2 (x.getD 0 0) (x.getD 1 0) (y.getD 0 0) (y.getD 1 0)) (some (0,[.i (cfG x y)])):=by kernel_rfl
theorem xzr {x y:List Int} {bx by_:Nat} {W:World} {T T':TypeId} (hx:W.heap[bx]?=some (.cells (xlw x) T (0,0))) (hy:W.heap[by_]?=some (.cells (xlw y) T' (0,0))) :
  Calls Tryz.prog 94 #[gPtr bx,gPtr by_] W fun e w'=>e=.returned (.int .i64 (cfG x y))∧∃ q os',w'=grow (W.drewN q) os':=by
 let E:Env:=fun k=>if k=0 then gPtr bx else if k=1 then gPtr by_ else .slice none 0 0
 have hE:∀ k,(E k).oneCell'=true:=fun k=>by
  show (if k=0 then gPtr bx else if k=1 then gPtr by_ else Value.slice none 0 0).oneCell'=true
  split
  ·rfl
  ·split<;>rfl
 have hH:xah [] E W (c0.st (usC x y)).heap W:=by
  have hobjs:∀ o∈(c0.st (usC x y)).heap.objs,o=⟨0,2,false,.cells [.int .i64 (x.getD 0 0),.int .i64 (x.getD 1 0),.bool (x.getD 2 0 !=0),.bool (x.getD 3 0 !=0)]⟩∨o=⟨1,2,false,.cells [.int .i64 (y.getD 0 0),.int .i64 (y.getD 1 0),.bool (y.getD 2 0 !=0),.bool (y.getD 3 0 !=0)]⟩:=by
   intro o ho
   have ho:o∈([⟨0,2,false,.cells [.int .i64 (x.getD 0 0),.int .i64 (x.getD 1 0),.bool (x.getD 2 0 !=0),.bool (x.getD 3 0 !=0)]⟩,⟨1,2,false,.cells [.int .i64 (y.getD 0 0),.int .i64 (y.getD 1 0),.bool (y.getD 2 0 !=0),.bool (y.getD 3 0 !=0)]⟩]:List Sy.Obj):=ho
   simpa using ho
  refine ⟨Blw.refl _ _,hE,fun o ho=>?_,fun o ho hown=>?_,fun o ho o' ho' hown=>?_,fun o ho o' ho' hk=>?_,fun o ho=>?_,(fun x hx=>by cases hx),fun o ho b hb=>?_,(fun x hx=>by cases hx),fun o ho b hb=>?_⟩
  ·rcases hobjs o ho with rfl | rfl
   ·exact ⟨bx,T,rfl,hx⟩
   ·exact ⟨by_,T',rfl,hy⟩
  ·rcases hobjs o ho with rfl | rfl<;>cases hown
  ·rcases hobjs o ho with rfl | rfl<;>cases hown
  ·rcases hobjs o ho with rfl | rfl<;>rcases hobjs o' ho' with rfl | rfl<;>first | rfl | (cases hk; done)
  ·rcases hobjs o ho with rfl | rfl
   ·exact ⟨by show 0<3; omega,trivial,trivial,trivial,trivial,trivial⟩
   ·exact ⟨by show 1<3; omega,trivial,trivial,trivial,trivial,trivial⟩
  ·rcases hobjs o ho with rfl | rfl<;>exact xcL rfl hb
  ·rcases hobjs o ho with rfl | rfl<;>exact xmu rfl hb
 have hent:=xr6 (P:=Tryz.prog) (f:=94) (fn:=cmpF) (code:=cmpB) (E:=E) (w0:=W) (w:=W) (args:=[.ptr 0 0,.ptr 1 0]) (H:=(c0.st (usC x y)).heap) (R:=fun e w'=>e=.returned (.int .i64 (cfG x y))∧∃ q os',w'=grow (W.drewN q) os')
  Tryz.func94 xAt (by rw [xuu]; decide) hH ⟨by show 0<3; omega,by show 1<3; omega,trivial⟩ fun a hc=>?_
 ·exact hent
 ·rw [xuu] at hc ⊢
  obtain ⟨E1,hE1,hc1⟩:=hc.shape (P:=Tryz.prog) (T:=c0) (us:=usC x y) (by kernel_rfl)
  refine xba xfm (i:=0) (y:=.ret) (T:=c1) hc1 ((xzq x y).trans (xaa (xpx _ _ _ _).1)) rfl fun E2 a2 w2 hE2 hc2=>?_
  exact ⟨_,E2,_,.int .i64 (cfG x y),hc2,by kernel_rfl,fun w' hH'=>⟨rfl,xwJ hH'.below⟩⟩
end Go.Proofs.YthfjhbbpdhjklaaGreat
set_option linter.unusedVariables false
set_option maxRecDepth 100000
namespace Go.Proofs.YthfjhbbpdhjklaaGreat
open Go Go.Sy Go.Proofs Go.RowKit Go.Sort
theorem xzv (x y:List Int):decide (cfG x y<0)=!leL [0,1] y x:=by
 unfold cfG
 rw [(xpx _ _ _ _).2]
 simp only [cmpC,orL,leL]
 generalize x.getD 0 0=a
 generalize x.getD 1 0=b
 generalize y.getD 0 0=d
 generalize y.getD 1 0=e
 rcases Int.lt_trichotomy a d with h | h | h
 ·simp [h,show ¬ d=a by omega,show ¬ d<a by omega]
 ·subst h
  rcases Int.lt_trichotomy b e with h | h | h
  ·simp [h,show ¬ e=b by omega,show ¬ e<b by omega]
  ·subst h; simp
  ·simp [h,show ¬ e=b by omega,show ¬ b<e by omega]
 ·simp [h,show ¬ d=a by omega,show ¬ a<d by omega]
theorem swoG (f:Nat→List Int):SWO (ltOf fun i j:Nat=>cfG (f i) (f j)):=by
 have lt_le:∀ i j,ltOf (fun i j:Nat=>cfG (f i) (f j)) i j=!leL [0,1] (f j) (f i):=fun i j=>xzv _ _
 have le_ne:∀ {a b:List Int},leL [0,1] a b=false→leL [0,1] b a=true:=fun {a b} h=>(xeQ _ a b).resolve_left (by simp [h])
 refine ⟨fun x=>?_,fun x y z h k'=>?_,fun x y z h k'=>?_⟩
 ·rw [lt_le]
  have:=xeQ [0,1] (f x) (f x)
  simp_all
 ·rw [lt_le] at *
  simp only [Bool.not_eq_true'] at *
  cases hz:leL [0,1] (f z) (f x) with
  | false=>rfl
  | true =>
   have:=xeP _ _ _ _ hz (le_ne h)
   rw [k'] at this
   cases this
 ·rw [lt_le] at *
  simp only [Bool.not_eq_false'] at *
  exact xeP _ _ _ _ k' h
def xmJ (gs:List (List Int)):List (List Int):=xfQ (leL [0,1]) gs
structure HSt (X:List (Nat×Go.Obj)) (E:Env) (w0 w:World) (bs:List Nat) (gs:List (List Int)):Prop where
 len:bs.length=gs.length
 out:xfl w 201 1 (E 4) bs.length (bs.map gPtr)
 outX:∀ g,blkO (E 4)=some g→(∃ o,(g,o)∈X)∧g∉bs
 cells:∀ (i b:Nat) (g:List Int),bs[i]?=some b→gs[i]?=some g→∃ T,(b,Go.Obj.cells (xlw g) T (0,0))∈X
 bs0:∀ b∈bs,w0.heap.size≤b
theorem HSt.move {X:List (Nat×Go.Obj)} {E E' Ea:Env} {w0 w w':World} {bs:List Nat} {gs:List (List Int)} {N M:Nat} {c c':Cfg} {a a':Act} (h:HSt X E w0 w bs gs) (hc:CfgOk X Ea w0 N c a w) (h4:E' 4=E 4) (hc':CfgOk X E' w0 M c' a' w'):HSt X E' w0 w' bs gs:=by
 refine ⟨h.len,?_,fun g hg=>h.outX g (by rw [← h4]; exact hg),h.cells,h.bs0⟩
 rw [h4]
 refine xhs h.out fun g hg=>?_
 obtain ⟨⟨o,ho⟩,_⟩:=h.outX g hg
 exact (hc'.at_ ho).trans (hc.at_ ho).symm
def k17:Sy.Spec:=⟨[(4,.sl 4)],[],[],16,[]⟩
theorem xB1:xdE Tryz.prog 93:=⟨_,Tryz.func93,by decide,rfl⟩
theorem xBr:SlLaysF.n6 Tryz.prog Tryz.sortGp_ren:={ Tryz.sortGp with a24:=Tryz.isAgg140,z24:=Tryz.sizeOf140 }
theorem xyV {X:List (Nat×Go.Obj)} {E:Env} {w0 w:World} {c:Cfg} {a:Act} {t:Tab} (h:GSt X E w0 w t none) (hc:CfgOk X E w0 117 c a w) (hlen:t.bs.length≤1000000) :
  Calls Tryz.prog 93 #[E 4,.func (.func 94) #[] #[]] w fun e w'=>e=.returned (.tuple #[]) ∧
   ∃ X' bs,HSt X' E w0 w' bs (xmJ t.gs)∧CfgOk X' E w0 117 c a w':=by
 rcases xw8 h.out (by simp) with ⟨p,e4,hn⟩ | ⟨b,cap,hcap,e4,hb,hbw,hold,hput⟩
 ·have hbs:t.bs=[]:=List.eq_nil_of_length_eq_zero hn
  have hgs:t.gs=[]:=List.eq_nil_of_length_eq_zero (by rw [← h.tab.len,hn])
  rw [e4]
  refine (AnyF.slices_SortFunc_none Tryz.sortGp p 0 _ w).mono ?_
  rintro e w' ⟨rfl,rfl⟩
  refine ⟨rfl,X,[],⟨by rw [hgs]; rfl,by rw [e4]; exact .inl ⟨p,rfl,rfl⟩,fun g hg=>?_,(fun i b g hi=>by simp at hi),(fun b hb=>by cases hb)⟩,hc⟩
  obtain ⟨_,q,_⟩:=h.outX g hg
  exact ⟨q,by simp⟩
 ·by_cases hn0:t.bs.length=0
  ·have hbs:t.bs=[]:=List.eq_nil_of_length_eq_zero hn0
   have hgs:t.gs=[]:=List.eq_nil_of_length_eq_zero (by rw [← h.tab.len,hn0])
   rw [e4,hn0]
   refine (AnyF.slices_SortFunc_none Tryz.sortGp (some ⟨b,0,none⟩) cap _ w).mono ?_
   rintro e w' ⟨rfl,rfl⟩
   refine ⟨rfl,X,[],⟨by rw [hgs]; rfl,?_,fun g hg=>?_,(fun i b g hi=>by simp at hi),(fun b hb=>by cases hb)⟩,hc⟩
   ·have:=h.out
    rw [hbs] at this
    exact this
   ·obtain ⟨_,q,_⟩:=h.outX g hg
    exact ⟨q,by simp⟩
  ·have hn1:0<t.bs.length:=by omega
   let bf:Nat→Nat:=fun i=>t.bs.getD i (t.bs.getD 0 0)
   let gf:Nat→List Int:=fun i=>t.gs.getD i (t.gs.getD 0 [])
   let enc:Nat→Value:=fun i=>gPtr (bf i)
   let d:Array Nat:=(List.range t.bs.length).toArray
   have hdl:d.toList=List.range t.bs.length:=rfl
   have hds:d.size=t.bs.length:=by simp [d]
   have hbf:∀ i (hi:i<t.bs.length),bf i=t.bs[i]:=fun i hi=>by
    show t.bs.getD i _=_
    rw [List.getD_eq_getElem?_getD,List.getElem?_eq_getElem hi]; rfl
   have hgl:t.gs.length=t.bs.length:=h.tab.len.symm
   have hgf:∀ i (hi:i<t.gs.length),gf i=t.gs[i]:=fun i hi=>by
    show t.gs.getD i _=_
    rw [List.getD_eq_getElem?_getD,List.getElem?_eq_getElem hi]; rfl
   have hcell:∀ i,∃ T,(bf i,Go.Obj.cells (xlw (gf i)) T (0,0))∈X:=fun i=>by
    by_cases hi:i<t.bs.length
    ·rw [hbf i hi,hgf i (by omega)]
     exact h.cells i _ _ (by simp) (List.getElem?_eq_getElem hi) (List.getElem?_eq_getElem (by omega))
    ·have e1:bf i=t.bs[0]:=by
      show t.bs.getD i (t.bs.getD 0 0)=_
      rw [List.getD_eq_getElem?_getD,List.getElem?_eq_none (by omega),Option.getD_none,List.getD_eq_getElem?_getD,List.getElem?_eq_getElem hn1]; rfl
     have e2:gf i=t.gs[0]:=by
      show t.gs.getD i (t.gs.getD 0 [])=_
      rw [List.getD_eq_getElem?_getD,List.getElem?_eq_none (by omega),Option.getD_none,List.getD_eq_getElem?_getD,List.getElem?_eq_getElem (by omega)]; rfl
     rw [e1,e2]
     exact h.cells 0 _ _ (by simp) (List.getElem?_eq_getElem hn1) (List.getElem?_eq_getElem (by omega))
   have hmap:d.toList.map enc=t.bs.map gPtr:=by
    rw [hdl]
    apply List.ext_getElem
    ·simp
    ·intro i h1 h2
     have hi:i<t.bs.length:=by simpa using h2
     simp only [List.getElem_map,List.getElem_range]
     show gPtr (bf i)=_
     rw [hbf i hi]
   obtain ⟨qb0,⟨ob,hbX⟩,qbm,qbs⟩:=h.outX b hb
   have hmemb:∀ i,bf i∈t.bs:=fun i=>by
    by_cases hi:i<t.bs.length
    ·rw [hbf i hi]; exact List.getElem_mem hi
    ·have e1:bf i=t.bs[0]:=by
      show t.bs.getD i (t.bs.getD 0 0)=_
      rw [List.getD_eq_getElem?_getD,List.getElem?_eq_none (by omega),Option.getD_none,List.getD_eq_getElem?_getD,List.getElem?_eq_getElem hn1]; rfl
     rw [e1]; exact List.getElem_mem hn1
   have eg:∀ args w,(callFunc 94 args).run Tryz.prog w=.ok (.enter 94 args) w:=enters_of Tryz.func94 (by kernel_rfl) rfl
   have hcmp:CmpLays1 Tryz.prog 94 #[] enc (fun i j:Nat=>cfG (gf i) (gf j)) b 0 d.size w:=by
    intro m os dk hdk x y
    have hkeep:∀ i,∃ T,(sortWorld enc w b 0 m dk os).heap[bf i]?=some (.cells (xlw (gf i)) T (0,0)):=fun i=>by
     obtain ⟨T,hm⟩:=hcell i
     refine ⟨T,?_⟩
     have hch:=(hput Nat inferInstance enc dk m os (by rw [hdk,hds])).2
     have h1:=hc.at_ hm
     have hne:bf i≠b:=fun e=>qbs (e▸hmemb i)
     exact (hch.block (bf i) (Array.getElem?_eq_some_iff.1 h1).1 (by simpa using hne)).trans h1
    obtain ⟨T,h1⟩:=hkeep x
    obtain ⟨T',h2⟩:=hkeep y
    exact xzr h1 h2
   have hs:=Any.slices_SortFunc xBr enc (fun x=>rfl) (fun i j:Nat=>cfG (gf i) (gf j)) (swoG gf) 94 #[] b 0 cap d w eg hcmp (hold Nat inferInstance enc d hmap) hbw (by omega)
   rw [hds] at hs
   rw [e4]
   refine hs.mono ?_
   rintro e w' ⟨rfl,d',n,os,hp,hsd,rfl⟩
   obtain ⟨p1,_,p3⟩:=hp
   have hd's:d'.size=t.bs.length:=by rw [p1,hds]
   have e1:(d'.extract 0 t.bs.length).toList=d'.toList:=by rw [← hd's]; simp
   have e2:(d.extract 0 t.bs.length).toList=List.range t.bs.length:=by rw [← hds]; simp [hdl,hds]
   rw [e1,e2] at p3
   have hlt':∀ i∈d'.toList,i<t.bs.length:=fun i hi=>List.mem_range.1 (p3.mem_iff.1 hi)
   obtain ⟨hrow,hch⟩:=hput Nat inferInstance enc d' n os hd's
   have egs:d'.toList.map gf=xmJ t.gs:=by
    have hperm:(d'.toList.map gf).Perm t.gs:=by
     have h1:(List.range t.bs.length).map gf=t.gs:=by
      apply List.ext_getElem
      ·simp [hgl]
      ·intro i q1 q2
       simp only [List.getElem_map,List.getElem_range]
       exact hgf i q2
     rw [← h1]
     exact p3.map gf
    refine xkJ (xeQ _) (xeP _) (fun x hx y hy q1 q2=>?_) hperm ?_
    ·have hkk:=xpz _ _ _ q1 q2
     obtain ⟨i,hi⟩:=List.mem_iff_getElem?.1 hx
     obtain ⟨j,hj⟩:=List.mem_iff_getElem?.1 hy
     have:=xvm h.tab hi hj (hkk 0 (by simp)) (hkk 1 (by simp))
     subst this
     rw [hi] at hj
     exact Option.some.inj hj
    ·rw [List.pairwise_iff_getElem]
     intro i j hi hj hij
     have hi':i<d'.size:=by simpa using hi
     have hj':j<d'.size:=by simpa using hj
     have:=hsd i j (Nat.zero_le _) hij (by omega)
     rw [show ltOf (fun i j:Nat=>cfG (gf i) (gf j)) d'[j]! d'[i]! = _ from xzv _ _,getElem!_pos d' j hj',getElem!_pos d' i hi'] at this
     simpa using this
   have ebs:(d'.toList.map enc)=(d'.toList.map bf).map gPtr:=by rw [List.map_map]; rfl
   have hlb:(d'.toList.map bf).length=t.bs.length:=by simp [hd's]
   have hX2:∃ o,(sortWorld enc w b 0 n d' os).heap[b]?=some o:=by
    have:b<(sortWorld enc w b 0 n d' os).heap.size:=Nat.lt_of_lt_of_le hbw hch.size
    exact ⟨_,Array.getElem?_eq_getElem this⟩
   obtain ⟨o2,ho2⟩:=hX2
   have hcl:=hc.turn (X2:=(b,o2)::X.filter fun x=>decide (x.1≠b)) hch (fun b' hb'=>by
    rw [List.mem_singleton.1 hb']; exact ⟨qb0,ob,hbX⟩) (fun x hx=>by
    rcases List.mem_cons.1 hx with rfl | hx
    ·exact ⟨ho2,.inl ⟨ob,hbX⟩⟩
    ·obtain ⟨q1,q2⟩:=List.mem_filter.1 hx
     have q2:x.1≠b:=by simpa using q2
     refine ⟨?_,.inl ⟨x.2,q1⟩⟩
     have h1:=hc.at_ q1
     exact (hch.block x.1 (Array.getElem?_eq_some_iff.1 h1).1 (by simpa using q2)).trans h1)
   refine ⟨rfl,_,d'.toList.map bf,⟨?_,?_,fun g hg=>?_,fun i b' g hi hg=>?_,fun b' hb'=>?_⟩,hcl⟩
   ·rw [← egs]; simp
   ·rw [← ebs,hlb]
    exact hrow
   ·rw [hb] at hg
    cases hg
    refine ⟨⟨o2,List.mem_cons_self⟩,fun hm=>?_⟩
    obtain ⟨i,_,e⟩:=List.mem_map.1 hm
    exact qbs (e▸hmemb i)
   ·rw [← egs] at hg
    rw [List.getElem?_map] at hi hg
    cases hk:d'.toList[i]? with
    | none=>rw [hk] at hi; cases hi
    | some k =>
     rw [hk] at hi hg
     cases hi; cases hg
     obtain ⟨T,hm⟩:=hcell k
     exact ⟨T,List.mem_cons_of_mem _ (List.mem_filter.2 ⟨hm,by simpa using fun e:bf k=b=>qbs (e▸hmemb k)⟩)⟩
   ·obtain ⟨k,_,rfl⟩:=List.mem_map.1 hb'
    exact h.bs0 _ (hmemb k)
end Go.Proofs.YthfjhbbpdhjklaaGreat
set_option linter.unusedVariables false
set_option maxRecDepth 100000
namespace Go.Proofs.YthfjhbbpdhjklaaGreat
open Go Go.Sy Go.Proofs Go.RowKit
def xx3:RT:=.row 124 kGap
def k18:Sy.Spec:=⟨[(4,.sl 4),(13,.sl 16)],[],[xx3],16,[]⟩
def kL:Sy.Spec:=⟨[(4,.sl 4),(103,.sl 4),(13,.sl 16),(104,.int .i64 0),(105,.int .i64 0)],[],[xx3],16,[]⟩
def k20:Sy.Spec:=⟨[(4,.sl 4),(103,.sl 4),(13,.sl 16),(104,.int .i64 0),(105,.int .i64 0),(106,.bool false)],[],[xx3],16,[]⟩
def k21:Sy.Spec:=⟨[(4,.sl 4),(103,.sl 4),(13,.sl 16),(104,.int .i64 0),(105,.int .i64 0),(15,.ptr 15 0)],[gObj],[xx3],16,[]⟩
def kR:Sy.Spec:=⟨[(2,.sl 16)],[],[xx3],16,[]⟩
theorem xCz:xf2 Tryz.prog K29 9 117 k17 [(.normal,k18)] (gpc 18) []=some (0,[.r []]):=by kernel_rfl
theorem xAW (n j:Int) (l:List (List Int)):xf2 Tryz.prog K29 9 117 kL [(.normal,k20)] (gpc 20) [.i n,.i j,.r l]=some (0,[.i n,.i j,.b (decide (j<n)),.r l]):=by kernel_rfl
theorem xCy (n j x0 x1:Int) (x2 x3:Bool) (l:List (List Int)):xf2 Tryz.prog K29 9 117 k21 [(.normal,k21)] (gpc 22) [.i n,.i j,.i x0,.i x1,.b x2,.b x3,.r l]=xac (xa5 24 (l.length+[[x0,x1,b2 x2,b2 x3]].length)) (some (0,[.i n,.i j,.i x0,.i x1,.b x2,.b x3,.r (l++[[x0,x1,b2 x2,b2 x3]])])):=by kernel_rfl
theorem xCx (n j:Int) (l:List (List Int)):xf2 Tryz.prog K29 9 117 kL [(.normal,kL)] (gpc 23) [.i n,.i j,.r l]=some (0,[.i n,.i (IntKind.i64.wrap (j+1)),.r l]):=by kernel_rfl
theorem xCw (n j:Int) (l:List (List Int)):xf2 Tryz.prog K29 9 117 kL [(.normal,kR)] (gpc 24) [.i n,.i j,.r l]=some (0,[.r l]):=by kernel_rfl
def xmt (g:List Int):List Int:=[g.getD 0 0,g.getD 1 0,b2 (g.getD 2 0 !=0),b2 (g.getD 3 0 !=0)]
theorem xzW {a:Act} {o:Oper} {w:World} {p:Option Addr} {n c x:Nat} (ho:o.op=.call { callee:=.builtin .len,args:=#[.tmp x],argTypes:=#[198] }) (hx:a.tmps.getD x undef=.slice p n c):(execOp a.eval o).run Tryz.prog w=.ok (.value (.int .i64 n)) w:=by
 have h1:a.eval (.tmp x)=.slice p n c:=hx
 simp [execOp,ho,resolve,invoke,builtin,h1,Builtin.len_,run_underlying xmr]
 rfl
theorem xCL {w:World} {v:Value} {bs:List Nat} (ho:xfl w 201 1 v bs.length (bs.map gPtr)) {j:Nat} {b:Nat} (hj:bs[j]?=some b) :
  (Instr.indexAt 198 v (.int .i64 j)).run Tryz.prog w=.ok (.pointer ((xgm v).map fun a=>a.add (j*1+0))) w∧(Instr.loadAt 201 (.pointer ((xgm v).map fun a=>a.add (j*1+0)))).run Tryz.prog w=.ok (gPtr b) w:=by
 have hr:=xcC ho (by simp)
 have hl:=(List.getElem?_eq_some_iff.1 hj).1
 refine ⟨?_,?_⟩
 ·have:=xgt (P:=Tryz.prog) (t:=198) xmr (s:=0) (by kernel_rfl) hr (k:=.i64) (i:=(j:Int)) (by omega) (by omega)
  rwa [Int.toNat_natCast] at this
 ·exact xmb (P:=Tryz.prog) (E:=fun _=>.slice none 0 0) (t:=201) hr (i:=j) (off:=0) (cs:=[.val (gPtr b)]) (u:=.val (gPtr b)) rfl (by omega) (fun k hk=>by
   have:k=0:=by omega
   subst this
   rw [Nat.mul_one,Nat.add_zero,List.getElem?_map,hj]
   rfl) (by kernel_rfl)
noncomputable def xyM:Code:=Code.seq (gpc 20) (.seq (.cond (.tmp 106) .skip (.exit 2)) (.seq (.block 3 (.seq (gpc 21) (gpc 22))) (gpc 23)))
theorem xyW {X:List (Nat×Go.Obj)} {E:Env} {w0 w:World} {N:Nat} {tm:Nat→Option AV} {H:Heap} {a:Act} {bs:List Nat} {gs:List (List Int)} {i b key ver:Nat} {g:List Int} (h:HSt X E w0 w bs gs) (hc:CfgOk X E w0 N ⟨tm,H⟩ a w) (hb:bs[i]?=some b) (hg:gs[i]?=some g) (hE:E key=gPtr b) (hk:key<H.next) (hno:∀ o∈H.objs,o.key≠key) :
  ∃ X2 T,(∀ x∈X,x∈X2∨x.1=b)∧(b,Go.Obj.cells (xlw g) T (0,0))∈X∧(∀ x∈X2,x∈X)∧CfgOk X2 E w0 N ⟨tm,⟨xqM key ver (g.getD 0 0) (g.getD 1 0) (g.getD 2 0 !=0) (g.getD 3 0 !=0)::H.objs,H.next⟩⟩ a w:=by
 obtain ⟨T,hm⟩:=h.cells i b g hb hg
 have hbm:b∈bs:=List.mem_of_getElem? hb
 refine ⟨X.filter fun x=>decide (x.1≠b),T,fun x hx=>?_,hm,fun x hx=>(List.mem_filter.1 hx).1,?_⟩
 ·by_cases e:x.1=b
  ·exact .inr e
  ·exact .inl (List.mem_filter.2 ⟨hx,by simpa using e⟩)
 ·have hc1:CfgOk ((b,Go.Obj.cells (xlw g) T (0,0))::X.filter fun x=>decide (x.1≠b)) E w0 N ⟨tm,H⟩ a w:=hc.subX fun x hx=>by
   rcases List.mem_cons.1 hx with rfl | hx
   ·exact hm
   ·exact (List.mem_filter.1 hx).1
  exact hc1.show_ (h.bs0 b hbm) (fun x hx=>by simpa using (List.mem_filter.1 hx).2) hE ⟨b,T,hE,hc.at_ hm⟩ hk ⟨trivial,trivial,trivial,trivial,trivial⟩ hno
theorem xBL {X:List (Nat×Go.Obj)} {E:Env} {w0 w:World} {a:Act} {k:Nat} {n:Int} {l:List (List Int)} {bs:List Nat} {gs:List (List Int)} {Q:Exit→Act→World→Prop} (hk:k<gs.length) (hlen:gs.length≤1000000) (hl:l.length≤k)
  (hc:CfgOk X E w0 117 (kL.st [.i n,.i k,.r l]) a w) (h:HSt X E w0 w bs gs)
  (hQ:∀ E' a' w' X',HSt X' E' w0 w' bs gs→CfgOk X' E' w0 117 (kL.st [.i n,.i ((k+1:Nat):Int),.r (l++[xmt (gs.getD k [])])]) a' w'→Q .normal a' w') :
  (Code.seq (.block 3 (.seq (gpc 21) (gpc 22))) (gpc 23)).wpIn (FR none) 0 Tryz.prog Q a w:=by
 have hg:gs[k]?=some (gs.getD k []):=by rw [List.getD_eq_getElem?_getD,List.getElem?_eq_getElem hk]; rfl
 have hkb:k<bs.length:=by rw [h.len]; exact hk
 have hb:bs[k]?=some bs[k]:=List.getElem?_eq_getElem hkb
 generalize gs.getD k []=g at *
 generalize bs[k]=b at *
 obtain ⟨r1,r2⟩:=xCL h.out hb
 refine wpIn_seq (wpIn_block (wpIn_seq (wpIn_region_list ?_)))
 have h103:=(hc.point (t:=103) (v:=.sl 4) (by kernel_rfl)).1
 have h105:=(hc.point (t:=105) (v:=.int .i64 k) (by kernel_rfl)).1
 refine xbV rfl (fun c e=>by cases e) (v:=.pointer ((xgm (E 4)).map fun a=>a.add (k*1+0))) (w':=w) ?_ ?_
 ·have e1:a.eval (.tmp 103)=E 4:=h103
  have e2:a.eval (.tmp 105)=.int .i64 k:=h105
  simp only [execOp,e1,e2,Sem.run_bind,r1,Result.andThen_ok,Sem.run_pure]
 have hc1:=hc.put (d:=107) (v:=.pointer ((xgm (E 4)).map fun a=>a.add (k*1+0))) (u:=some (.val (.pointer ((xgm (E 4)).map fun a=>a.add (k*1+0))))) (E2:=E) (by omega) (fun o ho=>⟨rfl,xbB _⟩) (Go.Sy.CfgOk.envs hc) (fun t x _ _=>(xaW x).2 fun _ _=>rfl) (fun x hx=>by cases hx; exact ⟨rfl,trivial⟩)
 have h107:=(hc1.point (t:=107) (v:=.val (.pointer ((xgm (E 4)).map fun a=>a.add (k*1+0)))) (by kernel_rfl)).1
 refine xbV rfl (fun c e=>by cases e) (v:=gPtr b) (w':=w) ?_ ?_
 ·have e1:(a.put (some 107) (.pointer ((xgm (E 4)).map fun a=>a.add (k*1+0)))).eval (.tmp 107)=.pointer ((xgm (E 4)).map fun a=>a.add (k*1+0)):=h107
  simp only [execOp,e1,Sem.run_bind,r2,Result.andThen_ok,Sem.run_pure]
 have hc2:=hc1.put (d:=108) (v:=gPtr b) (u:=some (.val (gPtr b))) (E2:=E) (by omega) (fun o ho=>⟨rfl,xbB _⟩) (Go.Sy.CfgOk.envs hc) (fun t x _ _=>(xaW x).2 fun _ _=>rfl) (fun x hx=>by cases hx; exact ⟨rfl,trivial⟩)
 have h108:=(hc2.point (t:=108) (v:=.val (gPtr b)) (by kernel_rfl)).1
 refine xbV rfl (fun c e=>by cases e) (xgs (v:=gPtr b) (t:=108) h108 (.inr rfl)) ?_
 obtain ⟨E3,hE3,hc3⟩:=hc2.shape (P:=Tryz.prog) (T:=kL) (us:=[.i n,.i k,.r l]) (by kernel_rfl)
 have hS:∀ t x,(kL.st [.i n,.i k,.r l]).tmps t=some x→AV.all (fun k'=>upd E3 15 (gPtr b) k'=E3 k') x:=by
  intro t x hx
  have e:(kL.st [.i n,.i k,.r l]).tmps t=(match xdA t (xaD [.i n,.i k,.r l] kL.slots 0).1 with | some v=>some v | none=>if ([]:List Nat).any (Nat.beq t) then none else none):=rfl
  rw [e] at hx
  cases hl:xdA t (xaD [.i n,.i k,.r l] kL.slots 0).1 with
  | none=>rw [hl] at hx; simp at hx
  | some v' =>
   rw [hl] at hx
   cases hx
   obtain ⟨y,q1,q2,q3⟩:=xjC _ _ _ _ _ hl
   refine (xaW _).2 fun k' hk'=>xcS _ _ fun e=>?_
   rw [q3] at hk'
   subst e
   have:kL.slots.all (fun y=>!((AV.keys y.2).any (Nat.beq 15)))=true:=by decide
   have:=List.all_eq_true.1 this y q1
   have h2:(AV.keys y.2).any (Nat.beq 15)=true:=List.any_eq_true.2 ⟨15,hk',rfl⟩
   rw [h2] at this
   cases this
 have hobj:∀ o∈(kL.st [.i n,.i k,.r l]).heap.objs,o=⟨16,16,true,.row 124 kGap l⟩:=by
  intro o ho
  have ho:o∈([⟨16,16,true,.row 124 kGap l⟩]:List Sy.Obj):=ho
  exact List.mem_singleton.1 ho
 have hc4:=hc3.put (d:=15) (v:=gPtr b) (u:=some (.ptr 15 0)) (E2:=upd E3 15 (gPtr b)) (by omega) (fun o ho=>by
   rw [hobj o ho]
   exact ⟨xcS _ _ (by decide:(16:Nat)≠15),xca rfl⟩) (fun k'=>by
   by_cases e:k'=15
   ·rw [e,xbH]; rfl
   ·rw [xcS _ _ e]; exact Go.Sy.CfgOk.envs hc3 k') (fun t x _ hx=>hS t x hx) (fun x hx=>by
   cases hx
   refine ⟨by simp only [AV.den,xbH]; rfl,?_⟩
   show 15<18
   omega)
 have h4':upd E3 15 (gPtr b) 4=E 4:=(xcS _ _ (by omega)).trans (hE3 4 (by show 4<16; omega))
 have s4:=h.move hc h4' hc4
 obtain ⟨X5,T,q1,q2,q3,hc5⟩:=xyW (key:=15) (ver:=16) s4 hc4 hb hg (xbH _ _ _) (by show 15<18; omega) (fun o ho=>by rw [hobj o ho]; exact (by decide:(16:Nat)≠15))
 obtain ⟨E6,hE6,hc6⟩:=hc5.shape (P:=Tryz.prog) (T:=k21) (us:=[.i n,.i k,.i (g.getD 0 0),.i (g.getD 1 0),.b (g.getD 2 0 !=0),.b (g.getD 3 0 !=0),.r l]) (by kernel_rfl)
 show (gpc 22).wpIn _ _ _ _ _ _
 refine xba xfm (i:=0) (y:=.normal) (T:=k21) hc6 ((xCy n k (g.getD 0 0) (g.getD 1 0) (g.getD 2 0 !=0) (g.getD 3 0 !=0) l).trans (xaa (by unfold xa5 maxLen; simp only [List.length_cons,List.length_nil]; omega))) rfl fun E7 a7 w7 hE7 hc7=>?_
 have ho15:xqM 15 16 (g.getD 0 0) (g.getD 1 0) (g.getD 2 0 !=0) (g.getD 3 0 !=0)∈(k21.st [.i n,.i k,.i (g.getD 0 0),.i (g.getD 1 0),.b (g.getD 2 0 !=0),.b (g.getD 3 0 !=0),.r (l++[[g.getD 0 0,g.getD 1 0,b2 (g.getD 2 0 !=0),b2 (g.getD 3 0 !=0)]])]).heap.objs:=List.mem_of_getElem? (i:=0) (by kernel_rfl)
 have e15:E7 15=gPtr b:=((hE7 15 (by show 15<16; omega) (by show 15<16; omega)).trans (hE6 15 (by show 15<16; omega))).trans (xbH _ _ _)
 have e4:E7 4=E 4:=((hE7 4 (by show 4<16; omega) (by show 4<16; omega)).trans (hE6 4 (by show 4<16; omega))).trans h4'
 obtain ⟨b',T',f1,f2⟩:∃ b' T,E7 15=.pointer (some ⟨b',0,none⟩)∧w7.heap[b']?=some (.cells (AV.denL E7 [.int .i64 (g.getD 0 0),.int .i64 (g.getD 1 0),.bool (g.getD 2 0 !=0),.bool (g.getD 3 0 !=0)]).toArray T (0,0)):=hc7.body ho15
 have eb:b'=b:=by
  rw [e15] at f1
  have:(Value.pointer (some ⟨b,0,none⟩))=.pointer (some ⟨b',0,none⟩):=f1
  simpa using this.symm
 subst eb
 obtain ⟨hc8,w0b,hX5⟩:=hc7.hide ho15 rfl (by rw [show E7 (xqM 15 16 (g.getD 0 0) (g.getD 1 0) (g.getD 2 0 !=0) (g.getD 3 0 !=0)).key=E7 15 from rfl,e15]; rfl) f2
 have egc:(AV.denL E7 [.int .i64 (g.getD 0 0),.int .i64 (g.getD 1 0),.bool (g.getD 2 0 !=0),.bool (g.getD 3 0 !=0)]).toArray=xlw g:=by rfl
 rw [egc] at hc8
 obtain ⟨E9,hE9,hc9⟩:=hc8.shape (P:=Tryz.prog) (T:=kL) (us:=[.i n,.i k,.r (l++[xmt g])]) (by kernel_rfl)
 have e94:E9 4=E 4:=(hE9 4 (by show 4<16; omega)).trans e4
 have hcellX:∀ x∈X,x.1≠b'→x∈X5:=fun x hx hne=>(q1 x hx).resolve_right hne
 have hw4:∀ x∈X,x.1≠b'→w7.heap[x.1]?=w.heap[x.1]?:=fun x hx hne=>(hc7.at_ (hcellX x hx hne)).trans (hc.at_ hx).symm
 have houtb:∀ g',blkO (E 4)=some g'→g'≠b':=by
  intro g' hg' e
  exact (h.outX g' hg').2 (e▸List.mem_of_getElem? hb)
 have s9:HSt ((b',Go.Obj.cells (xlw g) T' (0,0))::X5) E9 w0 w7 bs gs:=by
  refine ⟨h.len,?_,fun g' hg'=>?_,fun i b0 g0 hi hg0=>?_,h.bs0⟩
  ·rw [e94]
   refine xhs h.out fun g' hg'=>?_
   obtain ⟨⟨o,ho⟩,hno⟩:=h.outX g' hg'
   exact hw4 _ ho (houtb g' hg')
  ·rw [e94] at hg'
   obtain ⟨⟨o,ho⟩,hno⟩:=h.outX g' hg'
   exact ⟨⟨o,List.mem_cons_of_mem _ (hcellX _ ho (houtb g' hg'))⟩,hno⟩
  ·obtain ⟨T0,hm0⟩:=h.cells i b0 g0 hi hg0
   by_cases e:b0=b'
   ·subst e
    have k1:w.heap[b0]?=some (.cells (xlw g0) T0 (0,0)):=hc.at_ hm0
    have k2:w.heap[b0]?=some (.cells (xlw g) T (0,0)):=hc.at_ q2
    rw [k1] at k2
    have h4:xlw g0=xlw g:=by injection k2 with k2; injection k2
    exact ⟨T',by rw [h4]; exact List.mem_cons_self⟩
   ·exact ⟨T0,List.mem_cons_of_mem _ (hcellX _ hm0 e)⟩
 show (gpc 23).wpIn _ _ _ _ _ _
 refine xba xfm (i:=0) (y:=.normal) (T:=kL) hc9 ((xCx n k (l++[xmt g])).trans (by rw [xpL (by omega)])) rfl fun E10 a10 w10 hE10 hc10=>?_
 exact hQ E10 a10 w10 _ (s9.move hc9 (hE10 4 (by show 4<16; omega) (by show 4<16; omega)) hc10) hc10
end Go.Proofs.YthfjhbbpdhjklaaGreat
set_option linter.unusedVariables false
set_option maxRecDepth 100000
namespace Go.Proofs.YthfjhbbpdhjklaaGreat
open Go Go.Sy Go.Proofs Go.RowKit
theorem xCv {bs:List Nat} {gs:List (List Int)} {w0:World} {Q:Exit→Act→World→Prop} (hlen:gs.length≤1000000)
  (hQ:∀ E a w X,HSt X E w0 w bs gs→CfgOk X E w0 117 (kL.st [.i gs.length,.i gs.length,.r (gs.map xmt)]) a w→Q (.exit 2) a w) :
  ∀ (m k:Nat) (X:List (Nat×Go.Obj)) (E:Env) (w:World) (a:Act),k+m=gs.length→HSt X E w0 w bs gs→CfgOk X E w0 117 (kL.st [.i gs.length,.i k,.r ((gs.take k).map xmt)]) a w→xo5 (FR none) 0 Tryz.prog xyM Q a w:=by
 intro m
 induction m with
 | zero =>
  intro k X E w a hkm h hc
  have hk:k=gs.length:=by omega
  subst hk
  refine xfK (wpIn_seq (xba xfm (i:=0) (y:=.normal) (T:=k20) hc (xAW _ _ _) rfl fun E1 a1 w1 hE1 hc1=>?_))
  have s1:=h.move hc (hE1 4 (by show 4<16; omega) (by show 4<16; omega)) hc1
  have h21:=(hc1.point (t:=106) (v:=.bool (decide ((gs.length:Int)<(gs.length:Int)))) (by kernel_rfl)).1
  refine wpIn_seq (wpIn_cond_false (h21.trans (by rw [decide_eq_false (by omega)]; rfl)) (wpIn_exit ?_))
  obtain ⟨E2,hE2,hc2⟩:=hc1.shape (P:=Tryz.prog) (T:=kL) (us:=[.i gs.length,.i gs.length,.r ((gs.take gs.length).map xmt)]) (by kernel_rfl)
  have s2:=s1.move hc1 (hE2 4 (by show 4<16; omega)) hc2
  rw [List.take_length] at hc2
  exact hQ E2 a1 w1 X s2 hc2
 | succ m ih =>
  intro k X E w a hkm h hc
  have hk:k<gs.length:=by omega
  refine xfK (wpIn_seq (xba xfm (i:=0) (y:=.normal) (T:=k20) hc (xAW _ _ _) rfl fun E1 a1 w1 hE1 hc1=>?_))
  have s1:=h.move hc (hE1 4 (by show 4<16; omega) (by show 4<16; omega)) hc1
  have h21:=(hc1.point (t:=106) (v:=.bool (decide ((k:Int)<(gs.length:Int)))) (by kernel_rfl)).1
  refine wpIn_seq (wpIn_cond_true (h21.trans (by rw [decide_eq_true (by omega)]; rfl)) (wpIn_skip ?_))
  obtain ⟨E2,hE2,hc2⟩:=hc1.shape (P:=Tryz.prog) (T:=kL) (us:=[.i gs.length,.i k,.r ((gs.take k).map xmt)]) (by kernel_rfl)
  have s2:=s1.move hc1 (hE2 4 (by show 4<16; omega)) hc2
  refine xBL hk hlen (by simp; omega) hc2 s2 fun E3 a3 w3 X3 s3 hc3=>?_
  refine ih (k+1) X3 E3 w3 a3 (by omega) s3 ?_
  rw [List.take_succ_eq_append_getElem hk,List.map_append]
  have:gs.getD k []=gs[k]:=by rw [List.getD_eq_getElem?_getD,List.getElem?_eq_getElem hk]; rfl
  rw [this] at hc3
  exact hc3
theorem xy3 {X:List (Nat×Go.Obj)} {E:Env} {w0 w:World} {a:Act} {t:Tab} {us:List U} {n j:Int} {uj uh uk:List (List Int)} {ow tm dl:Int} {R:Ending→World→Prop}
  (h:GSt X E w0 w t none) (hc:CfgOk X E w0 117 (gL.st (usL n j uj uh uk ow tm dl)) a w) (hlen:t.bs.length≤1000000)
  (hR:∀ E X w',xah X E w0 (kR.st [.r ((xmJ t.gs).map xmt)]).heap w'→R (.returned (E 16)) w') :
  (Code.seq (gpc 17) (.seq (gpc 18) (.seq (.seq (gpc 19) (.block 2 (.loop xyM))) (.seq (gpc 24) .ret)))).wpIn (FR none) 0 Tryz.prog (Fin Tryz.prog gapF w0 117 R) a w:=by
 refine wpIn_seq (wpIn_region_list ?_)
 have h4:=(hc.point (t:=4) (v:=.sl 4) (by kernel_rfl)).1
 refine xbV rfl (fun c e=>by cases e) (xgs (v:=E 4) (t:=4) h4 (.inl rfl)) ?_
 have hc1:=hc.put (d:=101) (v:=E 4) (u:=some (.sl 4)) (E2:=E) (by omega) (fun o ho=>⟨rfl,xbB _⟩) (Go.Sy.CfgOk.envs hc) (fun t x _ _=>(xaW x).2 fun _ _=>rfl) (fun x hx=>by cases hx; exact ⟨rfl,by show 4<8; omega⟩)
 have h101:=(hc1.point (t:=101) (v:=.sl 4) (by kernel_rfl)).1
 have s1:=h.move hc rfl rfl hc1
 have e101:(a.put (some 101) (E 4)).eval (.tmp 101)=E 4:=h101
 refine xyF rfl (fun c e=>by cases e) (xnP (E:=E) (fi:=93) (first:=[]) (caps:=[]) (vs:=[.sl 4,.val (.func (.func 94) #[] #[])]) rfl rfl (by simp only [List.map_cons,List.map_nil,e101]; rfl) xB1) ?_
 refine (xyV s1 hc1 hlen).mono ?_
 rintro e w2 ⟨rfl,X2,bs,s2,hc2⟩
 refine ⟨_,rfl,?_⟩
 have hc3:=hc2.put (d:=102) (v:=.tuple #[]) (u:=none) (E2:=E) (by omega) (fun o ho=>⟨rfl,xbB _⟩) (Go.Sy.CfgOk.envs hc2) (fun t x _ _=>(xaW x).2 fun _ _=>rfl) (fun x hx=>by cases hx)
 obtain ⟨E4,hE4,hc4⟩:=hc3.shape (P:=Tryz.prog) (T:=k17) (us:=[]) (by kernel_rfl)
 have s4:=s2.move hc2 (hE4 4 (by show 4<16; omega)) hc4
 show Code.wpIn _ _ _ _ _ _ _
 refine wpIn_seq (xba xfm (i:=0) (y:=.normal) (T:=k18) hc4 xCz rfl fun E5 a5 w5 hE5 hc5=>?_)
 have s5:=s4.move hc4 (hE5 4 (by show 4<16; omega) (by show 4<16; omega)) hc5
 show Code.wpIn _ _ _ _ _ _ _
 refine wpIn_seq (wpIn_seq (wpIn_region_list ?_))
 have h4':=(hc5.point (t:=4) (v:=.sl 4) (by kernel_rfl)).1
 refine xbV rfl (fun c e=>by cases e) (xgs (v:=E5 4) (t:=4) h4' (.inl rfl)) ?_
 have hc6:=hc5.put (d:=103) (v:=E5 4) (u:=some (.sl 4)) (E2:=E5) (by omega) (fun o ho=>⟨rfl,xbB _⟩) (Go.Sy.CfgOk.envs hc5) (fun t x _ _=>(xaW x).2 fun _ _=>rfl) (fun x hx=>by cases hx; exact ⟨rfl,by show 4<18; omega⟩)
 have h103:=(hc6.point (t:=103) (v:=.sl 4) (by kernel_rfl)).1
 obtain ⟨p,c,hsl,_,_⟩:=(xcC s5.out (by simp)).reads.is
 refine xbV rfl (fun c e=>by cases e) (xzW (p:=p) (n:=bs.length) (c:=c) rfl (h103.trans hsl)) ?_
 have hc7:=hc6.put (d:=104) (v:=.int .i64 bs.length) (u:=some (.int .i64 bs.length)) (E2:=E5) (by omega) (fun o ho=>⟨rfl,xbB _⟩) (Go.Sy.CfgOk.envs hc6) (fun t x _ _=>(xaW x).2 fun _ _=>rfl) (fun x hx=>by cases hx; exact ⟨rfl,trivial⟩)
 refine xbV rfl (fun c e=>by cases e) (xx2 (v:=.int .i64 0) (.inl rfl)) ?_
 have hc8:=hc7.put (d:=105) (v:=.int .i64 0) (u:=some (.int .i64 0)) (E2:=E5) (by omega) (fun o ho=>⟨rfl,xbB _⟩) (Go.Sy.CfgOk.envs hc7) (fun t x _ _=>(xaW x).2 fun _ _=>rfl) (fun x hx=>by cases hx; exact ⟨rfl,trivial⟩)
 obtain ⟨E9,hE9,hc9⟩:=hc8.shape (P:=Tryz.prog) (T:=kL) (us:=[.i bs.length,.i 0,.r []]) (by kernel_rfl)
 have s9:=s5.move hc5 (hE9 4 (by show 4<16; omega)) hc9
 have hsl2:(xmJ t.gs).length=t.gs.length:=xeR _
 have hl2:bs.length=(xmJ t.gs).length:=s9.len
 have hc9':CfgOk X2 E9 w0 117 (kL.st [.i (xmJ t.gs).length,.i ((0:Nat):Int),.r (((xmJ t.gs).take 0).map xmt)]) (((a5.put (some 103) (E5 4)).put (some 104) (.int .i64 bs.length)).put (some 105) (.int .i64 0)) w5:=by rw [← hl2]; exact hc9
 show Code.wpIn _ _ _ _ _ _ _
 refine wpIn_block (xii (xCv (by rw [hsl2,← h.tab.len]; exact hlen) (fun E10 a10 w10 X10 s10 hc10=>?_) (xmJ t.gs).length 0 X2 E9 _ _ (by omega) s9 hc9'))
 have e0:∀ Q':Exit→Act→World→Prop,Exit.inBlock 2 Q' (.exit 2) a10 w10=Q' .normal a10 w10:=fun Q'=>by
  show (if (2:Nat)=2 then Q' .normal a10 w10 else Q' (.exit 2) a10 w10)=_
  rw [if_pos rfl]
 rw [e0]
 show Code.wpIn _ _ _ _ _ _ _
 refine wpIn_seq (xba xfm (i:=0) (y:=.normal) (T:=kR) hc10 (xCw _ _ _) rfl fun E11 a11 w11 hE11 hc11=>?_)
 show Code.wpIn _ _ _ _ _ _ _
 refine wpIn_ret ?_
 exact ⟨X10,E11,_,.sl 16,hc11,by kernel_rfl,fun w' hH'=>hR E11 X10 w' hH'⟩
theorem xvp:gapB=Code.seq (gpc 0) (.seq (gpc 1) (.seq (gpc 2) (.seq (.seq (gpc 3) (.block 0 (.loop xA6))) (.seq (gpc 17) (.seq (gpc 18) (.seq (.seq (gpc 19) (.block 2 (.loop xyM))) (.seq (gpc 24) .ret))))))):=by kernel_rfl
theorem xyU {E:Env} {w0 w:World} {a:Act} {ow tm dl:Int} {uj uh uk:List (List Int)} {R:Ending→World→Prop}
  (hc:CfgOk [] E w0 117 (g0.st [.i ow,.i tm,.i dl,.r uj,.r uh,.r uk]) a w) (hlen:uk.length≤1000000) (hp:∀ c∈uk,GPre uj uh ow tm dl c)
  (hR:∀ E X w',xah X E w0 (kR.st [.r ((xmJ (uk.foldl (xms uj uh ow tm dl) [])).map xmt)]).heap w'→R (.returned (E 16)) w'):gapB.wpIn (FR none) 0 Tryz.prog (Fin Tryz.prog gapF w0 117 R) a w:=by
 rw [xvp]
 refine wpIn_seq (xyZ hc fun E1 a1 w1 hE1 hc1=>?_)
 refine wpIn_seq (wpIn_region_list ?_)
 refine xbV rfl (fun c e=>by cases e) (xAk rfl) ?_
 have hbm:(w1.alloc (.map #[] 0)).heap[w1.heap.size]?=some (.map #[] 0):=xbQ w1 _
 have hc2:=hc1.turn (xzt (.map #[] 0)) (by simp) (X2:=[(w1.heap.size,.map #[] 0)]) (fun x hx=>by
  rw [List.mem_singleton.1 hx]; exact ⟨hbm,.inr (Nat.le_refl _)⟩)
 have hw0:w0.heap.size≤w1.heap.size:=by obtain ⟨_,_,_,_,hH⟩:=hc1; exact hH.below.size
 have hc3:=hc2.putS (d:=16) (k:=3) (v:=.map (some w1.heap.size)) (by kernel_rfl) (by show 3<7; omega) (by omega) rfl
 have e3:(upd E1 3 (.map (some w1.heap.size))) 3=.map (some w1.heap.size):=xbH _ _ _
 obtain ⟨E4,hE4,hc4⟩:=hc3.shape (P:=Tryz.prog) (T:=g1a) (us:=gus uj uh uk ow tm dl) (by kernel_rfl)
 have e4:E4 3=.map (some w1.heap.size):=(hE4 3 (by show 3<7; omega)).trans e3
 have h16:=(hc4.point (t:=16) (v:=.sl 3) (by kernel_rfl)).1
 refine xbV rfl (fun c e=>by cases e) (xgs (v:=E4 3) (t:=16) h16 (.inr rfl)) ?_
 have hc5:=hc4.put (d:=3) (v:=E4 3) (u:=some (.sl 3)) (E2:=E4) (by omega) (fun o ho=>⟨rfl,xbB E4⟩) (Go.Sy.CfgOk.envs hc4) (fun t x _ _=>(xaW x).2 fun _ _=>rfl) (fun x hx=>by cases hx; exact ⟨rfl,by show 3<8; omega⟩)
 obtain ⟨E6,hE6,hc6⟩:=hc5.shape (P:=Tryz.prog) (T:=g1b) (us:=gus uj uh uk ow tm dl) (by kernel_rfl)
 have e6:E6 3=.map (some w1.heap.size):=(hE6 3 (by show 3<7; omega)).trans e4
 show Code.wpIn _ _ _ _ _ _ _
 refine wpIn_seq (wpIn_region_list ?_)
 refine xbV rfl (fun c e=>by cases e) (xx2 (v:=.slice none 0 0) (.inr rfl)) ?_
 have hc7:=hc6.putS (d:=4) (k:=4) (v:=.slice none 0 0) (by kernel_rfl) (by show 4<7; omega) (by omega) rfl
 obtain ⟨E8,hE8,hc8⟩:=hc7.shape (P:=Tryz.prog) (T:=g2) (us:=gus uj uh uk ow tm dl) (by kernel_rfl)
 have e8:E8 3=.map (some w1.heap.size):=(hE8 3 (by show 3<7; omega)).trans ((xcS _ _ (by omega)).trans e6)
 have e84:E8 4=.slice none 0 0:=(hE8 4 (by show 4<7; omega)).trans (xbH _ _ _)
 have s8:GSt [(w1.heap.size,.map #[] 0)] E8 w0 (w1.alloc (.map #[] 0)) ⟨w1.heap.size,#[],0,[],[]⟩ none :=
  ⟨⟨hbm,rfl,rfl,(fun g hg=>by cases hg),List.nodup_nil⟩,e8,⟨_,List.mem_singleton.2 rfl⟩,hw0,by rw [e84]; exact .inl ⟨none,rfl,rfl⟩,(fun g hg=>by rw [e84] at hg; cases hg),(fun i b g _ hi=>by simp at hi),(fun b hb=>by cases hb),(fun hm=>by cases hm),List.nodup_nil⟩
 show Code.wpIn _ _ _ _ _ _ _
 refine wpIn_seq (wpIn_seq (xba xfm (i:=0) (y:=.normal) (T:=gL) (code:=gpc 3) hc8 (xCI uj uh uk ow tm dl) rfl fun E9 a9 w9 hE9 hc9=>?_))
 have s9:=s8.move hc8 (hE9 3 (by show 3<7; omega) (by show 3<7; omega)) (hE9 4 (by show 4<7; omega) (by show 4<7; omega)) hc9
 show Code.wpIn _ _ _ _ _ _ _
 refine wpIn_block (xii (xAl hlen hp (fun E10 a10 w10 X10 t10 ht hb s10 hc10=>?_) uk.length 0 _ E9 w9 a9 ⟨w1.heap.size,#[],0,[],[]⟩ (by omega) rfl (Nat.le_refl _) s9 hc9))
 have e0:∀ Q':Exit→Act→World→Prop,Exit.inBlock 0 Q' (.exit 0) a10 w10=Q' .normal a10 w10:=fun Q'=>by
  show (if (0:Nat)=0 then Q' .normal a10 w10 else Q' (.exit 0) a10 w10)=_
  rw [if_pos rfl]
 rw [e0]
 show Code.wpIn _ _ _ _ _ _ _
 exact xy3 (us:=[]) s10 hc10 (by omega) (by rw [ht]; exact hR)
end Go.Proofs.YthfjhbbpdhjklaaGreat
set_option linter.unusedVariables false
namespace Go.Proofs.YthfjhbbpdhjklaaGreat
open Go Go.Sy
def xrT (pr:Int→List (List Int)→Prop) (g:Int→List (List Int)→List (List Int)):List U→Option Eff
 | [.i n,.r uk]=>some ⟨some (pr n uk),[],1,[⟨1,1,true,.row 122 [.int .i64,.int .i64] (g n uk)⟩],.sl 1⟩
 | _=>Option.none
end Go.Proofs.YthfjhbbpdhjklaaGreat
set_option maxRecDepth 100000
set_option linter.unusedVariables false
namespace Go.Proofs.YthfjhbbpdhjklaaGreat
open Go Go.Sy
noncomputable def xyc (pr:Int→List (List Int)→Prop) (g:Int→List (List Int)→List (List Int)) (n:Int) (uk:List (List Int)) (y0:List U):Int :=
 (↑((xa1 (↑uk.length:Int) (some (IntKind.i64.wrap (gi y0 0+(1:Int)))) none).snd.snd.toNat -
   loN (xa1 (↑uk.length:Int) (some (IntKind.i64.wrap (gi y0 0+(1:Int)))) none).snd.fst) :
 Int)
noncomputable def xAO (pr:Int→List (List Int)→Prop) (g:Int→List (List Int)→List (List Int)) (n:Int) (uk:List (List Int)) (y0 y1:List U):Int :=
 bif (uk.getD (shI (xa1 (↑uk.length:Int) (some (IntKind.i64.wrap (gi y0 0+(1:Int)))) none).snd.fst (gi y1 0)).toNat []).getD 2 (0:Int) !=(0:Int) then
 (1:Int)
else (0:Int)
noncomputable def xAN (pr:Int→List (List Int)→Prop) (g:Int→List (List Int)→List (List Int)) (n:Int) (uk:List (List Int)) (y0 y1:List U):Int :=
 bif (uk.getD (shI (xa1 (↑uk.length:Int) (some (IntKind.i64.wrap (gi y0 0+(1:Int)))) none).snd.fst (gi y1 0)).toNat []).getD 3 (0:Int) !=(0:Int) then
 (1:Int)
else (0:Int)
noncomputable def xAM (pr:Int→List (List Int)→Prop) (g:Int→List (List Int)→List (List Int)) (n:Int) (uk:List (List Int)) (y0 y1:List U):List Int :=
 [(uk.getD (shI (xa1 (↑uk.length:Int) (some (IntKind.i64.wrap (gi y0 0+(1:Int)))) none).snd.fst (gi y1 0)).toNat []).getD 1 (0:Int),(xAO pr g n uk y0 y1),
 (xAN pr g n uk y0 y1)]
noncomputable def xyb (pr:Int→List (List Int)→Prop) (g:Int→List (List Int)→List (List Int)) (n:Int) (uk:List (List Int)) (y0 y1:List U):List Int :=
 (uk.getD (shI (xa1 (↑uk.length:Int) (some (IntKind.i64.wrap (gi y0 0+(1:Int)))) none).snd.fst (gi y1 0)).toNat []).getD 0 (0:Int)::(xAM pr g n uk y0 y1)
noncomputable def xmd (pr:Int→List (List Int)→Prop) (g:Int→List (List Int)→List (List Int)) (n:Int) (uk:List (List Int)) (y0:List U):List U :=
 [.i ((0:Int)),.r ([])]
noncomputable def xfD (pr:Int→List (List Int)→Prop) (g:Int→List (List Int)→List (List Int)) (n:Int) (uk:List (List Int)) (y0:List U) (y1:List U):Option (Nat×List U) :=
 (bif decide (gi y1 0<(xyc pr g n uk y0)) then xac (((0:Int)≤gi y1 0)∧(((↑(loN (xa1 (↑uk.length:Int) (some (IntKind.i64.wrap (gi y0 0+(1:Int)))) none).snd.fst):Int)+gi y1 0 <
 (xa1 (↑uk.length:Int) (some (IntKind.i64.wrap (gi y0 0+(1:Int)))) none).snd.snd)∧((xa1 (↑uk.length:Int) (some (IntKind.i64.wrap (gi y0 0+(1:Int)))) none).snd.snd≤(↑uk.length:Int)))) (xac (inR (shI (xa1 (↑uk.length:Int) (some (IntKind.i64.wrap (gi y0 0+(1:Int)))) none).snd.fst (gi y1 0)) uk) ((bif xgb ((uk.getD (gi y0 0).toNat []).getD 0 (0:Int)) ((uk.getD (gi y0 0).toNat []).getD 1 (0:Int))
 ((uk.getD (gi y0 0).toNat []).getD 2 (0:Int) !=(0:Int)) ((uk.getD (gi y0 0).toNat []).getD 3 (0:Int) !=(0:Int))
 ((uk.getD (shI (xa1 (↑uk.length:Int) (some (IntKind.i64.wrap (gi y0 0+(1:Int)))) none).snd.fst (gi y1 0)).toNat []).getD 0 (0:Int))
 ((uk.getD (shI (xa1 (↑uk.length:Int) (some (IntKind.i64.wrap (gi y0 0+(1:Int)))) none).snd.fst (gi y1 0)).toNat []).getD 1 (0:Int))
 ((uk.getD (shI (xa1 (↑uk.length:Int) (some (IntKind.i64.wrap (gi y0 0+(1:Int)))) none).snd.fst (gi y1 0)).toNat []).getD 2 (0:Int) !=(0:Int))
 ((uk.getD (shI (xa1 (↑uk.length:Int) (some (IntKind.i64.wrap (gi y0 0+(1:Int)))) none).snd.fst (gi y1 0)).toNat []).getD 3 (0:Int) !=(0:Int)) then xac (xa5 24 ((gr y1 1).length+[(xyb pr g n uk y0 y1)].length)) (some (0,[.i (IntKind.i64.wrap (gi y1 0+(1:Int))),.r (gr y1 1++[(xyb pr g n uk y0 y1)])])) else some (0,[.i (IntKind.i64.wrap (gi y1 0+(1:Int))),.r (gr y1 1)])))) else some (3,[.i (gi y1 0),.r (gr y1 1)]))
noncomputable def xqe (pr:Int→List (List Int)→Prop) (g:Int→List (List Int)→List (List Int)) (n:Int) (uk:List (List Int)) (y0:List U):Nat×List U:=xat (xfD pr g n uk y0) (xmd pr g n uk y0)
noncomputable def xAL (pr:Int→List (List Int)→Prop) (g:Int→List (List Int)→List (List Int)) (n:Int) (uk:List (List Int)) (y0:List U):List (List Int) :=
 [[(uk.getD (gi y0 0).toNat []).getD 0 (0:Int),(uk.getD (gi y0 0).toNat []).getD 1 (0:Int)]] ++
 g (IntKind.i64.wrap (n-(1:Int))) (gr (xqe pr g n uk y0).snd 1)
noncomputable def xme (pr:Int→List (List Int)→Prop) (g:Int→List (List Int)→List (List Int)) (n:Int) (uk:List (List Int)):List U :=
 [.i ((0:Int))]
noncomputable def xgw (pr:Int→List (List Int)→Prop) (g:Int→List (List Int)→List (List Int)) (n:Int) (uk:List (List Int)) (y0:List U):Option (Nat×List U) :=
 (bif decide (gi y0 0<(↑uk.length:Int)) then xac (inR (gi y0 0) uk) (xac (inR (gi y0 0) uk) (xac (((0:Int)≤IntKind.i64.wrap (gi y0 0+(1:Int)))∧(IntKind.i64.wrap (gi y0 0+(1:Int))≤(↑uk.length:Int))) (xac ((xax (xfD pr g n uk y0) (xmd pr g n uk y0))) (xac (xbX (gr (xqe pr g n uk y0).snd 1)) ((bif (↑(xb8 (gr (xqe pr g n uk y0).snd 1)).length:Int)==IntKind.i64.wrap (n-(1:Int)) then xac (pr (IntKind.i64.wrap (n-(1:Int))) (gr (xqe pr g n uk y0).snd 1)) (xac (xa5 16
 ([[(uk.getD (gi y0 0).toNat []).getD 0 (0:Int),(uk.getD (gi y0 0).toNat []).getD 1 (0:Int)]].length +
  (g (IntKind.i64.wrap (n-(1:Int))) (gr (xqe pr g n uk y0).snd 1)).length)) (some (1,[.r ((xAL pr g n uk y0))]))) else some (0,[.i (IntKind.i64.wrap (gi y0 0+(1:Int)))]))))))) else some (3,[.i (gi y0 0)]))
noncomputable def xyd (pr:Int→List (List Int)→Prop) (g:Int→List (List Int)→List (List Int)) (n:Int) (uk:List (List Int)):Nat×List U:=xat (xgw pr g n uk) (xme pr g n uk)
noncomputable def xz1 (pr:Int→List (List Int)→Prop) (g:Int→List (List Int)→List (List Int)) (n:Int) (uk:List (List Int)):List (List Int) :=
 bif n==(0:Int) then [] else bif (xyd pr g n uk).fst.beq 1 then gr (xyd pr g n uk).snd 0 else []
def xuY (pr:Int→List (List Int)→Prop) (g:Int→List (List Int)→List (List Int)) (n:Int) (uk:List (List Int)):Prop :=
 (((n==(0:Int))=false)→((xax (xgw pr g n uk) (xme pr g n uk))))
end Go.Proofs.YthfjhbbpdhjklaaGreat
set_option maxRecDepth 100000
set_option linter.unusedVariables false
namespace Go.Proofs.YthfjhbbpdhjklaaGreat
open Go Go.Sy
theorem xBy (pr:Int→List (List Int)→Prop) (g:Int→List (List Int)→List (List Int)) (n:Int) (uk:List (List Int)):xas Tryz.prog 1 (xaZ Tryz.prog (ext Tryz.prog K29 37 [.sl 0,.int .i64 0] [⟨0,0,false,.row 124 [.int .i64,.int .i64,.bool,.bool] []⟩] (xrT pr g)) xcO 9 37 [.sl 0,.int .i64 n] ⟨[⟨0,1,false,.row 124 [.int .i64,.int .i64,.bool,.bool] uk⟩],1⟩)=some ⟨some (xuY pr g n uk),[],1,[⟨1,1,true,.row 122 [.int .i64,.int .i64] (xz1 pr g n uk)⟩],.sl 1⟩:=by kernel_rfl
end Go.Proofs.YthfjhbbpdhjklaaGreat
set_option linter.unusedVariables false
namespace Go.Proofs.YthfjhbbpdhjklaaGreat
open Go Go.Sy
theorem xB5 {P:Program} {Γ:Con} {F:FuncId} {vs vs':List AV} {os os':List Sy.Obj} {eff eff':List U→Option Eff}:ext P (ext P Γ F vs os eff) F vs' os' eff'=ext P Γ F vs' os' eff':=by
 funext f args objs
 unfold ext
 by_cases h:Nat.beq f F=true
 ·rw [if_pos h,if_pos h]
 ·rw [if_neg h,if_neg h,if_neg h]
theorem xxu {P:Program} {Γ:Con} (hΓ:xbh P Γ) {F:FuncId} {vs:List AV} {os:List Sy.Obj} {eff:List U→Option Eff} (hf:xdE P F) (h0:∀ us x,eff us=some x→x.rm=[]∧xgo os.length x∧¬ x.holds):xbh P (ext P Γ F vs os eff):=by
 intro f args objs x h
 unfold ext at h
 split at h
 case isFalse=>exact hΓ f args objs x h
 rename_i hF
 have hF:f=F:=Nat.eq_of_beq_eq_true hF
 subst hF
 split at h
 case isFalse=>cases h
 rename_i hl
 rw [Bool.and_eq_true] at hl
 have hl2:objs.length=os.length:=Nat.eq_of_beq_eq_true hl.2
 split at h
 case h_2=>cases h
 rename_i us hm
 obtain ⟨h1,h2,h3⟩:=h0 us x h
 refine ⟨fun _=>⟨hf,by rw [hl2]; exact h2,fun hp=>absurd hp h3⟩,fun hne=>absurd h1 hne⟩
noncomputable def prx:Nat→(Int→List (List Int)→Prop)×(Int→List (List Int)→List (List Int))
 | 0=>(fun _ _=>False,fun _ _=>[])
 | k+1=>(xuY (prx k).1 (prx k).2,xz1 (prx k).1 (prx k).2)
noncomputable def PK (k:Nat):Con:=ext Tryz.prog K29 37 [.sl 0,.int .i64 0] [⟨0,0,false,.row 124 [.int .i64,.int .i64,.bool,.bool] []⟩] (xrT (prx k).1 (prx k).2)
theorem xye:xdE Tryz.prog 37:=⟨_,Tryz.func37,by decide,rfl⟩
theorem xCY:∀ k,xbh Tryz.prog (PK k)
 | 0=>xxu xfm xye fun us x h=>by
   unfold xrT at h
   split at h
   ·cases h
    refine ⟨rfl,⟨rfl,by simp,by simp,by simp [xa6],by simp [AV.lt,AV.all],by simp⟩,fun hp=>?_⟩
    exact hp
   ·cases h
 | k+1=>by
   have:=xav xaA (xCY k) (F:=37) («as»:=[.sl 0,.int .i64 0]) (os:=[⟨0,0,false,.row 124 [.int .i64,.int .i64,.bool,.bool] []⟩]) (eff:=xrT (prx (k+1)).1 (prx (k+1)).2) (n:=9) rfl rfl fun us x h=>by
    unfold xrT at h
    split at h
    ·cases h; exact ⟨some ((prx (k+1)).1 _ _),xBy (prx k).1 (prx k).2 _ _,fun hp=>hp⟩
    ·cases h
   unfold PK at this
   rw [xB5] at this
   exact this
end Go.Proofs.YthfjhbbpdhjklaaGreat
set_option linter.unusedVariables false
set_option maxRecDepth 100000
namespace Go.Proofs.YthfjhbbpdhjklaaGreat
open Go Go.Sy Go.Proofs Go.RowKit
def xCK:List AV:=[.agg [.int .i64 0,.sl 0,.sl 1,.sl 2,.int .i64 0,.int .i64 0]]
noncomputable def xam (ow tm dl:Int) (uj uh uk:List (List Int)):List (List Int):=(xmJ (uk.foldl (xms uj uh ow tm dl) [])).map xmt
def xcQ (ow tm dl:Int) (uj uh uk:List (List Int)):Prop:=uk.length≤1000000∧∀ c∈uk,GPre uj uh ow tm dl c
noncomputable def xj3:List U→Option Eff
 | [.i ow,.i tm,.i dl,.r uj,.r uh,.r uk]=>some ⟨some (xcQ ow tm dl uj uh uk),[],1,[⟨3,3,true,.row 124 kGap (xam ow tm dl uj uh uk)⟩],.sl 3⟩
 | _=>Option.none
theorem xAn:xdE Tryz.prog 35:=⟨gapF,Tryz.func35,by
 have:(gapF.name == "runtime.NumGoroutine")=false:=by kernel_rfl
 simpa using this,by rw [xwu]; rfl⟩
theorem xy1 {E2:Env} {w:World} {ow tm dl:Int} {uj uh uk:List (List Int)} (hp:xcQ ow tm dl uj uh uk)
  (hH:xah [] E2 w ⟨(xaR 3 [.i ow,.i tm,.i dl,.r uj,.r uh,.r uk] xkY 3).1,3⟩ w) :
  Calls Tryz.prog 35 (AV.denL E2 [.agg [.int .i64 ow,.sl 0,.sl 1,.sl 2,.int .i64 tm,.int .i64 dl]]).toArray w fun e w' =>
   ∃ E',e=.returned ((AV.sl 3).den E')∧xnE E2 w 3 ⟨some (xcQ ow tm dl uj uh uk),[],1,[⟨3,3,true,.row 124 kGap (xam ow tm dl uj uh uk)⟩],.sl 3⟩ E' w':=by
 refine xr6 (P:=Tryz.prog) (fn:=gapF) (code:=gapB) Tryz.func35 xwu (by rw [xuf]; exact (by decide:1≤117)) hH ⟨⟨trivial,(by show 0<3; omega),(by show 1<3; omega),(by show 2<3; omega),trivial,trivial,trivial⟩,trivial⟩ fun a hc=>?_
 rw [xuf] at hc ⊢
 obtain ⟨E1,hE1,hc1⟩:=hc.shape (P:=Tryz.prog) (T:=g0) (us:=[.i ow,.i tm,.i dl,.r uj,.r uh,.r uk]) (by kernel_rfl)
 refine xyU hc1 hp.1 hp.2 fun E X w' hH'=>?_
 have hob:(⟨16,16,true,.row 124 kGap (xam ow tm dl uj uh uk)⟩:Sy.Obj)∈(kR.st [.r ((xmJ (uk.foldl (xms uj uh ow tm dl) [])).map xmt)]).heap.objs:=List.mem_of_getElem? (i:=0) rfl
 refine ⟨fun k=>if k=3 then E 16 else E2 k,?_,⟨fun k hk=>if_neg (by omega),fun k=>?_,hH'.below,fun o ho=>?_,fun o ho b hb=>?_,fun o ho o' ho' hown hne=>?_,fun o ho b hb=>?_,fun o ho b hb=>?_⟩⟩
 ·show Ending.returned (E 16)=.returned (if 3=3 then E 16 else E2 3)
  rw [if_pos rfl]
 ·show (if k=3 then E 16 else E2 k).oneCell'=true
  split
  ·exact hH'.env 16
  ·exact hH.env k
 ·rw [List.mem_singleton.1 ho]
  have:=hH'.objs _ hob
  show xaY w' true _ _ (if 3=3 then E 16 else E2 3) _ _
  rw [if_pos rfl]
  exact this
 ·rw [List.mem_singleton.1 ho] at hb
  have hb:blkO (if 3=3 then E 16 else E2 3)=some b:=hb
  rw [if_pos rfl] at hb
  exact .inl (hH'.high _ hob rfl b hb)
 ·rw [List.mem_singleton.1 ho,List.mem_singleton.1 ho'] at hne
  exact absurd rfl hne
 ·rw [List.mem_singleton.1 ho] at hb
  exact xcL rfl hb
 ·rw [List.mem_singleton.1 ho] at hb
  exact xcL rfl hb
noncomputable def xtJ (n:Int) (uk:List (List Int)):Prop:=(prx 100).1 n uk
noncomputable def xyf (n:Int) (uk:List (List Int)):List (List Int):=(prx 100).2 n uk
noncomputable def K30:Con:=ext Tryz.prog K29 37 [.sl 0,.int .i64 0] [⟨0,0,false,.row 124 [.int .i64,.int .i64,.bool,.bool] []⟩] (xrT xtJ xyf)
theorem xDp:xbh Tryz.prog K30:=xCY 100
noncomputable def K31:Con:=ext Tryz.prog K30 35 xCK xkY xj3
theorem xDo:xbh Tryz.prog K31:=xxt xDp rfl rfl fun us x h=>by
 unfold xj3 at h
 split at h
 ·cases h
  exact ⟨xAn,⟨rfl,fun o ho=>(by rw [List.mem_singleton.1 ho]; exact ⟨Nat.le_refl _,by show 3<3+1; omega⟩),by simp,fun o ho=>(by rw [List.mem_singleton.1 ho]; rfl),(by show 3<3+1; omega),fun o ho=>(by rw [List.mem_singleton.1 ho]; exact Nat.le_refl _)⟩,fun hp E2 w hH=>xy1 hp hH⟩
 ·cases h
end Go.Proofs.YthfjhbbpdhjklaaGreat
