/- Several texts in one (wip/pack.py): XDrift1D XSight1D XDesk1D XDrift1 XSight1 XDesk0 XDesk1 XDeskS. -/
import Derived.Test.YthfjhbbpdhjklaaGreatRows
import Derived.Test.YthfjhbbpdhjklaaGreatQTT02
import Derived.Test.YthfjhbbpdhjklaaGreatQTT05
set_option maxRecDepth 100000
set_option linter.unusedVariables false
namespace Go.Proofs.YthfjhbbpdhjklaaGreat
open Go Go.Sy
noncomputable def xaM (vN vM:Int):Bool :=
 decide ((-1000000000000:Int)≤vN)&&decide (vN≤vM)&&decide (vM≤(1000000000000:Int))
noncomputable def xdK (a b:Int):Int :=
 imin a b
noncomputable def xdJ (a b:Int):Int :=
 imax a b
noncomputable def xdj (vN vM vP vO:Int):Int :=
 bif !xaM vN vM||!xaM vP vO then (0:Int) else bif decide (imin vM vO<imax vN vP) then (0:Int) else imax vN vP
noncomputable def xdi (vN vM vP vO:Int):Int :=
 bif !xaM vN vM||!xaM vP vO then (0:Int) else bif decide (imin vM vO<imax vN vP) then (0:Int) else imin vM vO
noncomputable def xbc (vN vM vP vO:Int):Int :=
 bif !xaM vN vM||!xaM vP vO then (1:Int) else bif decide (imin vM vO<imax vN vP) then (4:Int) else (0:Int)
noncomputable def xcL (vN vM vP vO:Int):Int :=
 bif !xaM vN vM||!xaM vP vO then (0:Int) else xdK vN vP
noncomputable def xcK (vN vM vP vO:Int):Int :=
 bif !xaM vN vM||!xaM vP vO then (0:Int) else xdJ vM vO
noncomputable def xaL (vN vM vP vO:Int):Int :=
 bif !xaM vN vM||!xaM vP vO then (1:Int) else (0:Int)
noncomputable def xbi (vN vM vP vO:Int):Bool :=
 xaL vN vM vP vO==(0:Int)&&(xcL vN vM vP vO==vP&&(xcK vN vM vP vO==vO&&true))
noncomputable def xbG (vN vM vP vO:Int):Int :=
 xaL vN vM vP vO
noncomputable def xab (uN uM uQ uP:Int):Bool :=
 xbG uN uM (-1000000:Int) (1000000:Int)==(0:Int)&&xbG uQ uP (-1000000:Int) (1000000:Int)==(0:Int) &&
  xbi uN uM (-1000000:Int) (1000000:Int) &&
 xbi uQ uP (-1000000:Int) (1000000:Int)
noncomputable def xcg (vr vt uN uM uQ uP:Int):Bool :=
 (bif !xab vr vr vt vt||!xab uN uM uQ uP then (1:Int)
  else
   bif imax (xaL vr vr uN uM) (xaL vt vt uQ uP) !=(0:Int) then imax (xaL vr vr uN uM) (xaL vt vt uQ uP) else (0:Int)) ==
  (0:Int) &&
 ((bif !xab vr vr vt vt||!xab uN uM uQ uP then (0:Int)
    else bif imax (xaL vr vr uN uM) (xaL vt vt uQ uP) !=(0:Int) then (0:Int) else xcL vr vr uN uM) ==
    uN &&
   ((bif !xab vr vr vt vt||!xab uN uM uQ uP then (0:Int)
     else bif imax (xaL vr vr uN uM) (xaL vt vt uQ uP) !=(0:Int) then (0:Int) else xcK vr vr uN uM) ==
     uM &&
    true) &&
  ((bif !xab vr vr vt vt||!xab uN uM uQ uP then (0:Int)
     else bif imax (xaL vr vr uN uM) (xaL vt vt uQ uP) !=(0:Int) then (0:Int) else xcL vt vt uQ uP) ==
     uQ &&
    ((bif !xab vr vr vt vt||!xab uN uM uQ uP then (0:Int)
      else bif imax (xaL vr vr uN uM) (xaL vt vt uQ uP) !=(0:Int) then (0:Int) else xcK vt vt uQ uP) ==
      uP &&
     true) &&
   true))
noncomputable def xqh (vr vt uN uM uQ uP:Int):Int :=
 bif !xab vr vr vt vt||!xab uN uM uQ uP then (1:Int)
else bif imax (xaL vr vr uN uM) (xaL vt vt uQ uP) !=(0:Int) then imax (xaL vr vr uN uM) (xaL vt vt uQ uP) else (0:Int)
noncomputable def xem (uH uG uK uJ uN uM uQ uP:Int):Int :=
 bif !xab uH uG uK uJ||!xab uN uM uQ uP then (0:Int)
else bif imax (xbc uH uG uN uM) (xbc uK uJ uQ uP) !=(0:Int) then (0:Int) else xdj uH uG uN uM
noncomputable def xfi (uH uG uK uJ uN uM uQ uP:Int):Int :=
 bif !xab uH uG uK uJ||!xab uN uM uQ uP then (0:Int)
else bif imax (xbc uH uG uN uM) (xbc uK uJ uQ uP) !=(0:Int) then (0:Int) else xdi uH uG uN uM
noncomputable def xfh (uH uG uK uJ uN uM uQ uP:Int):Int :=
 bif !xab uH uG uK uJ||!xab uN uM uQ uP then (0:Int)
else bif imax (xbc uH uG uN uM) (xbc uK uJ uQ uP) !=(0:Int) then (0:Int) else xdj uK uJ uQ uP
noncomputable def xfg (uH uG uK uJ uN uM uQ uP:Int):Int :=
 bif !xab uH uG uK uJ||!xab uN uM uQ uP then (0:Int)
else bif imax (xbc uH uG uN uM) (xbc uK uJ uQ uP) !=(0:Int) then (0:Int) else xdi uK uJ uQ uP
noncomputable def xff (uH uG uK uJ uN uM uQ uP:Int):Int :=
 bif !xab uH uG uK uJ||!xab uN uM uQ uP then (1:Int)
else
 bif imax (xbc uH uG uN uM) (xbc uK uJ uQ uP) !=(0:Int) then
  imax (xbc uH uG uN uM) (xbc uK uJ uQ uP)
 else (0:Int)
noncomputable def xf0 (uH uG uK uJ uN uM uQ uP:Int):Int :=
 bif !xab uH uG uK uJ||!xab uN uM uQ uP then (0:Int)
else bif imax (xaL uH uG uN uM) (xaL uK uJ uQ uP) !=(0:Int) then (0:Int) else xcL uH uG uN uM
noncomputable def xfZ (uH uG uK uJ uN uM uQ uP:Int):Int :=
 bif !xab uH uG uK uJ||!xab uN uM uQ uP then (0:Int)
else bif imax (xaL uH uG uN uM) (xaL uK uJ uQ uP) !=(0:Int) then (0:Int) else xcK uH uG uN uM
noncomputable def xfY (uH uG uK uJ uN uM uQ uP:Int):Int :=
 bif !xab uH uG uK uJ||!xab uN uM uQ uP then (0:Int)
else bif imax (xaL uH uG uN uM) (xaL uK uJ uQ uP) !=(0:Int) then (0:Int) else xcL uK uJ uQ uP
noncomputable def xfX (uH uG uK uJ uN uM uQ uP:Int):Int :=
 bif !xab uH uG uK uJ||!xab uN uM uQ uP then (0:Int)
else bif imax (xaL uH uG uN uM) (xaL uK uJ uQ uP) !=(0:Int) then (0:Int) else xcK uK uJ uQ uP
noncomputable def xfj (uH uG uK uJ uN uM uQ uP:Int):Int :=
 bif !xab uH uG uK uJ||!xab uN uM uQ uP then (1:Int)
else
 bif imax (xaL uH uG uN uM) (xaL uK uJ uQ uP) !=(0:Int) then
  imax (xaL uH uG uN uM) (xaL uK uJ uQ uP)
 else (0:Int)
noncomputable def xj9 (a b:List (List Int)):List U :=
 [.b (false),.i ((0:Int))]
noncomputable def xd2 (a b:List (List Int)) (y0:List U):Option (Nat×List U) :=
 (bif decide (gi y0 1<(↑a.length:Int)) then xaH (inR (gi y0 1) a) (xaH (inR (gi y0 1) a) (xaH (inR (gi y0 1) b) (xaH (inR (gi y0 1) b) ((bif !((a.getD (gi y0 1).toNat []).getD 0 (0:Int)==(b.getD (gi y0 1).toNat []).getD 0 (0:Int) &&
   ((a.getD (gi y0 1).toNat []).getD 1 (0:Int)==(b.getD (gi y0 1).toNat []).getD 1 (0:Int)&&true) &&
  ((a.getD (gi y0 1).toNat []).getD 2 (0:Int)==(b.getD (gi y0 1).toNat []).getD 2 (0:Int) &&
    ((a.getD (gi y0 1).toNat []).getD 3 (0:Int)==(b.getD (gi y0 1).toNat []).getD 3 (0:Int)&&true) &&
   true)) then some (1,[]) else some (0,[.b (gb y0 0),.i (IntKind.i64.wrap (gi y0 1+(1:Int)))])))))) else some (3,[.b (gb y0 0),.i (gi y0 1)]))
noncomputable def xlm (a b:List (List Int)):Nat×List U:=xa6 (xd2 a b) (xj9 a b)
noncomputable def xmg (a b:List (List Int)):Bool :=
 bif (↑a.length:Int) !=(↑b.length:Int) then false else bif (xlm a b).fst.beq 1 then false else true
def xnA (a b:List (List Int)):Prop :=
 ((((↑a.length:Int) !=(↑b.length:Int))=false)→((xa5 (xd2 a b) (xj9 a b))))
noncomputable def xjL (ua:List (List Int)):List U :=
 [.i ((0:Int)),.i ((0:Int))]
noncomputable def xdO (ua:List (List Int)) (y0:List U):Option (Nat×List U) :=
 (bif decide (gi y0 1<(↑ua.length:Int)) then xaH (inR (gi y0 1) ua) (xaH (inR (gi y0 1) ua) ((bif !xab ((ua.getD (gi y0 1).toNat []).getD 0 (0:Int)) ((ua.getD (gi y0 1).toNat []).getD 1 (0:Int))
  ((ua.getD (gi y0 1).toNat []).getD 2 (0:Int)) ((ua.getD (gi y0 1).toNat []).getD 3 (0:Int)) then some (1,[.i (gi y0 1)]) else some (0,[.i (gi y0 0),.i (IntKind.i64.wrap (gi y0 1+(1:Int)))])))) else some (3,[.i (gi y0 0),.i (gi y0 1)]))
noncomputable def xii (ua:List (List Int)):Nat×List U:=xa6 (xdO ua) (xjL ua)
noncomputable def xbX (ua:List (List Int)):Bool :=
 decide ((↑ua.length:Int)>(0:Int))&&decide ((↑ua.length:Int)≤(16:Int)) &&
 !decide ((bif (xii ua).fst.beq 1 then gi (xii ua).snd 0 else (-1:Int))≥(0:Int))
def xc1 (ua:List (List Int)):Prop :=
 (((decide ((↑ua.length:Int)>(0:Int))&&decide ((↑ua.length:Int)≤(16:Int)))=true)→((xa5 (xdO ua) (xjL ua))))
noncomputable def xhm (ua:List (List Int)):List U :=
 [.b (false),.i ((0:Int)),.i ((0:Int))]
noncomputable def xcH (ua:List (List Int)) (y0:List U):Option (Nat×List U) :=
 (bif decide (gi y0 2<(↑ua.length:Int)) then xaH (inR (gi y0 2) ua) (xaH (inR (gi y0 2) ua) ((bif xbG ((ua.getD (gi y0 2).toNat []).getD 2 (0:Int)) ((ua.getD (gi y0 2).toNat []).getD 3 (0:Int)) (-1000:Int) (1000:Int) !=(0:Int) ||
      xbG ((ua.getD (gi y0 2).toNat []).getD 4 (0:Int)) ((ua.getD (gi y0 2).toNat []).getD 5 (0:Int)) (-1000:Int) (1000:Int) !=(0:Int) ||
     !xbi ((ua.getD (gi y0 2).toNat []).getD 2 (0:Int)) ((ua.getD (gi y0 2).toNat []).getD 3 (0:Int)) (-1000:Int) (1000:Int) ||
    !xbi ((ua.getD (gi y0 2).toNat []).getD 4 (0:Int)) ((ua.getD (gi y0 2).toNat []).getD 5 (0:Int)) (-1000:Int) (1000:Int) ||
   decide ((ua.getD (gi y0 2).toNat []).getD 0 (0:Int)<gi y0 1) ||
  decide ((ua.getD (gi y0 2).toNat []).getD 1 (0:Int)≤(ua.getD (gi y0 2).toNat []).getD 0 (0:Int)) ||
 decide ((ua.getD (gi y0 2).toNat []).getD 1 (0:Int)>(10000000:Int)) then some (1,[]) else some (0,[.b (gb y0 0),.i ((ua.getD (gi y0 2).toNat []).getD 1 (0:Int)),.i (IntKind.i64.wrap (gi y0 2+(1:Int)))])))) else some (3,[.b (gb y0 0),.i (gi y0 1),.i (gi y0 2)]))
noncomputable def xhv (ua:List (List Int)):Nat×List U:=xa6 (xcH ua) (xhm ua)
noncomputable def xbf (ua:List (List Int)):Bool :=
 bif (xhv ua).fst.beq 1 then false else decide ((↑ua.length:Int)≤(60:Int))
def xdb (ua:List (List Int)):Prop :=
 ((xa5 (xcH ua) (xhm ua)))
noncomputable def xeR (from_ um:Int) (uc:List (List Int)):List U :=
 [.i ((0:Int)),.i (IntKind.i64.wrap (um-from_)),.i ((0:Int)),.i ((0:Int)),.i ((0:Int)),.i ((0:Int))]
noncomputable def xdI (from_ um:Int) (uc:List (List Int)) (y0:List U):Option (Nat×List U) :=
 (bif decide (gi y0 0<(↑uc.length:Int)) then xaH (inR (gi y0 0) uc) (xaH (inR (gi y0 0) uc) ((bif decide
  (IntKind.i64.wrap (imin ((uc.getD (gi y0 0).toNat []).getD 1 (0:Int)) um-imax ((uc.getD (gi y0 0).toNat []).getD 0 (0:Int)) from_) >
   (0:Int)) ==
 true then some (0,[.i (IntKind.i64.wrap (gi y0 0+(1:Int))),.i (IntKind.i64.wrap
 (gi y0 1 -
  IntKind.i64.wrap (imin ((uc.getD (gi y0 0).toNat []).getD 1 (0:Int)) um-imax ((uc.getD (gi y0 0).toNat []).getD 0 (0:Int)) from_))),.i (IntKind.i64.wrap
 (gi y0 2 +
  IntKind.i64.wrap
   (IntKind.i64.wrap (imin ((uc.getD (gi y0 0).toNat []).getD 1 (0:Int)) um-imax ((uc.getD (gi y0 0).toNat []).getD 0 (0:Int)) from_) *
    (uc.getD (gi y0 0).toNat []).getD 4 (0:Int)))),.i (IntKind.i64.wrap
 (gi y0 3 +
  IntKind.i64.wrap
   (IntKind.i64.wrap (imin ((uc.getD (gi y0 0).toNat []).getD 1 (0:Int)) um-imax ((uc.getD (gi y0 0).toNat []).getD 0 (0:Int)) from_) *
    (uc.getD (gi y0 0).toNat []).getD 5 (0:Int)))),.i (IntKind.i64.wrap
 (gi y0 4 +
  IntKind.i64.wrap
   (IntKind.i64.wrap (imin ((uc.getD (gi y0 0).toNat []).getD 1 (0:Int)) um-imax ((uc.getD (gi y0 0).toNat []).getD 0 (0:Int)) from_) *
    (uc.getD (gi y0 0).toNat []).getD 2 (0:Int)))),.i (IntKind.i64.wrap
 (gi y0 5 +
  IntKind.i64.wrap
   (IntKind.i64.wrap (imin ((uc.getD (gi y0 0).toNat []).getD 1 (0:Int)) um-imax ((uc.getD (gi y0 0).toNat []).getD 0 (0:Int)) from_) *
    (uc.getD (gi y0 0).toNat []).getD 3 (0:Int))))]) else some (0,[.i (IntKind.i64.wrap (gi y0 0+(1:Int))),.i (gi y0 1),.i (gi y0 2),.i (gi y0 3),.i (gi y0 4),.i (gi y0 5)])))) else some (3,[.i (gi y0 0),.i (gi y0 1),.i (gi y0 2),.i (gi y0 3),.i (gi y0 4),.i (gi y0 5)]))
noncomputable def xc2 (from_ um:Int) (uc:List (List Int)):Nat×List U:=xa6 (xdI from_ um uc) (xeR from_ um uc)
noncomputable def xb3 (from_ um:Int) (uc:List (List Int)):Int :=
 bif !xbf uc||decide (from_<(0:Int))||decide (um<from_)||decide (um>(10000000:Int)) then (0:Int)
else bif decide (gi (xc2 from_ um uc).snd 1>(0:Int)) then (0:Int) else gi (xc2 from_ um uc).snd 4
noncomputable def xb2 (from_ um:Int) (uc:List (List Int)):Int :=
 bif !xbf uc||decide (from_<(0:Int))||decide (um<from_)||decide (um>(10000000:Int)) then (0:Int)
else bif decide (gi (xc2 from_ um uc).snd 1>(0:Int)) then (0:Int) else gi (xc2 from_ um uc).snd 5
noncomputable def xb1 (from_ um:Int) (uc:List (List Int)):Int :=
 bif !xbf uc||decide (from_<(0:Int))||decide (um<from_)||decide (um>(10000000:Int)) then (0:Int)
else bif decide (gi (xc2 from_ um uc).snd 1>(0:Int)) then (0:Int) else gi (xc2 from_ um uc).snd 2
noncomputable def xb0 (from_ um:Int) (uc:List (List Int)):Int :=
 bif !xbf uc||decide (from_<(0:Int))||decide (um<from_)||decide (um>(10000000:Int)) then (0:Int)
else bif decide (gi (xc2 from_ um uc).snd 1>(0:Int)) then (0:Int) else gi (xc2 from_ um uc).snd 3
noncomputable def xdP (from_ um:Int) (uc:List (List Int)):Int :=
 bif !xbf uc||decide (from_<(0:Int))||decide (um<from_)||decide (um>(10000000:Int)) then (1:Int)
else bif decide (gi (xc2 from_ um uc).snd 1>(0:Int)) then (4:Int) else (0:Int)
def xe4 (from_ um:Int) (uc:List (List Int)):Prop :=
 ((xdb uc)∧(((!xbf uc||decide (from_<(0:Int))||decide (um<from_)||decide (um>(10000000:Int)))=false)→((xa5 (xdI from_ um uc) (xeR from_ um uc)))))
noncomputable def xcq (vr vt:Int):Bool :=
 xab vr vr vt vt
noncomputable def xex (from_ um vr vt vu vx:Int) (uc:List (List Int)):Bool :=
 bif !xcq vr vt||!xcq vu vx then false
else
 bif xdP from_ um uc !=(0:Int) then false
 else
  decide (xb3 from_ um uc≤IntKind.i64.wrap ((100:Int)*IntKind.i64.wrap (vu-vr))) &&
     decide (IntKind.i64.wrap ((100:Int)*IntKind.i64.wrap (vu-vr))≤xb2 from_ um uc) &&
    decide (xb1 from_ um uc≤IntKind.i64.wrap ((100:Int)*IntKind.i64.wrap (vx-vt))) &&
   decide (IntKind.i64.wrap ((100:Int)*IntKind.i64.wrap (vx-vt))≤xb0 from_ um uc)
noncomputable def xfp (from_ um vr vt vu vx:Int) (uc:List (List Int)):Int :=
 bif !xcq vr vt||!xcq vu vx then (1:Int) else bif xdP from_ um uc !=(0:Int) then xdP from_ um uc else (0:Int)
def xcA (from_ um vr vt vu vx:Int) (uc:List (List Int)):Prop :=
 (((!xcq vr vt||!xcq vu vx)=false)→(xe4 from_ um uc))
noncomputable def xg6 (from_ um:Int) (ua uc:List (List Int)):List U :=
 [.i ((0:Int)),.i ((0:Int)),.r ([])]
noncomputable def xda (from_ um:Int) (ua uc:List (List Int)) (y0:List U):Option (Nat×List U) :=
 (bif decide (gi y0 1<(↑ua.length:Int)) then xaH (inR (gi y0 1) ua) (xaH (inR (gi y0 1) ua) (xaH ((((decide (IntKind.i64.wrap (IntKind.i64.wrap ((100:Int)*(ua.getD (gi y0 1).toNat []).getD 0 (0:Int))+xb3 from_ um uc)<(0:Int))=true)→(((100:Int):Int)≠(0:Int)))∧((decide (IntKind.i64.wrap (IntKind.i64.wrap ((100:Int)*(ua.getD (gi y0 1).toNat []).getD 0 (0:Int))+xb3 from_ um uc)<(0:Int))=false)→(((100:Int):Int)≠(0:Int))))∧(((decide
  (IntKind.i64.wrap ((0:Int)-IntKind.i64.wrap (IntKind.i64.wrap ((100:Int)*(ua.getD (gi y0 1).toNat []).getD 1 (0:Int))+xb2 from_ um uc)) <
   (0:Int)) =
 true)→(((100:Int):Int)≠(0:Int)))∧((decide
  (IntKind.i64.wrap ((0:Int)-IntKind.i64.wrap (IntKind.i64.wrap ((100:Int)*(ua.getD (gi y0 1).toNat []).getD 1 (0:Int))+xb2 from_ um uc)) <
   (0:Int)) =
 false)→(((100:Int):Int)≠(0:Int))))) (xaH ((((decide (IntKind.i64.wrap (IntKind.i64.wrap ((100:Int)*(ua.getD (gi y0 1).toNat []).getD 2 (0:Int))+xb1 from_ um uc)<(0:Int))=true)→(((100:Int):Int)≠(0:Int)))∧((decide (IntKind.i64.wrap (IntKind.i64.wrap ((100:Int)*(ua.getD (gi y0 1).toNat []).getD 2 (0:Int))+xb1 from_ um uc)<(0:Int))=false)→(((100:Int):Int)≠(0:Int))))∧(((decide
  (IntKind.i64.wrap ((0:Int)-IntKind.i64.wrap (IntKind.i64.wrap ((100:Int)*(ua.getD (gi y0 1).toNat []).getD 3 (0:Int))+xb0 from_ um uc)) <
   (0:Int)) =
 true)→(((100:Int):Int)≠(0:Int)))∧((decide
  (IntKind.i64.wrap ((0:Int)-IntKind.i64.wrap (IntKind.i64.wrap ((100:Int)*(ua.getD (gi y0 1).toNat []).getD 3 (0:Int))+xb0 from_ um uc)) <
   (0:Int)) =
 false)→(((100:Int):Int)≠(0:Int))))) ((bif !xab
  (bif decide (IntKind.i64.wrap (IntKind.i64.wrap ((100:Int)*(ua.getD (gi y0 1).toNat []).getD 0 (0:Int))+xb3 from_ um uc)<(0:Int)) then
   IntKind.i64.wrap
    ((0:Int) -
     IntKind.i64.wrap
      ((IntKind.i64.wrap
         ((99:Int)-IntKind.i64.wrap (IntKind.i64.wrap ((100:Int)*(ua.getD (gi y0 1).toNat []).getD 0 (0:Int))+xb3 from_ um uc))).tdiv
       (100:Int)))
  else IntKind.i64.wrap ((IntKind.i64.wrap (IntKind.i64.wrap ((100:Int)*(ua.getD (gi y0 1).toNat []).getD 0 (0:Int))+xb3 from_ um uc)).tdiv (100:Int)))
  (IntKind.i64.wrap
   ((0:Int) -
    bif
      decide
       (IntKind.i64.wrap ((0:Int)-IntKind.i64.wrap (IntKind.i64.wrap ((100:Int)*(ua.getD (gi y0 1).toNat []).getD 1 (0:Int))+xb2 from_ um uc)) <
        (0:Int)) then
     IntKind.i64.wrap
      ((0:Int) -
       IntKind.i64.wrap
        ((IntKind.i64.wrap
           ((99:Int) -
            IntKind.i64.wrap
             ((0:Int)-IntKind.i64.wrap (IntKind.i64.wrap ((100:Int)*(ua.getD (gi y0 1).toNat []).getD 1 (0:Int))+xb2 from_ um uc)))).tdiv
         (100:Int)))
    else
     IntKind.i64.wrap
      ((IntKind.i64.wrap
         ((0:Int)-IntKind.i64.wrap (IntKind.i64.wrap ((100:Int)*(ua.getD (gi y0 1).toNat []).getD 1 (0:Int))+xb2 from_ um uc))).tdiv
       (100:Int))))
  (bif decide (IntKind.i64.wrap (IntKind.i64.wrap ((100:Int)*(ua.getD (gi y0 1).toNat []).getD 2 (0:Int))+xb1 from_ um uc)<(0:Int)) then
   IntKind.i64.wrap
    ((0:Int) -
     IntKind.i64.wrap
      ((IntKind.i64.wrap
         ((99:Int)-IntKind.i64.wrap (IntKind.i64.wrap ((100:Int)*(ua.getD (gi y0 1).toNat []).getD 2 (0:Int))+xb1 from_ um uc))).tdiv
       (100:Int)))
  else IntKind.i64.wrap ((IntKind.i64.wrap (IntKind.i64.wrap ((100:Int)*(ua.getD (gi y0 1).toNat []).getD 2 (0:Int))+xb1 from_ um uc)).tdiv (100:Int)))
  (IntKind.i64.wrap
   ((0:Int) -
    bif
      decide
       (IntKind.i64.wrap ((0:Int)-IntKind.i64.wrap (IntKind.i64.wrap ((100:Int)*(ua.getD (gi y0 1).toNat []).getD 3 (0:Int))+xb0 from_ um uc)) <
        (0:Int)) then
     IntKind.i64.wrap
      ((0:Int) -
       IntKind.i64.wrap
        ((IntKind.i64.wrap
           ((99:Int) -
            IntKind.i64.wrap
             ((0:Int)-IntKind.i64.wrap (IntKind.i64.wrap ((100:Int)*(ua.getD (gi y0 1).toNat []).getD 3 (0:Int))+xb0 from_ um uc)))).tdiv
         (100:Int)))
    else
     IntKind.i64.wrap
      ((IntKind.i64.wrap
         ((0:Int)-IntKind.i64.wrap (IntKind.i64.wrap ((100:Int)*(ua.getD (gi y0 1).toNat []).getD 3 (0:Int))+xb0 from_ um uc))).tdiv
       (100:Int)))) then some (1,[]) else xaH (xdo 32
 ((gr y0 2).length +
  [[bif decide (IntKind.i64.wrap (IntKind.i64.wrap ((100:Int)*(ua.getD (gi y0 1).toNat []).getD 0 (0:Int))+xb3 from_ um uc)<(0:Int)) then
      IntKind.i64.wrap
       ((0:Int) -
        IntKind.i64.wrap
         ((IntKind.i64.wrap
            ((99:Int)-IntKind.i64.wrap (IntKind.i64.wrap ((100:Int)*(ua.getD (gi y0 1).toNat []).getD 0 (0:Int))+xb3 from_ um uc))).tdiv
          (100:Int)))
     else
      IntKind.i64.wrap
       ((IntKind.i64.wrap (IntKind.i64.wrap ((100:Int)*(ua.getD (gi y0 1).toNat []).getD 0 (0:Int))+xb3 from_ um uc)).tdiv (100:Int)),
     IntKind.i64.wrap
      ((0:Int) -
       bif
         decide
          (IntKind.i64.wrap
            ((0:Int)-IntKind.i64.wrap (IntKind.i64.wrap ((100:Int)*(ua.getD (gi y0 1).toNat []).getD 1 (0:Int))+xb2 from_ um uc)) <
           (0:Int)) then
        IntKind.i64.wrap
         ((0:Int) -
          IntKind.i64.wrap
           ((IntKind.i64.wrap
              ((99:Int) -
               IntKind.i64.wrap
                ((0:Int) -
                 IntKind.i64.wrap (IntKind.i64.wrap ((100:Int)*(ua.getD (gi y0 1).toNat []).getD 1 (0:Int))+xb2 from_ um uc)))).tdiv
            (100:Int)))
       else
        IntKind.i64.wrap
         ((IntKind.i64.wrap
            ((0:Int)-IntKind.i64.wrap (IntKind.i64.wrap ((100:Int)*(ua.getD (gi y0 1).toNat []).getD 1 (0:Int))+xb2 from_ um uc))).tdiv
          (100:Int))),
     bif decide (IntKind.i64.wrap (IntKind.i64.wrap ((100:Int)*(ua.getD (gi y0 1).toNat []).getD 2 (0:Int))+xb1 from_ um uc)<(0:Int)) then
      IntKind.i64.wrap
       ((0:Int) -
        IntKind.i64.wrap
         ((IntKind.i64.wrap
            ((99:Int)-IntKind.i64.wrap (IntKind.i64.wrap ((100:Int)*(ua.getD (gi y0 1).toNat []).getD 2 (0:Int))+xb1 from_ um uc))).tdiv
          (100:Int)))
     else
      IntKind.i64.wrap
       ((IntKind.i64.wrap (IntKind.i64.wrap ((100:Int)*(ua.getD (gi y0 1).toNat []).getD 2 (0:Int))+xb1 from_ um uc)).tdiv (100:Int)),
     IntKind.i64.wrap
      ((0:Int) -
       bif
         decide
          (IntKind.i64.wrap
            ((0:Int)-IntKind.i64.wrap (IntKind.i64.wrap ((100:Int)*(ua.getD (gi y0 1).toNat []).getD 3 (0:Int))+xb0 from_ um uc)) <
           (0:Int)) then
        IntKind.i64.wrap
         ((0:Int) -
          IntKind.i64.wrap
           ((IntKind.i64.wrap
              ((99:Int) -
               IntKind.i64.wrap
                ((0:Int) -
                 IntKind.i64.wrap (IntKind.i64.wrap ((100:Int)*(ua.getD (gi y0 1).toNat []).getD 3 (0:Int))+xb0 from_ um uc)))).tdiv
            (100:Int)))
       else
        IntKind.i64.wrap
         ((IntKind.i64.wrap
            ((0:Int)-IntKind.i64.wrap (IntKind.i64.wrap ((100:Int)*(ua.getD (gi y0 1).toNat []).getD 3 (0:Int))+xb0 from_ um uc))).tdiv
          (100:Int)))]].length)) (some (0,[.i (gi y0 0),.i (IntKind.i64.wrap (gi y0 1+(1:Int))),.r (gr y0 2 ++
 [[bif decide (IntKind.i64.wrap (IntKind.i64.wrap ((100:Int)*(ua.getD (gi y0 1).toNat []).getD 0 (0:Int))+xb3 from_ um uc)<(0:Int)) then
    IntKind.i64.wrap
     ((0:Int) -
      IntKind.i64.wrap
       ((IntKind.i64.wrap
          ((99:Int)-IntKind.i64.wrap (IntKind.i64.wrap ((100:Int)*(ua.getD (gi y0 1).toNat []).getD 0 (0:Int))+xb3 from_ um uc))).tdiv
        (100:Int)))
   else
    IntKind.i64.wrap ((IntKind.i64.wrap (IntKind.i64.wrap ((100:Int)*(ua.getD (gi y0 1).toNat []).getD 0 (0:Int))+xb3 from_ um uc)).tdiv (100:Int)),
   IntKind.i64.wrap
    ((0:Int) -
     bif
       decide
        (IntKind.i64.wrap
          ((0:Int)-IntKind.i64.wrap (IntKind.i64.wrap ((100:Int)*(ua.getD (gi y0 1).toNat []).getD 1 (0:Int))+xb2 from_ um uc)) <
         (0:Int)) then
      IntKind.i64.wrap
       ((0:Int) -
        IntKind.i64.wrap
         ((IntKind.i64.wrap
            ((99:Int) -
             IntKind.i64.wrap
              ((0:Int)-IntKind.i64.wrap (IntKind.i64.wrap ((100:Int)*(ua.getD (gi y0 1).toNat []).getD 1 (0:Int))+xb2 from_ um uc)))).tdiv
          (100:Int)))
     else
      IntKind.i64.wrap
       ((IntKind.i64.wrap
          ((0:Int)-IntKind.i64.wrap (IntKind.i64.wrap ((100:Int)*(ua.getD (gi y0 1).toNat []).getD 1 (0:Int))+xb2 from_ um uc))).tdiv
        (100:Int))),
   bif decide (IntKind.i64.wrap (IntKind.i64.wrap ((100:Int)*(ua.getD (gi y0 1).toNat []).getD 2 (0:Int))+xb1 from_ um uc)<(0:Int)) then
    IntKind.i64.wrap
     ((0:Int) -
      IntKind.i64.wrap
       ((IntKind.i64.wrap
          ((99:Int)-IntKind.i64.wrap (IntKind.i64.wrap ((100:Int)*(ua.getD (gi y0 1).toNat []).getD 2 (0:Int))+xb1 from_ um uc))).tdiv
        (100:Int)))
   else
    IntKind.i64.wrap ((IntKind.i64.wrap (IntKind.i64.wrap ((100:Int)*(ua.getD (gi y0 1).toNat []).getD 2 (0:Int))+xb1 from_ um uc)).tdiv (100:Int)),
   IntKind.i64.wrap
    ((0:Int) -
     bif
       decide
        (IntKind.i64.wrap
          ((0:Int)-IntKind.i64.wrap (IntKind.i64.wrap ((100:Int)*(ua.getD (gi y0 1).toNat []).getD 3 (0:Int))+xb0 from_ um uc)) <
         (0:Int)) then
      IntKind.i64.wrap
       ((0:Int) -
        IntKind.i64.wrap
         ((IntKind.i64.wrap
            ((99:Int) -
             IntKind.i64.wrap
              ((0:Int)-IntKind.i64.wrap (IntKind.i64.wrap ((100:Int)*(ua.getD (gi y0 1).toNat []).getD 3 (0:Int))+xb0 from_ um uc)))).tdiv
          (100:Int)))
     else
      IntKind.i64.wrap
       ((IntKind.i64.wrap
          ((0:Int)-IntKind.i64.wrap (IntKind.i64.wrap ((100:Int)*(ua.getD (gi y0 1).toNat []).getD 3 (0:Int))+xb0 from_ um uc))).tdiv
        (100:Int)))]])]))))))) else some (3,[.i (gi y0 0),.i (gi y0 1),.r (gr y0 2)]))
noncomputable def xg7 (from_ um:Int) (ua uc:List (List Int)):Nat×List U:=xa6 (xda from_ um ua uc) (xg6 from_ um ua uc)
noncomputable def xeY (from_ um:Int) (ua uc:List (List Int)):List (List Int) :=
 bif !xbX ua then [] else bif xdP from_ um uc !=(0:Int) then [] else bif (xg7 from_ um ua uc).fst.beq 1 then [] else gr (xg7 from_ um ua uc).snd 2
noncomputable def xgB (from_ um:Int) (ua uc:List (List Int)):Int :=
 bif !xbX ua then (1:Int)
else bif xdP from_ um uc !=(0:Int) then xdP from_ um uc else bif (xg7 from_ um ua uc).fst.beq 1 then (3:Int) else (0:Int)
def xfo (from_ um:Int) (ua uc:List (List Int)):Prop :=
 ((xc1 ua)∧(((!xbX ua)=false)→((xe4 from_ um uc)∧(((xdP from_ um uc !=(0:Int))=false)→((xa5 (xda from_ um ua uc) (xg6 from_ um ua uc)))))))
noncomputable def xk8 (uN uM uQ uP:Int) (ua:List (List Int)):List U :=
 [.i ((0:Int)),.r ([])]
noncomputable def xeS (uN uM uQ uP:Int) (ua:List (List Int)) (y0:List U):Option (Nat×List U) :=
 (bif decide (gi y0 0<(↑ua.length:Int)) then xaH (inR (gi y0 0) ua) (xaH (inR (gi y0 0) ua) ((bif xff ((ua.getD (gi y0 0).toNat []).getD 0 (0:Int)) ((ua.getD (gi y0 0).toNat []).getD 1 (0:Int))
  ((ua.getD (gi y0 0).toNat []).getD 2 (0:Int)) ((ua.getD (gi y0 0).toNat []).getD 3 (0:Int)) uN uM uQ uP ==
 (0:Int) then xaH (xdo 32
 ((gr y0 1).length +
  [[xem ((ua.getD (gi y0 0).toNat []).getD 0 (0:Int)) ((ua.getD (gi y0 0).toNat []).getD 1 (0:Int))
      ((ua.getD (gi y0 0).toNat []).getD 2 (0:Int)) ((ua.getD (gi y0 0).toNat []).getD 3 (0:Int)) uN uM uQ uP,
     xfi ((ua.getD (gi y0 0).toNat []).getD 0 (0:Int)) ((ua.getD (gi y0 0).toNat []).getD 1 (0:Int))
      ((ua.getD (gi y0 0).toNat []).getD 2 (0:Int)) ((ua.getD (gi y0 0).toNat []).getD 3 (0:Int)) uN uM uQ uP,
     xfh ((ua.getD (gi y0 0).toNat []).getD 0 (0:Int)) ((ua.getD (gi y0 0).toNat []).getD 1 (0:Int))
      ((ua.getD (gi y0 0).toNat []).getD 2 (0:Int)) ((ua.getD (gi y0 0).toNat []).getD 3 (0:Int)) uN uM uQ uP,
     xfg ((ua.getD (gi y0 0).toNat []).getD 0 (0:Int)) ((ua.getD (gi y0 0).toNat []).getD 1 (0:Int))
      ((ua.getD (gi y0 0).toNat []).getD 2 (0:Int)) ((ua.getD (gi y0 0).toNat []).getD 3 (0:Int)) uN uM uQ uP]].length)) (some (0,[.i (IntKind.i64.wrap (gi y0 0+(1:Int))),.r (gr y0 1 ++
 [[xem ((ua.getD (gi y0 0).toNat []).getD 0 (0:Int)) ((ua.getD (gi y0 0).toNat []).getD 1 (0:Int))
    ((ua.getD (gi y0 0).toNat []).getD 2 (0:Int)) ((ua.getD (gi y0 0).toNat []).getD 3 (0:Int)) uN uM uQ uP,
   xfi ((ua.getD (gi y0 0).toNat []).getD 0 (0:Int)) ((ua.getD (gi y0 0).toNat []).getD 1 (0:Int))
    ((ua.getD (gi y0 0).toNat []).getD 2 (0:Int)) ((ua.getD (gi y0 0).toNat []).getD 3 (0:Int)) uN uM uQ uP,
   xfh ((ua.getD (gi y0 0).toNat []).getD 0 (0:Int)) ((ua.getD (gi y0 0).toNat []).getD 1 (0:Int))
    ((ua.getD (gi y0 0).toNat []).getD 2 (0:Int)) ((ua.getD (gi y0 0).toNat []).getD 3 (0:Int)) uN uM uQ uP,
   xfg ((ua.getD (gi y0 0).toNat []).getD 0 (0:Int)) ((ua.getD (gi y0 0).toNat []).getD 1 (0:Int))
    ((ua.getD (gi y0 0).toNat []).getD 2 (0:Int)) ((ua.getD (gi y0 0).toNat []).getD 3 (0:Int)) uN uM uQ uP]])])) else some (0,[.i (IntKind.i64.wrap (gi y0 0+(1:Int))),.r (gr y0 1)])))) else some (3,[.i (gi y0 0),.r (gr y0 1)]))
noncomputable def xkj (uN uM uQ uP:Int) (ua:List (List Int)):Nat×List U:=xa6 (xeS uN uM uQ uP ua) (xk8 uN uM uQ uP ua)
noncomputable def xjN (uN uM uQ uP:Int) (ua:List (List Int)):List (List Int) :=
 bif !xbX ua||!xab uN uM uQ uP then []
else bif (↑(gr (xkj uN uM uQ uP ua).snd 1).length:Int)==(0:Int) then [] else gr (xkj uN uM uQ uP ua).snd 1
noncomputable def xjM (uN uM uQ uP:Int) (ua:List (List Int)):Int :=
 bif !xbX ua||!xab uN uM uQ uP then (1:Int) else bif (↑(gr (xkj uN uM uQ uP ua).snd 1).length:Int)==(0:Int) then (4:Int) else (0:Int)
def xfO (uN uM uQ uP:Int) (ua:List (List Int)):Prop :=
 ((xc1 ua)∧(((!xbX ua||!xab uN uM uQ uP)=false)→((xa5 (xeS uN uM uQ uP ua) (xk8 uN uM uQ uP ua)))))
end Go.Proofs.YthfjhbbpdhjklaaGreat
set_option maxRecDepth 100000
set_option linter.unusedVariables false
namespace Go.Proofs.YthfjhbbpdhjklaaGreat
open Go Go.Sy
noncomputable def xaG (vr vt:Int):Bool :=
 decide (imax vr vt≤(1000000:Int))&&decide (imin vr vt≥(-1000000:Int))
noncomputable def xlh (vN vM:Int):Int :=
 bif !xaM vN vM then (0:Int) else vN
noncomputable def xlg (vN vM:Int):Int :=
 bif !xaM vN vM then (0:Int) else vM
noncomputable def xlf (vN vM:Int):Int :=
 bif !xaM vN vM then (3:Int) else (0:Int)
noncomputable def xdX (vN vM vP vO:Int):Int :=
 bif !xaM vN vM||!xaM vP vO then (0:Int) else xlh (IntKind.i64.wrap (vN-vO)) (IntKind.i64.wrap (vM-vP))
noncomputable def xdW (vN vM vP vO:Int):Int :=
 bif !xaM vN vM||!xaM vP vO then (0:Int) else xlg (IntKind.i64.wrap (vN-vO)) (IntKind.i64.wrap (vM-vP))
noncomputable def xi9 (vN vM vP vO:Int):Int :=
 bif !xaM vN vM||!xaM vP vO then (1:Int) else xlf (IntKind.i64.wrap (vN-vO)) (IntKind.i64.wrap (vM-vP))
noncomputable def xeH (n:Int):Bool :=
 decide (n≥(1:Int))&&decide (n≤(100000:Int))
noncomputable def xcF (vr vt:Int):Bool :=
 decide (imax vr vt≤(1000000:Int))&&decide (imin vr vt≥(-1000000:Int))
noncomputable def xbd (v_X v_Y w_X w_Y:Int):Int :=
 IntKind.i64.wrap (IntKind.i64.wrap (v_X*w_Y)-IntKind.i64.wrap (v_Y*w_X))
noncomputable def xbe (vI vH vJ vC vz vy vB vA vE vG vK vL vD:Int):Bool :=
 bif
  !xeH vI||!xeH vH||!xeH vC||decide (vJ<(0:Int))||decide (vJ>(10000000:Int))||decide (vD<(0:Int)) ||
   decide (vD>(1000000:Int)) then
 false
else
 xab vz vy vB vA&&xcF vE vG&&xcF vK vL &&
  decide (xbd vE vG vK vL>(0:Int))
noncomputable def xdZ (vN vM from_ to_ far:Int):Int :=
 bif decide (imin from_ to_<(0:Int)) then
 bif decide (imax from_ to_>(0:Int)) then imax (IntKind.i64.wrap (vN-far)) (-1000000:Int) else imax (IntKind.i64.wrap (vN-far)) (-1000000:Int)
else bif decide (imax from_ to_>(0:Int)) then vN else vN
noncomputable def xdY (vN vM from_ to_ far:Int):Int :=
 bif decide (imin from_ to_<(0:Int)) then bif decide (imax from_ to_>(0:Int)) then imin (IntKind.i64.wrap (vM+far)) (1000000:Int) else vM
else bif decide (imax from_ to_>(0:Int)) then imin (IntKind.i64.wrap (vM+far)) (1000000:Int) else vM
noncomputable def xer (vI vH vJ vC vz vy vB vA vE vG vK vL vD:Int):Int :=
 bif !xbe vI vH vJ vC vz vy vB vA vE vG vK vL vD then (0:Int)
else xdZ vz vy vE vK vD
noncomputable def xeq (vI vH vJ vC vz vy vB vA vE vG vK vL vD:Int):Int :=
 bif !xbe vI vH vJ vC vz vy vB vA vE vG vK vL vD then (0:Int)
else xdY vz vy vE vK vD
noncomputable def xep (vI vH vJ vC vz vy vB vA vE vG vK vL vD:Int):Int :=
 bif !xbe vI vH vJ vC vz vy vB vA vE vG vK vL vD then (0:Int)
else xdZ vB vA vG vL vD
noncomputable def xeo (vI vH vJ vC vz vy vB vA vE vG vK vL vD:Int):Int :=
 bif !xbe vI vH vJ vC vz vy vB vA vE vG vK vL vD then (0:Int)
else xdY vB vA vG vL vD
noncomputable def xen (vI vH vJ vC vz vy vB vA vE vG vK vL vD:Int):Int :=
 bif !xbe vI vH vJ vC vz vy vB vA vE vG vK vL vD then (1:Int) else (0:Int)
noncomputable def xfc (vN vM from_ to_:Int):Bool :=
 (decide (vN≤(0:Int))||decide (from_>(0:Int))||decide (to_>(0:Int)))&&(decide (vM≥(0:Int))||decide (from_<(0:Int))||decide (to_<(0:Int)))
noncomputable def xcV (c_from_X c_from_Y c_to_X c_to_Y uN uM uQ uP:Int):Bool :=
 (xfc uN uM c_from_X c_to_X&&xfc uQ uP c_from_Y c_to_Y &&
  bif decide (xbd c_from_X c_from_Y uN uQ≥(0:Int)) then true
  else
   bif decide (xbd c_from_X c_from_Y uN uP≥(0:Int)) then true
   else bif decide (xbd c_from_X c_from_Y uM uQ≥(0:Int)) then true else bif decide (xbd c_from_X c_from_Y uM uP≥(0:Int)) then true else false) &&
 bif decide (xbd uN uQ c_to_X c_to_Y≥(0:Int)) then true
 else
  bif decide (xbd uN uP c_to_X c_to_Y≥(0:Int)) then true
  else bif decide (xbd uM uQ c_to_X c_to_Y≥(0:Int)) then true else bif decide (xbd uM uP c_to_X c_to_Y≥(0:Int)) then true else false
noncomputable def xfA (vI vH vJ vC vz vy vB vA vE vG vK vL vD uN uM uQ uP:Int):Bool :=
 xbc (xdX uN uM vz vy) (xdW uN uM vz vy) (IntKind.i64.wrap ((0:Int)-vD)) vD==(0:Int) &&
  xbc (xdX uQ uP vB vA) (xdW uQ uP vB vA) (IntKind.i64.wrap ((0:Int)-vD)) vD==(0:Int) &&
 xcV vE vG vK vL
  (xdj (xdX uN uM vz vy) (xdW uN uM vz vy) (IntKind.i64.wrap ((0:Int)-vD)) vD)
  (xdi (xdX uN uM vz vy) (xdW uN uM vz vy) (IntKind.i64.wrap ((0:Int)-vD)) vD)
  (xdj (xdX uQ uP vB vA) (xdW uQ uP vB vA) (IntKind.i64.wrap ((0:Int)-vD)) vD)
  (xdi (xdX uQ uP vB vA) (xdW uQ uP vB vA) (IntKind.i64.wrap ((0:Int)-vD)) vD)
noncomputable def xdG (vI vH vJ vC vz vy vB vA vE vG vK vL vD vr vt:Int):Bool :=
 bif !xbe vI vH vJ vC vz vy vB vA vE vG vK vL vD||!xaG vr vt then false
else xfA vI vH vJ vC vz vy vB vA vE vG vK vL vD vr vr vt vt
noncomputable def xdF (vI vH vJ vC vz vy vB vA vE vG vK vL vD vr vt:Int):Int :=
 bif !xbe vI vH vJ vC vz vy vB vA vE vG vK vL vD||!xaG vr vt then (1:Int) else (0:Int)
noncomputable def xhi (ua:List (List Int)):List U :=
 [.i ((0:Int)),.i ((0:Int))]
noncomputable def xcE (ua:List (List Int)) (y0:List U):Option (Nat×List U) :=
 (bif decide (gi y0 1<(↑ua.length:Int)) then xaH (inR (gi y0 1) ua) (xaH (inR (gi y0 1) ua) ((bif !xbe ((ua.getD (gi y0 1).toNat []).getD 0 (0:Int)) ((ua.getD (gi y0 1).toNat []).getD 1 (0:Int))
  ((ua.getD (gi y0 1).toNat []).getD 2 (0:Int)) ((ua.getD (gi y0 1).toNat []).getD 3 (0:Int))
  ((ua.getD (gi y0 1).toNat []).getD 4 (0:Int)) ((ua.getD (gi y0 1).toNat []).getD 5 (0:Int))
  ((ua.getD (gi y0 1).toNat []).getD 6 (0:Int)) ((ua.getD (gi y0 1).toNat []).getD 7 (0:Int))
  ((ua.getD (gi y0 1).toNat []).getD 8 (0:Int)) ((ua.getD (gi y0 1).toNat []).getD 9 (0:Int))
  ((ua.getD (gi y0 1).toNat []).getD 10 (0:Int)) ((ua.getD (gi y0 1).toNat []).getD 11 (0:Int))
  ((ua.getD (gi y0 1).toNat []).getD 12 (0:Int)) then some (1,[.i (gi y0 1)]) else some (0,[.i (gi y0 0),.i (IntKind.i64.wrap (gi y0 1+(1:Int)))])))) else some (3,[.i (gi y0 0),.i (gi y0 1)]))
noncomputable def xfK (ua:List (List Int)):Nat×List U:=xa6 (xcE ua) (xhi ua)
noncomputable def xaQ (ua:List (List Int)):Bool :=
 decide ((↑ua.length:Int)≤(60:Int))&&!decide ((bif (xfK ua).fst.beq 1 then gi (xfK ua).snd 0 else (-1:Int))≥(0:Int))
def xc5 (ua:List (List Int)):Prop :=
 ((decide ((↑ua.length:Int)≤(60:Int))=true)→((xa5 (xcE ua) (xhi ua))))
noncomputable def xfr (ua:List (List Int)):List U :=
 [.i ((0:Int)),.r ([]),.r ([]),.r ([])]
noncomputable def xb7 (ua:List (List Int)) (y0:List U):Option (Nat×List U) :=
 (bif decide (gi y0 0<(↑ua.length:Int)) then xaH (inR (gi y0 0) ua) (xaH (inR (gi y0 0) ua) (xaH (xpQ IntKind.i64 [(ua.getD (gi y0 0).toNat []).getD 0 (0:Int),(ua.getD (gi y0 0).toNat []).getD 1 (0:Int)]) ((bif !(xaO 2 [(ua.getD (gi y0 0).toNat []).getD 0 (0:Int),(ua.getD (gi y0 0).toNat []).getD 1 (0:Int)] (gr y0 1)).isSome then xaH (xpQ IntKind.i64 [(ua.getD (gi y0 0).toNat []).getD 0 (0:Int),(ua.getD (gi y0 0).toNat []).getD 1 (0:Int)]) (xaH (xdo 104
 ((gr y0 2).length +
  [[(ua.getD (gi y0 0).toNat []).getD 0 (0:Int),(ua.getD (gi y0 0).toNat []).getD 1 (0:Int),(ua.getD (gi y0 0).toNat []).getD 2 (0:Int),
     (ua.getD (gi y0 0).toNat []).getD 3 (0:Int),(ua.getD (gi y0 0).toNat []).getD 4 (0:Int),
     (ua.getD (gi y0 0).toNat []).getD 5 (0:Int),(ua.getD (gi y0 0).toNat []).getD 6 (0:Int),
     (ua.getD (gi y0 0).toNat []).getD 7 (0:Int),(ua.getD (gi y0 0).toNat []).getD 8 (0:Int),
     (ua.getD (gi y0 0).toNat []).getD 9 (0:Int),(ua.getD (gi y0 0).toNat []).getD 10 (0:Int),
     (ua.getD (gi y0 0).toNat []).getD 11 (0:Int),(ua.getD (gi y0 0).toNat []).getD 12 (0:Int)]].length)) (some (0,[.i (IntKind.i64.wrap (gi y0 0+(1:Int))),.r (xdU 2 [(ua.getD (gi y0 0).toNat []).getD 0 (0:Int),(ua.getD (gi y0 0).toNat []).getD 1 (0:Int)]
 [(ua.getD (gi y0 0).toNat []).getD 0 (0:Int),(ua.getD (gi y0 0).toNat []).getD 1 (0:Int),(ua.getD (gi y0 0).toNat []).getD 2 (0:Int),
  (ua.getD (gi y0 0).toNat []).getD 3 (0:Int),(ua.getD (gi y0 0).toNat []).getD 4 (0:Int),(ua.getD (gi y0 0).toNat []).getD 5 (0:Int),
  (ua.getD (gi y0 0).toNat []).getD 6 (0:Int),(ua.getD (gi y0 0).toNat []).getD 7 (0:Int),(ua.getD (gi y0 0).toNat []).getD 8 (0:Int),
  (ua.getD (gi y0 0).toNat []).getD 9 (0:Int),(ua.getD (gi y0 0).toNat []).getD 10 (0:Int),(ua.getD (gi y0 0).toNat []).getD 11 (0:Int),
  (ua.getD (gi y0 0).toNat []).getD 12 (0:Int)]
 (gr y0 1)),.r (gr y0 2 ++
 [[(ua.getD (gi y0 0).toNat []).getD 0 (0:Int),(ua.getD (gi y0 0).toNat []).getD 1 (0:Int),(ua.getD (gi y0 0).toNat []).getD 2 (0:Int),
   (ua.getD (gi y0 0).toNat []).getD 3 (0:Int),(ua.getD (gi y0 0).toNat []).getD 4 (0:Int),(ua.getD (gi y0 0).toNat []).getD 5 (0:Int),
   (ua.getD (gi y0 0).toNat []).getD 6 (0:Int),(ua.getD (gi y0 0).toNat []).getD 7 (0:Int),(ua.getD (gi y0 0).toNat []).getD 8 (0:Int),
   (ua.getD (gi y0 0).toNat []).getD 9 (0:Int),(ua.getD (gi y0 0).toNat []).getD 10 (0:Int),
   (ua.getD (gi y0 0).toNat []).getD 11 (0:Int),(ua.getD (gi y0 0).toNat []).getD 12 (0:Int)]]),.r (gr y0 3)]))) else (bif !(((xaO 2 [(ua.getD (gi y0 0).toNat []).getD 0 (0:Int),(ua.getD (gi y0 0).toNat []).getD 1 (0:Int)] (gr y0 1)).getD
      [(0:Int),(0:Int),(0:Int),(0:Int),(0:Int),(0:Int),(0:Int),(0:Int),(0:Int),(0:Int),(0:Int),(0:Int),(0:Int)]).getD
    0 (0:Int) ==
   (ua.getD (gi y0 0).toNat []).getD 0 (0:Int) &&
  (((xaO 2 [(ua.getD (gi y0 0).toNat []).getD 0 (0:Int),(ua.getD (gi y0 0).toNat []).getD 1 (0:Int)] (gr y0 1)).getD
       [(0:Int),(0:Int),(0:Int),(0:Int),(0:Int),(0:Int),(0:Int),(0:Int),(0:Int),(0:Int),(0:Int),(0:Int),(0:Int)]).getD
     1 (0:Int) ==
    (ua.getD (gi y0 0).toNat []).getD 1 (0:Int) &&
   (((xaO 2 [(ua.getD (gi y0 0).toNat []).getD 0 (0:Int),(ua.getD (gi y0 0).toNat []).getD 1 (0:Int)] (gr y0 1)).getD
        [(0:Int),(0:Int),(0:Int),(0:Int),(0:Int),(0:Int),(0:Int),(0:Int),(0:Int),(0:Int),(0:Int),(0:Int),(0:Int)]).getD
      2 (0:Int) ==
     (ua.getD (gi y0 0).toNat []).getD 2 (0:Int) &&
    (((xaO 2 [(ua.getD (gi y0 0).toNat []).getD 0 (0:Int),(ua.getD (gi y0 0).toNat []).getD 1 (0:Int)] (gr y0 1)).getD
         [(0:Int),(0:Int),(0:Int),(0:Int),(0:Int),(0:Int),(0:Int),(0:Int),(0:Int),(0:Int),(0:Int),(0:Int),(0:Int)]).getD
       3 (0:Int) ==
      (ua.getD (gi y0 0).toNat []).getD 3 (0:Int) &&
     (((xaO 2 [(ua.getD (gi y0 0).toNat []).getD 0 (0:Int),(ua.getD (gi y0 0).toNat []).getD 1 (0:Int)] (gr y0 1)).getD
            [(0:Int),(0:Int),(0:Int),(0:Int),(0:Int),(0:Int),(0:Int),(0:Int),(0:Int),(0:Int),(0:Int),(0:Int),(0:Int)]).getD
          4 (0:Int) ==
         (ua.getD (gi y0 0).toNat []).getD 4 (0:Int) &&
        (((xaO 2 [(ua.getD (gi y0 0).toNat []).getD 0 (0:Int),(ua.getD (gi y0 0).toNat []).getD 1 (0:Int)] (gr y0 1)).getD
             [(0:Int),(0:Int),(0:Int),(0:Int),(0:Int),(0:Int),(0:Int),(0:Int),(0:Int),(0:Int),(0:Int),(0:Int),(0:Int)]).getD
           5 (0:Int) ==
          (ua.getD (gi y0 0).toNat []).getD 5 (0:Int) &&
         true) &&
       (((xaO 2 [(ua.getD (gi y0 0).toNat []).getD 0 (0:Int),(ua.getD (gi y0 0).toNat []).getD 1 (0:Int)] (gr y0 1)).getD
             [(0:Int),(0:Int),(0:Int),(0:Int),(0:Int),(0:Int),(0:Int),(0:Int),(0:Int),(0:Int),(0:Int),(0:Int),(0:Int)]).getD
           6 (0:Int) ==
          (ua.getD (gi y0 0).toNat []).getD 6 (0:Int) &&
         (((xaO 2 [(ua.getD (gi y0 0).toNat []).getD 0 (0:Int),(ua.getD (gi y0 0).toNat []).getD 1 (0:Int)] (gr y0 1)).getD
              [(0:Int),(0:Int),(0:Int),(0:Int),(0:Int),(0:Int),(0:Int),(0:Int),(0:Int),(0:Int),(0:Int),(0:Int),(0:Int)]).getD
            7 (0:Int) ==
           (ua.getD (gi y0 0).toNat []).getD 7 (0:Int) &&
          true) &&
        true) &&
      (((xaO 2 [(ua.getD (gi y0 0).toNat []).getD 0 (0:Int),(ua.getD (gi y0 0).toNat []).getD 1 (0:Int)] (gr y0 1)).getD
            [(0:Int),(0:Int),(0:Int),(0:Int),(0:Int),(0:Int),(0:Int),(0:Int),(0:Int),(0:Int),(0:Int),(0:Int),(0:Int)]).getD
          8 (0:Int) ==
         (ua.getD (gi y0 0).toNat []).getD 8 (0:Int) &&
        (((xaO 2 [(ua.getD (gi y0 0).toNat []).getD 0 (0:Int),(ua.getD (gi y0 0).toNat []).getD 1 (0:Int)] (gr y0 1)).getD
             [(0:Int),(0:Int),(0:Int),(0:Int),(0:Int),(0:Int),(0:Int),(0:Int),(0:Int),(0:Int),(0:Int),(0:Int),(0:Int)]).getD
           9 (0:Int) ==
          (ua.getD (gi y0 0).toNat []).getD 9 (0:Int) &&
         true) &&
       (((xaO 2 [(ua.getD (gi y0 0).toNat []).getD 0 (0:Int),(ua.getD (gi y0 0).toNat []).getD 1 (0:Int)] (gr y0 1)).getD
             [(0:Int),(0:Int),(0:Int),(0:Int),(0:Int),(0:Int),(0:Int),(0:Int),(0:Int),(0:Int),(0:Int),(0:Int),(0:Int)]).getD
           10 (0:Int) ==
          (ua.getD (gi y0 0).toNat []).getD 10 (0:Int) &&
         (((xaO 2 [(ua.getD (gi y0 0).toNat []).getD 0 (0:Int),(ua.getD (gi y0 0).toNat []).getD 1 (0:Int)] (gr y0 1)).getD
              [(0:Int),(0:Int),(0:Int),(0:Int),(0:Int),(0:Int),(0:Int),(0:Int),(0:Int),(0:Int),(0:Int),(0:Int),(0:Int)]).getD
            11 (0:Int) ==
           (ua.getD (gi y0 0).toNat []).getD 11 (0:Int) &&
          true) &&
        (((xaO 2 [(ua.getD (gi y0 0).toNat []).getD 0 (0:Int),(ua.getD (gi y0 0).toNat []).getD 1 (0:Int)] (gr y0 1)).getD
             [(0:Int),(0:Int),(0:Int),(0:Int),(0:Int),(0:Int),(0:Int),(0:Int),(0:Int),(0:Int),(0:Int),(0:Int),(0:Int)]).getD
           12 (0:Int) ==
          (ua.getD (gi y0 0).toNat []).getD 12 (0:Int) &&
         true)))))))) then xaH (xdo 8 ((gr y0 3).length+[[gi y0 0]].length)) (some (0,[.i (IntKind.i64.wrap (gi y0 0+(1:Int))),.r (gr y0 1),.r (gr y0 2),.r (gr y0 3++[[gi y0 0]])])) else some (0,[.i (IntKind.i64.wrap (gi y0 0+(1:Int))),.r (gr y0 1),.r (gr y0 2),.r (gr y0 3)])))))) else some (4,[.i (gi y0 0),.r (gr y0 1),.r (gr y0 2),.r (gr y0 3)]))
noncomputable def xeI (ua:List (List Int)):Nat×List U:=xa6 (xb7 ua) (xfr ua)
noncomputable def xbL (ua:List (List Int)):List (List Int) :=
 bif !xaQ ua then [] else gr (xeI ua).snd 2
noncomputable def xge (ua:List (List Int)):List (List Int) :=
 bif !xaQ ua then [] else gr (xeI ua).snd 3
noncomputable def xcy (ua:List (List Int)):Int :=
 bif !xaQ ua then (1:Int) else (0:Int)
def xc6 (ua:List (List Int)):Prop :=
 ((xc5 ua)∧(((!xaQ ua)=false)→((xa5 (xb7 ua) (xfr ua)))))
noncomputable def xc4 (s:List (List Int)):List (List Int) :=
 []++s
def xcv (s:List (List Int)):Prop :=
 (((s=[])→((True)∧(([]++s=[])∧(True))))∧(xdo 8 (0+s.length)))
end Go.Proofs.YthfjhbbpdhjklaaGreat
set_option maxRecDepth 100000
set_option linter.unusedVariables false
namespace Go.Proofs.YthfjhbbpdhjklaaGreat
open Go Go.Sy
noncomputable def xdc (s_from:Int) (ug uf ue:List (List Int)):List U :=
 [.i ((0:Int)),.i (s_from),.i ((0:Int))]
noncomputable def xbP (s_from:Int) (ug uf ue:List (List Int)) (y0:List U):Option (Nat×List U) :=
 (bif decide (gi y0 2<(↑ue.length:Int)) then xaH (inR (gi y0 2) ue) (xaH (inR (gi y0 2) ue) (xaH ((decide ((ue.getD (gi y0 2).toNat []).getD 2 (0:Int)<gi y0 1)=false)→(inR (0:Int) ue)) (xaH ((decide ((ue.getD (gi y0 2).toNat []).getD 2 (0:Int)<gi y0 1)=false)→(inR (0:Int) ue)) (xaH ((decide ((ue.getD (gi y0 2).toNat []).getD 2 (0:Int)<gi y0 1)=false)→(inR (0:Int) ue)) ((bif decide ((ue.getD (gi y0 2).toNat []).getD 2 (0:Int)<gi y0 1) ||
 (ue.getD (gi y0 2).toNat []).getD 3 (0:Int) !=(ue.getD (Int.toNat (0:Int)) []).getD 3 (0:Int) then some (1,[]) else some (0,[.i (gi y0 0),.i ((ue.getD (gi y0 2).toNat []).getD 2 (0:Int)),.i (IntKind.i64.wrap (gi y0 2+(1:Int)))]))))))) else some (3,[.i (gi y0 0),.i (gi y0 1),.i (gi y0 2)]))
noncomputable def xjQ (s_from:Int) (ug uf ue:List (List Int)):Nat×List U:=xa6 (xbP s_from ug uf ue) (xdc s_from ug uf ue)
noncomputable def xjP (s_from:Int) (ug uf ue:List (List Int)):Int :=
 bif xcy ue !=(0:Int)||!xbX ug||!xbf uf||decide (s_from<(0:Int))||decide (s_from>(10000000:Int)) then (1:Int)
else bif (xjQ s_from ug uf ue).fst.beq 1 then (1:Int) else bif decide ((↑(xbL ue).length:Int)<(↑ue.length:Int)) then (5:Int) else (0:Int)
noncomputable def xcr (s_from:Int) (ug uf ue:List (List Int)):Int :=
 (xjP s_from ug uf ue)
def xcw (s_from:Int) (ug uf ue:List (List Int)):Prop :=
 ((xc6 ue)∧((((xcy ue !=(0:Int))=false)→(xc1 ug))∧((((xcy ue !=(0:Int)||!xbX ug)=false)→(xdb uf))∧(((xcy ue !=(0:Int)||!xbX ug||!xbf uf||decide (s_from<(0:Int))||decide (s_from>(10000000:Int)))=false)→((xa5 (xbP s_from ug uf ue) (xdc s_from ug uf ue)))))))
noncomputable def xe5 (s_from:Int) (ug uf ue ui:List (List Int)) (y0:List U):List U :=
 [.i ((0:Int)),.i ((0:Int))]
noncomputable def xbY (s_from:Int) (ug uf ue ui:List (List Int)) (y0:List U) (y1:List U):Option (Nat×List U) :=
 (bif decide (gi y1 1<(↑ui.length:Int)) then xaH (inR (gi y1 1) ui) (xaH (inR (gi y1 1) ui) ((bif gi y0 2==(ui.getD (gi y1 1).toNat []).getD 0 (0:Int) then some (1,[.i (gi y1 1)]) else some (0,[.i (gi y1 0),.i (IntKind.i64.wrap (gi y1 1+(1:Int)))])))) else some (3,[.i (gi y1 0),.i (gi y1 1)]))
noncomputable def xdd (s_from:Int) (ug uf ue ui:List (List Int)) (y0:List U):Nat×List U:=xa6 (xbY s_from ug uf ue ui y0) (xe5 s_from ug uf ue ui y0)
noncomputable def xfx (s_from:Int) (ug uf ue ui:List (List Int)) (y0:List U):Int :=
 xen ((ue.getD (gi y0 2).toNat []).getD 0 (0:Int)) ((ue.getD (gi y0 2).toNat []).getD 1 (0:Int))
 ((ue.getD (gi y0 2).toNat []).getD 2 (0:Int)) ((ue.getD (gi y0 2).toNat []).getD 3 (0:Int))
 ((ue.getD (gi y0 2).toNat []).getD 4 (0:Int)) ((ue.getD (gi y0 2).toNat []).getD 5 (0:Int))
 ((ue.getD (gi y0 2).toNat []).getD 6 (0:Int)) ((ue.getD (gi y0 2).toNat []).getD 7 (0:Int))
 ((ue.getD (gi y0 2).toNat []).getD 8 (0:Int)) ((ue.getD (gi y0 2).toNat []).getD 9 (0:Int))
 ((ue.getD (gi y0 2).toNat []).getD 10 (0:Int)) ((ue.getD (gi y0 2).toNat []).getD 11 (0:Int))
 ((ue.getD (gi y0 2).toNat []).getD 12 (0:Int))
noncomputable def xed (s_from:Int) (ug uf ue ui:List (List Int)) (y0:List U):Int :=
 xer ((ue.getD (gi y0 2).toNat []).getD 0 (0:Int)) ((ue.getD (gi y0 2).toNat []).getD 1 (0:Int))
 ((ue.getD (gi y0 2).toNat []).getD 2 (0:Int)) ((ue.getD (gi y0 2).toNat []).getD 3 (0:Int))
 ((ue.getD (gi y0 2).toNat []).getD 4 (0:Int)) ((ue.getD (gi y0 2).toNat []).getD 5 (0:Int))
 ((ue.getD (gi y0 2).toNat []).getD 6 (0:Int)) ((ue.getD (gi y0 2).toNat []).getD 7 (0:Int))
 ((ue.getD (gi y0 2).toNat []).getD 8 (0:Int)) ((ue.getD (gi y0 2).toNat []).getD 9 (0:Int))
 ((ue.getD (gi y0 2).toNat []).getD 10 (0:Int)) ((ue.getD (gi y0 2).toNat []).getD 11 (0:Int))
 ((ue.getD (gi y0 2).toNat []).getD 12 (0:Int))
noncomputable def xec (s_from:Int) (ug uf ue ui:List (List Int)) (y0:List U):Int :=
 xeq ((ue.getD (gi y0 2).toNat []).getD 0 (0:Int)) ((ue.getD (gi y0 2).toNat []).getD 1 (0:Int))
 ((ue.getD (gi y0 2).toNat []).getD 2 (0:Int)) ((ue.getD (gi y0 2).toNat []).getD 3 (0:Int))
 ((ue.getD (gi y0 2).toNat []).getD 4 (0:Int)) ((ue.getD (gi y0 2).toNat []).getD 5 (0:Int))
 ((ue.getD (gi y0 2).toNat []).getD 6 (0:Int)) ((ue.getD (gi y0 2).toNat []).getD 7 (0:Int))
 ((ue.getD (gi y0 2).toNat []).getD 8 (0:Int)) ((ue.getD (gi y0 2).toNat []).getD 9 (0:Int))
 ((ue.getD (gi y0 2).toNat []).getD 10 (0:Int)) ((ue.getD (gi y0 2).toNat []).getD 11 (0:Int))
 ((ue.getD (gi y0 2).toNat []).getD 12 (0:Int))
noncomputable def xeb (s_from:Int) (ug uf ue ui:List (List Int)) (y0:List U):Int :=
 xep ((ue.getD (gi y0 2).toNat []).getD 0 (0:Int)) ((ue.getD (gi y0 2).toNat []).getD 1 (0:Int))
 ((ue.getD (gi y0 2).toNat []).getD 2 (0:Int)) ((ue.getD (gi y0 2).toNat []).getD 3 (0:Int))
 ((ue.getD (gi y0 2).toNat []).getD 4 (0:Int)) ((ue.getD (gi y0 2).toNat []).getD 5 (0:Int))
 ((ue.getD (gi y0 2).toNat []).getD 6 (0:Int)) ((ue.getD (gi y0 2).toNat []).getD 7 (0:Int))
 ((ue.getD (gi y0 2).toNat []).getD 8 (0:Int)) ((ue.getD (gi y0 2).toNat []).getD 9 (0:Int))
 ((ue.getD (gi y0 2).toNat []).getD 10 (0:Int)) ((ue.getD (gi y0 2).toNat []).getD 11 (0:Int))
 ((ue.getD (gi y0 2).toNat []).getD 12 (0:Int))
noncomputable def xea (s_from:Int) (ug uf ue ui:List (List Int)) (y0:List U):Int :=
 xeo ((ue.getD (gi y0 2).toNat []).getD 0 (0:Int)) ((ue.getD (gi y0 2).toNat []).getD 1 (0:Int))
 ((ue.getD (gi y0 2).toNat []).getD 2 (0:Int)) ((ue.getD (gi y0 2).toNat []).getD 3 (0:Int))
 ((ue.getD (gi y0 2).toNat []).getD 4 (0:Int)) ((ue.getD (gi y0 2).toNat []).getD 5 (0:Int))
 ((ue.getD (gi y0 2).toNat []).getD 6 (0:Int)) ((ue.getD (gi y0 2).toNat []).getD 7 (0:Int))
 ((ue.getD (gi y0 2).toNat []).getD 8 (0:Int)) ((ue.getD (gi y0 2).toNat []).getD 9 (0:Int))
 ((ue.getD (gi y0 2).toNat []).getD 10 (0:Int)) ((ue.getD (gi y0 2).toNat []).getD 11 (0:Int))
 ((ue.getD (gi y0 2).toNat []).getD 12 (0:Int))
noncomputable def xe6 (s_from:Int) (ug uf ue ui:List (List Int)):List U :=
 [.i ((0:Int)),.i (s_from),.i ((0:Int)),.r ([]++ug)]
noncomputable def xcs (s_from:Int) (ug uf ue ui:List (List Int)) (y0:List U):Option (Nat×List U) :=
 (bif decide (gi y0 2<(↑ue.length:Int)) then xaH (inR (gi y0 2) ue) (xaH (inR (gi y0 2) ue) (xaH (xfo (gi y0 1) ((ue.getD (gi y0 2).toNat []).getD 2 (0:Int)) (gr y0 3) uf) ((bif xgB (gi y0 1) ((ue.getD (gi y0 2).toNat []).getD 2 (0:Int)) (gr y0 3) uf !=(0:Int) then some (1,[.i (xgB (gi y0 1) ((ue.getD (gi y0 2).toNat []).getD 2 (0:Int)) (gr y0 3) uf)]) else xaH ((xa5 (xbY s_from ug uf ue ui y0) (xe5 s_from ug uf ue ui y0))) ((bif decide ((bif (xdd s_from ug uf ue ui y0).fst.beq 1 then gi (xdd s_from ug uf ue ui y0).snd 0 else (-1:Int))≥(0:Int)) then some (0,[.i (gi y0 0),.i ((ue.getD (gi y0 2).toNat []).getD 2 (0:Int)),.i (IntKind.i64.wrap (gi y0 2+(1:Int))),.r (xeY (gi y0 1) ((ue.getD (gi y0 2).toNat []).getD 2 (0:Int)) (gr y0 3) uf)]) else (bif (xfx s_from ug uf ue ui y0) !=(0:Int) then some (3,[.i ((xfx s_from ug uf ue ui y0))]) else xaH (xfO ((xed s_from ug uf ue ui y0)) ((xec s_from ug uf ue ui y0)) ((xeb s_from ug uf ue ui y0)) ((xea s_from ug uf ue ui y0))
 (xeY (gi y0 1) ((ue.getD (gi y0 2).toNat []).getD 2 (0:Int)) (gr y0 3) uf)) ((bif xjM ((xed s_from ug uf ue ui y0)) ((xec s_from ug uf ue ui y0)) ((xeb s_from ug uf ue ui y0)) ((xea s_from ug uf ue ui y0))
  (xeY (gi y0 1) ((ue.getD (gi y0 2).toNat []).getD 2 (0:Int)) (gr y0 3) uf) !=
 (0:Int) then some (4,[]) else some (0,[.i (gi y0 0),.i ((ue.getD (gi y0 2).toNat []).getD 2 (0:Int)),.i (IntKind.i64.wrap (gi y0 2+(1:Int))),.r (xjN ((xed s_from ug uf ue ui y0)) ((xec s_from ug uf ue ui y0)) ((xeb s_from ug uf ue ui y0)) ((xea s_from ug uf ue ui y0))
 (xeY (gi y0 1) ((ue.getD (gi y0 2).toNat []).getD 2 (0:Int)) (gr y0 3) uf))])))))))))) else some (6,[.i (gi y0 0),.i (gi y0 1),.i (gi y0 2),.r (gr y0 3)]))
noncomputable def xaU (s_from:Int) (ug uf ue ui:List (List Int)):Nat×List U:=xa6 (xcs s_from ug uf ue ui) (xe6 s_from ug uf ue ui)
noncomputable def xkm (s_from:Int) (ug uf ue ui:List (List Int)):List (List Int) :=
 bif (xaU s_from ug uf ue ui).fst.beq 1 then []
else bif (xaU s_from ug uf ue ui).fst.beq 3 then [] else bif (xaU s_from ug uf ue ui).fst.beq 4 then [] else gr (xaU s_from ug uf ue ui).snd 3
noncomputable def xbO (s_from:Int) (ug uf ue ui:List (List Int)):List (List Int) :=
 (xkm s_from ug uf ue ui)
noncomputable def xkl (s_from:Int) (ug uf ue ui:List (List Int)):Int :=
 bif (xaU s_from ug uf ue ui).fst.beq 1 then gi (xaU s_from ug uf ue ui).snd 0
else bif (xaU s_from ug uf ue ui).fst.beq 3 then gi (xaU s_from ug uf ue ui).snd 0 else bif (xaU s_from ug uf ue ui).fst.beq 4 then (18:Int) else (0:Int)
noncomputable def xbg (s_from:Int) (ug uf ue ui:List (List Int)):Int :=
 (xkl s_from ug uf ue ui)
def xbT (s_from:Int) (ug uf ue ui:List (List Int)):Prop :=
 ((((ug=[])→((True)∧(([]++ug=[])∧(True))))∧(xdo 32 (0+ug.length)))∧((xa5 (xcs s_from ug uf ue ui) (xe6 s_from ug uf ue ui))))
noncomputable def xjS (s_from most:Int) (ug uf ue:List (List Int)):Int :=
 bif xcr s_from ug uf ue==(1:Int)||decide (most<(0:Int))||decide (most>(3:Int)) then (1:Int)
else bif xcr s_from ug uf ue==(0:Int)&&decide ((↑ue.length:Int)>(12:Int)) then (2:Int) else xcr s_from ug uf ue
noncomputable def xbk (s_from most:Int) (ug uf ue:List (List Int)):Int :=
 (xjS s_from most ug uf ue)
def xcx (s_from most:Int) (ug uf ue:List (List Int)):Prop :=
 (xcw s_from ug uf ue)
end Go.Proofs.YthfjhbbpdhjklaaGreat
set_option maxRecDepth 100000
set_option linter.unusedVariables false
namespace Go.Proofs.YthfjhbbpdhjklaaGreat
open Go Go.Sy
end Go.Proofs.YthfjhbbpdhjklaaGreat
set_option maxRecDepth 100000
set_option linter.unusedVariables false
namespace Go.Proofs.YthfjhbbpdhjklaaGreat
open Go Go.Sy
noncomputable def K0:Con:=Con.none
theorem xIM:xaT Tryz.prog K0:=xk9 _
theorem xus (vN vM:Int):xai Tryz.prog 0 (xaP Tryz.prog K0 xbs 9 173 [.agg [.int .i64 vN,.int .i64 vM]] ⟨[],0⟩)=some ⟨none,[],0,[],.bool (xaM vN vM)⟩:=by kernel_rfl
noncomputable def xny:List U→Option Eff
 | [.i vN,.i vM]=>some ⟨none,[],0,[],.bool (xaM vN vM)⟩
 | _=>Option.none
noncomputable def K1:Con:=ext Tryz.prog K0 173 [.agg [.int .i64 0,.int .i64 0]] [] xny
theorem xIL:xaT Tryz.prog K1:=xah xav xIM (n:=9) rfl rfl fun us x h=>by
 unfold xny at h
 split at h
 ·cases h; exact ⟨none,xus _ _,fun _=>trivial⟩
 ·cases h
theorem xpt (a b:Int):xai Tryz.prog 0 (xaP Tryz.prog K1 xbs 9 174 [.int .i64 a,.int .i64 b] ⟨[],0⟩)=some ⟨none,[],0,[],.tup [.int .i64 (xdK a b),.int .i64 (xdJ a b)]⟩:=by kernel_rfl
noncomputable def xkD:List U→Option Eff
 | [.i a,.i b]=>some ⟨none,[],0,[],.tup [.int .i64 (xdK a b),.int .i64 (xdJ a b)]⟩
 | _=>Option.none
noncomputable def K2:Con:=ext Tryz.prog K1 174 [.int .i64 0,.int .i64 0] [] xkD
theorem xIK:xaT Tryz.prog K2:=xah xav xIL (n:=9) rfl rfl fun us x h=>by
 unfold xkD at h
 split at h
 ·cases h; exact ⟨none,xpt _ _,fun _=>trivial⟩
 ·cases h
theorem xvK (vN vM vP vO:Int):xai Tryz.prog 0 (xaP Tryz.prog K2 xbs 9 164 [.agg [.int .i64 vN,.int .i64 vM],.agg [.int .i64 vP,.int .i64 vO]] ⟨[],0⟩)=some ⟨none,[],0,[],.tup [.agg [.int .i64 (xdj vN vM vP vO),.int .i64 (xdi vN vM vP vO)],.int .i64 (xbc vN vM vP vO)]⟩:=by kernel_rfl
noncomputable def xos:List U→Option Eff
 | [.i vN,.i vM,.i vP,.i vO]=>some ⟨none,[],0,[],.tup [.agg [.int .i64 (xdj vN vM vP vO),.int .i64 (xdi vN vM vP vO)],.int .i64 (xbc vN vM vP vO)]⟩
 | _=>Option.none
noncomputable def K3:Con:=ext Tryz.prog K2 164 [.agg [.int .i64 0,.int .i64 0],.agg [.int .i64 0,.int .i64 0]] [] xos
theorem xIJ:xaT Tryz.prog K3:=xah xav xIK (n:=9) rfl rfl fun us x h=>by
 unfold xos at h
 split at h
 ·cases h; exact ⟨none,xvK _ _ _ _,fun _=>trivial⟩
 ·cases h
theorem xvL (vN vM vP vO:Int):xai Tryz.prog 0 (xaP Tryz.prog K3 xbs 9 120 [.agg [.int .i64 vN,.int .i64 vM],.agg [.int .i64 vP,.int .i64 vO]] ⟨[],0⟩)=some ⟨none,[],0,[],.tup [.agg [.int .i64 (xcL vN vM vP vO),.int .i64 (xcK vN vM vP vO)],.int .i64 (xaL vN vM vP vO)]⟩:=by kernel_rfl
noncomputable def xot:List U→Option Eff
 | [.i vN,.i vM,.i vP,.i vO]=>some ⟨none,[],0,[],.tup [.agg [.int .i64 (xcL vN vM vP vO),.int .i64 (xcK vN vM vP vO)],.int .i64 (xaL vN vM vP vO)]⟩
 | _=>Option.none
noncomputable def K4:Con:=ext Tryz.prog K3 120 [.agg [.int .i64 0,.int .i64 0],.agg [.int .i64 0,.int .i64 0]] [] xot
theorem xII:xaT Tryz.prog K4:=xah xav xIJ (n:=9) rfl rfl fun us x h=>by
 unfold xot at h
 split at h
 ·cases h; exact ⟨none,xvL _ _ _ _,fun _=>trivial⟩
 ·cases h
theorem xry (vN vM vP vO:Int):xai Tryz.prog 0 (xaP Tryz.prog K4 xbs 9 131 [.agg [.int .i64 vN,.int .i64 vM],.agg [.int .i64 vP,.int .i64 vO]] ⟨[],0⟩)=some ⟨none,[],0,[],.tup [.bool (xbi vN vM vP vO),.int .i64 (xbG vN vM vP vO)]⟩:=by kernel_rfl
noncomputable def xl7:List U→Option Eff
 | [.i vN,.i vM,.i vP,.i vO]=>some ⟨none,[],0,[],.tup [.bool (xbi vN vM vP vO),.int .i64 (xbG vN vM vP vO)]⟩
 | _=>Option.none
noncomputable def K5:Con:=ext Tryz.prog K4 131 [.agg [.int .i64 0,.int .i64 0],.agg [.int .i64 0,.int .i64 0]] [] xl7
theorem xIH:xaT Tryz.prog K5:=xah xav xII (n:=9) rfl rfl fun us x h=>by
 unfold xl7 at h
 split at h
 ·cases h; exact ⟨none,xry _ _ _ _,fun _=>trivial⟩
 ·cases h
theorem xpu (uN uM uQ uP:Int):xai Tryz.prog 0 (xaP Tryz.prog K5 xbs 9 63 [.agg [.int .i64 uN,.int .i64 uM,.int .i64 uQ,.int .i64 uP]] ⟨[],0⟩)=some ⟨none,[],0,[],.bool (xab uN uM uQ uP)⟩:=by kernel_rfl
noncomputable def xkE:List U→Option Eff
 | [.i uN,.i uM,.i uQ,.i uP]=>some ⟨none,[],0,[],.bool (xab uN uM uQ uP)⟩
 | _=>Option.none
noncomputable def K6:Con:=ext Tryz.prog K5 63 [.agg [.int .i64 0,.int .i64 0,.int .i64 0,.int .i64 0]] [] xkE
theorem xIG:xaT Tryz.prog K6:=xah xav xIH (n:=9) rfl rfl fun us x h=>by
 unfold xkE at h
 split at h
 ·cases h; exact ⟨none,xpu _ _ _ _,fun _=>trivial⟩
 ·cases h
theorem xut (vr vt uN uM uQ uP:Int):xai Tryz.prog 0 (xaP Tryz.prog K6 xbs 9 64 [.agg [.int .i64 vr,.int .i64 vt],.agg [.int .i64 uN,.int .i64 uM,.int .i64 uQ,.int .i64 uP]] ⟨[],0⟩)=some ⟨none,[],0,[],.tup [.bool (xcg vr vt uN uM uQ uP),.int .i64 (xqh vr vt uN uM uQ uP)]⟩:=by kernel_rfl
noncomputable def xnz:List U→Option Eff
 | [.i vr,.i vt,.i uN,.i uM,.i uQ,.i uP]=>some ⟨none,[],0,[],.tup [.bool (xcg vr vt uN uM uQ uP),.int .i64 (xqh vr vt uN uM uQ uP)]⟩
 | _=>Option.none
noncomputable def K7:Con:=ext Tryz.prog K6 64 [.agg [.int .i64 0,.int .i64 0],.agg [.int .i64 0,.int .i64 0,.int .i64 0,.int .i64 0]] [] xnz
theorem xIF:xaT Tryz.prog K7:=xah xav xIG (n:=9) rfl rfl fun us x h=>by
 unfold xnz at h
 split at h
 ·cases h; exact ⟨none,xut _ _ _ _ _ _,fun _=>trivial⟩
 ·cases h
theorem xqO (uH uG uK uJ uN uM uQ uP:Int):xai Tryz.prog 0 (xaP Tryz.prog K7 xbs 9 172 [.agg [.int .i64 uH,.int .i64 uG,.int .i64 uK,.int .i64 uJ],.agg [.int .i64 uN,.int .i64 uM,.int .i64 uQ,.int .i64 uP]] ⟨[],0⟩)=some ⟨none,[],0,[],.tup [.agg [.int .i64 (xem uH uG uK uJ uN uM uQ uP),.int .i64 (xfi uH uG uK uJ uN uM uQ uP),.int .i64 (xfh uH uG uK uJ uN uM uQ uP),.int .i64 (xfg uH uG uK uJ uN uM uQ uP)],.int .i64 (xff uH uG uK uJ uN uM uQ uP)]⟩:=by kernel_rfl
noncomputable def xlL:List U→Option Eff
 | [.i uH,.i uG,.i uK,.i uJ,.i uN,.i uM,.i uQ,.i uP]=>some ⟨none,[],0,[],.tup [.agg [.int .i64 (xem uH uG uK uJ uN uM uQ uP),.int .i64 (xfi uH uG uK uJ uN uM uQ uP),.int .i64 (xfh uH uG uK uJ uN uM uQ uP),.int .i64 (xfg uH uG uK uJ uN uM uQ uP)],.int .i64 (xff uH uG uK uJ uN uM uQ uP)]⟩
 | _=>Option.none
noncomputable def K8:Con:=ext Tryz.prog K7 172 [.agg [.int .i64 0,.int .i64 0,.int .i64 0,.int .i64 0],.agg [.int .i64 0,.int .i64 0,.int .i64 0,.int .i64 0]] [] xlL
theorem xIE:xaT Tryz.prog K8:=xah xav xIF (n:=9) rfl rfl fun us x h=>by
 unfold xlL at h
 split at h
 ·cases h; exact ⟨none,xqO _ _ _ _ _ _ _ _,fun _=>trivial⟩
 ·cases h
theorem xqP (uH uG uK uJ uN uM uQ uP:Int):xai Tryz.prog 0 (xaP Tryz.prog K8 xbs 9 57 [.agg [.int .i64 uH,.int .i64 uG,.int .i64 uK,.int .i64 uJ],.agg [.int .i64 uN,.int .i64 uM,.int .i64 uQ,.int .i64 uP]] ⟨[],0⟩)=some ⟨none,[],0,[],.tup [.agg [.int .i64 (xf0 uH uG uK uJ uN uM uQ uP),.int .i64 (xfZ uH uG uK uJ uN uM uQ uP),.int .i64 (xfY uH uG uK uJ uN uM uQ uP),.int .i64 (xfX uH uG uK uJ uN uM uQ uP)],.int .i64 (xfj uH uG uK uJ uN uM uQ uP)]⟩:=by kernel_rfl
noncomputable def xlM:List U→Option Eff
 | [.i uH,.i uG,.i uK,.i uJ,.i uN,.i uM,.i uQ,.i uP]=>some ⟨none,[],0,[],.tup [.agg [.int .i64 (xf0 uH uG uK uJ uN uM uQ uP),.int .i64 (xfZ uH uG uK uJ uN uM uQ uP),.int .i64 (xfY uH uG uK uJ uN uM uQ uP),.int .i64 (xfX uH uG uK uJ uN uM uQ uP)],.int .i64 (xfj uH uG uK uJ uN uM uQ uP)]⟩
 | _=>Option.none
noncomputable def K9:Con:=ext Tryz.prog K8 57 [.agg [.int .i64 0,.int .i64 0,.int .i64 0,.int .i64 0],.agg [.int .i64 0,.int .i64 0,.int .i64 0,.int .i64 0]] [] xlM
theorem xID:xaT Tryz.prog K9:=xah xav xIE (n:=9) rfl rfl fun us x h=>by
 unfold xlM at h
 split at h
 ·cases h; exact ⟨none,xqP _ _ _ _ _ _ _ _,fun _=>trivial⟩
 ·cases h
noncomputable def K10:Con:=K9
theorem xHR:xaT Tryz.prog K10:=xID
theorem xtO (ua:List (List Int)):xai Tryz.prog 1 (xaP Tryz.prog K10 xbs 9 167 [.sl 0] ⟨[⟨0,1,false,.row 74 [.int .i64,.int .i64,.int .i64,.int .i64] ua⟩],1⟩)=some ⟨some (xc1 ua),[],0,[],.bool (xbX ua)⟩:=by kernel_rfl
noncomputable def xmU:List U→Option Eff
 | [.r ua]=>some ⟨some (xc1 ua),[],0,[],.bool (xbX ua)⟩
 | _=>Option.none
noncomputable def K11:Con:=ext Tryz.prog K10 167 [.sl 0] [⟨0,0,false,.row 74 [.int .i64,.int .i64,.int .i64,.int .i64] []⟩] xmU
theorem xHQ:xaT Tryz.prog K11:=xah xav xHR (n:=9) rfl rfl fun us x h=>by
 unfold xmU at h
 split at h
 ·cases h; exact ⟨some (xc1 _),xtO _,fun h=>h⟩
 ·cases h
theorem xo6 (ua:List (List Int)):xai Tryz.prog 1 (xaP Tryz.prog K11 xbs 9 158 [.sl 0] ⟨[⟨0,1,false,.row 213 [.int .i64,.int .i64,.int .i64,.int .i64,.int .i64,.int .i64] ua⟩],1⟩)=some ⟨some (xdb ua),[],0,[],.bool (xbf ua)⟩:=by kernel_rfl
noncomputable def xkk:List U→Option Eff
 | [.r ua]=>some ⟨some (xdb ua),[],0,[],.bool (xbf ua)⟩
 | _=>Option.none
noncomputable def K12:Con:=ext Tryz.prog K11 158 [.sl 0] [⟨0,0,false,.row 213 [.int .i64,.int .i64,.int .i64,.int .i64,.int .i64,.int .i64] []⟩] xkk
theorem xHP:xaT Tryz.prog K12:=xah xav xHQ (n:=9) rfl rfl fun us x h=>by
 unfold xkk at h
 split at h
 ·cases h; exact ⟨some (xdb _),xo6 _,fun h=>h⟩
 ·cases h
theorem xwL (from_ um:Int) (uc:List (List Int)):xai Tryz.prog 1 (xaP Tryz.prog K12 xbs 9 109 [.sl 0,.int .i64 from_,.int .i64 um] ⟨[⟨0,1,false,.row 213 [.int .i64,.int .i64,.int .i64,.int .i64,.int .i64,.int .i64] uc⟩],1⟩)=some ⟨some (xe4 from_ um uc),[],0,[],.tup [.agg [.int .i64 (xb3 from_ um uc),.int .i64 (xb2 from_ um uc)],.agg [.int .i64 (xb1 from_ um uc),.int .i64 (xb0 from_ um uc)],.int .i64 (xdP from_ um uc)]⟩:=by kernel_rfl
noncomputable def xo4:List U→Option Eff
 | [.i from_,.i um,.r uc]=>some ⟨some (xe4 from_ um uc),[],0,[],.tup [.agg [.int .i64 (xb3 from_ um uc),.int .i64 (xb2 from_ um uc)],.agg [.int .i64 (xb1 from_ um uc),.int .i64 (xb0 from_ um uc)],.int .i64 (xdP from_ um uc)]⟩
 | _=>Option.none
noncomputable def K13:Con:=ext Tryz.prog K12 109 [.sl 0,.int .i64 0,.int .i64 0] [⟨0,0,false,.row 213 [.int .i64,.int .i64,.int .i64,.int .i64,.int .i64,.int .i64] []⟩] xo4
theorem xHO:xaT Tryz.prog K13:=xah xav xHP (n:=9) rfl rfl fun us x h=>by
 unfold xo4 at h
 split at h
 ·cases h; exact ⟨some (xe4 _ _ _),xwL _ _ _,fun h=>h⟩
 ·cases h
theorem xtN (vr vt:Int):xai Tryz.prog 0 (xaP Tryz.prog K13 xbs 9 108 [.agg [.int .i64 vr,.int .i64 vt]] ⟨[],0⟩)=some ⟨none,[],0,[],.bool (xcq vr vt)⟩:=by kernel_rfl
noncomputable def xmT:List U→Option Eff
 | [.i vr,.i vt]=>some ⟨none,[],0,[],.bool (xcq vr vt)⟩
 | _=>Option.none
noncomputable def K14:Con:=ext Tryz.prog K13 108 [.agg [.int .i64 0,.int .i64 0]] [] xmT
theorem xHN:xaT Tryz.prog K14:=xah xav xHO (n:=9) rfl rfl fun us x h=>by
 unfold xmT at h
 split at h
 ·cases h; exact ⟨none,xtN _ _,fun _=>trivial⟩
 ·cases h
theorem xra (from_ um vr vt vu vx:Int) (uc:List (List Int)):xai Tryz.prog 1 (xaP Tryz.prog K14 xbs 9 52 [.sl 0,.int .i64 from_,.int .i64 um,.agg [.int .i64 vr,.int .i64 vt],.agg [.int .i64 vu,.int .i64 vx]] ⟨[⟨0,1,false,.row 213 [.int .i64,.int .i64,.int .i64,.int .i64,.int .i64,.int .i64] uc⟩],1⟩)=some ⟨some (xcA from_ um vr vt vu vx uc),[],0,[],.tup [.bool (xex from_ um vr vt vu vx uc),.int .i64 (xfp from_ um vr vt vu vx uc)]⟩:=by kernel_rfl
noncomputable def xlW:List U→Option Eff
 | [.i from_,.i um,.i vr,.i vt,.i vu,.i vx,.r uc]=>some ⟨some (xcA from_ um vr vt vu vx uc),[],0,[],.tup [.bool (xex from_ um vr vt vu vx uc),.int .i64 (xfp from_ um vr vt vu vx uc)]⟩
 | _=>Option.none
noncomputable def K15:Con:=ext Tryz.prog K14 52 [.sl 0,.int .i64 0,.int .i64 0,.agg [.int .i64 0,.int .i64 0],.agg [.int .i64 0,.int .i64 0]] [⟨0,0,false,.row 213 [.int .i64,.int .i64,.int .i64,.int .i64,.int .i64,.int .i64] []⟩] xlW
theorem xHM:xaT Tryz.prog K15:=xah xav xHN (n:=9) rfl rfl fun us x h=>by
 unfold xlW at h
 split at h
 ·cases h; exact ⟨some (xcA _ _ _ _ _ _ _),xra _ _ _ _ _ _ _,fun h=>h⟩
 ·cases h
theorem xuO (from_ um:Int) (ua uc:List (List Int)):xai Tryz.prog 2 (xaP Tryz.prog K15 xbs 9 116 [.sl 0,.sl 1,.int .i64 from_,.int .i64 um] ⟨[⟨0,2,false,.row 74 [.int .i64,.int .i64,.int .i64,.int .i64] ua⟩,⟨1,2,false,.row 213 [.int .i64,.int .i64,.int .i64,.int .i64,.int .i64,.int .i64] uc⟩],2⟩)=some ⟨some (xfo from_ um ua uc),[],1,[⟨2,2,true,.row 74 [.int .i64,.int .i64,.int .i64,.int .i64] (xeY from_ um ua uc)⟩],.tup [.sl 2,.int .i64 (xgB from_ um ua uc)]⟩:=by kernel_rfl
noncomputable def xnT:List U→Option Eff
 | [.i from_,.i um,.r ua,.r uc]=>some ⟨some (xfo from_ um ua uc),[],1,[⟨2,2,true,.row 74 [.int .i64,.int .i64,.int .i64,.int .i64] (xeY from_ um ua uc)⟩],.tup [.sl 2,.int .i64 (xgB from_ um ua uc)]⟩
 | _=>Option.none
noncomputable def K16:Con:=ext Tryz.prog K15 116 [.sl 0,.sl 1,.int .i64 0,.int .i64 0] [⟨0,0,false,.row 74 [.int .i64,.int .i64,.int .i64,.int .i64] []⟩,⟨1,0,false,.row 213 [.int .i64,.int .i64,.int .i64,.int .i64,.int .i64,.int .i64] []⟩] xnT
theorem xHL:xaT Tryz.prog K16:=xah xav xHM (n:=9) rfl rfl fun us x h=>by
 unfold xnT at h
 split at h
 ·cases h; exact ⟨some (xfo _ _ _ _),xuO _ _ _ _,fun h=>h⟩
 ·cases h
noncomputable def K17:Con:=K16
theorem xHK:xaT Tryz.prog K17:=xHL
theorem xwM (uN uM uQ uP:Int) (ua:List (List Int)):xai Tryz.prog 1 (xaP Tryz.prog K17 xbs 9 118 [.sl 0,.agg [.int .i64 uN,.int .i64 uM,.int .i64 uQ,.int .i64 uP]] ⟨[⟨0,1,false,.row 74 [.int .i64,.int .i64,.int .i64,.int .i64] ua⟩],1⟩)=some ⟨some (xfO uN uM uQ uP ua),[],1,[⟨1,1,true,.row 74 [.int .i64,.int .i64,.int .i64,.int .i64] (xjN uN uM uQ uP ua)⟩],.tup [.sl 1,.int .i64 (xjM uN uM uQ uP ua)]⟩:=by kernel_rfl
noncomputable def xo5:List U→Option Eff
 | [.i uN,.i uM,.i uQ,.i uP,.r ua]=>some ⟨some (xfO uN uM uQ uP ua),[],1,[⟨1,1,true,.row 74 [.int .i64,.int .i64,.int .i64,.int .i64] (xjN uN uM uQ uP ua)⟩],.tup [.sl 1,.int .i64 (xjM uN uM uQ uP ua)]⟩
 | _=>Option.none
noncomputable def K18:Con:=ext Tryz.prog K17 118 [.sl 0,.agg [.int .i64 0,.int .i64 0,.int .i64 0,.int .i64 0]] [⟨0,0,false,.row 74 [.int .i64,.int .i64,.int .i64,.int .i64] []⟩] xo5
theorem xHJ:xaT Tryz.prog K18:=xah xav xHK (n:=9) rfl rfl fun us x h=>by
 unfold xo5 at h
 split at h
 ·cases h; exact ⟨some (xfO _ _ _ _ _),xwM _ _ _ _ _,fun h=>h⟩
 ·cases h
end Go.Proofs.YthfjhbbpdhjklaaGreat
set_option maxRecDepth 100000
set_option linter.unusedVariables false
namespace Go.Proofs.YthfjhbbpdhjklaaGreat
open Go Go.Sy
noncomputable def K19:Con:=K18
theorem xHI:xaT Tryz.prog K19:=xHJ
theorem xrM (vr vt:Int):xai Tryz.prog 0 (xaP Tryz.prog K19 xbs 9 66 [.agg [.int .i64 vr,.int .i64 vt]] ⟨[],0⟩)=some ⟨none,[],0,[],.bool (xaG vr vt)⟩:=by kernel_rfl
noncomputable def xms:List U→Option Eff
 | [.i vr,.i vt]=>some ⟨none,[],0,[],.bool (xaG vr vt)⟩
 | _=>Option.none
noncomputable def K20:Con:=ext Tryz.prog K19 66 [.agg [.int .i64 0,.int .i64 0]] [] xms
theorem xHH:xaT Tryz.prog K20:=xah xav xHI (n:=9) rfl rfl fun us x h=>by
 unfold xms at h
 split at h
 ·cases h; exact ⟨none,xrM _ _,fun _=>trivial⟩
 ·cases h
theorem xvJ (vN vM:Int):xai Tryz.prog 0 (xaP Tryz.prog K20 xbs 9 215 [.agg [.int .i64 vN,.int .i64 vM]] ⟨[],0⟩)=some ⟨none,[],0,[],.tup [.agg [.int .i64 (xlh vN vM),.int .i64 (xlg vN vM)],.int .i64 (xlf vN vM)]⟩:=by kernel_rfl
noncomputable def xoq:List U→Option Eff
 | [.i vN,.i vM]=>some ⟨none,[],0,[],.tup [.agg [.int .i64 (xlh vN vM),.int .i64 (xlg vN vM)],.int .i64 (xlf vN vM)]⟩
 | _=>Option.none
noncomputable def K21:Con:=ext Tryz.prog K20 215 [.agg [.int .i64 0,.int .i64 0]] [] xoq
theorem xHG:xaT Tryz.prog K21:=xah xav xHH (n:=9) rfl rfl fun us x h=>by
 unfold xoq at h
 split at h
 ·cases h; exact ⟨none,xvJ _ _,fun _=>trivial⟩
 ·cases h
theorem xw8 (vN vM vP vO:Int):xai Tryz.prog 0 (xaP Tryz.prog K21 xbs 9 163 [.agg [.int .i64 vN,.int .i64 vM],.agg [.int .i64 vP,.int .i64 vO]] ⟨[],0⟩)=some ⟨none,[],0,[],.tup [.agg [.int .i64 (xdX vN vM vP vO),.int .i64 (xdW vN vM vP vO)],.int .i64 (xi9 vN vM vP vO)]⟩:=by kernel_rfl
noncomputable def xqg:List U→Option Eff
 | [.i vN,.i vM,.i vP,.i vO]=>some ⟨none,[],0,[],.tup [.agg [.int .i64 (xdX vN vM vP vO),.int .i64 (xdW vN vM vP vO)],.int .i64 (xi9 vN vM vP vO)]⟩
 | _=>Option.none
noncomputable def K22:Con:=ext Tryz.prog K21 163 [.agg [.int .i64 0,.int .i64 0],.agg [.int .i64 0,.int .i64 0]] [] xqg
theorem xHF:xaT Tryz.prog K22:=xah xav xHG (n:=9) rfl rfl fun us x h=>by
 unfold xqg at h
 split at h
 ·cases h; exact ⟨none,xw8 _ _ _ _,fun _=>trivial⟩
 ·cases h
theorem xpy (n:Int):xai Tryz.prog 0 (xaP Tryz.prog K22 xbs 9 160 [.int .i64 n] ⟨[],0⟩)=some ⟨none,[],0,[],.bool (xeH n)⟩:=by kernel_rfl
noncomputable def xkI:List U→Option Eff
 | [.i n]=>some ⟨none,[],0,[],.bool (xeH n)⟩
 | _=>Option.none
noncomputable def K23:Con:=ext Tryz.prog K22 160 [.int .i64 0] [] xkI
theorem xHE:xaT Tryz.prog K23:=xah xav xHF (n:=9) rfl rfl fun us x h=>by
 unfold xkI at h
 split at h
 ·cases h; exact ⟨none,xpy _,fun _=>trivial⟩
 ·cases h
theorem xkJ (vr vt:Int):xai Tryz.prog 0 (xaP Tryz.prog K23 xbs 9 161 [.agg [.int .i64 vr,.int .i64 vt]] ⟨[],0⟩)=some ⟨none,[],0,[],.bool (xcF vr vt)⟩:=by kernel_rfl
noncomputable def xgt:List U→Option Eff
 | [.i vr,.i vt]=>some ⟨none,[],0,[],.bool (xcF vr vt)⟩
 | _=>Option.none
noncomputable def K24:Con:=ext Tryz.prog K23 161 [.agg [.int .i64 0,.int .i64 0]] [] xgt
theorem xHD:xaT Tryz.prog K24:=xah xav xHE (n:=9) rfl rfl fun us x h=>by
 unfold xgt at h
 split at h
 ·cases h; exact ⟨none,xkJ _ _,fun _=>trivial⟩
 ·cases h
theorem xox (v_X v_Y w_X w_Y:Int):xai Tryz.prog 0 (xaP Tryz.prog K24 xbs 9 162 [.agg [.int .i64 v_X,.int .i64 v_Y],.agg [.int .i64 w_X,.int .i64 w_Y]] ⟨[],0⟩)=some ⟨none,[],0,[],.int .i64 (xbd v_X v_Y w_X w_Y)⟩:=by kernel_rfl
noncomputable def xj6:List U→Option Eff
 | [.i v_X,.i v_Y,.i w_X,.i w_Y]=>some ⟨none,[],0,[],.int .i64 (xbd v_X v_Y w_X w_Y)⟩
 | _=>Option.none
noncomputable def K25:Con:=ext Tryz.prog K24 162 [.agg [.int .i64 0,.int .i64 0],.agg [.int .i64 0,.int .i64 0]] [] xj6
theorem xHC:xaT Tryz.prog K25:=xah xav xHD (n:=9) rfl rfl fun us x h=>by
 unfold xj6 at h
 split at h
 ·cases h; exact ⟨none,xox _ _ _ _,fun _=>trivial⟩
 ·cases h
theorem xoy (vI vH vJ vC vz vy vB vA vE vG vK vL vD:Int):xai Tryz.prog 0 (xaP Tryz.prog K25 xbs 9 110 [.agg [.int .i64 vI,.int .i64 vH,.int .i64 vJ,.int .i64 vC,.int .i64 vz,.int .i64 vy,.int .i64 vB,.int .i64 vA,.int .i64 vE,.int .i64 vG,.int .i64 vK,.int .i64 vL,.int .i64 vD]] ⟨[],0⟩)=some ⟨none,[],0,[],.bool (xbe vI vH vJ vC vz vy vB vA vE vG vK vL vD)⟩:=by kernel_rfl
noncomputable def xj7:List U→Option Eff
 | [.i vI,.i vH,.i vJ,.i vC,.i vz,.i vy,.i vB,.i vA,.i vE,.i vG,.i vK,.i vL,.i vD]=>some ⟨none,[],0,[],.bool (xbe vI vH vJ vC vz vy vB vA vE vG vK vL vD)⟩
 | _=>Option.none
noncomputable def K26:Con:=ext Tryz.prog K25 110 [.agg [.int .i64 0,.int .i64 0,.int .i64 0,.int .i64 0,.int .i64 0,.int .i64 0,.int .i64 0,.int .i64 0,.int .i64 0,.int .i64 0,.int .i64 0,.int .i64 0,.int .i64 0]] [] xj7
theorem xHB:xaT Tryz.prog K26:=xah xav xHC (n:=9) rfl rfl fun us x h=>by
 unfold xj7 at h
 split at h
 ·cases h; exact ⟨none,xoy _ _ _ _ _ _ _ _ _ _ _ _ _,fun _=>trivial⟩
 ·cases h
theorem xov (vN vM from_ to_ far:Int):xai Tryz.prog 0 (xaP Tryz.prog K26 xbs 9 171 [.agg [.int .i64 vN,.int .i64 vM],.int .i64 from_,.int .i64 to_,.int .i64 far] ⟨[],0⟩)=some ⟨none,[],0,[],.agg [.int .i64 (xdZ vN vM from_ to_ far),.int .i64 (xdY vN vM from_ to_ far)]⟩:=by kernel_rfl
noncomputable def xj4:List U→Option Eff
 | [.i vN,.i vM,.i from_,.i to_,.i far]=>some ⟨none,[],0,[],.agg [.int .i64 (xdZ vN vM from_ to_ far),.int .i64 (xdY vN vM from_ to_ far)]⟩
 | _=>Option.none
noncomputable def K27:Con:=ext Tryz.prog K26 171 [.agg [.int .i64 0,.int .i64 0],.int .i64 0,.int .i64 0,.int .i64 0] [] xj4
theorem xHA:xaT Tryz.prog K27:=xah xav xHB (n:=9) rfl rfl fun us x h=>by
 unfold xj4 at h
 split at h
 ·cases h; exact ⟨none,xov _ _ _ _ _,fun _=>trivial⟩
 ·cases h
theorem xqR (vI vH vJ vC vz vy vB vA vE vG vK vL vD:Int):xai Tryz.prog 0 (xaP Tryz.prog K27 xbs 9 117 [.agg [.int .i64 vI,.int .i64 vH,.int .i64 vJ,.int .i64 vC,.int .i64 vz,.int .i64 vy,.int .i64 vB,.int .i64 vA,.int .i64 vE,.int .i64 vG,.int .i64 vK,.int .i64 vL,.int .i64 vD]] ⟨[],0⟩)=some ⟨none,[],0,[],.tup [.agg [.int .i64 (xer vI vH vJ vC vz vy vB vA vE vG vK vL vD),.int .i64 (xeq vI vH vJ vC vz vy vB vA vE vG vK vL vD),.int .i64 (xep vI vH vJ vC vz vy vB vA vE vG vK vL vD),.int .i64 (xeo vI vH vJ vC vz vy vB vA vE vG vK vL vD)],.int .i64 (xen vI vH vJ vC vz vy vB vA vE vG vK vL vD)]⟩:=by kernel_rfl
noncomputable def xlO:List U→Option Eff
 | [.i vI,.i vH,.i vJ,.i vC,.i vz,.i vy,.i vB,.i vA,.i vE,.i vG,.i vK,.i vL,.i vD]=>some ⟨none,[],0,[],.tup [.agg [.int .i64 (xer vI vH vJ vC vz vy vB vA vE vG vK vL vD),.int .i64 (xeq vI vH vJ vC vz vy vB vA vE vG vK vL vD),.int .i64 (xep vI vH vJ vC vz vy vB vA vE vG vK vL vD),.int .i64 (xeo vI vH vJ vC vz vy vB vA vE vG vK vL vD)],.int .i64 (xen vI vH vJ vC vz vy vB vA vE vG vK vL vD)]⟩
 | _=>Option.none
noncomputable def K28:Con:=ext Tryz.prog K27 117 [.agg [.int .i64 0,.int .i64 0,.int .i64 0,.int .i64 0,.int .i64 0,.int .i64 0,.int .i64 0,.int .i64 0,.int .i64 0,.int .i64 0,.int .i64 0,.int .i64 0,.int .i64 0]] [] xlO
theorem xHz:xaT Tryz.prog K28:=xah xav xHA (n:=9) rfl rfl fun us x h=>by
 unfold xlO at h
 split at h
 ·cases h; exact ⟨none,xqR _ _ _ _ _ _ _ _ _ _ _ _ _,fun _=>trivial⟩
 ·cases h
theorem xow (vN vM from_ to_:Int):xai Tryz.prog 0 (xaP Tryz.prog K28 xbs 9 216 [.agg [.int .i64 vN,.int .i64 vM],.int .i64 from_,.int .i64 to_] ⟨[],0⟩)=some ⟨none,[],0,[],.bool (xfc vN vM from_ to_)⟩:=by kernel_rfl
noncomputable def xj5:List U→Option Eff
 | [.i vN,.i vM,.i from_,.i to_]=>some ⟨none,[],0,[],.bool (xfc vN vM from_ to_)⟩
 | _=>Option.none
noncomputable def K29:Con:=ext Tryz.prog K28 216 [.agg [.int .i64 0,.int .i64 0],.int .i64 0,.int .i64 0] [] xj5
theorem xHy:xaT Tryz.prog K29:=xah xav xHz (n:=9) rfl rfl fun us x h=>by
 unfold xj5 at h
 split at h
 ·cases h; exact ⟨none,xow _ _ _ _,fun _=>trivial⟩
 ·cases h
theorem xlk (c_from_X c_from_Y c_to_X c_to_Y uN uM uQ uP:Int):xai Tryz.prog 0 (xaP Tryz.prog K29 xbs 9 165 [.agg [.int .i64 c_from_X,.int .i64 c_from_Y,.int .i64 c_to_X,.int .i64 c_to_Y],.agg [.int .i64 uN,.int .i64 uM,.int .i64 uQ,.int .i64 uP]] ⟨[],0⟩)=some ⟨none,[],0,[],.bool (xcV c_from_X c_from_Y c_to_X c_to_Y uN uM uQ uP)⟩:=by kernel_rfl
noncomputable def xgG:List U→Option Eff
 | [.i c_from_X,.i c_from_Y,.i c_to_X,.i c_to_Y,.i uN,.i uM,.i uQ,.i uP]=>some ⟨none,[],0,[],.bool (xcV c_from_X c_from_Y c_to_X c_to_Y uN uM uQ uP)⟩
 | _=>Option.none
noncomputable def K30:Con:=ext Tryz.prog K29 165 [.agg [.int .i64 0,.int .i64 0,.int .i64 0,.int .i64 0],.agg [.int .i64 0,.int .i64 0,.int .i64 0,.int .i64 0]] [] xgG
theorem xHx:xaT Tryz.prog K30:=xah xav xHy (n:=9) rfl rfl fun us x h=>by
 unfold xgG at h
 split at h
 ·cases h; exact ⟨none,xlk _ _ _ _ _ _ _ _,fun _=>trivial⟩
 ·cases h
theorem xpx (vI vH vJ vC vz vy vB vA vE vG vK vL vD uN uM uQ uP:Int):xai Tryz.prog 0 (xaP Tryz.prog K30 xbs 9 111 [.agg [.int .i64 vI,.int .i64 vH,.int .i64 vJ,.int .i64 vC,.int .i64 vz,.int .i64 vy,.int .i64 vB,.int .i64 vA,.int .i64 vE,.int .i64 vG,.int .i64 vK,.int .i64 vL,.int .i64 vD],.agg [.int .i64 uN,.int .i64 uM,.int .i64 uQ,.int .i64 uP]] ⟨[],0⟩)=some ⟨none,[],0,[],.bool (xfA vI vH vJ vC vz vy vB vA vE vG vK vL vD uN uM uQ uP)⟩:=by kernel_rfl
noncomputable def xkH:List U→Option Eff
 | [.i vI,.i vH,.i vJ,.i vC,.i vz,.i vy,.i vB,.i vA,.i vE,.i vG,.i vK,.i vL,.i vD,.i uN,.i uM,.i uQ,.i uP]=>some ⟨none,[],0,[],.bool (xfA vI vH vJ vC vz vy vB vA vE vG vK vL vD uN uM uQ uP)⟩
 | _=>Option.none
noncomputable def K31:Con:=ext Tryz.prog K30 111 [.agg [.int .i64 0,.int .i64 0,.int .i64 0,.int .i64 0,.int .i64 0,.int .i64 0,.int .i64 0,.int .i64 0,.int .i64 0,.int .i64 0,.int .i64 0,.int .i64 0,.int .i64 0],.agg [.int .i64 0,.int .i64 0,.int .i64 0,.int .i64 0]] [] xkH
theorem xHw:xaT Tryz.prog K31:=xah xav xHx (n:=9) rfl rfl fun us x h=>by
 unfold xkH at h
 split at h
 ·cases h; exact ⟨none,xpx _ _ _ _ _ _ _ _ _ _ _ _ _ _ _ _ _,fun _=>trivial⟩
 ·cases h
theorem xn1 (vI vH vJ vC vz vy vB vA vE vG vK vL vD vr vt:Int):xai Tryz.prog 0 (xaP Tryz.prog K31 xbs 9 53 [.agg [.int .i64 vI,.int .i64 vH,.int .i64 vJ,.int .i64 vC,.int .i64 vz,.int .i64 vy,.int .i64 vB,.int .i64 vA,.int .i64 vE,.int .i64 vG,.int .i64 vK,.int .i64 vL,.int .i64 vD],.agg [.int .i64 vr,.int .i64 vt]] ⟨[],0⟩)=some ⟨none,[],0,[],.tup [.bool (xdG vI vH vJ vC vz vy vB vA vE vG vK vL vD vr vt),.int .i64 (xdF vI vH vJ vC vz vy vB vA vE vG vK vL vD vr vt)]⟩:=by kernel_rfl
noncomputable def xjw:List U→Option Eff
 | [.i vI,.i vH,.i vJ,.i vC,.i vz,.i vy,.i vB,.i vA,.i vE,.i vG,.i vK,.i vL,.i vD,.i vr,.i vt]=>some ⟨none,[],0,[],.tup [.bool (xdG vI vH vJ vC vz vy vB vA vE vG vK vL vD vr vt),.int .i64 (xdF vI vH vJ vC vz vy vB vA vE vG vK vL vD vr vt)]⟩
 | _=>Option.none
noncomputable def K32:Con:=ext Tryz.prog K31 53 [.agg [.int .i64 0,.int .i64 0,.int .i64 0,.int .i64 0,.int .i64 0,.int .i64 0,.int .i64 0,.int .i64 0,.int .i64 0,.int .i64 0,.int .i64 0,.int .i64 0,.int .i64 0],.agg [.int .i64 0,.int .i64 0]] [] xjw
theorem xHv:xaT Tryz.prog K32:=xah xav xHw (n:=9) rfl rfl fun us x h=>by
 unfold xjw at h
 split at h
 ·cases h; exact ⟨none,xn1 _ _ _ _ _ _ _ _ _ _ _ _ _ _ _,fun _=>trivial⟩
 ·cases h
theorem xou (ua:List (List Int)):xai Tryz.prog 1 (xaP Tryz.prog K32 xbs 9 220 [.sl 0] ⟨[⟨0,1,false,.row 81 [.int .i64,.int .i64,.int .i64,.int .i64,.int .i64,.int .i64,.int .i64,.int .i64,.int .i64,.int .i64,.int .i64,.int .i64,.int .i64] ua⟩],1⟩)=some ⟨some (xc5 ua),[],0,[],.bool (xaQ ua)⟩:=by kernel_rfl
noncomputable def xj3:List U→Option Eff
 | [.r ua]=>some ⟨some (xc5 ua),[],0,[],.bool (xaQ ua)⟩
 | _=>Option.none
noncomputable def K33:Con:=ext Tryz.prog K32 220 [.sl 0] [⟨0,0,false,.row 81 [.int .i64,.int .i64,.int .i64,.int .i64,.int .i64,.int .i64,.int .i64,.int .i64,.int .i64,.int .i64,.int .i64,.int .i64,.int .i64] []⟩] xj3
theorem xHu:xaT Tryz.prog K33:=xah xav xHv (n:=9) rfl rfl fun us x h=>by
 unfold xj3 at h
 split at h
 ·cases h; exact ⟨some (xc5 _),xou _,fun h=>h⟩
 ·cases h
theorem xoz (ua:List (List Int)):xai Tryz.prog 1 (xaP Tryz.prog K33 xbs 9 166 [.sl 0] ⟨[⟨0,1,false,.row 81 [.int .i64,.int .i64,.int .i64,.int .i64,.int .i64,.int .i64,.int .i64,.int .i64,.int .i64,.int .i64,.int .i64,.int .i64,.int .i64] ua⟩],1⟩)=some ⟨some (xc6 ua),[],2,[⟨1,1,true,.row 81 [.int .i64,.int .i64,.int .i64,.int .i64,.int .i64,.int .i64,.int .i64,.int .i64,.int .i64,.int .i64,.int .i64,.int .i64,.int .i64] (xbL ua)⟩,⟨2,1,true,.row 3 [.int .i64] (xge ua)⟩],.tup [.sl 1,.sl 2,.int .i64 (xcy ua)]⟩:=by kernel_rfl
noncomputable def xj8:List U→Option Eff
 | [.r ua]=>some ⟨some (xc6 ua),[],2,[⟨1,1,true,.row 81 [.int .i64,.int .i64,.int .i64,.int .i64,.int .i64,.int .i64,.int .i64,.int .i64,.int .i64,.int .i64,.int .i64,.int .i64,.int .i64] (xbL ua)⟩,⟨2,1,true,.row 3 [.int .i64] (xge ua)⟩],.tup [.sl 1,.sl 2,.int .i64 (xcy ua)]⟩
 | _=>Option.none
noncomputable def K34:Con:=ext Tryz.prog K33 166 [.sl 0] [⟨0,0,false,.row 81 [.int .i64,.int .i64,.int .i64,.int .i64,.int .i64,.int .i64,.int .i64,.int .i64,.int .i64,.int .i64,.int .i64,.int .i64,.int .i64] []⟩] xj8
theorem xHt:xaT Tryz.prog K34:=xah xav xHu (n:=9) rfl rfl fun us x h=>by
 unfold xj8 at h
 split at h
 ·cases h; exact ⟨some (xc6 _),xoz _,fun h=>h⟩
 ·cases h
theorem xnn (s:List (List Int)):xai Tryz.prog 1 (xaP Tryz.prog K34 xbs 9 168 [.sl 0] ⟨[⟨0,1,false,.row 3 [.int .i64] s⟩],1⟩)=some ⟨some (xcv s),[],1,[⟨1,1,true,.row 3 [.int .i64] (xc4 s)⟩],.sl 1⟩:=by kernel_rfl
noncomputable def xiQ:List U→Option Eff
 | [.r s]=>some ⟨some (xcv s),[],1,[⟨1,1,true,.row 3 [.int .i64] (xc4 s)⟩],.sl 1⟩
 | _=>Option.none
noncomputable def K35:Con:=ext Tryz.prog K34 168 [.sl 0] [⟨0,0,false,.row 3 [.int .i64] []⟩] xiQ
theorem xD3:xaT Tryz.prog K35:=xah xav xHt (n:=9) rfl rfl fun us x h=>by
 unfold xiQ at h
 split at h
 ·cases h; exact ⟨some (xcv _),xnn _,fun h=>h⟩
 ·cases h
end Go.Proofs.YthfjhbbpdhjklaaGreat
set_option maxRecDepth 100000
set_option linter.unusedVariables false
namespace Go.Proofs.YthfjhbbpdhjklaaGreat
open Go Go.Sy
theorem xns (s_from:Int) (ug uf ue:List (List Int)):xai Tryz.prog 3 (xaP Tryz.prog K35 xbs 9 112 [.agg [.sl 0,.sl 1,.int .i64 s_from,.sl 2]] ⟨[⟨0,3,false,.row 74 [.int .i64,.int .i64,.int .i64,.int .i64] ug⟩,⟨1,3,false,.row 213 [.int .i64,.int .i64,.int .i64,.int .i64,.int .i64,.int .i64] uf⟩,⟨2,3,false,.row 81 [.int .i64,.int .i64,.int .i64,.int .i64,.int .i64,.int .i64,.int .i64,.int .i64,.int .i64,.int .i64,.int .i64,.int .i64,.int .i64] ue⟩],3⟩)=some ⟨some (xcw s_from ug uf ue),[],0,[],.int .i64 (xcr s_from ug uf ue)⟩:=by kernel_rfl
noncomputable def xiV:List U→Option Eff
 | [.i s_from,.r ug,.r uf,.r ue]=>some ⟨some (xcw s_from ug uf ue),[],0,[],.int .i64 (xcr s_from ug uf ue)⟩
 | _=>Option.none
noncomputable def K36:Con:=ext Tryz.prog K35 112 [.agg [.sl 0,.sl 1,.int .i64 0,.sl 2]] [⟨0,0,false,.row 74 [.int .i64,.int .i64,.int .i64,.int .i64] []⟩,⟨1,0,false,.row 213 [.int .i64,.int .i64,.int .i64,.int .i64,.int .i64,.int .i64] []⟩,⟨2,0,false,.row 81 [.int .i64,.int .i64,.int .i64,.int .i64,.int .i64,.int .i64,.int .i64,.int .i64,.int .i64,.int .i64,.int .i64,.int .i64,.int .i64] []⟩] xiV
theorem xHs:xaT Tryz.prog K36:=xah xav xD3 (n:=9) rfl rfl fun us x h=>by
 unfold xiV at h
 split at h
 ·cases h; exact ⟨some (xcw _ _ _ _),xns _ _ _ _,fun h=>h⟩
 ·cases h
noncomputable def K37:Con:=K36
theorem xHr:xaT Tryz.prog K37:=xHs
theorem xog (s_from:Int) (ug uf ue ui:List (List Int)):xai Tryz.prog 4 (xaP Tryz.prog K37 xbs 9 56 [.agg [.sl 0,.sl 1,.int .i64 s_from,.sl 2],.sl 3] ⟨[⟨0,4,false,.row 74 [.int .i64,.int .i64,.int .i64,.int .i64] ug⟩,⟨1,4,false,.row 213 [.int .i64,.int .i64,.int .i64,.int .i64,.int .i64,.int .i64] uf⟩,⟨2,4,false,.row 81 [.int .i64,.int .i64,.int .i64,.int .i64,.int .i64,.int .i64,.int .i64,.int .i64,.int .i64,.int .i64,.int .i64,.int .i64,.int .i64] ue⟩,⟨3,4,false,.row 3 [.int .i64] ui⟩],4⟩)=some ⟨some (xbT s_from ug uf ue ui),[],1,[⟨4,4,true,.row 74 [.int .i64,.int .i64,.int .i64,.int .i64] (xbO s_from ug uf ue ui)⟩],.tup [.sl 4,.int .i64 (xbg s_from ug uf ue ui)]⟩:=by kernel_rfl
noncomputable def xjR:List U→Option Eff
 | [.i s_from,.r ug,.r uf,.r ue,.r ui]=>some ⟨some (xbT s_from ug uf ue ui),[],1,[⟨4,4,true,.row 74 [.int .i64,.int .i64,.int .i64,.int .i64] (xbO s_from ug uf ue ui)⟩],.tup [.sl 4,.int .i64 (xbg s_from ug uf ue ui)]⟩
 | _=>Option.none
noncomputable def K38:Con:=ext Tryz.prog K37 56 [.agg [.sl 0,.sl 1,.int .i64 0,.sl 2],.sl 3] [⟨0,0,false,.row 74 [.int .i64,.int .i64,.int .i64,.int .i64] []⟩,⟨1,0,false,.row 213 [.int .i64,.int .i64,.int .i64,.int .i64,.int .i64,.int .i64] []⟩,⟨2,0,false,.row 81 [.int .i64,.int .i64,.int .i64,.int .i64,.int .i64,.int .i64,.int .i64,.int .i64,.int .i64,.int .i64,.int .i64,.int .i64,.int .i64] []⟩,⟨3,0,false,.row 3 [.int .i64] []⟩] xjR
theorem xHq:xaT Tryz.prog K38:=xah xav xHr (n:=9) rfl rfl fun us x h=>by
 unfold xjR at h
 split at h
 ·cases h; exact ⟨some (xbT _ _ _ _ _),xog _ _ _ _ _,fun h=>h⟩
 ·cases h
theorem xnt (s_from most:Int) (ug uf ue:List (List Int)):xai Tryz.prog 3 (xaP Tryz.prog K38 xbs 9 54 [.agg [.sl 0,.sl 1,.int .i64 s_from,.sl 2],.int .i64 most] ⟨[⟨0,3,false,.row 74 [.int .i64,.int .i64,.int .i64,.int .i64] ug⟩,⟨1,3,false,.row 213 [.int .i64,.int .i64,.int .i64,.int .i64,.int .i64,.int .i64] uf⟩,⟨2,3,false,.row 81 [.int .i64,.int .i64,.int .i64,.int .i64,.int .i64,.int .i64,.int .i64,.int .i64,.int .i64,.int .i64,.int .i64,.int .i64,.int .i64] ue⟩],3⟩)=some ⟨some (xcx s_from most ug uf ue),[],0,[],.int .i64 (xbk s_from most ug uf ue)⟩:=by kernel_rfl
noncomputable def xiW:List U→Option Eff
 | [.i s_from,.i most,.r ug,.r uf,.r ue]=>some ⟨some (xcx s_from most ug uf ue),[],0,[],.int .i64 (xbk s_from most ug uf ue)⟩
 | _=>Option.none
noncomputable def K39:Con:=ext Tryz.prog K38 54 [.agg [.sl 0,.sl 1,.int .i64 0,.sl 2],.int .i64 0] [⟨0,0,false,.row 74 [.int .i64,.int .i64,.int .i64,.int .i64] []⟩,⟨1,0,false,.row 213 [.int .i64,.int .i64,.int .i64,.int .i64,.int .i64,.int .i64] []⟩,⟨2,0,false,.row 81 [.int .i64,.int .i64,.int .i64,.int .i64,.int .i64,.int .i64,.int .i64,.int .i64,.int .i64,.int .i64,.int .i64,.int .i64,.int .i64] []⟩] xiW
theorem xHp:xaT Tryz.prog K39:=xah xav xHq (n:=9) rfl rfl fun us x h=>by
 unfold xiW at h
 split at h
 ·cases h; exact ⟨some (xcx _ _ _ _ _),xnt _ _ _ _ _,fun h=>h⟩
 ·cases h
end Go.Proofs.YthfjhbbpdhjklaaGreat
set_option maxRecDepth 100000
set_option linter.unusedVariables false
namespace Go.Proofs.YthfjhbbpdhjklaaGreat
open Go Go.Sy
noncomputable def K40:Con:=K39
theorem xHo:xaT Tryz.prog K40:=xHp
noncomputable def K41:Con:=K40
theorem xHn:xaT Tryz.prog K41:=xHo
noncomputable def K42:Con:=K41
theorem xHm:xaT Tryz.prog K42:=xHn
noncomputable def K43:Con:=K42
theorem xHl:xaT Tryz.prog K43:=xHm
noncomputable def K44:Con:=K43
theorem xHk:xaT Tryz.prog K44:=xHl
noncomputable def K45:Con:=K44
theorem xHj:xaT Tryz.prog K45:=xHk
noncomputable def K46:Con:=K45
theorem xHi:xaT Tryz.prog K46:=xHj
noncomputable def K47:Con:=K46
theorem xHh:xaT Tryz.prog K47:=xHi
noncomputable def K48:Con:=K47
theorem xHg:xaT Tryz.prog K48:=xHh
noncomputable def K49:Con:=K48
theorem xHf:xaT Tryz.prog K49:=xHg
noncomputable def K50:Con:=K49
theorem xHe:xaT Tryz.prog K50:=xHf
end Go.Proofs.YthfjhbbpdhjklaaGreat
set_option linter.unusedVariables false
namespace Go.Proofs.YthfjhbbpdhjklaaGreat
def cmbs:Nat→Nat→Nat→List (List Nat)
 | _,0,_=>[[]]
 | 0,_+1,_=>[]
 | k+1,n+1,i=>(cmbs k n (i+1)).map (i::·)++cmbs k (n+1) (i+1)
theorem xtT (k i:Nat):cmbs k 0 i=[[]]:=by cases k<;>rfl
theorem xoU:∀ (k n i:Nat) (c:List Nat),c∈cmbs k n i↔c.length=n∧c.Pairwise (·<·)∧∀ x∈c,i≤x∧x<i+k
 | k,0,i,c=>by
  rw [xtT,List.mem_singleton]
  constructor
  ·rintro rfl; exact ⟨rfl,List.Pairwise.nil,by simp⟩
  ·rintro ⟨h,_⟩; exact List.eq_nil_of_length_eq_zero h
 | 0,n+1,i,c=>by
  show c∈([]:List (List Nat))↔_
  constructor
  ·intro h; cases h
  ·rintro ⟨h,_,h3⟩
   cases c with
   | nil=>cases h
   | cons a r=>have:=h3 a (by simp); omega
 | k+1,n+1,i,c=>by
  show c∈(cmbs k n (i+1)).map (i::·)++cmbs k (n+1) (i+1)↔_
  rw [List.mem_append,List.mem_map,xoU k (n+1) (i+1) c]
  constructor
  ·rintro (⟨d,hd,rfl⟩ | ⟨h1,h2,h3⟩)
   ·obtain ⟨h1,h2,h3⟩:=(xoU k n (i+1) d).1 hd
    refine ⟨by simp [h1],List.pairwise_cons.2 ⟨fun x hx=>by have:=h3 x hx; omega,h2⟩,fun x hx=>?_⟩
    rcases List.mem_cons.1 hx with rfl | hx
    ·omega
    ·have:=h3 x hx; omega
   ·exact ⟨h1,h2,fun x hx=>by have:=h3 x hx; omega⟩
  ·rintro ⟨h1,h2,h3⟩
   cases c with
   | nil=>cases h1
   | cons a r =>
    have ha:=h3 a (by simp)
    obtain ⟨p1,p2⟩:=List.pairwise_cons.1 h2
    by_cases e:a=i
    ·subst e
     exact .inl ⟨r,(xoU k n (a+1) r).2 ⟨by simpa using h1,p2,fun x hx=>by have:=p1 x hx; have:=h3 x (by simp [hx]); omega⟩,rfl⟩
    ·refine .inr ⟨h1,h2,fun x hx=>?_⟩
     have hx3:=h3 x hx
     rcases List.mem_cons.1 hx with rfl | hx
     ·omega
     ·have:=p1 x hx; omega
def lexN:List Nat→List Nat→Bool
 | a::r,b::s=>decide (a<b)||(decide (a=b)&&lexN r s)
 | _,_=>false
theorem xuT (k i:Nat):∀ n,(cmbs k n i).length≤2 ^ k:=by
 induction k generalizing i with
 | zero=>intro n; cases n<;>simp [cmbs]
 | succ k ih =>
  intro n
  cases n with
  | zero=>rw [xtT]; exact Nat.one_le_two_pow
  | succ n =>
   show ((cmbs k n (i+1)).map (i::·)++cmbs k (n+1) (i+1)).length≤_
   rw [List.length_append,List.length_map,Nat.pow_succ]
   have:=ih (i+1) n
   have:=ih (i+1) (n+1)
   omega
end Go.Proofs.YthfjhbbpdhjklaaGreat
set_option linter.unusedVariables false
namespace Go.Proofs.YthfjhbbpdhjklaaGreat
open Go Go.Sy
def xby (m:Nat) (n:Int):List (List (List Int)):=(cmbs m n.toNat 0).map fun c=>xcj (c.map fun (x:Nat)=>(x:Int))
noncomputable def xz4:List AV→List Sy.Obj→Option (Nat×Int×Nat)
 | [.agg [_,_,_,.sl kr],.val (.slice none 0 0),.val (.int .i64 0),n,.yl key],objs=>(match n.weak,xap kr objs with
  | .int .i64 m,some o=>(match xes Tryz.prog o.body with
   | some (_,_,l)=>some (key,m,l.length)
   | none=>none)
  | _,_=>none)
 | _,_=>none
noncomputable def xzc:xqK:=fun f args objs =>
 match Nat.beq f 114 with
 | true=>(match xz4 args objs with
  | some (key,n,m)=>some ⟨(0≤n∧n≤1000000)∧(m:Int)≤1000000,key,3,[.int .i64],xby m n⟩
  | none=>none)
 | false=>none
end Go.Proofs.YthfjhbbpdhjklaaGreat
