/- Several texts in one (wip/pack.py): XTqG XTqI XTqJ XTqK XTqM XTqQ. -/
import Derived.Test.YthfjhbbpdhjklaaGreatQTI07
import Derived.Test.YthfjhbbpdhjklaaGreatQTI08
set_option linter.unusedVariables false
set_option maxRecDepth 100000
namespace Go.Proofs.YthfjhbbpdhjklaaGreat
open Go Go.Sy
structure xxE (lag ui ul:Int) (P E airs uh:List (List Int)):Prop where
 ha:airs.length≤8
 hs:uh.length≤3
 hP:P.length≤9223372036854775807
 hE:E.length≤9223372036854775807
 htr:∀ i (hi:i<uh.length),(decL (uh[i].getD 0 0)).length≤9223372036854775807
 hlag:0≤lag
 hld:lag≤ui
 hdl:ui≤1000
 ht0:0≤ul
 ht1:ul≤100000
def xiB (airs:List (List Int)) (n:Nat):Prop:=∀ k,k<n→0≤tA airs k∧tA airs k≤100000
def vF (uh:List (List Int)) (i:Nat):List Int:=uh.getD i []
def gO (airs:List (List Int)) (k:Nat):List Int:=[tA airs k,1,(k:Int)+1]
theorem xz6 {sent lag ui ul:Int} {P E airs uh:List (List Int)} (ha:airs.length≤8) :
  xax (xbC sent lag ui ul P E airs uh) (xdg sent lag ui ul P E airs uh) ∧
  (((xae sent lag ui ul P E airs uh).1=1∧gb (xae sent lag ui ul P E airs uh).2 0=xaV) ∨
   (xae sent lag ui ul P E airs uh=(4,[.b false,.i ((numR (fun k=>!bitF sent k) airs.length:Nat):Int),.i (airs.length:Nat),.r (selR (bitF sent) (gO airs) airs.length)])∧xiB airs airs.length)):=by
 refine xd1 (step:=xbC sent lag ui ul P E airs uh) airs.length
  (fun k ys=>ys=[.b false,.i ((numR (fun k=>!bitF sent k) k:Nat):Int),.i (k:Nat),.r (selR (bitF sent) (gO airs) k)]∧xiB airs k)
  (fun r=>(r.1=1∧gb r.2 0=xaV)∨(r=(4,[.b false,.i ((numR (fun k=>!bitF sent k) airs.length:Nat):Int),.i (airs.length:Nat),.r (selR (bitF sent) (gO airs) airs.length)])∧xiB airs airs.length))
  (fun k ys hk hI=>?_) (fun ys hI=>?_) (xs:=xdg sent lag ui ul P E airs uh) ⟨rfl,fun k h=>by omega⟩
 ·obtain ⟨rfl,hT⟩:=hI
  have hs1:=xe2 (bitF sent) (gO airs) k
  have hn1:=xfG (bitF sent) k
  have hn2:=xfG (fun k=>!bitF sent k) k
  have hk0:(0:Int)≤(k:Int):=by omega
  have w3:IntKind.i64.wrap ((k:Int)+1)=((k+1:Nat):Int):=xcN (by omega)
  have w5:IntKind.i64.wrap (((numR (fun k=>!bitF sent k) k:Nat):Int)+1)=((numR (fun k=>!bitF sent k) k+1:Nat):Int):=xcN (by omega)
  have ek:((k+1:Nat):Int)=(k:Int)+1:=by omega
  have f1:∀ o:Option (Nat×List U),xac (xa5 24 (numR (bitF sent) k+(0+1))) o=o:=fun o=>xaa (xAp (by omega))
  have eb:(bAnd IntKind.u16 (sent.fdiv ((2:Int) ^ min k IntKind.u16.bits)) 1==1)=bitF sent k:=rfl
  have e1:[[(airs.getD k []).getD 0 0,1,((k+1:Nat):Int)]]=[gO airs k]:=by rw [ek]; rfl
  unfold xbC xiG
  simp only [gi_1,gi_2,gi_z,gb_z,gr_3,gr_z,Int.toNat_natCast]
  rw [dlt hk]
  simp only [xaa (xaw hk),xaa hk0,w3,w5,hs1,List.length_cons,List.length_nil,f1,eb,e1]
  cases hc:(decide ((airs.getD k []).getD 0 0<0)||decide ((airs.getD k []).getD 0 0>100000)) with
  | true=>exact .inr ⟨0,_,rfl,.inl ⟨rfl,rfl⟩⟩
  | false =>
   rw [Bool.or_eq_false_iff] at hc
   have c1:=of_decide_eq_false hc.1
   have c2:=of_decide_eq_false hc.2
   have hT':xiB airs (k+1):=fun j hj=>by
    by_cases e:j=k
    ·subst e; unfold tA; omega
    ·exact hT j (by omega)
   rw [cond_false]
   refine .inl ⟨_,?_,rfl,hT'⟩
   rw [xAH,xwc]
   cases bitF sent k<;>rfl
 ·obtain ⟨rfl,hT⟩:=hI
  unfold xbC
  simp only [gi_1,gi_2,gi_z,gb_z,gr_3,gr_z,dnlt]
  exact ⟨3,_,rfl,.inr ⟨rfl,hT⟩⟩
theorem xyO {sent lag ui ul:Int} {P E airs uh:List (List Int)} (H:xxE lag ui ul P E airs uh) (hT:xiB airs airs.length) {y1 init:List U} {i:Nat} (hy:gi y1 4=(i:Int)) (hi:i<uh.length) {b:Bool} {c0 m0:Nat} {ch L:List (List Int)} (hc0:c0≤1000) (hm0:m0≤1000) (hch:ch.length≤1000) (hL:L.length≤1000)
  (h0:init=[.b b,.i (c0:Nat),.i (m0:Nat),.i 0,.r ch,.r [],.r L]) :
  xax (xaB sent lag ui ul P E airs uh y1) init ∧
  (((xat (xaB sent lag ui ul P E airs uh y1) init).1=1∧gb (xat (xaB sent lag ui ul P E airs uh y1) init).2 0=xaV) ∨
   xat (xaB sent lag ui ul P E airs uh y1) init=(13,inS sent lag ui ul P E airs uh[i] i b c0 m0 ch L airs.length)):=by
 have hs3:=H.hs
 refine xd1 (step:=xaB sent lag ui ul P E airs uh y1) airs.length
  (fun k ys=>ys=inS sent lag ui ul P E airs uh[i] i b c0 m0 ch L k)
  (fun r=>(r.1=1∧gb r.2 0=xaV)∨r=(13,inS sent lag ui ul P E airs uh[i] i b c0 m0 ch L airs.length))
  (fun k ys hk hI=>?_) (fun ys hI=>?_) ?_
 ·subst hI
  rw [xBO hy hi (by omega) hc0 hm0 hch hL H.ha H.hP H.hE (H.htr i hi) hT ⟨H.hlag,by have:=H.hld; have:=H.hdl; omega⟩ ⟨by have:=H.hld; have:=H.hlag; omega,H.hdl⟩ hk]
  exact xkg (Inv:=fun ys=>ys=inS sent lag ui ul P E airs uh[i] i b c0 m0 ch L (k+1)) (Post:=fun r=>(r.1=1∧gb r.2 0=xaV)∨r=(13,inS sent lag ui ul P E airs uh[i] i b c0 m0 ch L airs.length)) (m:=0) rfl (.inl ⟨rfl,rfl⟩)
 ·subst hI
  unfold xaB inS
  simp only [gi_1,gi_2,gi_3,gi_z,gb_z,xAg,xAf,xyQ,gr_z,dnlt]
  exact ⟨12,_,rfl,.inr rfl⟩
 ·rw [h0]
  unfold inS selR numR
  rw [List.append_nil,List.append_nil]
  rfl
noncomputable def chA (P E airs uh:List (List Int)):Nat→List (List Int)
 | 0=>[]
 | i+1=>chA P E airs uh i++selR (pCh P E airs (vF uh i)) (gCh airs i) airs.length
noncomputable def mA (sent ui ul:Int) (P E airs uh:List (List Int)):Nat→Nat
 | 0=>0
 | i+1=>mA sent ui ul P E airs uh i+numR (pMi sent ui ul P E airs (vF uh i)) airs.length
noncomputable def cA (sent:Int) (P E airs uh:List (List Int)):Nat→Nat
 | 0=>numR (fun k=>!bitF sent k) airs.length
 | i+1=>cA sent P E airs uh i+(bif offB (vF uh i) then 1 else 0)+numR (pCa sent P E airs (vF uh i)) airs.length
noncomputable def knA (sent ul:Int) (P E airs uh:List (List Int)):Nat→List (List Int)
 | 0=>[]
 | i+1=>knA sent ul P E airs uh i++[[encL (selR (pCo sent ul P E airs (vF uh i)) gCo airs.length)]]
theorem xvz (P E airs uh:List (List Int)):∀ i,(chA P E airs uh i).length≤airs.length*i
 | 0=>Nat.zero_le _
 | i+1=>by
  have h1:=xvz P E airs uh i
  have h2:=xfG (pCh P E airs (vF uh i)) airs.length
  unfold chA
  rw [List.length_append,xe2,Nat.mul_succ]
  omega
theorem xCr (sent ui ul:Int) (P E airs uh:List (List Int)):∀ i,mA sent ui ul P E airs uh i≤airs.length*i
 | 0=>Nat.zero_le _
 | i+1=>by
  have h1:=xCr sent ui ul P E airs uh i
  have h2:=xfG (pMi sent ui ul P E airs (vF uh i)) airs.length
  unfold mA
  rw [Nat.mul_succ]
  omega
theorem xB7 (sent:Int) (P E airs uh:List (List Int)):∀ i,cA sent P E airs uh i≤airs.length+(airs.length+1)*i
 | 0=>by unfold cA; have:=xfG (fun k=>!bitF sent k) airs.length; omega
 | i+1=>by
  have h1:=xB7 sent P E airs uh i
  have h2:=xfG (pCa sent P E airs (vF uh i)) airs.length
  unfold cA
  rw [Nat.mul_succ]
  cases offB (vF uh i)
  ·rw [cond_false]; omega
  ·rw [cond_true]; omega
theorem xsV (sent ul:Int) (P E airs uh:List (List Int)):∀ i,(knA sent ul P E airs uh i).length=i
 | 0=>rfl
 | i+1=>by unfold knA; rw [List.length_append,xsV sent ul P E airs uh i]; rfl
def LogP (sent lag:Int) (P E airs uh:List (List Int)) (i:Nat) (l:List (List Int)):Prop :=
 valF ((i:Int)+1) l=true∧(l.map tri).Perm (offL (offB (vF uh i)) ((vF uh i).getD 1 0) ((vF uh i).getD 2 0)++selR (pSh sent P E airs (vF uh i)) (fun k=>[tA airs k+lag,3,(k:Int)+1]) airs.length)∧l.Pairwise upT
def xxH (sent lag:Int) (P E airs uh:List (List Int)) (i:Nat) (logs:List (List Int)):Prop :=
 logs.length=i∧∀ j (hj:j<logs.length),∃ l,logs[j]=[(j:Int)+1,encL l]∧LogP sent lag P E airs uh j l
theorem xr3 {sent lag:Int} {P E airs uh:List (List Int)} {i:Nat} {logs l:List (List Int)} (h:xxH sent lag P E airs uh i logs) (hl:LogP sent lag P E airs uh i l) {x:List Int} (hx:x=[(i:Int)+1,encL l]):xxH sent lag P E airs uh (i+1) (logs++[x]):=by
 obtain ⟨h1,h2⟩:=h
 refine ⟨by simp [h1],fun j hj=>?_⟩
 by_cases e:j<logs.length
 ·rw [List.getElem_append_left e]; exact h2 j e
 ·rw [List.length_append,List.length_cons,List.length_nil] at hj
  obtain rfl:j=i:=by omega
  rw [List.getElem_append_right (by omega)]
  exact ⟨l,by simp [h1,hx],hl⟩
theorem xz9 {lag ui ul:Int} {P E airs uh:List (List Int)} (H:xxE lag ui ul P E airs uh) (hT:xiB airs airs.length) {v:List Int} {i:Nat} {p:Nat→Bool} (hi:i<3) :
  xbc ((i:Int)+1) (offL (offB v) (v.getD 1 0) (v.getD 2 0)++selR p (gSh airs lag) airs.length) ∧
  xau ((i:Int)+1) (offL (offB v) (v.getD 1 0) (v.getD 2 0)++selR p (gSh airs lag) airs.length)=(i:Int)+1 ∧
  xaX ((i:Int)+1) (offL (offB v) (v.getD 1 0) (v.getD 2 0)++selR p (gSh airs lag) airs.length)=true ∧
  valF ((i:Int)+1) (xad ((i:Int)+1) (offL (offB v) (v.getD 1 0) (v.getD 2 0)++selR p (gSh airs lag) airs.length))=true ∧
  ((xad ((i:Int)+1) (offL (offB v) (v.getD 1 0) (v.getD 2 0)++selR p (gSh airs lag) airs.length)).map tri).Perm (offL (offB v) (v.getD 1 0) (v.getD 2 0)++selR p (gSh airs lag) airs.length) ∧
  (xad ((i:Int)+1) (offL (offB v) (v.getD 1 0) (v.getD 2 0)++selR p (gSh airs lag) airs.length)).Pairwise upT:=by
 have ha:=H.ha
 have hab:offB v=true→0≤v.getD 1 0∧v.getD 1 0<v.getD 2 0∧v.getD 2 0≤100000:=fun h=>by
  unfold offB at h
  simp only [Bool.and_eq_true,decide_eq_true_eq] at h
  exact ⟨h.1.1,h.1.2,h.2⟩
 have hlen:(offL (offB v) (v.getD 1 0) (v.getD 2 0)).length≤2:=by
  cases offB v with
  | false=>exact Nat.zero_le _
  | true=>exact Nat.le_refl 2
 have ho:((((i:Int)+1)==0):Bool)=false:=bne (by omega)
 have h3:∀ x∈offL (offB v) (v.getD 1 0) (v.getD 2 0)++selR p (gSh airs lag) airs.length,x.length=3:=fun x hx=>by
  rcases List.mem_append.1 hx with hx | hx
  ·cases hb:offB v with
   | false=>rw [hb] at hx; cases hx
   | true =>
    rw [hb] at hx
    have hx:x∈[[v.getD 1 0,4,0],[v.getD 2 0,5,0]]:=hx
    simp only [List.mem_cons,List.not_mem_nil,or_false] at hx
    rcases hx with rfl | rfl<;>rfl
  ·obtain ⟨k,_,_,rfl⟩:=xcw.1 hx; rfl
 have hsh:∀ x∈selR p (gSh airs lag) airs.length,col x 1=3:=fun x hx=>by
  obtain ⟨k,_,_,rfl⟩:=xcw.1 hx; rfl
 obtain ⟨q1,q2,q3,q4,q5,q6⟩:=xpy (o:=(i:Int)+1) (lines:=offL (offB v) (v.getD 1 0) (v.getD 2 0)++selR p (gSh airs lag) airs.length) ⟨by omega,by omega⟩
  (by
   rw [List.length_append,xe2]
   have:=xfG p airs.length
   omega)
  (fun x hx=>by
   rcases List.mem_append.1 hx with hx | hx
   ·cases hb:offB v with
    | false=>rw [hb] at hx; cases hx
    | true =>
     obtain ⟨a1,a2,a3⟩:=hab hb
     rw [hb] at hx
     have hx:x∈[[v.getD 1 0,4,0],[v.getD 2 0,5,0]]:=hx
     simp only [List.mem_cons,List.not_mem_nil,or_false] at hx
     rcases hx with rfl | rfl
     ·refine ⟨?_,?_⟩
      ·show (tmF (v.getD 1 0)&&(0:Int)==0)=true
       unfold tmF
       rw [decide_eq_true (show 0≤v.getD 1 0 by omega),decide_eq_true (show v.getD 1 0≤10000000 by omega)]; rfl
      ·show ((((i:Int)+1)==0)==false)=true
       rw [ho]; rfl
     ·refine ⟨?_,?_⟩
      ·show (tmF (v.getD 2 0)&&(0:Int)==0)=true
       unfold tmF
       rw [decide_eq_true (show 0≤v.getD 2 0 by omega),decide_eq_true (show v.getD 2 0≤10000000 by omega)]; rfl
      ·show ((((i:Int)+1)==0)==false)=true
       rw [ho]; rfl
   ·obtain ⟨k,hk,_,rfl⟩:=xcw.1 hx
    have ht:=hT k hk
    have h1:=H.hlag
    have h2:=H.hld
    have h4:=H.hdl
    refine ⟨?_,?_⟩
    ·show (tmF (tA airs k+lag)&&itF ((k:Int)+1))=true
     unfold tmF itF
     rw [decide_eq_true (show 0≤tA airs k+lag by omega),decide_eq_true (show tA airs k+lag≤10000000 by omega),decide_eq_true (show 1≤(k:Int)+1 by omega),decide_eq_true (show (k:Int)+1≤10000 by omega)]; rfl
    ·show ((((i:Int)+1)==0)==false)=true
     rw [ho]; rfl)
  (fun S hp hs=>by
   rw [xlj h3] at hp
   rw [xhn,xvW hp hs (fun h=>(hab h).2.1) hsh]
   exact xzK _ _ _)
 rw [xlj h3] at q5
 exact ⟨q1,q2,q3,q4,q5,q6⟩
end Go.Proofs.YthfjhbbpdhjklaaGreat
set_option linter.unusedVariables false
set_option maxRecDepth 100000
namespace Go.Proofs.YthfjhbbpdhjklaaGreat
open Go Go.Sy
noncomputable def outS (sent ui ul:Int) (P E airs uh:List (List Int)) (i:Nat) (lines logs:List (List Int)):List U :=
 [.i ((cA sent P E airs uh i:Nat):Int),.b false,.i ((mA sent ui ul P E airs uh i:Nat):Int),.b true,.i (i:Int),.r lines,.r (chA P E airs uh i),.r logs,.r (knA sent ul P E airs uh i)]
noncomputable def OutP (sent lag ui ul:Int) (P E airs uh:List (List Int)) (r:Nat×List U):Prop :=
 (r.1=1∧gb r.2 0=xaV)∨(r.1=3∧gb r.2 0=xaV)∨∃ lines logs,r=(5,outS sent ui ul P E airs uh uh.length lines logs)∧xxH sent lag P E airs uh uh.length logs
theorem xzu (P E airs uh:List (List Int)) (i:Nat):chA P E airs uh (i+1)=chA P E airs uh i++selR (pCh P E airs (vF uh i)) (gCh airs i) airs.length:=rfl
theorem mA_s (sent ui ul:Int) (P E airs uh:List (List Int)) (i:Nat):mA sent ui ul P E airs uh (i+1)=mA sent ui ul P E airs uh i+numR (pMi sent ui ul P E airs (vF uh i)) airs.length:=rfl
theorem cA_s (sent:Int) (P E airs uh:List (List Int)) (i:Nat):cA sent P E airs uh (i+1)=cA sent P E airs uh i+(bif offB (vF uh i) then 1 else 0)+numR (pCa sent P E airs (vF uh i)) airs.length:=rfl
theorem xBK (sent ul:Int) (P E airs uh:List (List Int)) (i:Nat):knA sent ul P E airs uh (i+1)=knA sent ul P E airs uh i++[[encL (selR (pCo sent ul P E airs (vF uh i)) gCo airs.length)]]:=rfl
theorem xz3 {sent lag ui ul:Int} {P E airs uh:List (List Int)} (H:xxE lag ui ul P E airs uh) (hT:xiB airs airs.length) {i:Nat} (hi:i<uh.length) {lines logs:List (List Int)} (hlg:xxH sent lag P E airs uh i logs) :
  (∃ ys,xaO sent lag ui ul P E airs uh (outS sent ui ul P E airs uh i lines logs)=some (0,ys)∧∃ lines' logs',ys=outS sent ui ul P E airs uh (i+1) lines' logs'∧xxH sent lag P E airs uh (i+1) logs') ∨
  ∃ m ys,xaO sent lag ui ul P E airs uh (outS sent ui ul P E airs uh i lines logs)=some (m+1,ys)∧OutP sent lag ui ul P E airs uh (m+1,ys):=by
 have ha:=H.ha
 have hs3:=H.hs
 have hmul:airs.length*i≤8*3:=Nat.mul_le_mul ha (by omega)
 have hmul':(airs.length+1)*i≤9*3:=Nat.mul_le_mul (by omega) (by omega)
 have hcl:=xvz P E airs uh i
 have hml:=xCr sent ui ul P E airs uh i
 have hcal:=xB7 sent P E airs uh i
 have hkl:=xsV sent ul P E airs uh i
 have hll:=hlg.1
 have w3:IntKind.i64.wrap ((i:Int)+1)=((i+1:Nat):Int):=xcN (by omega)
 have w5:IntKind.i64.wrap (((cA sent P E airs uh i:Nat):Int)+1)=((cA sent P E airs uh i+1:Nat):Int):=xcN (by omega)
 have ei:((i+1:Nat):Int)=(i:Int)+1:=by omega
 have hv:vF uh i=uh[i]:=xbj hi
 have f1:∀ o:Option (Nat×List U),xac (xa5 32 (logs.length+(0+1))) o=o:=fun o=>xaa (xDV (by omega))
 have f2:∀ o:Option (Nat×List U),xac (xa5 24 ((knA sent ul P E airs uh i).length+(0+1))) o=o:=fun o=>xaa (xAp (by omega))
 have lk:=xz9 H hT (v:=vF uh i) (i:=i) (p:=pSh sent P E airs (vF uh i)) (by omega)
 cases hb:offB (vF uh i) with
 | true =>
  have hb':(decide (uh[i].getD 1 0≥0)&&decide (uh[i].getD 1 0<uh[i].getD 2 0)&&decide (uh[i].getD 2 0≤100000))=true:=by rw [hv] at hb; exact hb
  have hinit:xcd sent lag ui ul P E airs uh (outS sent ui ul P E airs uh i lines logs)=[.b false,.i ((cA sent P E airs uh i+1:Nat):Int),.i ((mA sent ui ul P E airs uh i:Nat):Int),.i 0,.r (chA P E airs uh i),.r [],.r [[uh[i].getD 1 0,4,0],[uh[i].getD 2 0,5,0]]]:=by
   unfold xcd xiF outS
   simp only [xDU,gi_2,gi_z,gb_z,xDS,xyQ,gr_z,Int.toNat_natCast,w5,xbj hi]
  obtain ⟨l1,l2⟩:=xyO H hT (y1:=outS sent ui ul P E airs uh i lines logs) (i:=i) rfl hi (b:=false) (c0:=cA sent P E airs uh i+1) (m0:=mA sent ui ul P E airs uh i) (ch:=chA P E airs uh i) (L:=[[uh[i].getD 1 0,4,0],[uh[i].getD 2 0,5,0]]) (by omega) (by omega) (by omega) (by show 2≤1000; decide) hinit
  have hfold:xat (xaB sent lag ui ul P E airs uh (outS sent ui ul P E airs uh i lines logs)) (xcd sent lag ui ul P E airs uh (outS sent ui ul P E airs uh i lines logs))=xaJ sent lag ui ul P E airs uh (outS sent ui ul P E airs uh i lines logs):=rfl
  rw [hfold] at l2
  unfold xaO
  rw [show gi (outS sent ui ul P E airs uh i lines logs) 4=(i:Int) from rfl,dlt hi,xaa (xaw hi),xaa (xaw hi),xbb hi,hb',cond_true,xaa l1]
  rcases l2 with ⟨e1,e2⟩ | e
  ·rw [e1]
   exact .inr ⟨0,_,rfl,.inl ⟨rfl,e2⟩⟩
  ·rw [hb,hv] at lk
   obtain ⟨k1,k2,k3,k4,k5,k6⟩:=lk
   have k1:xbc ((i:Int)+1) ([[uh[i].getD 1 0,4,0],[uh[i].getD 2 0,5,0]]++selR (pSh sent P E airs uh[i]) (gSh airs lag) airs.length):=k1
   have k2:xau ((i:Int)+1) ([[uh[i].getD 1 0,4,0],[uh[i].getD 2 0,5,0]]++selR (pSh sent P E airs uh[i]) (gSh airs lag) airs.length)=(i:Int)+1:=k2
   have k3:xaX ((i:Int)+1) ([[uh[i].getD 1 0,4,0],[uh[i].getD 2 0,5,0]]++selR (pSh sent P E airs uh[i]) (gSh airs lag) airs.length)=true:=k3
   unfold xgq
   rw [e]
   unfold inS
   rw [show gi (outS sent ui ul P E airs uh i lines logs) 4=(i:Int) from rfl]
   simp only [gi_1,gi_2,gi_z,gb_z,xAg,xAf,xyQ,gr_z,w3,ei,List.length_cons,List.length_nil]
   rw [show Nat.beq 13 1=false from rfl,cond_false,xaa k1,k2,k3]
   rw [show gr (outS sent ui ul P E airs uh i lines logs) 7=logs from rfl,show gr (outS sent ui ul P E airs uh i lines logs) 8=knA sent ul P E airs uh i from rfl,show gb (outS sent ui ul P E airs uh i lines logs) 3=true from rfl,f1,f2]
   refine .inl ⟨_,rfl,([[uh[i].getD 1 0,4,0],[uh[i].getD 2 0,5,0]]++selR (pSh sent P E airs uh[i]) (gSh airs lag) airs.length),logs++[[(i:Int)+1,encL (xad ((i:Int)+1) ([[uh[i].getD 1 0,4,0],[uh[i].getD 2 0,5,0]]++selR (pSh sent P E airs uh[i]) (gSh airs lag) airs.length))]],?_,xr3 hlg (l:=xad ((i:Int)+1) ([[uh[i].getD 1 0,4,0],[uh[i].getD 2 0,5,0]]++selR (pSh sent P E airs uh[i]) (gSh airs lag) airs.length)) ⟨k4,?_,k6⟩ rfl⟩
   ·unfold outS
    rw [cA_s,mA_s,xzu,xBK,hv,show offB uh[i]=true from hb',cond_true,ei]
    rfl
   ·rw [hv,show offB uh[i]=true from hb']
    exact k5
 | false =>
  have hb':(decide (uh[i].getD 1 0≥0)&&decide (uh[i].getD 1 0<uh[i].getD 2 0)&&decide (uh[i].getD 2 0≤100000))=false:=by rw [hv] at hb; exact hb
  have hinit:xde sent lag ui ul P E airs uh (outS sent ui ul P E airs uh i lines logs)=[.b false,.i ((cA sent P E airs uh i:Nat):Int),.i ((mA sent ui ul P E airs uh i:Nat):Int),.i 0,.r (chA P E airs uh i),.r [],.r []]:=rfl
  obtain ⟨l1,l2⟩:=xyO H hT (y1:=outS sent ui ul P E airs uh i lines logs) (i:=i) rfl hi (b:=false) (c0:=cA sent P E airs uh i) (m0:=mA sent ui ul P E airs uh i) (ch:=chA P E airs uh i) (L:=[]) (by omega) (by omega) (by omega) (by show 0≤1000; decide) hinit
  rw [← xDO] at l1 l2
  have hfold:xat (xdd sent lag ui ul P E airs uh (outS sent ui ul P E airs uh i lines logs)) (xde sent lag ui ul P E airs uh (outS sent ui ul P E airs uh i lines logs))=xaI sent lag ui ul P E airs uh (outS sent ui ul P E airs uh i lines logs):=rfl
  rw [hfold] at l2
  unfold xaO
  rw [show gi (outS sent ui ul P E airs uh i lines logs) 4=(i:Int) from rfl,dlt hi,xaa (xaw hi),xaa (xaw hi),xbb hi,hb',cond_false,xaa l1]
  rcases l2 with ⟨e1,e2⟩ | e
  ·rw [e1]
   exact .inr ⟨2,_,rfl,.inr (.inl ⟨rfl,e2⟩)⟩
  ·rw [hb,hv] at lk
   obtain ⟨k1,k2,k3,k4,k5,k6⟩:=lk
   have k1:xbc ((i:Int)+1) ([]++selR (pSh sent P E airs uh[i]) (gSh airs lag) airs.length):=k1
   have k2:xau ((i:Int)+1) ([]++selR (pSh sent P E airs uh[i]) (gSh airs lag) airs.length)=(i:Int)+1:=k2
   have k3:xaX ((i:Int)+1) ([]++selR (pSh sent P E airs uh[i]) (gSh airs lag) airs.length)=true:=k3
   unfold xfV
   rw [e]
   unfold inS
   rw [show gi (outS sent ui ul P E airs uh i lines logs) 4=(i:Int) from rfl]
   simp only [gi_1,gi_2,gi_z,gb_z,xAg,xAf,xyQ,gr_z,w3,ei,List.length_cons,List.length_nil]
   rw [show Nat.beq 13 1=false from rfl,cond_false,xaa k1,k2,k3]
   rw [show gr (outS sent ui ul P E airs uh i lines logs) 7=logs from rfl,show gr (outS sent ui ul P E airs uh i lines logs) 8=knA sent ul P E airs uh i from rfl,show gb (outS sent ui ul P E airs uh i lines logs) 3=true from rfl,f1,f2]
   refine .inl ⟨_,rfl,([]++selR (pSh sent P E airs uh[i]) (gSh airs lag) airs.length),logs++[[(i:Int)+1,encL (xad ((i:Int)+1) ([]++selR (pSh sent P E airs uh[i]) (gSh airs lag) airs.length))]],?_,xr3 hlg (l:=xad ((i:Int)+1) ([]++selR (pSh sent P E airs uh[i]) (gSh airs lag) airs.length)) ⟨k4,?_,k6⟩ rfl⟩
   ·unfold outS
    rw [cA_s,mA_s,xzu,xBK,hv,show offB uh[i]=false from hb',cond_false,ei]
    rfl
   ·rw [hv,show offB uh[i]=false from hb']
    exact k5
theorem xz4 {sent lag ui ul:Int} {P E airs uh:List (List Int)} (H:xxE lag ui ul P E airs uh) (hT:xiB airs airs.length) {init:List U} {L:List (List Int)} (h0:init=outS sent ui ul P E airs uh 0 L []) :
  xax (xaO sent lag ui ul P E airs uh) init∧OutP sent lag ui ul P E airs uh (xat (xaO sent lag ui ul P E airs uh) init):=by
 refine xd1 (step:=xaO sent lag ui ul P E airs uh) uh.length
  (fun i ys=>∃ lines logs,ys=outS sent ui ul P E airs uh i lines logs∧xxH sent lag P E airs uh i logs) (OutP sent lag ui ul P E airs uh)
  (fun i ys hi hI=>?_) (fun ys hI=>?_) ⟨L,[],h0,rfl,fun j hj=>by cases hj⟩
 ·obtain ⟨lines,logs,rfl,hl⟩:=hI
  exact xz3 H hT hi hl
 ·obtain ⟨lines,logs,rfl,hl⟩:=hI
  unfold xaO
  rw [show gi (outS sent ui ul P E airs uh uh.length lines logs) 4=(uh.length:Int) from rfl,dnlt]
  exact ⟨4,_,rfl,.inr (.inr ⟨lines,logs,rfl,hl⟩)⟩
end Go.Proofs.YthfjhbbpdhjklaaGreat
set_option linter.unusedVariables false
set_option maxRecDepth 100000
namespace Go.Proofs.YthfjhbbpdhjklaaGreat
open Go Go.Sy
theorem xAJ:∀ (L:List ALog) (b:Int),(∀ j (hj:j<L.length),valF L[j].1 L[j].2=true∧L[j].1=b+1+j)→risF b L=true
 | [],_,_=>rfl
 | x::r,b,h=>by
  obtain ⟨h1,h2⟩:=h 0 (by simp)
  have h1:valF x.1 x.2=true:=h1
  have h2:x.1=b+1+(0:Nat):=h2
  unfold risF
  rw [h1,decide_eq_true (show b<x.1 by omega),xAJ r x.1 fun j hj=>?_]
  ·rfl
  ·obtain ⟨q1,q2⟩:=h (j+1) (by simpa using hj)
   have q1:valF r[j].1 r[j].2=true:=q1
   have q2:r[j].1=b+1+(j+1:Nat):=q2
   exact ⟨q1,by omega⟩
theorem xvq:∀ (L:List ALog) (b:Int),(∀ j (hj:j<L.length),L[j].1=b+1+j)→∀ j (hj:j<L.length),xez (b+1+j) L=some L[j]
 | [],_,_,j,hj=>by cases hj
 | x::r,b,h,j,hj=>by
  have h2:x.1=b+1+(0:Nat):=h 0 (by simp)
  unfold xez
  rw [List.find?_cons]
  cases j with
  | zero=>rw [show (x.1==b+1+(0:Nat))=true from beq_iff_eq.2 h2]; rfl
  | succ j =>
   rw [show (x.1==b+1+((j+1:Nat):Int))=false from bne (by omega)]
   have:=xvq r x.1 (fun j hj=>by
    have q:r[j].1=b+1+(j+1:Nat):=h (j+1) (by simpa using hj)
    omega) j (by simpa using hj)
   rw [show x.1+1+(j:Int)=b+1+((j+1:Nat):Int) by omega] at this
   exact this
theorem xlb {P E airs uh:List (List Int)} {c:List Int}:∀ {M},c∈chA P E airs uh M↔∃ i,i<M∧∃ k,k<airs.length∧pCh P E airs (vF uh i) k=true∧gCh airs i k=c
 | 0=>⟨(fun h=>by cases h),fun ⟨i,h,_⟩=>by omega⟩
 | M+1=>by
  rw [xzu,List.mem_append,xlb (M:=M),xcw]
  constructor
  ·rintro (⟨i,h,q⟩ | ⟨k,q⟩)
   ·exact ⟨i,by omega,q⟩
   ·exact ⟨M,by omega,k,q⟩
  ·rintro ⟨i,h,q⟩
   by_cases e:i=M
   ·subst e; exact .inr q
   ·exact .inl ⟨i,by omega,q⟩
theorem xA8 (P E airs uh:List (List Int)):∀ M,(chA P E airs uh M).Pairwise fun a b=>ltK (kOf a) (kOf b)
 | 0=>List.Pairwise.nil
 | M+1=>by
  rw [xzu]
  refine List.pairwise_append.2 ⟨xA8 P E airs uh M,xsA (fun i j h=>.inr ⟨rfl,(show (i:Int)+1<(j:Int)+1 by omega)⟩) _,fun a ha b hb=>?_⟩
  ·obtain ⟨i,hi,k,_,_,rfl⟩:=xlb.1 ha
   obtain ⟨k',_,_,rfl⟩:=xcw.1 hb
   refine .inl ?_
   show (i:Int)+1<(M:Int)+1
   omega
theorem xxa {p q:Nat→Bool}:∀ {n},(∀ k,k<n→p k=q k)→numR p n=numR q n
 | 0,_=>rfl
 | n+1,h=>by rw [xwc,xwc,h n (by omega),xxa fun k hk=>h k (by omega)]
theorem xuA {sent ui ul:Int} {P E airs uh:List (List Int)} {f:List Int→Bool}:∀ M,(∀ i,i<M→∀ k,k<airs.length→pCh P E airs (vF uh i) k=true→f (gCh airs i k)=(!(xlv sent airs (vF uh i) k&&misF ((vF uh i).getD 3 0) k)&&decide (tA airs k+ui≤ul)))→((chA P E airs uh M).filter f).length=mA sent ui ul P E airs uh M
 | 0,_=>rfl
 | M+1,h=>by
  rw [xzu,mA_s,List.filter_append,List.length_append,xuA M fun i hi=>h i (by omega),xpZ _ _ _ f airs.length (h M (by omega)),xe2]
  rfl
noncomputable def omA (sent:Int) (P E airs uh:List (List Int)):Nat→List (List Int)
 | 0=>selR (fun k=>!bitF sent k) (fun k=>[1,0,(k:Int)+1]) airs.length
 | i+1=>omA sent P E airs uh i++(bif offB (vF uh i) then [[2,(i:Int)+1,0]] else [])++selR (pCa sent P E airs (vF uh i)) (fun k=>[3,(i:Int)+1,(k:Int)+1]) airs.length
theorem xyq (sent:Int) (P E airs uh:List (List Int)):∀ M,(omA sent P E airs uh M).length=cA sent P E airs uh M
 | 0=>xe2 _ _ _
 | M+1=>by
  rw [cA_s]
  unfold omA
  rw [List.length_append,List.length_append,xyq sent P E airs uh M,xe2]
  cases offB (vF uh M)<;>rfl
theorem xCo {sent:Int} {P E airs uh:List (List Int)} {k:Nat} (hk:k<airs.length) (h:bitF sent k=false):∀ M,[1,0,(k:Int)+1]∈omA sent P E airs uh M
 | 0=>xcw.2 ⟨k,hk,by rw [h]; rfl,rfl⟩
 | M+1=>List.mem_append.2 (.inl (List.mem_append.2 (.inl (xCo hk h M))))
theorem xCn {sent:Int} {P E airs uh:List (List Int)} {i:Nat} (h:offB (vF uh i)=true):∀ {M},i<M→[2,(i:Int)+1,0]∈omA sent P E airs uh M
 | 0,hi=>by omega
 | M+1,hi=>by
  by_cases e:i=M
  ·subst e
   refine List.mem_append.2 (.inl (List.mem_append.2 (.inr ?_)))
   rw [h]; exact List.mem_cons_self
  ·exact List.mem_append.2 (.inl (List.mem_append.2 (.inl (xCn h (by omega)))))
theorem xCm {sent:Int} {P E airs uh:List (List Int)} {i k:Nat} (hk:k<airs.length) (h:pCa sent P E airs (vF uh i) k=true):∀ {M},i<M→[3,(i:Int)+1,(k:Int)+1]∈omA sent P E airs uh M
 | 0,hi=>by omega
 | M+1,hi=>by
  by_cases e:i=M
  ·subst e
   exact List.mem_append.2 (.inr (xcw.2 ⟨k,hk,h,rfl⟩))
  ·exact List.mem_append.2 (.inl (List.mem_append.2 (.inl (xCm hk h (by omega)))))
def OffP (sent:Int) (airs uj:List (List Int)):Prop:=valF 0 uj=true∧(uj.map tri).Perm (selR (bitF sent) (gO airs) airs.length)
theorem xyt {sent:Int} {airs:List (List Int)} (ha:airs.length≤8) (hT:xiB airs airs.length) :
  xbc 0 (selR (bitF sent) (gO airs) airs.length)∧xau 0 (selR (bitF sent) (gO airs) airs.length)=0∧xaX 0 (selR (bitF sent) (gO airs) airs.length)=true∧OffP sent airs (xad 0 (selR (bitF sent) (gO airs) airs.length)):=by
 have h3:∀ x∈selR (bitF sent) (gO airs) airs.length,x.length=3:=fun x hx=>by
  obtain ⟨k,_,_,rfl⟩:=xcw.1 hx; rfl
 obtain ⟨q1,q2,q3,q4,q5,q6⟩:=xpy (o:=0) (lines:=selR (bitF sent) (gO airs) airs.length) ⟨by omega,by omega⟩
  (by rw [xe2]; have:=xfG (bitF sent) airs.length; omega)
  (fun x hx=>by
   obtain ⟨k,hk,_,rfl⟩:=xcw.1 hx
   have ht:=hT k hk
   refine ⟨?_,rfl⟩
   show (tmF (tA airs k)&&itF ((k:Int)+1))=true
   unfold tmF itF
   rw [decide_eq_true (show 0≤tA airs k by omega),decide_eq_true (show tA airs k≤10000000 by omega),decide_eq_true (show 1≤(k:Int)+1 by omega),decide_eq_true (show (k:Int)+1≤10000 by omega)]; rfl)
  (fun S hp hs=>by
   rw [xlj h3] at hp
   have:sw3 S=[]:=by
    unfold sw3
    rw [List.filter_eq_nil_iff]
    intro x hx
    obtain ⟨k,_,_,rfl⟩:=xcw.1 (hp.mem_iff.1 hx)
    exact (by decide:¬ (decide (clsF 1=3))=true)
   rw [xhn,this]; rfl)
 rw [xlj h3] at q5
 exact ⟨q1,q2,q3,q4,q5⟩
theorem xuT {sent:Int} {airs uj:List (List Int)} (h:OffP sent airs uj) {k:Nat} (hk:k<airs.length) {t:Int} (ht:t<0∨t=tA airs k):xmK ((k:Int)+1) t uj=bitF sent k:=by
 rw [← xxX,Bool.eq_iff_iff]
 unfold xmK
 rw [List.any_eq_true]
 constructor
 ·rintro ⟨x,hx,q⟩
  obtain ⟨j,hj,hb,rfl⟩:=xcw.1 (h.2.mem_iff.1 hx)
  rw [Bool.and_eq_true,beq_iff_eq] at q
  have q1:(j:Int)+1=(k:Int)+1:=q.1
  obtain rfl:j=k:=by omega
  exact hb
 ·intro hb
  refine ⟨gO airs k,h.2.mem_iff.2 (xcw.2 ⟨k,hk,hb,rfl⟩),?_⟩
  rw [Bool.and_eq_true]
  refine ⟨beq_self_eq_true _,?_⟩
  rcases ht with ht | rfl
  ·rw [decide_eq_true ht]; rfl
  ·exact Bool.or_eq_true_iff.2 (.inr (beq_self_eq_true _))
structure xrh (sent lag ui ul:Int) (P E airs uh uj:List (List Int)) (L:List ALog):Prop where
 H:xxE lag ui ul P E airs uh
 hT:xiB airs airs.length
 ho:OffP sent airs uj
 hL:L.length=uh.length
 hlog:∀ j (hj:j<L.length),L[j].1=(j:Int)+1∧LogP sent lag P E airs uh j L[j].2
theorem xso {sent lag ui ul:Int} {P E airs uh uj:List (List Int)} {L:List ALog} (C:xrh sent lag ui ul P E airs uh uj L) {i:Nat} (hi:i<uh.length) :
  ∃ l,xez ((i:Int)+1) L=some ((i:Int)+1,l)∧valF ((i:Int)+1) l=true∧(∀ t,onF t true l=!(offB (vF uh i)&&decide ((vF uh i).getD 1 0≤t)&&decide (t<(vF uh i).getD 2 0)))∧∀ tm k,k<airs.length→(xlE tm l).contains ((k:Int)+1)=(pSh sent P E airs (vF uh i) k&&decide (tA airs k+lag≤tm)):=by
 have hi':i<L.length:=by rw [C.hL]; exact hi
 obtain ⟨h1,h2,h3,h4⟩:=C.hlog i hi'
 obtain ⟨a1,a2⟩:=xzQ (o:=0) h3 h4 (fun h=>by
  unfold offB at h
  simp only [Bool.and_eq_true,decide_eq_true_eq] at h
  exact h.1.2)
 refine ⟨L[i].2,?_,h2,a1,a2⟩
 have:=xvq L 0 (fun j hj=>by rw [(C.hlog j hj).1]; omega) i hi'
 rw [show (0:Int)+1+(i:Int)=(i:Int)+1 by omega] at this
 rw [this,← h1]
theorem xxN {sent lag ui ul:Int} {P E airs uh uj:List (List Int)} {L:List ALog} (C:xrh sent lag ui ul P E airs uh uj L) :
  chF (chA P E airs uh uh.length)=true∧risF 0 L=true∧xjk 0 ul ui uj L (chA P E airs uh uh.length)=true∧(chA P E airs uh uh.length).length≤24:=by
 have h1:=C.H.ha
 have h2:=C.H.hs
 have h3:=C.H.ht0
 have h4:=C.H.ht1
 have h5:=C.H.hlag
 have h6:=C.H.hld
 have h7:=C.H.hdl
 have hlen:(chA P E airs uh uh.length).length≤24:=Nat.le_trans (xvz P E airs uh uh.length) (Nat.mul_le_mul h1 h2)
 have hch:chF (chA P E airs uh uh.length)=true:=by
  unfold chF
  rw [decide_eq_true (show (chA P E airs uh uh.length).length≤200 by omega),Bool.true_and,Bool.not_eq_true']
  refine List.any_eq_false.2 fun c hc=>?_
  obtain ⟨i,hi,k,hk,_,rfl⟩:=xlb.1 hc
  have ht:=C.hT k hk
  have e:badC (gCh airs i k)=(!tmF (tA airs k)||!itF ((k:Int)+1)||decide ((i:Int)+1<1)||decide ((i:Int)+1>8)):=rfl
  rw [e]
  unfold tmF itF
  rw [decide_eq_true (show 0≤tA airs k by omega),decide_eq_true (show tA airs k≤10000000 by omega),decide_eq_true (show 1≤(k:Int)+1 by omega),decide_eq_true (show (k:Int)+1≤10000 by omega),decide_eq_false (show ¬ (i:Int)+1<1 by omega),decide_eq_false (show ¬ (i:Int)+1>8 by omega)]
  decide
 have hris:risF 0 L=true:=xAJ L 0 fun j hj=>by
  obtain ⟨q1,q2,_⟩:=C.hlog j hj
  rw [q1]
  exact ⟨q2,by omega⟩
 refine ⟨hch,hris,?_,hlen⟩
 have hno:(chA P E airs uh uh.length).any (xlL L)=false:=List.any_eq_false.2 fun c hc=>by
  obtain ⟨i,hi,k,hk,_,rfl⟩:=xlb.1 hc
  obtain ⟨l,hl,_⟩:=xso C hi
  have e:xlL L (gCh airs i k)=!(xez ((i:Int)+1) L).isSome:=rfl
  rw [e,hl]
  exact fun h=>Bool.noConfusion h
 have htm:tmF ul=true:=by
  unfold tmF
  rw [decide_eq_true (show 0≤ul by omega),decide_eq_true (show ul≤10000000 by omega)]; rfl
 unfold xjk
 rw [C.ho.1,hch,htm,hris,hno,decide_eq_true (show 0≤ui by omega),decide_eq_true (show ui≤100000 by omega)]
 rfl
theorem xAG {sent lag ui ul:Int} {P E airs uh uj:List (List Int)} {L:List ALog} (C:xrh sent lag ui ul P E airs uh uj L) {i k:Nat} (hi:i<uh.length) (hk:k<airs.length) (hp:pCh P E airs (vF uh i) k=true) :
  cntF L ul ui (gCh airs i k)=(!(xlv sent airs (vF uh i) k&&misF ((vF uh i).getD 3 0) k)&&decide (tA airs k+ui≤ul)):=by
 obtain ⟨l,hl,_,_,hc⟩:=xso C hi
 have hs:xij L (gCh airs i k)=l:=by
  have e:xij L (gCh airs i k)=((xez ((i:Int)+1) L).getD (0,[])).2:=rfl
  rw [e,hl]; rfl
 have e:cntF L ul ui (gCh airs i k)=!(decide (tA airs k+ui>ul)||(xlE ul (xij L (gCh airs i k))).contains ((k:Int)+1)):=rfl
 rw [e,hs,hc ul k hk]
 unfold pSh
 rw [hp,Bool.true_and]
 have h6:=C.H.hld
 by_cases hd:tA airs k+ui≤ul
 ·rw [decide_eq_true hd,decide_eq_false (show ¬ tA airs k+ui>ul by omega),decide_eq_true (show tA airs k+lag≤ul by omega),Bool.and_true,Bool.and_true,Bool.false_or]
 ·rw [decide_eq_false hd,decide_eq_true (show tA airs k+ui>ul by omega),Bool.and_false]; rfl
theorem xBo {sent lag ui ul:Int} {P E airs uh uj:List (List Int)} {L:List ALog} (C:xrh sent lag ui ul P E airs uh uj L) :
  (xdj uj L ul ui (chA P E airs uh uh.length)).length=mA sent ui ul P E airs uh uh.length:=by
 obtain ⟨ks,k1,k2,k3⟩:=xlm uj L ul ui (chA P E airs uh uh.length)
 rw [k3,List.length_map,← xuA (f:=cntF L ul ui) uh.length fun i hi k hk hp=>xAG C hi hk hp]
 have e:ks=((chA P E airs uh uh.length).filter (cntF L ul ui)).map kOf:=by
  refine xqb (lt:=ltK) (fun a h=>by unfold ltK at h; omega) (fun a b h h'=>by unfold ltK at h h'; omega) k1 ?_ fun x=>?_
  ·exact List.pairwise_map.2 ((xA8 P E airs uh uh.length).filter _)
  ·rw [k2,List.mem_map]
   constructor
   ·rintro ⟨c,hc,h1,rfl⟩; exact ⟨c,List.mem_filter.2 ⟨hc,h1⟩,rfl⟩
   ·rintro ⟨c,hc,rfl⟩
    obtain ⟨h1,h2⟩:=List.mem_filter.1 hc
    exact ⟨c,h1,h2,rfl⟩
 rw [e,List.length_map]
theorem xBp {sent lag ui ul:Int} {P E airs uh uj:List (List Int)} {L:List ALog} (C:xrh sent lag ui ul P E airs uh uj L) :
  ∀ g∈xdj uj L ul ui (chA P E airs uh uh.length),∃ o∈omA sent P E airs uh uh.length,canF g o=true:=by
 obtain ⟨ks,k1,k2,k3⟩:=xlm uj L ul ui (chA P E airs uh uh.length)
 intro g hg
 rw [k3] at hg
 obtain ⟨key,hkey,rfl⟩:=List.mem_map.1 hg
 obtain ⟨c,hc,hcnt,rfl⟩:=(k2 key).1 hkey
 obtain ⟨i,hi,k,hk,hp,rfl⟩:=xlb.1 hc
 have e2:col (mkG uj L ul ui (chA P E airs uh uh.length) (kOf (gCh airs i k))) 2=b2 (!xmK ((k:Int)+1) (-1) uj):=rfl
 have hsent:=xuT C.ho hk (t := -1) (.inl (by omega))
 cases hb:bitF sent k with
 | false =>
  refine ⟨_,xCo hk hb _,?_⟩
  unfold canF
  have e1:(col ([1,0,(k:Int)+1]:List Int) 0==1&&(col ([1,0,(k:Int)+1]:List Int) 1==0&&(col ([1,0,(k:Int)+1]:List Int) 2==col (mkG uj L ul ui (chA P E airs uh uh.length) (kOf (gCh airs i k))) 1&&true)))=true:=by
   show ((1:Int)==1&&((0:Int)==0&&((k:Int)+1==(k:Int)+1&&true)))=true
   simp
  rw [e1,cond_true,e2,hsent,hb]
  rfl
 | true =>
  obtain ⟨l,hl,_,hon,_⟩:=xso C hi
  have hs:xij L (gCh airs i k)=l:=by
   have e:xij L (gCh airs i k)=((xez ((i:Int)+1) L).getD (0,[])).2:=rfl
   rw [e,hl]; rfl
  cases hw:(offB (vF uh i)&&decide ((vF uh i).getD 1 0≤tA airs k)&&decide (tA airs k<(vF uh i).getD 2 0)) with
  | true =>
   have hoff:offB (vF uh i)=true:=by
    rw [Bool.and_eq_true,Bool.and_eq_true] at hw; exact hw.1.1
   refine ⟨_,xCn hoff hi,?_⟩
   have e3:col (mkG uj L ul ui (chA P E airs uh uh.length) (kOf (gCh airs i k))) 3=b2 ((chA P E airs uh uh.length).all fun c=>!(cntF L ul ui c&&decide (kOf c=kOf (gCh airs i k)))||offF L c):=rfl
   have hall:((chA P E airs uh uh.length).all fun c=>!(cntF L ul ui c&&decide (kOf c=kOf (gCh airs i k)))||offF L c)=true:=by
    refine List.all_eq_true.2 fun c' hc'=>?_
    obtain ⟨i',hi',k',hk',_,rfl⟩:=xlb.1 hc'
    by_cases e:kOf (gCh airs i' k')=kOf (gCh airs i k)
    ·have a1:(i':Int)+1=(i:Int)+1:=congrArg Prod.fst e
     have a2:(k':Int)+1=(k:Int)+1:=congrArg Prod.snd e
     obtain rfl:i'=i:=by omega
     obtain rfl:k'=k:=by omega
     have:offF L (gCh airs i' k')=(decide (xgS 0 (-1) (xij L (gCh airs i' k'))<tA airs k')||!onF (tA airs k') true (xij L (gCh airs i' k'))):=rfl
     rw [this,hs,hon,hw]
     simp
    ·rw [decide_eq_false e,Bool.and_false]; rfl
   unfold canF
   have c1:(col ([2,(i:Int)+1,0]:List Int) 0==1&&(col ([2,(i:Int)+1,0]:List Int) 1==0&&(col ([2,(i:Int)+1,0]:List Int) 2==col (mkG uj L ul ui (chA P E airs uh uh.length) (kOf (gCh airs i k))) 1&&true)))=false:=rfl
   have c2:(col ([2,(i:Int)+1,0]:List Int) 0==2&&(col ([2,(i:Int)+1,0]:List Int) 1==col (mkG uj L ul ui (chA P E airs uh uh.length) (kOf (gCh airs i k))) 0&&(col ([2,(i:Int)+1,0]:List Int) 2==0&&true)))=true:=by
    show ((2:Int)==2&&((i:Int)+1==(i:Int)+1&&((0:Int)==0&&true)))=true
    simp
   rw [c1,cond_false,c2,cond_true,e3,hall]
   rfl
  | false =>
   have hh:xlv sent airs (vF uh i) k=true:=by
    unfold xlv
    rw [hb,hw]; rfl
   have hm:misF ((vF uh i).getD 3 0) k=false:=by
    rw [xAG C hi hk hp,hh,Bool.true_and,Bool.and_eq_true,Bool.not_eq_true'] at hcnt
    exact hcnt.1
   refine ⟨_,xCm hk (by unfold pCa; rw [hp,hh,hm]; rfl) hi,?_⟩
   unfold canF
   have c1:(col ([3,(i:Int)+1,(k:Int)+1]:List Int) 0==1&&(col ([3,(i:Int)+1,(k:Int)+1]:List Int) 1==0&&(col ([3,(i:Int)+1,(k:Int)+1]:List Int) 2==col (mkG uj L ul ui (chA P E airs uh uh.length) (kOf (gCh airs i k))) 1&&true)))=false:=rfl
   have c2:(col ([3,(i:Int)+1,(k:Int)+1]:List Int) 0==2&&(col ([3,(i:Int)+1,(k:Int)+1]:List Int) 1==col (mkG uj L ul ui (chA P E airs uh uh.length) (kOf (gCh airs i k))) 0&&(col ([3,(i:Int)+1,(k:Int)+1]:List Int) 2==0&&true)))=false:=rfl
   rw [c1,cond_false,c2,cond_false]
   show ((3:Int)==3&&((i:Int)+1==(i:Int)+1&&((k:Int)+1==(k:Int)+1&&true)))=true
   simp
end Go.Proofs.YthfjhbbpdhjklaaGreat
set_option linter.unusedVariables false
set_option maxRecDepth 100000
namespace Go.Proofs.YthfjhbbpdhjklaaGreat
open Go Go.Sy
def trL (x:ALog):ALog:=(x.1,x.2.map tri)
theorem xAq (s:Int) (logs:List ALog):xez s (logs.map trL)=(xez s logs).map trL:=by
 unfold xez
 rw [List.find?_map]
 rfl
theorem xvZ (logs:List ALog) (c:List Int):xij (logs.map trL) c=(xij logs c).map tri:=by
 unfold xij
 rw [xAq]
 cases xez (col c 0) logs<;>rfl
theorem xAa (d:Int) (l:List (List Int)):xgS 0 d (l.map tri)=xgS 0 d l:=by
 unfold xgS
 rw [List.getLast?_map]
 cases l.getLast?<;>rfl
theorem xzP (logs:List ALog) (tm dl:Int) (c:List Int):xrn (logs.map trL) tm dl c=xrn logs tm dl c:=by
 unfold xrn xlE
 rw [xvZ,xpY]
theorem xBD (logs:List ALog) (c:List Int):offF (logs.map trL) c=offF logs c:=by
 unfold offF
 rw [xvZ,xAa,xu0]
theorem xAh (uj:List (List Int)) (logs:List ALog) (tm dl:Int) (uk:List (List Int)):xdj uj (logs.map trL) tm dl uk=xdj uj logs tm dl uk:=by
 have:xka uj (logs.map trL) tm dl=xka uj logs tm dl:=by
  funext gs c
  unfold xka updF
  simp only [xzP,xBD]
 unfold xdj
 rw [this]
def hdL:List ALog:=[(1,[]),(2,[[5,4,0],[20,5,0]])]
def hdC:List (List Int):=[[1,1,3],[2,1,3]]
theorem xA1:fewC (xdj [] hdL 9 2 hdC)=[[1,0,1]]:=by decide +kernel
theorem xCD:(prC 100 1 (xdj [] hdL 9 2 hdC)).length=1:=by decide +kernel
theorem xBQ:valF 0 []=true∧valF 1 []=true∧chF hdC=true:=by decide +kernel
theorem xBn:xaV=true∧xdm:=by
 obtain ⟨p1,o1,t1,v1,m1,s1⟩:=xpy (o:=1) (lines:=[]) ⟨by omega,by omega⟩ (by decide) (fun x hx=>by cases hx) (fun S hp hs=>by
  have:S=[]:=hp.eq_nil
  rw [this]; rfl)
 obtain ⟨p2,o2,t2,v2,m2,s2⟩:=xpy (o:=2) (lines:=[[20,5,0],[5,4,0]]) ⟨by omega,by omega⟩ (by decide) (fun x hx=>by
  simp only [List.mem_cons,List.not_mem_nil,or_false] at hx
  rcases hx with rfl | rfl<;>exact ⟨by decide,by decide⟩) (fun S hp hs=>by
  have hp:S.Perm (offL true 5 20++[]):=hp.trans (List.Perm.swap _ _ _)
  rw [xhn,xvW hp hs (fun _=>by omega) (fun x hx=>by cases hx)]; rfl)
 have e1:xad 1 []=[]:=List.map_eq_nil_iff.1 m1.eq_nil
 have m2':((xad 2 [[20,5,0],[5,4,0]]).map tri).Perm (offL true 5 20++[]):=m2.trans (List.Perm.swap _ _ _)
 have s2':((xad 2 [[20,5,0],[5,4,0]]).map tri).Pairwise upT:=List.pairwise_map.2 s2
 have e2:(xad 2 [[20,5,0],[5,4,0]]).map tri=[[5,4,0],[20,5,0]]:=by
  have h:=xvW m2' s2' (fun _=>by omega) (fun x hx=>by cases hx)
  have h':sw3 ((xad 2 [[20,5,0],[5,4,0]]).map tri)=(xad 2 [[20,5,0],[5,4,0]]).map tri:=List.filter_eq_self.2 fun x hx=>by
   have hx:x∈[[5,4,0],[20,5,0]]:=m2'.mem_iff.1 hx
   simp only [List.mem_cons,List.not_mem_nil,or_false] at hx
   rcases hx with rfl | rfl<;>decide
  rw [← h',h]; rfl
 have hlen:(xad 2 [[20,5,0],[5,4,0]]).length=2:=by
  have:=congrArg List.length e2
  rw [List.length_map] at this
  exact this
 unfold xaV xdm xfS xbS xkf xeE
 rw [o1,o2,t1,t2,e1,hlen]
 generalize xad 2 [[20,5,0],[5,4,0]]=l at v2 e2 hlen
 have xrC:xaC [[1,encL []],[2,encL l]]=[(1,[]),(2,l)]:=by
  show [((1:Int),decL (encL [])),(2,decL (encL l))]=_
  rw [xdD,xdD]
 obtain ⟨r0,r1,r2⟩:=xBQ
 have hris:risF 0 [(1,[]),(2,l)]=true:=by
  show (valF 1 []&&decide ((0:Int)<1)&&(valF 2 l&&decide ((1:Int)<2)&&true))=true
  rw [r1,v2]; rfl
 have xqI:xjk 0 9 2 [] [(1,[]),(2,l)] hdC=true:=by
  unfold xjk
  rw [hris,r0,r2]
  rfl
 have hg:xdj [] [(1,[]),(2,l)] 9 2 hdC=xdj [] hdL 9 2 hdC:=by
  rw [← xAh]
  show xdj [] [(1,[]),(2,l.map tri)] 9 2 hdC=_
  rw [e2]; rfl
 have hl1:xuK [[1,encL []],[2,encL l]]:=fun x hx=>by
  simp only [List.mem_cons,List.not_mem_nil,or_false] at hx
  rcases hx with rfl | rfl
  ·show (decL (encL [])).length≤_
   rw [xdD]; exact Nat.zero_le _
  ·show (decL (encL l)).length≤_
   rw [xdD,hlen]; decide
 obtain ⟨x1,x2,x3,x4⟩:=xoC (ow:=0) (t:=9) (ui:=2) (uj:=[]) (uh:=[[1,encL []],[2,encL l]]) (uk:=hdC) (by decide) (by show 2≤9223372036854775807; decide) (by decide) hl1 (.inl (by decide))
 rw [xrC,xqI,if_pos rfl,hg,xqP,xA1] at x2
 rw [xrC,xqI,if_pos rfl,hg,xqP,xA1,xyg] at x3
 rw [xrC,xqI,if_pos rfl] at x4
 have x5:(xby 0 9 2 [] [[1,encL []],[2,encL l]] hdC).length=1:=by rw [x3]; exact xCD
 have x1:xbi 0 9 2 [] [[1,encL []],[2,encL l]] [[1,1,3],[2,1,3]]:=x1
 have x2:xbN 0 9 2 [] [[1,encL []],[2,encL l]] [[1,1,3],[2,1,3]]=[[1,0,1]]:=x2
 have x4:xbM 0 9 2 [] [[1,encL []],[2,encL l]] [[1,1,3],[2,1,3]]=0:=x4
 have x5:(xby 0 9 2 [] [[1,encL []],[2,encL l]] [[1,1,3],[2,1,3]]).length=1:=x5
 rw [x2,x4,x5]
 have hr:inR (0:Int) ([[1,0,1]]:List (List Int)):=⟨by decide,by show (0:Int)<1; decide⟩
 exact ⟨rfl,p1,p2,x1,fun _=>hr,fun _=>hr⟩
theorem xAV {sent ul:Int} {P E airs uh:List (List Int)} {i:Nat}:∀ {M},i<M→(knA sent ul P E airs uh M).getD i []=[encL (selR (pCo sent ul P E airs (vF uh i)) gCo airs.length)]
 | 0,h=>by omega
 | M+1,h=>by
  have hl:=xsV sent ul P E airs uh M
  rw [xBK,List.getD_eq_getElem?_getD]
  by_cases e:i=M
  ·subst e
   rw [List.getElem?_append_right (by omega),hl,Nat.sub_self]; rfl
  ·rw [List.getElem?_append_left (by omega),← List.getD_eq_getElem?_getD]
   exact xAV (by omega)
theorem xtF:∀ l,xlu eq1 l l=true
 | []=>rfl
 | x::r=>by show (eq1 x x&&xlu eq1 r r)=true; rw [xtF r]; unfold eq1; simp
theorem xzJ {sent lag ui ul:Int} {P E airs uh uj:List (List Int)} {L:List ALog} (C:xrh sent lag ui ul P E airs uh uj L) {i:Nat} (hi:i<uh.length) (hi':i<L.length) :
  coOk 0 ((i:Int)+1) ul uj L[i].2 (chA P E airs uh uh.length)=true∧xcu (xqs (xut ((i:Int)+1) ul uj L[i].2 (chA P E airs uh uh.length)))=selR (pCo sent ul P E airs (vF uh i)) gCo airs.length:=by
 obtain ⟨l,hl,hv,hon,_⟩:=xso C hi
 have hfind:=xvq L 0 (fun j hj=>by rw [(C.hlog j hj).1]; omega) i hi'
 rw [show (0:Int)+1+(i:Int)=(i:Int)+1 by omega,hl] at hfind
 have hl':L[i].2=l:=(congrArg Prod.snd (Option.some.inj hfind)).symm
 rw [hl']
 obtain ⟨q1,q2,q3,q4⟩:=xxN C
 have h3:=C.H.ht0
 have h4:=C.H.ht1
 have htm:tmF ul=true:=by
  unfold tmF
  rw [decide_eq_true (show 0≤ul by omega),decide_eq_true (show ul≤10000000 by omega)]; rfl
 refine ⟨?_,?_⟩
 ·unfold coOk
  rw [C.ho.1,hv,q1,htm,show ((i:Int)+1 !=0)=true by rw [bne_iff_ne]; omega]; rfl
 ·have hrow:selR (pCo sent ul P E airs (vF uh i)) gCo airs.length=xcu ((selR (pCo sent ul P E airs (vF uh i)) gCo airs.length).map fun x=>col x 0):=by
   unfold xcu
   rw [List.map_map]
   refine ((List.map_congr_left (g:=id) fun x hx=>?_).trans (List.map_id _)).symm
   obtain ⟨k,_,_,rfl⟩:=xcw.1 hx
   rfl
  rw [hrow]
  refine congrArg xcu (xuX (xw9 _) ?_ fun x=>?_)
  ·refine List.pairwise_map.2 (xsA (fun a b h=>?_) _)
   show (a:Int)+1<(b:Int)+1
   omega
  ·rw [xtQ,List.mem_map]
   unfold xut
   rw [List.mem_map]
   constructor
   ·rintro ⟨c,hc,rfl⟩
    obtain ⟨c1,c2⟩:=List.mem_filter.1 hc
    obtain ⟨j,hj,k,hk,hp,rfl⟩:=xlb.1 c1
    have c2:((j:Int)+1==(i:Int)+1&&decide (tA airs k≤ul)&&xmK ((k:Int)+1) (tA airs k) uj&&onF (tA airs k) true l)=true:=c2
    rw [xuT C.ho hk (.inr rfl),hon,Bool.and_eq_true,Bool.and_eq_true,Bool.and_eq_true,beq_iff_eq] at c2
    obtain ⟨⟨⟨a1,a2⟩,a3⟩,a4⟩:=c2
    obtain rfl:j=i:=by omega
    refine ⟨gCo k,xcw.2 ⟨k,hk,?_,rfl⟩,rfl⟩
    unfold pCo xlv
    rw [hp,a2,a3,a4]; rfl
   ·rintro ⟨y,hy,rfl⟩
    obtain ⟨k,hk,hp,rfl⟩:=xcw.1 hy
    unfold pCo xlv at hp
    rw [Bool.and_eq_true,Bool.and_eq_true,Bool.and_eq_true] at hp
    obtain ⟨a0,⟨a1,a2⟩,a3⟩:=hp
    refine ⟨gCh airs i k,List.mem_filter.2 ⟨xlb.2 ⟨i,hi,k,hk,a0,rfl⟩,?_⟩,rfl⟩
    show ((i:Int)+1==(i:Int)+1&&decide (tA airs k≤ul)&&xmK ((k:Int)+1) (tA airs k) uj&&onF (tA airs k) true l)=true
    rw [xuT C.ho hk (.inr rfl),hon,a1,a2,a3,beq_self_eq_true]; rfl
end Go.Proofs.YthfjhbbpdhjklaaGreat
set_option linter.unusedVariables false
set_option maxRecDepth 100000
namespace Go.Proofs.YthfjhbbpdhjklaaGreat
open Go Go.Sy
def xBe (uh:List (List Int)):Prop:=∀ i (hi:i<uh.length),(decL (uh[i].getD 0 0)).length≤9223372036854775807
theorem xxh (sent lag ui ul:Int) (P E airs uh:List (List Int)) (hP:P.length≤9223372036854775807) (hE:E.length≤9223372036854775807) (htr:xBe uh) :
  xd9 sent lag ui ul P E airs uh=true∧xcI sent lag ui ul P E airs uh:=by
 obtain ⟨hd1,hd2⟩:=xBn
 unfold xd9 xcI
 rw [hd1]
 cases hc:(!xhp P E airs||decide ((airs.length:Int)>8)||decide ((uh.length:Int)>3)||decide (ui<0)||decide (ui>1000)||decide (lag<0)||decide (lag>ui)||decide (ul<0)||decide (ul>100000)) with
 | true=>exact ⟨rfl,hd2,xnp _ _ _,fun h=>by cases h⟩
 | false =>
  simp only [Bool.or_eq_false_iff,decide_eq_false_iff_not] at hc
  obtain ⟨⟨⟨⟨⟨⟨⟨⟨_,b1⟩,b2⟩,b3⟩,b4⟩,b5⟩,b6⟩,b7⟩,b8⟩:=hc
  have H:xxE lag ui ul P E airs uh:=⟨by omega,by omega,hP,hE,htr,by omega,by omega,by omega,by omega,by omega⟩
  rw [cond_false]
  obtain ⟨z1,z2⟩:=xz6 (sent:=sent) (lag:=lag) (ui:=ui) (ul:=ul) (P:=P) (E:=E) (uh:=uh) H.ha
  rcases z2 with ⟨e1,e2⟩ | ⟨e,hT⟩
  ·rw [e1,show Nat.beq 1 1=true from rfl,cond_true,e2,hd1]
   exact ⟨rfl,hd2,xnp _ _ _,fun _=>⟨z1,fun h=>by cases h⟩⟩
  ·have o3:gr (xae sent lag ui ul P E airs uh).snd 3=selR (bitF sent) (gO airs) airs.length:=by rw [e]; rfl
   have of1:(xae sent lag ui ul P E airs uh).fst.beq 1=false:=by rw [e]; rfl
   obtain ⟨w1,w2,w3,w4⟩:=xyt (sent:=sent) H.ha hT
   have hinit:xdf sent lag ui ul P E airs uh=outS sent ui ul P E airs uh 0 (selR (bitF sent) (gO airs) airs.length) []:=by
    unfold xdf
    rw [o3,w3,e]
    rfl
   obtain ⟨y1,y2⟩:=xz4 H hT hinit
   have y2:OutP sent lag ui ul P E airs uh (xab sent lag ui ul P E airs uh):=y2
   rw [of1,cond_false,o3]
   rcases y2 with ⟨f1,f2⟩ | ⟨f1,f2⟩ | ⟨lines,logs,f,hlg⟩
   ·rw [f1,show Nat.beq 1 1=true from rfl,cond_true,f2,hd1]
    exact ⟨rfl,hd2,xnp _ _ _,fun _=>⟨z1,fun _=>⟨w1,y1,fun h=>by cases h⟩⟩⟩
   ·rw [f1,show Nat.beq 3 1=false from rfl,cond_false,show Nat.beq 3 3=true from rfl,cond_true,f2,hd1]
    exact ⟨rfl,hd2,xnp _ _ _,fun _=>⟨z1,fun _=>⟨w1,y1,fun _ h=>by cases h⟩⟩⟩
   ·have g0:gi (xab sent lag ui ul P E airs uh).snd 0=((cA sent P E airs uh uh.length:Nat):Int):=by rw [f]; rfl
    have g2:gi (xab sent lag ui ul P E airs uh).snd 2=((mA sent ui ul P E airs uh uh.length:Nat):Int):=by rw [f]; rfl
    have g3:gb (xab sent lag ui ul P E airs uh).snd 3=true:=by rw [f]; rfl
    have g6:gr (xab sent lag ui ul P E airs uh).snd 6=chA P E airs uh uh.length:=by rw [f]; rfl
    have g7:gr (xab sent lag ui ul P E airs uh).snd 7=logs:=by rw [f]; rfl
    have g8:gr (xab sent lag ui ul P E airs uh).snd 8=knA sent ul P E airs uh uh.length:=by rw [f]; rfl
    have gf1:(xab sent lag ui ul P E airs uh).fst.beq 1=false:=by rw [f]; rfl
    have gf3:(xab sent lag ui ul P E airs uh).fst.beq 3=false:=by rw [f]; rfl
    obtain ⟨lg1,lg2⟩:=hlg
    have hrow:∀ j (hj:j<logs.length),∃ l,logs[j]=[(j:Int)+1,encL l]∧xt2 logs[j]=((j:Int)+1,l)∧LogP sent lag P E airs uh j l:=fun j hj=>by
     obtain ⟨l,q1,q2⟩:=lg2 j hj
     refine ⟨l,q1,?_,q2⟩
     rw [q1]
     show ((j:Int)+1,decL (encL l))=_
     rw [xdD]
    have C:xrh sent lag ui ul P E airs uh (xad 0 (selR (bitF sent) (gO airs) airs.length)) (xaC logs):=by
     refine ⟨H,hT,w4,by unfold xaC; rw [List.length_map,lg1],fun j hj=>?_⟩
     have hj':j<logs.length:=by unfold xaC at hj; rwa [List.length_map] at hj
     obtain ⟨l,q1,q2,q3⟩:=hrow j hj'
     have e:(xaC logs)[j]=((j:Int)+1,l):=Eq.trans (List.getElem_map (f:=xt2) (l:=logs) (h:=hj)) q2
     rw [e]
     exact ⟨rfl,q3⟩
    obtain ⟨t1,t2,t3,t4⟩:=xxN C
    have tg:=xBo C
    have tx:=xBp C
    have hs3:=H.hs
    have ha8:=H.ha
    have hch:(chA P E airs uh uh.length).length≤9223372036854775807:=by omega
    have hll:logs.length≤9223372036854775807:=by omega
    have hol:(xad 0 (selR (bitF sent) (gO airs) airs.length)).length≤9223372036854775807:=by have:=(xpN w4.1).1; omega
    have hlen:xuK logs:=fun x hx=>by
     obtain ⟨j,hj,rfl⟩:=List.getElem_of_mem hx
     obtain ⟨l,q1,_,q3⟩:=hrow j hj
     rw [q1]
     show (decL (encL l)).length≤_
     rw [xdD]
     have:=(xpN q3.1).1
     omega
    have L4:=xBG (step:=xcc sent lag ui ul P E airs uh) logs.length 2 (fun _=>true) (fun i hi=>by
     obtain ⟨l,q1,q2,q3⟩:=hrow i hi
     have hi':i<uh.length:=by rw [← lg1]; exact hi
     have hiL:i<(xaC logs).length:=by unfold xaC; rw [List.length_map]; exact hi
     have eL:(xaC logs)[i].2=l:=congrArg Prod.snd (Eq.trans (List.getElem_map (f:=xt2) (l:=logs) (h:=hiL)) q2)
     obtain ⟨k1,k2⟩:=xzJ C hi' hiL
     rw [eL] at k1 k2
     have hl2:l.length≤9223372036854775807:=by have:=(xpN q3.1).1; omega
     obtain ⟨c1,c2,c3⟩:=xAD 0 ((i:Int)+1) ul (xad 0 (selR (bitF sent) (gO airs) airs.length)) l (chA P E airs uh uh.length) hol hl2 hch
     rw [k1,if_pos rfl,k2] at c2
     rw [k1,if_pos rfl] at c3
     have hkn:inR ((i:Nat):Int) (knA sent ul P E airs uh uh.length):=xaw (by rw [xsV]; exact hi')
     have hsl:(selR (pCo sent ul P E airs (vF uh i)) gCo airs.length).length≤9223372036854775807:=by
      rw [xe2]
      have:=xfG (pCo sent ul P E airs (vF uh i)) airs.length
      omega
     obtain ⟨d1,d2⟩:=xCb (selR (pCo sent ul P E airs (vF uh i)) gCo airs.length) (selR (pCo sent ul P E airs (vF uh i)) gCo airs.length) hsl
     rw [xtF] at d2
     have ekn:(knA sent ul P E airs uh uh.length).getD ((i:Nat):Int).toNat []=[encL (selR (pCo sent ul P E airs (vF uh i)) gCo airs.length)]:=by
      rw [Int.toNat_natCast]; exact xAV hi'
     unfold xcc xfU xfT
     simp only [gi_1,gi_z,gb_z]
     rw [g6,g7,g8,o3,w2,dlt hi,xaa (xaw hi),xaa (xaw hi),xbb hi,q1,ekn]
     rw [show ([(i:Int)+1,encL l]:List Int).getD 0 0=(i:Int)+1 from rfl,show ([(i:Int)+1,encL l]:List Int).getD 1 0=encL l from rfl,xdD,show ([encL (selR (pCo sent ul P E airs (vF uh i)) gCo airs.length)]:List Int).getD 0 0=encL (selR (pCo sent ul P E airs (vF uh i)) gCo airs.length) from rfl,xdD]
     rw [xaa c1,c2,c3,d2,xaa (fun _=>hkn),xaa hkn,xaa d1,xcN (by omega)]
     rfl) (fun _ _=>rfl) (by
     unfold xcc
     simp only [gi_1,gi_z,gb_z]
     rw [g7,dnlt]) (init:=xdc sent lag ui ul P E airs uh) (by unfold xdc; rw [hd1]; rfl)
    obtain ⟨v1,v2⟩:=L4
    have v2:gb (xiH sent lag ui ul P E airs uh).snd 0=true:=v2
    obtain ⟨u1,u2,u3⟩:=xzD (ow:=0) (t:=ul) (ui:=ui) hol hll hch hlen
    obtain ⟨n1,n2,n3,n4⟩:=xoC (ow:=0) (t:=ul) (ui:=ui) hol hll hch hlen (.inl (by omega))
    rw [t3,if_pos rfl] at u2 u3 n2 n3 n4
    obtain ⟨a1,a2,a3⟩:=xpD (uj:=xad 0 (selR (bitF sent) (gO airs) airs.length)) (logs:=xaC logs) (tm:=ul) (dl:=ui) t1
    have hup:=xBX (xad 0 (selR (bitF sent) (gO airs) airs.length)) (xaC logs) ul ui (chA P E airs uh uh.length)
    have hle:=xzf a1 hup tx
    rw [xyq] at hle
    have hca:=xB7 sent P E airs uh uh.length
    have hmul:(airs.length+1)*uh.length≤9*3:=Nat.mul_le_mul (by omega) (by omega)
    obtain ⟨r1,r2⟩:=xBi a1 hup (k:=100) (by omega)
    have hzero:(fewF (xdj (xad 0 (selR (bitF sent) (gO airs) airs.length)) (xaC logs) ul ui (chA P E airs uh uh.length))).length=0↔mA sent ui ul P E airs uh uh.length=0:=by
     constructor
     ·intro h0
      rw [← tg]
      refine Nat.eq_zero_of_not_pos fun hpos=>?_
      obtain ⟨o,ho,_⟩:=xwA a1 _ (List.getElem_mem hpos)
      rw [List.eq_nil_of_length_eq_zero h0] at ho
      cases ho
     ·intro h0
      rw [← tg] at h0
      have:=xzf (om:=[]) a1 hup (fun g hg=>by rw [List.eq_nil_of_length_eq_zero h0] at hg; cases hg)
      exact Nat.le_zero.1 this
    obtain ⟨s1,s2,s3⟩:=xuJ (ow:=0) (t:=ul) (ui:=ui) (om:=fewF (xdj (xad 0 (selR (bitF sent) (gO airs) airs.length)) (xaC logs) ul ui (chA P E airs uh uh.length))) (pr:=prF 100 ((fewF (xdj (xad 0 (selR (bitF sent) (gO airs) airs.length)) (xaC logs) ul ui (chA P E airs uh uh.length))).length:Nat) (xdj (xad 0 (selR (bitF sent) (gO airs) airs.length)) (xaC logs) ul ui (chA P E airs uh uh.length))) hol hll hch hlen (by omega) (by omega)
    rw [t3,Bool.true_and,r1] at s2
    rw [t3,if_pos rfl] at s3
    have hgl:(xdS (xdj (xad 0 (selR (bitF sent) (gO airs) airs.length)) (xaC logs) ul ui (chA P E airs uh uh.length))).length=mA sent ui ul P E airs uh uh.length:=by
     unfold xdS
     rw [List.length_map,tg]
    unfold xhW xhV xhU xhT xbT xdp
    rw [gf1,cond_false,gf3,cond_false,g3,g0,g2,g6,g7,o3,w2,n2,n3,n4,u2,u3,s2,s3,v2,hgl,r2]
    refine ⟨?_,hd2,xnp _ _ _,fun _=>⟨z1,fun _=>⟨w1,y1,fun _ _ _=>⟨v1,u1,n1,s1⟩⟩⟩⟩
    rw [decide_eq_true (show (((fewF (xdj (xad 0 (selR (bitF sent) (gO airs) airs.length)) (xaC logs) ul ui (chA P E airs uh uh.length))).length:Nat):Int)≤((cA sent P E airs uh uh.length:Nat):Int) by omega)]
    generalize (fewF (xdj (xad 0 (selR (bitF sent) (gO airs) airs.length)) (xaC logs) ul ui (chA P E airs uh uh.length))).length=a at hzero
    generalize mA sent ui ul P E airs uh uh.length=m at hzero
    have hz:(((a:Nat):Int)==0)=(((m:Nat):Int)==0):=by
     by_cases h:a=0
     ·rw [h,hzero.1 h]
     ·rw [bne (by omega),bne (by have:m≠0:=fun e=>h (hzero.2 e); omega)]
    rw [hz]
    simp
end Go.Proofs.YthfjhbbpdhjklaaGreat
set_option linter.unusedVariables false
namespace Go.Proofs.YthfjhbbpdhjklaaGreat
open Go Go.Sy
theorem xDM {W:World} {e e':TypeId} {k1 k2 k3:NK} {ks:List CK} {v:Value} {l:List (List Int)} {vs:List Value} (r:xgl W false e [.s e' ks,k1,k2,k3] v l vs):xBe l:=by
 intro i hi
 obtain ⟨u,_,hu⟩:=r.cell i 0 _ hi rfl
 have e1:l.getD i []=l[i]:=by rw [List.getD_eq_getElem?_getD,List.getElem?_eq_getElem hi]; rfl
 rw [e1] at hu
 exact xBv hu.2
end Go.Proofs.YthfjhbbpdhjklaaGreat
