/- Several texts in one (wip/pack.py): XDeskT XTopP XTdB XTdC XTdE XTdF XTdG XTdH XTdI XTdJ XTdK XTdM XInqQ0. -/
import Derived.Test.YthfjhbbpdhjklaaGreatQTT05
import Derived.Test.YthfjhbbpdhjklaaGreatQTT07
import Derived.Test.YthfjhbbpdhjklaaGreatQTT08
import Derived.Test.YthfjhbbpdhjklaaGreatQTT09
set_option linter.unusedVariables false
set_option maxRecDepth 100000
set_option linter.unusedSimpArgs false
set_option linter.unusedSectionVars false
namespace Go.Proofs.YthfjhbbpdhjklaaGreat
open Go Go.Sy
def hB:List (List Int):=[[0,10,0,10]]
def hF:List (List Int):=[[0,100,0,0,0,0]]
def hT:List (List Int):=[[3,3],[3,3],[3,3],[3,3]]
def elB:List CK→List Int→Bool
 | [],[]=>true
 | .int k::ks,n::ns=>(Lit.int k n).wf&&elB ks ns
 | .bool::ks,n::ns=>decide (n=0∨n=1)&&elB ks ns
 | _,_=>false
theorem xCw:∀ {ks:List CK} {ns:List Int},elB ks ns=true→elOk ks ns
 | [],[],_=>trivial
 | .int k::ks,n::ns,h=>by
  unfold elB at h; unfold elOk
  rw [Bool.and_eq_true] at h
  exact ⟨h.1,xCw h.2⟩
 | .bool::ks,n::ns,h=>by
  unfold elB at h; unfold elOk
  rw [Bool.and_eq_true,decide_eq_true_eq] at h
  exact ⟨h.1,xCw h.2⟩
 | [],_::_,h=>by cases h
 | .int _::_,[],h=>by cases h
 | .bool::_,[],h=>by cases h
theorem xF5 {l:List (List Int)} (h:l.all (elB [.int .i64,.int .i64,.int .i64,.int .i64,.int .i64,.int .i64,.int .i64,.int .i64,.int .i64,.int .i64,.int .i64,.int .i64,.int .i64])=true):Si.El13 l :=
 fun e he=>xCw (List.all_eq_true.1 h e he)
theorem xBN {rp:List (List Int)} (h13:Si.El13 rp) (h1:∀ r∈rp,RVr r) (h2:rp.length≤60):(xbL rp).length=(Si.mrgs 0 rp ([],[])).1.length:=by
 rw [(Si.xC2 rp h13).1,(xm7 rp).2 ⟨h2,h1⟩]
 rfl
theorem hf1:hF.length≤9223372036854775807:=by decide
end Go.Proofs.YthfjhbbpdhjklaaGreat
set_option linter.unusedVariables false
set_option maxRecDepth 100000
set_option linter.unusedSimpArgs false
set_option linter.unusedSectionVars false
namespace Go.Proofs.YthfjhbbpdhjklaaGreat
open Go Go.Sy
theorem xFD {W:World} {own:Bool} {e:TypeId} {k:Nat} {v:Value} {n:Nat} {vs:List Value} (h:xa8 W own e k v n vs):n≤9223372036854775807:=by
 obtain ⟨a,c,_,h1,h2⟩:=h.reads.is
 unfold maxLen at h2
 omega
theorem xEa {f:Int} {base fc rp wr tr:List (List Int)} (T:Told f base fc rp wr tr) :
  (lg fc wr rp 0 base f).1=3∨((lg fc wr rp 0 base f).1=0∧VL (lg fc wr rp 0 base f).2∧VP (pX tr rp.length) (pY tr rp.length)∧∃ b∈(lg fc wr rp 0 base f).2,HB (pX tr rp.length) (pY tr rp.length) b):=by
 have h:=xEc rp 0 base f T.gs.rv T.tl T.p0
 have hp:=xEb rp 0 f T.tl T.v0
 rw [Nat.zero_add] at h hp
 rcases h with h | ⟨h1,h2⟩
 ·exact .inl h
 ·exact .inr ⟨h1,(xB2 fc wr rp 0 base f T.gs.vl T.gs.rv).1 h1,hp,h2⟩
theorem xEH {tr:List (List Int)} {n:Nat} (h:tr.length=n+1) (hn:n≤60):IntKind.i64.wrap ((tr.length:Int)-1)=(n:Int):=by
 rw [h,xau (by omega)]
 omega
end Go.Proofs.YthfjhbbpdhjklaaGreat
set_option linter.unusedVariables false
set_option maxRecDepth 100000
set_option linter.unusedSimpArgs false
set_option linter.unusedSectionVars false
namespace Go.Proofs.YthfjhbbpdhjklaaGreat
open Go Go.Sy
theorem xEK (l:List (List Int)) (n:Int):isW l n=l.any fun e=>e.getD 0 0==n:=by
 unfold isW
 congr 1
 funext e
 rw [Bool.eq_iff_iff,beq_iff_eq,beq_iff_eq]
 exact eq_comm
section
variable (f k px py:Int) (base fc rp wr:List (List Int))
end
theorem xEM {m n:Nat} {w:List (List Int)} (h1:∀ e∈w,e.length=1) (h2:wB m (-1) w=true) (h3:w.length<n):w∈alls m n:=xwe.2 ⟨w.length,h3,xCR h1 h2⟩
end Go.Proofs.YthfjhbbpdhjklaaGreat
set_option linter.unusedVariables false
set_option maxRecDepth 100000
set_option linter.unusedSimpArgs false
set_option linter.unusedSectionVars false
namespace Go.Proofs.YthfjhbbpdhjklaaGreat
open Go Go.Sy
section
variable {f most:Int} {base fc rp wr tr:List (List Int)}
end
end Go.Proofs.YthfjhbbpdhjklaaGreat
set_option linter.unusedVariables false
set_option linter.unusedSimpArgs false
set_option linter.unusedSectionVars false
set_option maxRecDepth 100000
namespace Go.Proofs.YthfjhbbpdhjklaaGreat
open Go Go.Sy
end Go.Proofs.YthfjhbbpdhjklaaGreat
set_option linter.unusedVariables false
set_option linter.unusedSimpArgs false
set_option linter.unusedSectionVars false
set_option maxRecDepth 100000
namespace Go.Proofs.YthfjhbbpdhjklaaGreat
open Go Go.Sy
section
variable {f most:Int} {base fc A B:List (List Int)} {a b:List Int} (h13:Si.El13 (A++a::b::B)) (ht:a.getD 2 0=b.getD 2 0)
include ht in
include ht in
include h13 ht in
include h13 ht in
end
end Go.Proofs.YthfjhbbpdhjklaaGreat
set_option linter.unusedVariables false
set_option maxRecDepth 100000
set_option linter.unusedSimpArgs false
set_option linter.unusedSectionVars false
namespace Go.Proofs.YthfjhbbpdhjklaaGreat
open Go Go.Sy
theorem xvB {a b c:List Int} (h1:WB a b) (h2:WB b c):WB a c:=by unfold WB at *; omega
theorem xDH (a b:List Int):WB a (hul a b)∧WB b (hul a b):=by
 unfold WB hul
 simp only [List.getD_cons_zero,List.getD_cons_succ]
 omega
theorem xCd:∀ (L:List (List Int)) (a:List Int),WB a (L.foldl hul a)∧∀ x∈L,WB x (L.foldl hul a)
 | [],a=>⟨by unfold WB; simp,fun x hx=>by cases hx⟩
 | y::L,a=>by
  obtain ⟨h1,h2⟩:=xCd L (hul a y)
  refine ⟨xvB (xDH a y).1 h1,fun x hx=>?_⟩
  rcases List.mem_cons.1 hx with rfl | hx
  ·exact xvB (xDH a x).2 h1
  ·exact h2 x hx
theorem xHY (b:List Int):WB b (q4 b)∧WB (q4 b) b:=by unfold WB q4; simp
theorem xEN {L:List (List Int)} {x:List Int} (h:x∈L):WB x (hull L):=by
 cases L with
 | nil=>cases h
 | cons b L =>
  obtain ⟨h1,h2⟩:=xCd L (q4 b)
  rcases List.mem_cons.1 h with rfl | h
  ·exact xvB (xHY _).1 h1
  ·exact h2 x h
theorem xIr {x y:Int} {a b:List Int} (h:HB x y a) (hw:WB a b):HB x y b:=by unfold HB WB at *; omega
section
variable {f most:Int} {base fc rp wr tr:List (List Int)} (h13:Si.El13 rp) (hf:fc.length≤9223372036854775807)
include h13 hf
end
end Go.Proofs.YthfjhbbpdhjklaaGreat
set_option linter.unusedVariables false
set_option linter.unusedSimpArgs false
set_option linter.unusedSectionVars false
set_option maxRecDepth 100000
namespace Go.Proofs.YthfjhbbpdhjklaaGreat
open Go Go.Sy
theorem xrZ {step:List U→Option (Nat×List U)} (μ:List U→Nat) (Inv:List U→Prop) (Post:Nat×List U→Prop)
  (hs:∀ xs,Inv xs→(∃ ys,step xs=some (0,ys)∧Inv ys∧μ ys<μ xs)∨∃ m ys,step xs=some (m+1,ys)∧Post (m+1,ys)) {xs:List U} (h0:Inv xs):xa5 step xs∧Post (xa6 step xs):=by
 have key:∀ k xs,μ xs≤k→Inv xs→∃ n r,xi2 step n xs=some r∧Post r:=by
  intro k
  induction k with
  | zero =>
   intro xs hk hi
   rcases hs xs hi with ⟨ys,_,_,h3⟩ | ⟨m,ys,h1,h2⟩
   ·omega
   ·exact ⟨1,_,xcB h1,h2⟩
  | succ k ih =>
   intro xs hk hi
   rcases hs xs hi with ⟨ys,h1,h2,h3⟩ | ⟨m,ys,h1,h2⟩
   ·obtain ⟨n,r,h4,h5⟩:=ih ys (by omega) h2
    exact ⟨n+1,r,xaK h1 h4,h5⟩
   ·exact ⟨1,_,xcB h1,h2⟩
 obtain ⟨n,r,h1,h2⟩:=key (μ xs) xs (Nat.le_refl _) h0
 obtain ⟨h3,h4⟩:=xfI h1
 exact ⟨h3,by rw [h4]; exact h2⟩
theorem xrx {a b:Int} (h0:0≤a) (h:a≤b):a*a≤b*b:=Int.mul_le_mul h h h0 (by omega)
theorem xEf (z:Int):0≤z*z:=by
 rcases Int.le_total 0 z with h | h
 ·exact Int.mul_nonneg h h
 ·have:=Int.mul_nonneg (show 0 ≤ -z by omega) (show 0 ≤ -z by omega)
  have e:(-z)*(-z)=z*z:=by grind
  omega
theorem xFh {a r:Int} (hr:0≤r) (h:a*a≤r*r) : -r≤a∧a≤r:=by
 constructor
 ·refine Int.not_lt.1 fun k=>?_
  have h1:(r+1)*(r+1)≤(-a)*(-a):=xrx (by omega) (by omega)
  have h2:(-a)*(-a)=a*a:=by grind
  have h3:(r+1)*(r+1)=r*r+2*r+1:=by grind
  omega
 ·refine Int.not_lt.1 fun k=>?_
  have h1:(r+1)*(r+1)≤a*a:=xrx (by omega) (by omega)
  have h3:(r+1)*(r+1)=r*r+2*r+1:=by grind
  omega
theorem xH7 {a b:Int} (h0:0≤a) (h:a≤b):100*(a*a)≤100*(b*b):=by have:=xrx h0 h; omega
def RAD (free r:Int):Prop:=0≤r∧r≤100000∧free≤100*(r*r)∧∀ q,0≤q→q<r→100*(q*q)<free
theorem half {i j:Int} (h0:0≤i) (h1:i<j) (h2:j≤100000) :
  IntKind.i64.wrap ((IntKind.u64.wrap (IntKind.i64.wrap (i+j))).fdiv ((2:Int) ^ min (Int.toNat (1:Int)) IntKind.u64.bits))=(i+j)/2:=by
 have e1:IntKind.i64.wrap (i+j)=i+j:=xau (by omega)
 have e2:IntKind.u64.wrap (i+j)=i+j:=by
  unfold IntKind.wrap
  simp only [IntKind.signed,IntKind.bits]
  try simp
  omega
 have e3:((2:Int) ^ min (Int.toNat (1:Int)) IntKind.u64.bits)=2:=by decide
 rw [e1,e2,e3,Int.fdiv_eq_ediv_of_nonneg _ (by decide)]
 exact xau (by omega)
theorem xFE (x y d0 d1 c w0 w1:Int) (hc:0≤c∧c≤1000000) (hw:0≤w0∧w0≤200000) :
  xb8 x y d0 d1 c w0 w1∧RAD (c*c-w0*w0) (xds x y d0 d1 c w0 w1):=by
 have hcc:=Si.xc7 (A:=1000000) (B:=1000000) (x:=c) (n:=c) (by omega) hc.2 (by omega) hc.2
 have hww:=Si.xc7 (A:=200000) (B:=200000) (x:=w0) (n:=w0) (by omega) hw.2 (by omega) hw.2
 have key:=xrZ (step:=xcc x y d0 d1 c w0 w1) (fun xs=>(gi xs 1-gi xs 0).toNat)
  (fun xs=>∃ i j,xs=[.i i,.i j]∧0≤i∧i≤j∧j≤100000∧(∀ q,0≤q→q<i→100*(q*q)<c*c-w0*w0)∧(j=100000∨c*c-w0*w0≤100*(j*j)))
  (fun res=>RAD (c*c-w0*w0) (gi res.2 0))
  (fun xs ⟨i,j,e,h0,h1,h2,h3,h4⟩=>by
   subst e
   unfold xcc
   by_cases hij:i<j
   ·left
    have hh:=half h0 hij h2
    have b1:=Si.xc7 (A:=100000) (B:=100000) (x:=(i+j)/2) (n:=(i+j)/2) (by omega) (by omega) (by omega) (by omega)
    have e0:xeK x y d0 d1 c w0 w1 [.i i,.i j]=100*((i+j)/2*((i+j)/2)):=by
     unfold xeK
     simp only [gi_z,gi_1]
     rw [hh,xau (by omega)]
     grind
    rw [e0]
    simp only [gi_z,gi_1]
    rw [hh,decide_eq_true hij,cond_true,xaN (by decide),xau (x:=100*((i+j)/2*((i+j)/2))) (by omega),xau (x:=c*c) (by omega),xau (x:=w0*w0) (by omega),xau (x:=c*c-w0*w0) (by omega),xau (x:=(i+j)/2+1) (by omega)]
    by_cases hg:100*((i+j)/2*((i+j)/2))≥c*c-w0*w0
    ·rw [decide_eq_true hg,Bool.not_true,cond_false]
     refine ⟨_,rfl,⟨i,(i+j)/2,rfl,h0,by omega,by omega,h3,.inr hg⟩,?_⟩
     simp only [gi_z,gi_1]
     omega
    ·rw [decide_eq_false hg,Bool.not_false,cond_true]
     refine ⟨_,rfl,⟨(i+j)/2+1,j,rfl,by omega,by omega,h2,fun q q0 q1=>?_,h4⟩,?_⟩
     ·have:=xH7 q0 (show q≤(i+j)/2 by omega)
      omega
     ·simp only [gi_z,gi_1]
      omega
   ·right
    have e:i=j:=by omega
    subst e
    refine ⟨2,[.i i,.i i],?_,?_⟩
    ·simp only [gi_z,gi_1]
     rw [decide_eq_false hij,cond_false]
    ·show RAD _ (gi [U.i i,U.i i] 0)
     rw [gi_z]
     refine ⟨h0,h2,?_,h3⟩
     rcases h4 with h4 | h4
     ·have:=xEf w0
      subst h4; omega
     ·exact h4)
  (xs:=xdk x y d0 d1 c w0 w1) ⟨0,100000,rfl,by omega,by omega,by omega,fun q q0 q1=>by omega,.inl rfl⟩
 exact ⟨key.1,key.2⟩
def MV (x y d0 d1 c:Int):Prop:=Si.Pt x y∧(0≤d0∧d0≤d1∧d1≤100000)∧0≤c∧c≤1000000
instance (x y d0 d1 c:Int):Decidable (MV x y d0 d1 c):=by unfold MV; infer_instance
def HT (t0 t1:Int):Prop := -100000≤t0∧t0≤t1∧t1≤100000
instance (t0 t1:Int):Decidable (HT t0 t1):=by unfold HT; infer_instance
theorem xF2 (t0 t1:Int):xbI t0 t1=decide (HT t0 t1):=by
 unfold xbI xd0
 rw [xcQ,Bool.eq_iff_iff,decide_eq_true_eq]
 unfold HT
 simp only [Bool.and_eq_true,decide_eq_true_eq]
 omega
theorem xFK (x y d0 d1 c:Int):xco x y d0 d1 c=decide (MV x y d0 d1 c):=by
 unfold xco xfv xd0
 rw [Si.xcG,xcQ,Bool.eq_iff_iff,decide_eq_true_eq]
 unfold MV
 simp only [Bool.and_eq_true,decide_eq_true_eq]
 by_cases h:Si.Pt x y
 ·simp only [h,true_and]; omega
 ·simp only [h,false_and]
def mbx (x y r:Int):List Int:=[x-r,x+r,y-r,y+r]
theorem xEP (x y r:Int) (hp:Si.Pt x y) (hr:0≤r∧r≤100000) :
  xf1 x x y y r=(if VB (mbx x y r) then 0 else 3)∧(VB (mbx x y r)→xf5 x x y y r=x-r∧xf4 x x y y r=x+r∧xf3 x x y y r=y-r∧xf2 x x y y r=y+r):=by
 have hp':=hp
 unfold Si.Pt at hp
 have v1:xab x x y y=true:=(xqM [x,x,y,y]).trans (decide_eq_true (by unfold VB; simp only [List.getD_cons_zero,List.getD_cons_succ]; omega))
 have v2:xab (x-r) (x+r) (y-r) (y+r)=decide (VB (mbx x y r)):=xqM (mbx x y r)
 have w1:IntKind.i64.wrap (x-r)=x-r:=xau (by omega)
 have w2:IntKind.i64.wrap (x+r)=x+r:=xau (by omega)
 have w3:IntKind.i64.wrap (y-r)=y-r:=xau (by omega)
 have w4:IntKind.i64.wrap (y+r)=y+r:=xau (by omega)
 have n1:decide (r<0)=false:=decide_eq_false (by omega)
 have n2:decide (r>3000000)=false:=decide_eq_false (by omega)
 unfold xf1 xf5 xf4 xf3 xf2 xmc xmb xma xl9 xl8
 rw [v1,w1,w2,w3,w4,v2,n1,n2]
 by_cases h:VB (mbx x y r)
 ·rw [decide_eq_true h,if_pos h]
  exact ⟨rfl,fun _=>⟨rfl,rfl,rfl,rfl⟩⟩
 ·rw [decide_eq_false h,if_neg h]
  exact ⟨rfl,fun k=>absurd k h⟩
theorem xBV (x y d0 d1 c t0 t1:Int):xcZ x y d0 d1 c t0 t1 ∧
  ((xbW x y d0 d1 c t0 t1≠0∧¬ (MV x y d0 d1 c∧HT t0 t1∧max 0 (d1+t1)≤c)) ∨
   (MV x y d0 d1 c∧HT t0 t1∧∃ r,RAD (c*c-max 0 (d0+t0)*max 0 (d0+t0)) r∧xbW x y d0 d1 c t0 t1=(if VB (mbx x y r) then 0 else 3) ∧
    (VB (mbx x y r)→xam x y d0 d1 c t0 t1=x-r∧xal x y d0 d1 c t0 t1=x+r∧xak x y d0 d1 c t0 t1=y-r∧xaj x y d0 d1 c t0 t1=y+r))):=by
 unfold xcZ xbW xam xal xak xaj xd8 xcd xcz xkQ xgy xgx xgw xgv xdz xfG xd7
 rw [xFK,xF2]
 by_cases h1:MV x y d0 d1 c
 ·by_cases h2:HT t0 t1
  ·rw [decide_eq_true h1,decide_eq_true h2]
   have e5:imax 0 (IntKind.i64.wrap (d0+t0))=max 0 (d0+t0):=by unfold MV HT at *; rw [xau (by omega),xgO]
   have e6:imax 0 (IntKind.i64.wrap (d1+t1))=max 0 (d1+t1):=by unfold MV HT at *; rw [xau (by omega),xgO]
   rw [e5,e6]
   by_cases h3:c<max 0 (d1+t1)
   ·rw [decide_eq_true h3]
    exact ⟨fun _ k=>(by cases k),.inl ⟨fun k=>absurd (show (6:Int)=0 from k) (by decide),fun k=>by omega⟩⟩
   ·rw [decide_eq_false h3]
    obtain ⟨r1,r2⟩:=xFE x y d0 d1 c (max 0 (d0+t0)) (max 0 (d1+t1)) (by unfold MV at h1; omega) (by unfold MV HT at *; omega)
    refine ⟨fun _ _=>r1,.inr ⟨h1,h2,_,r2,?_⟩⟩
    exact xEP x y _ h1.1 ⟨r2.1,r2.2.1⟩
  ·rw [decide_eq_true h1,decide_eq_false h2]
   exact ⟨fun k=>(by cases k),.inl ⟨fun k=>absurd (show (1:Int)=0 from k) (by decide),fun k=>h2 k.2.1⟩⟩
 ·rw [decide_eq_false h1]
  exact ⟨fun k=>(by cases k),.inl ⟨by simp,fun k=>h1 k.1⟩⟩
theorem xCb {x y d0 d1 c t0 t1 h px py r:Int} (hh:t0≤h∧h≤t1) (h1:xcX x y d0 d1 c h px py=0) (h2:xcY x y d0 d1 c h px py=true) (hr:RAD (c*c-max 0 (d0+t0)*max 0 (d0+t0)) r):VP px py∧HB px py (mbx x y r):=by
 unfold xcX at h1
 unfold xcY at h2
 rw [xFK,xF2,Si.xcG] at h1 h2
 by_cases k1:MV x y d0 d1 c
 ·by_cases k2:HT h h
  ·by_cases k3:Si.Pt px py
   ·rw [decide_eq_true k1,decide_eq_true k2,decide_eq_true k3] at h2
    refine ⟨k3,?_⟩
    unfold xeC xdz xfG at h2
    unfold MV HT Si.Pt at *
    obtain ⟨r0,_,r1,_⟩:=hr
    have w1:IntKind.i64.wrap (px-x)=px-x:=xau (by omega)
    have w2:IntKind.i64.wrap (py-y)=py-y:=xau (by omega)
    have w3:imax 0 (IntKind.i64.wrap (d0+h))=max 0 (d0+h):=by rw [xau (by omega),xgO]
    rw [w1,w2,w3] at h2
    have b1:=Si.xc7 (A:=2000000) (B:=2000000) (x:=px-x) (n:=px-x) (by omega) (by omega) (by omega) (by omega)
    have b2:=Si.xc7 (A:=2000000) (B:=2000000) (x:=py-y) (n:=py-y) (by omega) (by omega) (by omega) (by omega)
    have b3:=Si.xc7 (A:=200000) (B:=200000) (x:=max 0 (d0+h)) (n:=max 0 (d0+h)) (by omega) (by omega) (by omega) (by omega)
    have b4:=Si.xc7 (A:=1000000) (B:=1000000) (x:=c) (n:=c) (by omega) (by omega) (by omega) (by omega)
    have s1:max 0 (d0+t0)*max 0 (d0+t0)≤max 0 (d0+h)*max 0 (d0+h):=xrx (by omega) (by omega)
    have p1:0≤(px-x)*(px-x):=by
     have:=xEf (px-x); exact this
    have p2:0≤(py-y)*(py-y):=by
     have:=xEf (py-y); exact this
    have h3:100*((px-x)*(px-x)+(py-y)*(py-y))+max 0 (d0+h)*max 0 (d0+h)≤c*c:=by
     have:=h2
     simp only [Bool.not_true,Bool.or_false,cond_false,decide_eq_true_eq] at this
     rw [xau (x:=(px-x)*(px-x)) (by omega),xau (x:=(py-y)*(py-y)) (by omega),xau (x:=(px-x)*(px-x)+(py-y)*(py-y)) (by omega),xau (x:=100*((px-x)*(px-x)+(py-y)*(py-y))) (by omega),xau (x:=max 0 (d0+h)*max 0 (d0+h)) (by omega),xau (x:=c*c) (by omega),xau (by omega)] at this
     exact this
    have q1:=xFh r0 (show (px-x)*(px-x)≤r*r by omega)
    have q2:=xFh r0 (show (py-y)*(py-y)≤r*r by omega)
    unfold HB mbx
    simp only [List.getD_cons_zero,List.getD_cons_succ]
    omega
   ·rw [decide_eq_true k1,decide_eq_true k2,decide_eq_false k3] at h1; cases h1
  ·rw [decide_eq_true k1,decide_eq_false k2] at h1; cases h1
 ·rw [decide_eq_false k1] at h1; cases h1
def tb (c wr tr:List (List Int)):List (List Int)→Nat→Int→Bool→Bool
 | [],_,_,t=>t
 | r::rs,i,at_,t=>tb c wr tr rs (i+1) (r.getD 2 0) (t&&allE at_ (r.getD 2 0) (pX tr i) (pY tr i) (pX tr (i+1)) (pY tr (i+1)) c==0&&decide (allB at_ (r.getD 2 0) (pX tr i) (pY tr i) (pX tr (i+1)) (pY tr (i+1)) c)&&decide (RVr r∧Si.Pt (pX tr (i+1)) (pY tr (i+1)))&&(decide (xvW r (pX tr (i+1)) (pY tr (i+1)))||isW wr i))
theorem xyD (c wr tr:List (List Int)) (r:List Int) (rs:List (List Int)) (i:Nat) (at_:Int) (t:Bool):tb c wr tr (r::rs) i at_ t=tb c wr tr rs (i+1) (r.getD 2 0) (t&&allE at_ (r.getD 2 0) (pX tr i) (pY tr i) (pX tr (i+1)) (pY tr (i+1)) c==0&&decide (allB at_ (r.getD 2 0) (pX tr i) (pY tr i) (pX tr (i+1)) (pY tr (i+1)) c)&&decide (RVr r∧Si.Pt (pX tr (i+1)) (pY tr (i+1)))&&(decide (xvW r (pX tr (i+1)) (pY tr (i+1)))||isW wr i)):=rfl
theorem xyC {c wr tr:List (List Int)}:∀ (rs:List (List Int)) (i:Nat) (at_:Int) (t:Bool),tb c wr tr rs i at_ t=true→t=true
 | [],_,_,_,h=>h
 | r::rs,i,at_,t,h=>by
  have:=xyC rs _ _ _ h
  simp only [Bool.and_eq_true] at this
  exact this.1.1.1.1
theorem xFf {c wr tr:List (List Int)}:∀ (rs:List (List Int)) (i:Nat) (at_:Int) (t u:Bool),tb c wr tr rs i at_ t=true→ck c wr tr rs i at_ u=(0,u)
 | [],_,_,_,_,_=>rfl
 | r::rs,i,at_,t,u,h=>by
  have h1:=xyC rs _ _ _ h
  simp only [Bool.and_eq_true,beq_iff_eq] at h1
  obtain ⟨⟨⟨⟨_,h2⟩,h3⟩,h4⟩,h5⟩:=h1
  rw [xCI,if_neg (fun k=>k h2),h3,h4,h5,Bool.and_true,Bool.and_true,Bool.and_true]
  exact xFf rs _ _ _ u h
section
variable (x y d0 d1 c h f:Int) (fc rp wr tr:List (List Int))
theorem xD7 (hw:wr.length≤9223372036854775807) (y0:List U):xa5 (xce x y d0 d1 c h f fc rp wr tr y0) (xfz x y d0 d1 c h f fc rp wr tr y0)∧gb (xiH x y d0 d1 c h f fc rp wr tr y0).2 0=isW wr (gi y0 2):=by
 have key:=xf9 (σ:=Bool) (step:=xce x y d0 d1 c h f fc rp wr tr y0) wr.length (fun j s=>[.b s,.i (j:Int)]) (fun j s=>s||(wr.getD j []).getD 0 0==gi y0 2) (fun _ _=>True) 1 (fun s=>[.b s,.i wr.length])
  (fun _ _ _ _=>trivial)
  (fun j s hj _=>by
   unfold xce
   simp only [gb_z,gi_1,gi_z,dlt hj,xaN (xey hj),Int.toNat_natCast,xpm (show j<9223372036854775807 by omega)])
  (fun s _=>by
   unfold xce
   simp only [gb_z,gi_1,gi_z,dnlt])
  (s:=false) trivial
 refine ⟨key.1,?_⟩
 have e:xiH x y d0 d1 c h f fc rp wr tr y0=_:=key.2.1
 rw [e]
 simp only [gb_z]
 rw [Si.xvD wr (gi y0 2) wr.length (Nat.le_refl _),List.take_length,xEK]
theorem xD8 (hf:fc.length≤9223372036854775807) (hn:rp.length≤8) (hw:wr.length≤9223372036854775807) (ht:tr.length=rp.length+1) (b:Bool) (hb:xcT x y d0 d1 c h f fc rp wr tr=[.b b,.i f,.i 0]) :
  xa5 (xcf x y d0 d1 c h f fc rp wr tr) (xcT x y d0 d1 c h f fc rp wr tr)∧gb (xlJ x y d0 d1 c h f fc rp wr tr).2 0=tb fc wr tr rp 0 f b:=by
 refine xlt (step:=xcf x y d0 d1 c h f fc rp wr tr) rp.length (fun j xs=>∃ t at_,xs=[.b t,.i at_,.i (j:Int)]∧tb fc wr tr rp 0 f b=tb fc wr tr (rp.drop j) j at_ t)
  (fun res=>gb res.2 0=tb fc wr tr rp 0 f b)
  (fun j xs hj ⟨t,at_,e,hk⟩=>?_) (fun xs ⟨t,at_,e,hk⟩=>?_) (xs:=xcT x y d0 d1 c h f fc rp wr tr) ⟨b,f,hb,rfl⟩
 ·subst e
  left
  rw [xp2 hj,xyD] at hk
  have w1:=xbQ (show j<4611686018427387904 by omega)
  obtain ⟨a1,a2,a3⟩:=xCL at_ ((rp.getD j []).getD 2 0) (pX tr j) (pY tr j) (pX tr (j+1)) (pY tr (j+1)) fc hf
  obtain ⟨l1,l2⟩:=xD7 x y d0 d1 c h f fc rp wr tr hw [.b t,.i at_,.i (j:Int)]
  have eg:gi [U.b t,U.i at_,U.i (j:Int)] 2=(j:Int):=by rw [gi_2,gi_z]
  have eg1:gi [U.b t,U.i at_,U.i (j:Int)] 1=at_:=by rw [gi_1,gi_z]
  have e_0:xiG x y d0 d1 c h f fc rp wr tr [.b t,.i at_,.i (j:Int)]=allE at_ ((rp.getD j []).getD 2 0) (pX tr j) (pY tr j) (pX tr (j+1)) (pY tr (j+1)) fc:=by
   unfold xiG; rw [eg,eg1,w1,Int.toNat_natCast,Int.toNat_natCast]; exact a2
  have e_1:xiF x y d0 d1 c h f fc rp wr tr [.b t,.i at_,.i (j:Int)]=if RVr (rp.getD j [])∧Si.Pt (pX tr (j+1)) (pY tr (j+1)) then 0 else 1:=by
   unfold xiF; rw [eg,w1,Int.toNat_natCast,Int.toNat_natCast]; exact Si.xA6 _ _ _ _ _ _ _ _ _ _ _ _ _ _ _
  unfold xcf
  rw [l2,e_0,e_1]
  simp only [eg,eg1]
  rw [xaN l1]
  rw [Si.xA7]
  have a1':xcA at_ ((rp.getD j []).getD 2 0) ((tr.getD j []).getD 0 0) ((tr.getD j []).getD 1 0) ((tr.getD (j+1) []).getD 0 0) ((tr.getD (j+1) []).getD 1 0) fc:=a1
  have a3':xex at_ ((rp.getD j []).getD 2 0) ((tr.getD j []).getD 0 0) ((tr.getD j []).getD 1 0) ((tr.getD (j+1) []).getD 0 0) ((tr.getD (j+1) []).getD 1 0) fc=_:=a3
  simp only [gb_z,dlt hj,xaN (xey hj),w1,Int.toNat_natCast,xaN (xey (show j<tr.length by omega)),xaN (xey (show j+1<tr.length by omega)),xaN a1',a3']
  refine ⟨_,rfl,_,_,rfl,?_⟩
  rw [hk]
  congr 1
  by_cases h5:RVr (rp.getD j [])∧Si.Pt (pX tr (j+1)) (pY tr (j+1))
  ·rw [if_pos h5,decide_eq_true h5]
   have:decide (Si.RV ((rp.getD j []).getD 0 0) ((rp.getD j []).getD 1 0) ((rp.getD j []).getD 2 0) ((rp.getD j []).getD 3 0) ((rp.getD j []).getD 4 0) ((rp.getD j []).getD 5 0) ((rp.getD j []).getD 6 0) ((rp.getD j []).getD 7 0) ((rp.getD j []).getD 8 0) ((rp.getD j []).getD 9 0) ((rp.getD j []).getD 10 0) ((rp.getD j []).getD 11 0) ((rp.getD j []).getD 12 0)∧Si.Pt ((tr.getD (j+1) []).getD 0 0) ((tr.getD (j+1) []).getD 1 0)∧Si.Sees ((rp.getD j []).getD 4 0) ((rp.getD j []).getD 5 0) ((rp.getD j []).getD 6 0) ((rp.getD j []).getD 7 0) ((rp.getD j []).getD 8 0) ((rp.getD j []).getD 9 0) ((rp.getD j []).getD 10 0) ((rp.getD j []).getD 11 0) ((rp.getD j []).getD 12 0) ((tr.getD (j+1) []).getD 0 0) ((tr.getD (j+1) []).getD 0 0) ((tr.getD (j+1) []).getD 1 0) ((tr.getD (j+1) []).getD 1 0))=decide (xvW (rp.getD j []) (pX tr (j+1)) (pY tr (j+1))):=by
    rw [decide_eq_decide]
    exact ⟨fun k=>k.2.2,fun k=>⟨h5.1,h5.2,k⟩⟩
   rw [this]
   rfl
  ·rw [if_neg h5,decide_eq_false h5]
   simp
 ·subst e
  refine ⟨1,[.b t,.i at_,.i rp.length],?_,?_⟩
  ·unfold xcf
   simp only [gb_z,gi_2,gi_1,gi_z,dnlt]
  ·rw [hk,List.drop_length,gb_z]
   rfl
theorem xD9 (hf:fc.length≤9223372036854775807) (hn:rp.length≤8) (hw:wr.length≤9223372036854775807) :
  xdD x y d0 d1 c h f fc rp wr tr∧(xeE x y d0 d1 c h f fc rp wr tr=true→tr.length=rp.length+1∧xcX x y d0 d1 c h (pX tr 0) (pY tr 0)=0∧xcY x y d0 d1 c h (pX tr 0) (pY tr 0)=true∧tb fc wr tr rp 0 f true=true):=by
 unfold xdD xeE
 have wl:IntKind.i64.wrap ((rp.length:Int)+1)=((rp.length+1:Nat):Int):=xbQ (by omega)
 rw [wl]
 by_cases ht:tr.length=rp.length+1
 ·have b1:((tr.length:Int) !=((rp.length+1:Nat):Int))=false:=by rw [bne_eq_false_iff_eq,ht]
  rw [b1,cond_false]
  have hr:inR (0:Int) tr:=by unfold inR; omega
  obtain ⟨l1,l2⟩:=xD8 x y d0 d1 c h f fc rp wr tr hf hn hw ht (xcX x y d0 d1 c h (pX tr 0) (pY tr 0)==0&&xcY x y d0 d1 c h (pX tr 0) (pY tr 0)) rfl
  refine ⟨fun _=>⟨hr,hr,l1⟩,fun k=>?_⟩
  rw [l2] at k
  have k1:=xyC _ _ _ _ k
  rw [k1] at k
  rw [Bool.and_eq_true,beq_iff_eq] at k1
  exact ⟨ht,k1.1,k1.2,k⟩
 ·have b1:((tr.length:Int) !=((rp.length+1:Nat):Int))=true:=by rw [bne_iff_ne]; omega
  rw [b1,cond_true]
  exact ⟨fun k=>(by cases k),fun k=>(by cases k)⟩
end
section
variable {f:Int} {base fc rp wr tr:List (List Int)}
end
def tB:List (List Int):=[[-4,4,-4,4]]
def tF:List (List Int):=[[0,100,100,200,0,0]]
def tR1:List (List Int):=[[1,1,50,1,70,70,0,0,-1,1,-1,-1,20]]
theorem xH3:xcZ 0 0 30 40 50 0 0∧xbW 0 0 30 40 50 0 0=0∧xam 0 0 30 40 50 0 0 = -4∧xal 0 0 30 40 50 0 0=4∧xak 0 0 30 40 50 0 0 = -4∧xaj 0 0 30 40 50 0 0=4:=by
 obtain ⟨h1,h2⟩:=xBV 0 0 30 40 50 0 0
 refine ⟨h1,?_⟩
 rcases h2 with ⟨_,k⟩ | ⟨_,_,r,⟨r0,r1,r2,r3⟩,k1,k2⟩
 ·exact absurd (by decide) k
 ·have e:r=4:=by
   have a1:¬ 4<r:=fun k=>by have:=r3 4 (by decide) k; exact absurd this (by decide)
   have a2:¬ r≤3:=fun k=>by
    have:=xrx r0 k
    have e2:(max 0 (30+0):Int)=30:=by decide
    rw [e2] at r2
    omega
   omega
  subst e
  rw [if_pos (by decide)] at k1
  exact ⟨k1,k2 (by decide)⟩
theorem t13:Si.El13 tR1:=xF5 (by decide +kernel)
theorem tgs:GS 0 tB tF tR1:=⟨by decide +kernel,by decide +kernel,by decide,by decide +kernel,by decide,by decide⟩
theorem tsv:svE 0 tB tF tR1=0:=by
 rcases xvE 0 tB tF tR1 with ⟨_,k⟩ | ⟨_,g,k⟩ | ⟨e,_⟩
 ·exact absurd tgs k
 ·rw [xBN t13 g.rv g.ln] at k; exact absurd k (by decide +kernel)
 ·exact e
end Go.Proofs.YthfjhbbpdhjklaaGreat
set_option linter.unusedVariables false
set_option linter.unusedSimpArgs false
set_option linter.unusedSectionVars false
set_option maxRecDepth 100000
set_option maxHeartbeats 4000000
namespace Go.Proofs.YthfjhbbpdhjklaaGreat
open Go Go.Sy
def Z4 (a b c d:Int):Prop:=a=0∧b=0∧c=0∧d=0
def H12 (t a b c d p q e f g h:Int):Prop :=
 (t=0∨t=1)∧(q=0∨q=1)∧(p=0∨1≤p∧p≤50)∧(p=0→q=0)∧(t=1→xab a b c d=true)∧(t=0→q=0∧Z4 a b c d) ∧
 (p≠0→q=0→xab e f g h=true)∧((p=0∨q=1)→Z4 e f g h)
theorem xC0 {k t a b c d p q e f g h:Int} (hk:1≤k∧k≤50) (hh:H12 t a b c d p q e f g h) (hor:t=1∨p≠0):xgA k (t !=0) a b c d p (q !=0) e f g h=true:=by
 obtain ⟨ht,hq,hp,hpq,hta,htz,hn,hz⟩:=hh
 have n1:xa7 k=true:=by unfold xa7; simp; omega
 unfold xgA
 rw [n1]
 rcases ht with rfl | rfl
 ·obtain ⟨rfl,rfl,rfl,rfl,rfl⟩:=htz rfl
  rcases hp with rfl | hp
  ·exact absurd hor (by decide)
  ·have n2:xa7 p=true:=by unfold xa7; simp; omega
   have n3:(p !=0)=true:=by simp; omega
   rw [n2,n3,hn (by omega) rfl]
   rfl
 ·have va:=hta rfl
  rw [va]
  rcases hp with rfl | hp
  ·obtain rfl:=hpq rfl
   obtain ⟨rfl,rfl,rfl,rfl⟩:=hz (.inl rfl)
   rfl
  ·have n2:xa7 p=true:=by unfold xa7; simp; omega
   have n3:(p !=0)=true:=by simp; omega
   rw [n2,n3]
   rcases hq with rfl | rfl
   ·rw [hn (by omega) rfl]; rfl
   ·obtain ⟨rfl,rfl,rfl,rfl⟩:=hz (.inr rfl)
    rfl
def ActV (a:List Int):Prop:=(a.getD 0 0=1∨a.getD 0 0=2∨a.getD 0 0=3∨a.getD 0 0=4)∧(1≤a.getD 1 0∧a.getD 1 0≤50)∧(1≤a.getD 2 0∧a.getD 2 0≤50) ∧
 (a.getD 0 0=1→xab (a.getD 4 0) (a.getD 5 0) (a.getD 6 0) (a.getD 7 0)=true)
theorem xE0 {a:List Int} (h:xeX (a.getD 0 0) (a.getD 1 0) (a.getD 2 0) (a.getD 3 0) (a.getD 4 0) (a.getD 5 0) (a.getD 6 0) (a.getD 7 0)=true):ActV a:=by
 unfold ActV
 generalize a.getD 0 0=a0 at *
 generalize a.getD 1 0=a1 at *
 generalize a.getD 2 0=a2 at *
 generalize a.getD 3 0=a3 at *
 unfold xeX at h
 cases n1:xa7 a1
 ·rw [n1] at h; exact absurd h (by simp)
 cases n2:xa7 a2
 ·rw [n1,n2] at h; exact absurd h (by simp)
 unfold xa7 at n1 n2
 simp only [Bool.and_eq_true,decide_eq_true_eq] at n1 n2
 refine ⟨?_,⟨n1.1,n1.2⟩,⟨n2.1,n2.2⟩,?_⟩
 ·by_cases e1:a0=1
  ·exact .inl e1
  by_cases e2:a0=2
  ·exact .inr (.inl e2)
  by_cases e3:a0=3
  ·exact .inr (.inr (.inl e3))
  by_cases e4:a0=4
  ·exact .inr (.inr (.inr e4))
  have q1:(a0==1)=false:=by simpa using e1
  have q2:(a0==2)=false:=by simpa using e2
  have q3:(a0==3)=false:=by simpa using e3
  have q4:(a0==4)=false:=by simpa using e4
  rw [q1,q2,q3,q4] at h
  revert h
  simp
 ·rintro rfl
  rw [show ((1:Int)==1)=true from rfl,cond_true] at h
  revert h
  cases xab (a.getD 4 0) (a.getD 5 0) (a.getD 6 0) (a.getD 7 0)
  ·cases xa7 a1<;>cases xa7 a2<;>cases decide (a3<0)<;>cases decide (a3>10000000)<;>exact fun k=>k
  ·exact fun _=>rfl
def DG (r:List Int):Prop:=∃ k t a b c d p q e f g h:Int,r=[k,k,t,a,b,c,d,p,q,e,f,g,h]∧(1≤k∧k≤50)∧H12 t a b c d p q e f g h∧(t=1∨p≠0)
theorem xIt:H12 0 0 0 0 0 0 0 0 0 0 0:=⟨.inl rfl,.inl rfl,.inl rfl,fun _=>rfl,fun h=>absurd h (by decide),fun _=>⟨rfl,rfl,rfl,rfl,rfl⟩,fun h=>absurd rfl h,fun _=>⟨rfl,rfl,rfl,rfl⟩⟩
theorem xCA {x a:List Int} (ha:ActV a) {k t x2 x3 x4 x5 p q x8 x9 x10 x11:Int} (hx:x=[k,t,x2,x3,x4,x5,p,q,x8,x9,x10,x11]) (hh:H12 t x2 x3 x4 x5 p q x8 x9 x10 x11) (hk:k=a.getD 1 0∨x=dgZ) :
  (xmX x a).2.2=0→(xmX x a).2.1=true→DG (a.getD 1 0::(xmX x a).1):=by
 obtain ⟨hkind,h1,h2,hvb⟩:=ha
 have hz:x=dgZ→t=0∧p=0:=fun e=>by
  rw [hx] at e; unfold dgZ at e; simp only [List.cons.injEq] at e; exact ⟨e.2.1,e.2.2.2.2.2.2.1⟩
 have hk':k=a.getD 1 0∨(t=0∧p=0):=hk.imp id hz
 clear hk hz
 subst hx
 unfold xmX b01
 simp only [List.getD_cons_zero,List.getD_cons_succ]
 obtain ⟨ht,hq,hp,hpq,hta,htz,hn,hzz⟩:=hh
 have d1:decide ((1:Int)=1)=true:=rfl
 have d21:decide ((2:Int)=1)=false:=rfl
 have d22:decide ((2:Int)=2)=true:=rfl
 have d31:decide ((3:Int)=1)=false:=rfl
 have d32:decide ((3:Int)=2)=false:=rfl
 have d33:decide ((3:Int)=3)=true:=rfl
 have d41:decide ((4:Int)=1)=false:=rfl
 have d42:decide ((4:Int)=2)=false:=rfl
 have d43:decide ((4:Int)=3)=false:=rfl
 have et:(bif t !=0 then (1:Int) else 0)=t:=by rcases ht with rfl | rfl<;>rfl
 rcases hkind with e | e | e | e
 ·rw [e,d1,cond_true]
  cases c1:(p !=0)
  ·rw [cond_false]
   have p0:p=0:=by simpa using c1
   subst p0
   obtain rfl:=hpq rfl
   cases c2:((t !=0)&&eqBx x2 x3 x4 x5 (a.getD 4 0) (a.getD 5 0) (a.getD 6 0) (a.getD 7 0))
   ·rw [cond_false]
    intro _ _
    refine ⟨_,_,_,_,_,_,_,_,_,_,_,_,rfl,h1,?_,.inr (by omega)⟩
    rw [et]
    exact ⟨ht,.inl rfl,.inr h2,fun h=>rfl,hta,fun h=>⟨rfl,(htz h).2⟩,fun _ _=>hvb e,fun h=>h.elim (fun h=>absurd h (by omega)) (fun h=>absurd h (by decide))⟩
   ·exact fun h0 _=>absurd (show (5:Int)=0 from h0) (by decide)
  ·exact fun h0 _=>absurd (show (6:Int)=0 from h0) (by decide)
 ·rw [e,d21,d22,cond_true,cond_false]
  rcases ht with rfl | rfl
  ·exact fun h0 _=>absurd (show (4:Int)=0 from h0) (by decide)
  ·rw [show (!((1:Int) !=0))=false from rfl,cond_false]
   cases c1:(p !=0)
   ·rw [cond_false]
    intro _ _
    have p0:p=0:=by simpa using c1
    subst p0
    obtain rfl:k=a.getD 1 0:=by rcases hk' with h | h<;>omega
    obtain ⟨rfl,rfl,rfl,rfl⟩:=hzz (.inl rfl)
    refine ⟨_,_,_,_,_,_,_,_,_,_,_,_,rfl,h1,?_,.inl rfl⟩
    exact ⟨.inr rfl,.inr rfl,.inr h2,fun h=>by omega,hta,fun h=>absurd h (by decide),fun _ h=>absurd h (by decide),fun _=>⟨rfl,rfl,rfl,rfl⟩⟩
   ·exact fun h0 _=>absurd (show (6:Int)=0 from h0) (by decide)
 ·rw [e,d31,d32,d33,cond_true,cond_false,cond_false]
  cases c1:(p==0)
  ·rw [cond_false]
   have p0:p≠0:=by simpa using c1
   obtain rfl:k=a.getD 1 0:=by rcases hk' with h | h<;>omega
   cases c2:(p==a.getD 2 0)
   ·rw [cond_false]
    intro _ hq1
    have q0:q=0:=by
     rcases hq with h | rfl
     ·exact h
     ·exact absurd (show false=true from hq1) (by decide)
    exact ⟨_,_,_,_,_,_,_,_,_,_,_,_,rfl,h1,⟨.inr rfl,.inl rfl,.inl rfl,fun _=>rfl,fun _=>hn p0 q0,fun h=>absurd h (by decide),fun h=>absurd rfl h,fun _=>⟨rfl,rfl,rfl,rfl⟩⟩,.inl rfl⟩
   ·exact fun h0 _=>absurd (show (21:Int)=0 from h0) (by decide)
  ·exact fun h0 _=>absurd (show (4:Int)=0 from h0) (by decide)
 ·rw [e,d41,d42,d43,cond_false,cond_false,cond_false]
  cases c1:(p==0)
  ·rw [cond_false]
   intro _ ht1
   have p0:p≠0:=by simpa using c1
   obtain rfl:k=a.getD 1 0:=by rcases hk' with h | h<;>omega
   rcases ht with rfl | rfl
   ·exact absurd (show false=true from ht1) (by decide)
   exact ⟨_,_,_,_,_,_,_,_,_,_,_,_,rfl,h1,⟨.inr rfl,.inl rfl,.inl rfl,fun _=>rfl,fun _=>hta rfl,fun h=>absurd h (by decide),fun h=>absurd rfl h,fun _=>⟨rfl,rfl,rfl,rfl⟩⟩,.inl rfl⟩
  ·exact fun h0 _=>absurd (show (4:Int)=0 from h0) (by decide)
def St (rows:List (List Int)):Prop:=(∀ r∈rows,DG r)∧(rows.map fun r=>r.getD 0 0).Nodup
theorem DG.take {r:List Int} (h:DG r):r.take 1=[r.getD 0 0]∧r=r.getD 0 0::r.drop 1:=by
 obtain ⟨k,t,a,b,c,d,p,q,e,f,g,h,rfl,_⟩:=h
 exact ⟨rfl,rfl⟩
theorem xsg {rows:List (List Int)} {k:Int} {x:List Int} (h:St rows) (hx:xaO 1 [k] rows=some x):(k::x)∈rows:=by
 unfold xaO at hx
 rw [Option.map_eq_some_iff] at hx
 obtain ⟨r,h1,rfl⟩:=hx
 have h2:=List.find?_some h1
 have h3:=List.mem_of_find?_eq_some h1
 have h4:=(h.1 r h3).take
 rw [decide_eq_true_eq,h4.1] at h2
 simp only [List.cons.injEq,and_true] at h2
 rw [← h2,← h4.2]
 exact h3
theorem xsh {rows:List (List Int)} {k:Int} (h:St rows):xaO 1 [k] rows=none↔∀ r∈rows,r.getD 0 0≠k:=by
 unfold xaO
 rw [Option.map_eq_none_iff,List.find?_eq_none]
 constructor
 ·intro hh r hr e
  refine hh r hr ?_
  rw [decide_eq_true_eq,((h.1 r hr).take).1,e]
 ·intro hh r hr e
  rw [decide_eq_true_eq,((h.1 r hr).take).1] at e
  simp only [List.cons.injEq,and_true] at e
  exact hh r hr e
theorem xr9 {f:List Int→Int} {a b:List Int}:∀ {l:List (List Int)},(l.map f).Nodup→a∈l→b∈l→f a=f b→a=b
 | [],_,ha,_,_=>(List.not_mem_nil ha).elim
 | x::l,hn,ha,hb,e=>by
  rw [List.map_cons,List.nodup_cons] at hn
  rcases List.mem_cons.1 ha with h1 | h1<;>rcases List.mem_cons.1 hb with h2 | h2
  ·rw [h1,h2]
  ·exact absurd (List.mem_map.2 ⟨b,h2,by rw [← e,h1]⟩) hn.1
  ·exact absurd (List.mem_map.2 ⟨a,h1,by rw [e,h2]⟩) hn.1
  ·exact xr9 hn.2 h1 h2 e
theorem xCo {rows:List (List Int)} {r:List Int} (h:St rows) (hr:r∈rows):xaO 1 [r.getD 0 0] rows=some (r.drop 1):=by
 cases hf:xaO 1 [r.getD 0 0] rows with
 | none=>exact absurd rfl ((xsh h).1 hf r hr)
 | some x =>
  have h1:=xsg h hf
  have h2:r=r.getD 0 0::x:=by
   exact xr9 h.2 hr h1 rfl
  rw [congrArg (List.drop 1) h2]; rfl
theorem xBz {rows:List (List Int)} {k:Int} {v:List Int} (h:St rows) (hd:DG (k::v)):St (xdU 1 [k] v rows)∧(xdU 1 [k] v rows).length≤rows.length+1∧(k::v)∈xdU 1 [k] v rows:=by
 unfold xdU
 cases hf:xaO 1 [k] rows with
 | some x =>
  rw [Option.isSome_some,cond_true]
  refine ⟨⟨fun r hr=>?_,?_⟩,?_,?_⟩
  ·obtain ⟨r',h1,rfl⟩:=List.mem_map.1 hr
   cases decide (r'.take 1=[k])
   ·exact h.1 r' h1
   ·exact hd
  ·rw [List.map_map]
   have e:(rows.map ((fun r:List Int=>r.getD 0 0)∘fun r=>bif decide (r.take 1=[k]) then [k]++v else r))=rows.map fun r=>r.getD 0 0:=by
    refine List.map_congr_left fun r hr=>?_
    show (bif decide (r.take 1=[k]) then [k]++v else r).getD 0 0=r.getD 0 0
    cases hc:decide (r.take 1=[k])
    ·rfl
    ·rw [decide_eq_true_eq,((h.1 r hr).take).1] at hc
     simp only [List.cons.injEq,and_true] at hc
     rw [hc]; rfl
   rw [e]; exact h.2
  ·rw [List.length_map]; omega
  ·refine List.mem_map.2 ⟨k::x,xsg h hf,?_⟩
   have:decide ((k::x).take 1=[k])=true:=decide_eq_true rfl
   rw [this]; rfl
 | none =>
  rw [Option.isSome_none,cond_false]
  refine ⟨⟨fun r hr=>?_,?_⟩,?_,?_⟩
  ·rcases List.mem_append.1 hr with h1 | h1
   ·exact h.1 r h1
   ·rw [List.mem_singleton.1 h1]; exact hd
  ·rw [List.map_append,List.nodup_append]
   refine ⟨h.2,by simp,fun x hx y hy=>?_⟩
   obtain ⟨r,h1,rfl⟩:=List.mem_map.1 hx
   simp only [List.map_cons,List.map_nil,List.mem_singleton] at hy
   rw [hy]
   exact (xsh h).1 hf r h1
  ·simp
  ·simp
theorem xGa {rows:List (List Int)} (key:List Int) (h:St rows):St (xiz 1 key rows)∧(xiz 1 key rows).length≤rows.length+1:=by
 unfold xiz
 refine ⟨⟨fun r hr=>h.1 r ((List.mem_filter.1 hr).1),?_⟩,?_⟩
 ·exact List.Nodup.sublist ((List.filter_sublist).map _) h.2
 ·have:=List.length_filter_le (fun r:List Int=>!decide (r.take 1=key)) rows
  omega
theorem xD1 {rows:List (List Int)} {a:List Int} (ha:ActV a) (h:St rows):St (actR rows a)∧(actR rows a).length≤rows.length+1:=by
 have key:(xmX ((xaO 1 [a.getD 1 0] rows).getD dgZ) a).2.2=0→(xmX ((xaO 1 [a.getD 1 0] rows).getD dgZ) a).2.1=true→DG (a.getD 1 0::(xmX ((xaO 1 [a.getD 1 0] rows).getD dgZ) a).1):=by
  cases hf:xaO 1 [a.getD 1 0] rows with
  | none=>exact xCA ha (x:=dgZ) rfl xIt (.inr rfl)
  | some x =>
   obtain ⟨k,t,a2,b,c,d,p,q,e,f,g,hh,e1,_,h2,_⟩:=h.1 _ (xsg h hf)
   simp only [List.cons.injEq] at e1
   exact xCA ha (x:=x) e1.2 h2 (.inl e1.1.symm)
 unfold actR
 cases h1:((xmX ((xaO 1 [a.getD 1 0] rows).getD dgZ) a).2.2 !=0)
 ·rw [cond_false]
  cases h2:(xmX ((xaO 1 [a.getD 1 0] rows).getD dgZ) a).2.1
  ·exact xGa _ h
  ·have:=xBz h (key (by simpa using h1) h2)
   exact ⟨this.1,this.2.1⟩
 ·rw [cond_true]; exact ⟨h,by omega⟩
theorem xw7:St []:=⟨fun r hr=>(List.not_mem_nil hr).elim,List.Pairwise.nil⟩
theorem xqe:∀ (uj rows:List (List Int)),(∀ a∈uj,ActV a)→St rows→St (uj.foldl actR rows)∧(uj.foldl actR rows).length≤rows.length+uj.length
 | [],rows,_,h=>⟨h,by simp⟩
 | a::r,rows,ha,h=>by
  have h1:=xD1 (ha a (List.mem_cons_self ..)) h
  have h2:=xqe r (actR rows a) (fun b hb=>ha b (List.mem_cons_of_mem _ hb)) h1.1
  rw [List.foldl_cons,List.length_cons]
  exact ⟨h2.1,by omega⟩
theorem xEZ {rows:List (List Int)} {a:List Int} {k:Int} (h:∀ r∈rows,r.getD 0 0≠k) (ha:a.getD 1 0≠k):∀ r∈actR rows a,r.getD 0 0≠k:=by
 unfold actR
 cases (xmX ((xaO 1 [a.getD 1 0] rows).getD dgZ) a).2.2 !=0
 ·rw [cond_false]
  cases (xmX ((xaO 1 [a.getD 1 0] rows).getD dgZ) a).2.1
  ·exact fun r hr=>h r ((List.mem_filter.1 hr).1)
  ·rw [cond_true]
   unfold xdU
   cases (xaO 1 [a.getD 1 0] rows).isSome
   ·rw [cond_false]
    intro r hr
    rcases List.mem_append.1 hr with h1 | h1
    ·exact h r h1
    ·rw [List.mem_singleton.1 h1]; exact ha
   ·rw [cond_true]
    intro r hr
    obtain ⟨r',h1,rfl⟩:=List.mem_map.1 hr
    cases decide (r'.take 1=[a.getD 1 0])
    ·exact h r' h1
    ·exact ha
 ·exact h
theorem xAe {k:Int}:∀ (uj rows:List (List Int)),(∀ a∈uj,a.getD 1 0≠k)→(∀ r∈rows,r.getD 0 0≠k)→∀ r∈uj.foldl actR rows,r.getD 0 0≠k
 | [],rows,_,h=>h
 | a::r,rows,ha,h=>xAe r (actR rows a) (fun b hb=>ha b (List.mem_cons_of_mem _ hb)) (xEZ h (ha a (List.mem_cons_self ..)))
end Go.Proofs.YthfjhbbpdhjklaaGreat
set_option linter.unusedVariables false
set_option linter.unusedSimpArgs false
set_option linter.unusedSectionVars false
set_option maxRecDepth 100000
set_option maxHeartbeats 4000000
namespace Go.Proofs.YthfjhbbpdhjklaaGreat
open Go Go.Sy
theorem xCr (ua:List (List Int)) (hl:ua.length≤1000):xga ua∧(xbS ua=true→∀ a∈ua,ActV a):=by
 have k0:=xrZ (step:=xc8 ua) (fun xs=>(gi xs 1).toNat) (fun xs=>∃ k:Int,xs=[.b false,.i k] ∧ -1≤k∧k<ua.length) (fun _=>True)
  (fun xs ⟨k,e,h1,h2⟩=>by
   subst e
   unfold xc8
   simp only [gi_1,gi_z,gb_z]
   by_cases hk:k>0
   ·have w:IntKind.i64.wrap (k-1)=k-1:=xau (by omega)
    have i1:inR k ua:=⟨by omega,h2⟩
    have i2:inR (k-1) ua:=⟨by omega,by omega⟩
    rw [decide_eq_true hk,cond_true,w,xaa i1,xaa i1,xaa i2,xaa i2]
    cases decide (xaI ((ua.getD k.toNat []).getD 3 0) ((ua.getD (k-1).toNat []).getD 3 0)<0)
    ·left
     refine ⟨_,rfl,⟨k-1,rfl,by omega,by omega⟩,?_⟩
     show (k-1).toNat<k.toNat
     omega
    ·right
     exact ⟨0,_,rfl,trivial⟩
   ·right
    rw [decide_eq_false hk]
    exact ⟨2,_,rfl,trivial⟩)
  (xs:=xc9 ua) ⟨(ua.length:Int)-1,by unfold xc9; rw [xau (by omega)],by omega,by omega⟩
 obtain ⟨k1,k2⟩:=xev (step:=xb5 ua) ua.length (fun i=>!xeX ((ua.getD i []).getD 0 0) ((ua.getD i []).getD 1 0) ((ua.getD i []).getD 2 0) ((ua.getD i []).getD 3 0) ((ua.getD i []).getD 4 0) ((ua.getD i []).getD 5 0) ((ua.getD i []).getD 6 0) ((ua.getD i []).getD 7 0))
  (fun i=>[.i 0,.i i]) (fun i=>[.i i]) 0 2 [.i 0,.i ua.length]
  (fun i hi=>by
   unfold xb5
   simp only [gi_1,gi_z,gb_z,dlt hi,xaa (xey hi),xbQ (show i<4611686018427387904 by omega),Int.toNat_natCast])
  (by
   unfold xb5
   simp only [gi_1,gi_z,dnlt])
 refine ⟨⟨fun _=>k0.1,fun _=>k1⟩,fun hv a ha=>?_⟩
 unfold xbS xi4 at hv
 rw [Bool.and_eq_true] at hv
 have hv2:=hv.2
 rcases k2 with ⟨i,hi,hp,_,hg⟩ | ⟨hn,hg⟩
 ·exfalso
  rw [show xfw ua=[.i 0,.i ((0:Nat):Int)] from rfl,hg] at hv2
  rw [show (Nat.beq ((1,[U.i (i:Int)]):Nat×List U).1 1)=true from rfl,cond_true,gi_z,decide_eq_true (show ((i:Int))≥0 by omega)] at hv2
  exact absurd hv2 (by decide)
 ·obtain ⟨i,hi,rfl⟩:=List.getElem_of_mem ha
  have:=hn i hi
  rw [xhC hi] at this
  exact xE0 (by simpa using this)
theorem xuZ {σ:Type} (g:σ→List Int→σ) (l:List (List Int)) (s:σ):∀ n,n≤l.length→upto (fun i s=>g s (l.getD i [])) n s=(l.take n).foldl g s
 | 0,_=>rfl
 | n+1,h=>by
  unfold upto
  rw [xuZ g l s n (by omega),List.take_add_one,List.foldl_append,List.getD_eq_getElem?_getD,List.getElem?_eq_getElem (show n<l.length by omega)]
  rfl
theorem xFa {n:Int} (h0 : -1000000000≤n) (h1:n≤1000000000):(Lit.int .i64 n).wf=true:=by
 have e1:IntKind.i64.min = -9223372036854775808:=by decide
 have e2:IntKind.i64.max=9223372036854775807:=by decide
 unfold Lit.wf
 simp only [e1,e2,Bool.and_eq_true,decide_eq_true_eq]
 omega
theorem xyZ {rows:List (List Int)} (h:St rows) (hl:rows.length≤1000):xfN rows:=by
 refine ⟨by omega,fun r hr=>?_⟩
 obtain ⟨k,t,a,b,c,d,p,q,e,f,g,hh,rfl,hk,_⟩:=h.1 r hr
 show (Lit.int .i64 k).wf=true
 exact xFa (by omega) (by omega)
theorem xGl (ub:Int) (ua:List (List Int)) (hl:ua.length≤1000) (ht:∀ a∈ua,a.getD 3 0≤ub) :
  xdN ub ua∧(xdp ub ua=1∨(xdp ub ua=0∧(∀ a∈ua,ActV a)∧xbx ub ua=xaZ (ua.foldl actR []))):=by
 obtain ⟨v1,v2⟩:=xCr ua hl
 unfold xdN xdp xbx xsj
 cases hc:(!xbS ua||decide (ub<0)||decide (ub>10000000))
 ·have hv:xbS ua=true:=by
   cases h:xbS ua
   ·rw [h] at hc; exact absurd hc (by simp)
   ·rfl
  have hA:=v2 hv
  obtain ⟨h1,h2,_⟩:=xf9 (step:=xeP ub ua) ua.length (fun i (s:List (List Int))=>[.i i,.r s]) (fun i s=>actR s (ua.getD i [])) (fun i s=>True) 4 (fun s=>[.i ua.length,.r s])
   (fun i s hi _=>trivial)
   (fun i s hi _=>xEY ub ua i s hi (by omega) (ht _ (by rw [xhC hi]; exact List.getElem_mem hi)) (hA _ (by rw [xhC hi]; exact List.getElem_mem hi)).1)
   (fun s _=>by
    unfold xeP
    simp only [gi_z,gr_1,gr_z,dnlt])
   (s:=[]) trivial
  rw [xuZ actR ua [] ua.length (Nat.le_refl _),List.take_length] at h2
  have e:xfn ub ua=(5,[.i ua.length,.r (ua.foldl actR [])]):=h2
  have hs:=xqe ua [] hA xw7
  rw [e]
  refine ⟨⟨v1,fun _=>⟨h1,fun h=>absurd (show false=true from h) (by decide),fun _=>xyZ hs.1 (Nat.le_trans hs.2 (by rw [List.length_nil]; omega))⟩⟩,.inr ⟨rfl,hA,rfl⟩⟩
 ·exact ⟨⟨v1,fun h=>absurd h (by decide)⟩,.inl rfl⟩
def DE (e:List Int):Prop:=∃ k t a b c d p q x f g h:Int,e=[k,t,a,b,c,d,p,q,x,f,g,h]∧(1≤k∧k≤50)∧H12 t a b c d p q x f g h∧(t=1∨p≠0)
theorem xp3 {rows:List (List Int)} {r:List Int} (h:St rows) (hr:r∈rows):dgAt rows (r.getD 0 0)=r.drop 1∧DE (r.drop 1)∧(r.drop 1).getD 0 0=r.getD 0 0:=by
 unfold dgAt
 rw [xCo h hr]
 obtain ⟨k,t,a,b,c,d,p,q,e,f,g,hh,rfl,hk,h12,hor⟩:=h.1 r hr
 refine ⟨?_,⟨k,t,a,b,c,d,p,q,e,f,g,hh,rfl,hk,h12,hor⟩,rfl⟩
 obtain ⟨ht,hq,_⟩:=h12
 rcases ht with rfl | rfl<;>rcases hq with rfl | rfl<;>rfl
theorem xwq {rows:List (List Int)} (h:St rows) {e:List Int}:e∈xaZ rows↔∃ r∈rows,e=r.drop 1:=by
 unfold xaZ
 rw [List.mem_map]
 constructor
 ·rintro ⟨k,hk,rfl⟩
  rw [xr6,List.mem_map] at hk
  obtain ⟨r,hr,rfl⟩:=hk
  exact ⟨r,hr,(xp3 h hr).1⟩
 ·rintro ⟨r,hr,rfl⟩
  exact ⟨r.getD 0 0,xr6.2 (List.mem_map.2 ⟨r,hr,rfl⟩),(xp3 h hr).1⟩
theorem xzT (rows:List (List Int)):(xaZ rows).length=rows.length:=by
 unfold xaZ
 rw [List.length_map,xmI,List.length_map]
theorem xB0 {rows:List (List Int)} (h:St rows):(xaZ rows).Pairwise fun a b=>a.getD 0 0<b.getD 0 0:=by
 unfold xaZ
 rw [List.pairwise_map]
 have h1:=xmH xr4 xr3 (rows.map fun r=>r.getD 0 0)
 have h2:(xmJ Sy.leI (rows.map fun r=>r.getD 0 0)).Nodup:=(xjf _).nodup_iff.2 h.2
 refine (h1.and h2).imp_of_mem fun {a b} ha hb hab=>?_
 have key:∀ k∈xmJ Sy.leI (rows.map fun r=>r.getD 0 0),(dgAt rows k).getD 0 0=k:=fun k hk=>by
  rw [xr6,List.mem_map] at hk
  obtain ⟨r,hr,rfl⟩:=hk
  have:=xp3 h hr
  rw [this.1]; exact this.2.2
 rw [key a ha,key b hb]
 have h4:a≤b:=by have:=hab.1; unfold leI at this; exact of_decide_eq_true this
 have h3:a≠b:=hab.2
 omega
end Go.Proofs.YthfjhbbpdhjklaaGreat
set_option linter.unusedVariables false
set_option linter.unusedSimpArgs false
set_option linter.unusedSectionVars false
set_option maxRecDepth 100000
set_option maxHeartbeats 4000000
namespace Go.Proofs.YthfjhbbpdhjklaaGreat
open Go Go.Sy
noncomputable def xpq (px py:Int) (e:List Int):Bool:=xcg px py (e.getD 2 0) (e.getD 3 0) (e.getD 4 0) (e.getD 5 0)&&e.getD 1 0 !=0
theorem xrq (p:List Int→Bool) (g:List Int→List Int) (l:List (List Int)):∀ n,n≤l.length→upto (fun i (s:List (List Int))=>bif p (l.getD i []) then s++[g (l.getD i [])] else s) n []=((l.take n).filter p).map g
 | 0,_=>rfl
 | n+1,h=>by
  unfold upto
  rw [xrq p g l n (by omega),List.take_add_one,List.getD_eq_getElem?_getD,List.getElem?_eq_getElem (show n<l.length by omega)]
  rw [List.filter_append,List.map_append]
  show (bif p l[n] then _ else _)=_++List.map g (List.filter p [l[n]])
  cases hp:p l[n]
  ·simp [hp]
  ·simp [hp]
theorem xwG (px py:Int) {rows:List (List Int)} (h:St rows) (hl:rows.length≤1000) (hv:xab px px py py=true) :
  xcR px py (xaZ rows)∧xcP px py (xaZ rows)=0∧xcp px py (xaZ rows)=((xaZ rows).filter (xpq px py)).map fun e=>[e.getD 0 0]:=by
 have hlen:(xaZ rows).length≤1000:=by rw [xzT]; exact hl
 have hE:∀ e∈xaZ rows,DE e:=fun e he=>by
  obtain ⟨r,hr,rfl⟩:=(xwq h).1 he
  exact (xp3 h hr).2.1
 have hR:=xB0 h
 generalize xaZ rows=L at *
 obtain ⟨a1,a2,_⟩:=xf9 (step:=xeO px py L) L.length (fun i (s:Int×List (List Int))=>[.b false,.i s.1,.i i,.r s.2])
  (fun i s=>((L.getD i []).getD 0 0,xqB px py L [.b false,.i s.1,.i i,.r s.2])) (fun i s=>if i=0 then s.1=0 else s.1=(L.getD (i-1) []).getD 0 0) 2 (fun s=>[.b false,.i s.1,.i L.length,.r s.2])
  (fun i s hi _=>by rw [if_neg (by omega)]; rfl)
  (fun i s hi hs=>by
   unfold xeO
   simp only [gi_1,gi_2,gi_z,gb_z,dlt hi,xaa (xey hi),xbQ (show i<4611686018427387904 by omega),Int.toNat_natCast]
   have hm:L.getD i []∈L:=by rw [xhC hi]; exact List.getElem_mem hi
   obtain ⟨k,t,a,b,c,d,p,q,x,f,g,hh,e1,hk,h12,hor⟩:=hE _ hm
   have hlt:s.1<(L.getD i []).getD 0 0:=by
    by_cases h0:i=0
    ·rw [if_pos h0] at hs
     rw [hs,e1]
     show 0<k
     omega
    ·rw [if_neg h0] at hs
     rw [hs]
     have:=List.pairwise_iff_getElem.1 hR (i-1) i (by omega) hi (by omega)
     rw [xhC (show i-1<L.length by omega),xhC hi]
     exact this
   rw [decide_eq_false (show ¬ (L.getD i []).getD 0 0≤s.1 by omega),Bool.or_false]
   have so:xgA ((L.getD i []).getD 0 0) ((L.getD i []).getD 1 0 !=0) ((L.getD i []).getD 2 0) ((L.getD i []).getD 3 0) ((L.getD i []).getD 4 0) ((L.getD i []).getD 5 0) ((L.getD i []).getD 6 0) ((L.getD i []).getD 7 0 !=0) ((L.getD i []).getD 8 0) ((L.getD i []).getD 9 0) ((L.getD i []).getD 10 0) ((L.getD i []).getD 11 0)=true:=by
    rw [e1]
    exact xC0 hk h12 hor
   rw [so]
   rfl)
  (fun s _=>by
   unfold xeO
   simp only [gi_1,gi_2,gi_z,gb_z,gr_3,gr_2,gr_1,gr_z,dnlt])
  (s:=(0,[])) rfl
 obtain ⟨b1,b2,_⟩:=xf9 (step:=xeN px py L) L.length (fun i (s:List (List Int))=>[.i i,.r s]) (fun i s=>bif xpq px py (L.getD i []) then s++[[(L.getD i []).getD 0 0]] else s) (fun i s=>s.length≤i) 2 (fun s=>[.i L.length,.r s])
  (fun i s hi hs=>by
   cases xpq px py (L.getD i [])
   ·show s.length≤i+1; omega
   ·show (s++[[(L.getD i []).getD 0 0]]).length≤i+1
    rw [List.length_append]; exact Nat.succ_le_succ hs)
  (fun i s hi hs=>by
   unfold xeN
   simp only [gi_1,gi_z,gr_1,gr_z,dlt hi,xaa (xey hi),xbQ (show i<4611686018427387904 by omega),Int.toNat_natCast]
   have hf:xdo 8 (s.length+[[(L.getD i []).getD 0 0]].length):=by unfold xdo maxLen; simp only [List.length_cons,List.length_nil]; omega
   rw [xaa hf]
   show (bif xpq px py (L.getD i []) then _ else _)=_
   cases xpq px py (L.getD i [])<;>rfl)
  (fun s hs=>by
   unfold xeN
   simp only [gi_z,gr_1,gr_z,dnlt])
  (s:=[]) (Nat.le_refl _)
 have c1:(xiy px py L).fst.beq 1=false:=by
  have:xiy px py L=(3,_):=a2
  rw [this]; rfl
 have c2:gr (xmP px py L).snd 1=(L.filter (xpq px py)).map fun e=>[e.getD 0 0]:=by
  have:xmP px py L=(3,_):=b2
  rw [this,xrq (xpq px py) (fun e=>[e.getD 0 0]) L L.length (Nat.le_refl _),List.take_length]
  rfl
 refine ⟨⟨a1,fun _ _=>b1⟩,?_,?_⟩
 ·unfold xcP; rw [c1,hv]; rfl
 ·unfold xcp; rw [c1,hv,c2]; rfl
theorem xCs (px py k:Int) {rows:List (List Int)} (h:St rows) {r:List Int} (hr:r∈rows) (hk:r.getD 0 0=k) :
  ((((xaZ rows).filter (xpq px py)).map fun e=>[e.getD 0 0]).any fun e=>e.getD 0 0==k)=xpq px py (r.drop 1):=by
 cases ht:xpq px py (r.drop 1)
 ·rw [List.any_eq_false]
  intro e he hek
  obtain ⟨x,hx,rfl⟩:=List.mem_map.1 he
  rw [List.mem_filter] at hx
  obtain ⟨r',hr',rfl⟩:=(xwq h).1 hx.1
  have e1:r'.getD 0 0=k:=by
   rw [← (xp3 h hr').2.2]
   exact of_decide_eq_true hek
  have e2:r'=r:=xr9 h.2 hr' hr (by rw [e1,hk])
  rw [e2,ht] at hx
  exact absurd hx.2 (by decide)
 ·rw [List.any_eq_true]
  refine ⟨[(r.drop 1).getD 0 0],List.mem_map.2 ⟨r.drop 1,List.mem_filter.2 ⟨(xwq h).2 ⟨r,hr,rfl⟩,ht⟩,rfl⟩,?_⟩
  show decide ((r.drop 1).getD 0 0=k)=true
  rw [(xp3 h hr).2.2,hk]
  exact decide_eq_true rfl
theorem xCS {rows:List (List Int)} (h:St rows) {uk one two t b0 b1 b2 b3:Int} (hoff:∀ r∈rows,r.getD 0 0≠uk) (h1:ActV [1,uk,one,t,b0,b1,b2,b3]) (h2:ActV [3,uk,two,t,0,0,0,0]) :
  ∃ r∈actR (actR rows [1,uk,one,t,b0,b1,b2,b3]) [3,uk,two,t,0,0,0,0],r.getD 0 0=uk∧∀ px py,xpq px py (r.drop 1)=(one !=two&&xcg px py b0 b1 b2 b3:Bool):=by
 have ho:one≠0:=by
  have:1≤one:=h1.2.2.1.1
  omega
 have e1:actR rows [1,uk,one,t,b0,b1,b2,b3]=xdU 1 [uk] [uk,0,0,0,0,0,one,0,b0,b1,b2,b3] rows:=by
  unfold actR
  rw [show (([1,uk,one,t,b0,b1,b2,b3]:List Int).getD 1 0)=uk from rfl,(xsh h).2 hoff]
  rfl
 have s1:=xD1 h1 h
 rw [e1] at s1 ⊢
 have hd:DG (uk::[uk,0,0,0,0,0,one,0,b0,b1,b2,b3]):=⟨uk,0,0,0,0,0,one,0,b0,b1,b2,b3,rfl,h1.2.1,⟨.inl rfl,.inl rfl,.inr h1.2.2.1,fun _=>rfl,fun h=>absurd h (by decide),fun _=>⟨rfl,rfl,rfl,rfl,rfl⟩,fun _ _=>h1.2.2.2 rfl,fun hh=>hh.elim (fun hh=>absurd hh ho) (fun hh=>absurd hh (by decide))⟩,.inr ho⟩
 have hm:=(xBz h hd).2.2
 generalize xdU 1 [uk] [uk,0,0,0,0,0,one,0,b0,b1,b2,b3] rows=R at *
 have hf:xaO 1 [uk] R=some [uk,0,0,0,0,0,one,0,b0,b1,b2,b3]:=xCo s1.1 hm
 cases hc:(one==two)
 ·refine ⟨uk::[uk,1,b0,b1,b2,b3,0,0,0,0,0,0],?_,rfl,fun px py=>?_⟩
  ·unfold actR
   rw [show (([3,uk,two,t,0,0,0,0]:List Int).getD 1 0)=uk from rfl,hf]
   have e2:xmX ((some [uk,0,0,0,0,0,one,0,b0,b1,b2,b3]).getD dgZ) [3,uk,two,t,0,0,0,0]=([uk,1,b0,b1,b2,b3,0,0,0,0,0,0],true,0):=by
    show (bif one==0 then _ else bif one==two then _ else _)=_
    rw [hc,show (one==0)=false by simpa using ho]
    rfl
   rw [e2]
   have hd2:DG (uk::[uk,1,b0,b1,b2,b3,0,0,0,0,0,0]):=⟨uk,1,b0,b1,b2,b3,0,0,0,0,0,0,rfl,h1.2.1,⟨.inr rfl,.inl rfl,.inl rfl,fun _=>rfl,fun _=>h1.2.2.2 rfl,fun h=>absurd h (by decide),fun h=>absurd rfl h,fun _=>⟨rfl,rfl,rfl,rfl⟩⟩,.inl rfl⟩
   exact (xBz s1.1 hd2).2.2
  ·show (xcg px py b0 b1 b2 b3&&((1:Int) !=0))=(!(one==two)&&xcg px py b0 b1 b2 b3)
   rw [hc]
   cases xcg px py b0 b1 b2 b3<;>rfl
 ·refine ⟨uk::[uk,0,0,0,0,0,one,0,b0,b1,b2,b3],?_,rfl,fun px py=>?_⟩
  ·unfold actR
   rw [show (([3,uk,two,t,0,0,0,0]:List Int).getD 1 0)=uk from rfl,hf]
   have e2:xmX ((some [uk,0,0,0,0,0,one,0,b0,b1,b2,b3]).getD dgZ) [3,uk,two,t,0,0,0,0]=(dgN [uk,0,0,0,0,0,one,0,b0,b1,b2,b3],true,21):=by
    show (bif one==0 then _ else bif one==two then _ else _)=_
    rw [hc,show (one==0)=false by simpa using ho]
    rfl
   rw [e2]
   exact hm
  ·show (xcg px py 0 0 0 0&&((0:Int) !=0))=(!(one==two)&&xcg px py b0 b1 b2 b3)
   rw [hc,Bool.and_comm]
   rfl
end Go.Proofs.YthfjhbbpdhjklaaGreat
set_option linter.unusedVariables false
set_option linter.unusedSimpArgs false
set_option linter.unusedSectionVars false
set_option maxRecDepth 100000
set_option maxHeartbeats 4000000
namespace Go.Proofs.YthfjhbbpdhjklaaGreat
open Go Go.Sy
theorem xDx {z:Int} (h:0<z):xaI z 0=1:=by
 unfold xaI xb9
 rw [decide_eq_false (show ¬ z<0 by omega),decide_eq_true (show z>0 by omega)]
 simp
theorem xzg {a b:Int} (h:a<b):xaI a b = -1:=by
 unfold xaI xb9
 rw [decide_eq_true h]
 simp
theorem xCH (a:Int):xaI a a=0:=by
 unfold xaI xb9
 simp
theorem xyz {a b c d e f:Int} (h1:Si.Pt a b) (h2:Si.Pt c d) (h3:Si.Pt e f):xa0 a b c d e f=xaI ((c-a)*(f-b)-(d-b)*(e-a)) 0:=by
 unfold Si.Pt at h1 h2 h3
 have b1:=Si.xc7 (A:=2000000) (B:=2000000) (x:=c-a) (n:=f-b) (by omega) (by omega) (by omega) (by omega)
 have b2:=Si.xc7 (A:=2000000) (B:=2000000) (x:=d-b) (n:=e-a) (by omega) (by omega) (by omega) (by omega)
 unfold xa0 xeB xiq xip
 rw [xau (x:=c-a) (by omega),xau (x:=f-b) (by omega),xau (x:=d-b) (by omega),xau (x:=e-a) (by omega),xau (x:=(c-a)*(f-b)) (by omega),xau (x:=(d-b)*(e-a)) (by omega),xau (by omega)]
theorem xiZ {a b c d e f:Int} (h1:Si.Pt a b) (h2:Si.Pt c d) (h3:Si.Pt e f) (h:0<(c-a)*(f-b)-(d-b)*(e-a)):xa0 a b c d e f=1:=by
 rw [xyz h1 h2 h3,xDx h]
theorem xBy {a b c d e f:Int} (h1:Si.Pt a b) (h2:Si.Pt c d) (h3:Si.Pt e f):xcb [[a,b],[c,d],[e,f]]=true:=by
 rw [(xgK _ (by simp)).2]
 show (xaG a b&&(xaG c d&&(xaG e f&&true)))=true
 rw [Si.xcG,Si.xcG,Si.xcG,decide_eq_true h1,decide_eq_true h2,decide_eq_true h3]; rfl
theorem xEo {a b c d e f g h:Int} (h1:Si.Pt a b) (h2:Si.Pt c d) (h3:Si.Pt e f) (h4:Si.Pt g h):xcb [[a,b],[c,d],[e,f],[g,h]]=true:=by
 rw [(xgK _ (by simp)).2]
 show (xaG a b&&(xaG c d&&(xaG e f&&(xaG g h&&true))))=true
 rw [Si.xcG,Si.xcG,Si.xcG,Si.xcG,decide_eq_true h1,decide_eq_true h2,decide_eq_true h3,decide_eq_true h4]; rfl
theorem xqf {a b c d e f:Int} (h1:Si.Pt a b) (h2:Si.Pt c d) (h3:Si.Pt e f):xfC a b c d e f=xa0 a b c d e f:=by
 unfold xfC xkd
 rw [xBy h1 h2 h3]; rfl
theorem xIB {a b c d e f:Int} (h1:Si.Pt a b) (h2:Si.Pt c d) (h3:Si.Pt e f):xbr a b c d e f=xfl a b c d e f:=by
 unfold xbr xnb
 rw [xBy h1 h2 h3]; rfl
theorem xzO {a b c d e f g h:Int} (h1:Si.Pt a b) (h2:Si.Pt c d) (h3:Si.Pt e f) (h4:Si.Pt g h)
  (t1:xa0 a b c d e f=1) (t2:xa0 a b c d g h=1) (t3:xa0 e f g h a b=1) (t4:xa0 e f g h c d=1):xfD a b c d e f g h=false:=by
 unfold xfD xkc xfl
 rw [xEo h1 h2 h3 h4,t1,t2,t3,t4]
 rfl
section
variable {x0 x1 y0 y1:Int}
def RC (x0 x1 y0 y1:Int):List (List Int):=[[x0,y0],[x1,y0],[x1,y1],[x0,y1]]
def RB (x0 x1 y0 y1:Int):Prop := -1000000≤x0∧x0<x1∧x1≤1000000 ∧ -1000000≤y0∧y0<y1∧y1≤1000000
theorem xn5 (h:RB x0 x1 y0 y1):Si.Pt x0 y0∧Si.Pt x1 y0∧Si.Pt x1 y1∧Si.Pt x0 y1:=by
 unfold RB at h; unfold Si.Pt; omega
theorem xDO (h:RB x0 x1 y0 y1):0<(x1-x0)*(y1-y0):=by
 unfold RB at h
 exact Int.mul_pos (by omega) (by omega)
theorem xqD {j:Int} {n:Nat} (h:((IntKind.i64.wrap (j+4)).tmod 4).toNat=n):xag j (RC x0 x1 y0 y1)=((RC x0 x1 y0 y1).getD n []).getD 0 0∧xaf j (RC x0 x1 y0 y1)=((RC x0 x1 y0 y1).getD n []).getD 1 0:=by
 unfold xag xaf
 rw [show ((RC x0 x1 y0 y1).length:Int)=4 from rfl,h]
 exact ⟨rfl,rfl⟩
theorem corA:xag (IntKind.i64.wrap ((3:Int)+1)) (RC x0 x1 y0 y1)=x0∧xaf (IntKind.i64.wrap ((3:Int)+1)) (RC x0 x1 y0 y1)=y0:=xqD (n:=0) (by decide)
theorem corB:xag (IntKind.i64.wrap ((0:Int)+1)) (RC x0 x1 y0 y1)=x1∧xaf (IntKind.i64.wrap ((0:Int)+1)) (RC x0 x1 y0 y1)=y0:=xqD (n:=1) (by decide)
theorem corC:xag (IntKind.i64.wrap ((1:Int)+1)) (RC x0 x1 y0 y1)=x1∧xaf (IntKind.i64.wrap ((1:Int)+1)) (RC x0 x1 y0 y1)=y1:=xqD (n:=2) (by decide)
theorem corD:xag (IntKind.i64.wrap ((2:Int)+1)) (RC x0 x1 y0 y1)=x0∧xaf (IntKind.i64.wrap ((2:Int)+1)) (RC x0 x1 y0 y1)=y1:=xqD (n:=3) (by decide)
theorem xGc:xag (IntKind.i64.wrap ((0:Int)-1)) (RC x0 x1 y0 y1)=x0∧xaf (IntKind.i64.wrap ((0:Int)-1)) (RC x0 x1 y0 y1)=y1:=xqD (n:=3) (by decide)
theorem xGf:xag (IntKind.i64.wrap ((1:Int)-1)) (RC x0 x1 y0 y1)=x0∧xaf (IntKind.i64.wrap ((1:Int)-1)) (RC x0 x1 y0 y1)=y0:=xqD (n:=0) (by decide)
theorem xGe:xag (IntKind.i64.wrap ((2:Int)-1)) (RC x0 x1 y0 y1)=x1∧xaf (IntKind.i64.wrap ((2:Int)-1)) (RC x0 x1 y0 y1)=y0:=xqD (n:=1) (by decide)
theorem xGd:xag (IntKind.i64.wrap ((3:Int)-1)) (RC x0 x1 y0 y1)=x1∧xaf (IntKind.i64.wrap ((3:Int)-1)) (RC x0 x1 y0 y1)=y1:=xqD (n:=2) (by decide)
theorem xad {j:Int} (h1 : -1≤j) (h2:j≤4):xa3 j (RC x0 x1 y0 y1):=by
 have e:((RC x0 x1 y0 y1).length:Int)=4:=rfl
 unfold xa3 inR
 rw [e,xau (x:=j+4) (by omega),Int.tmod_eq_emod_of_nonneg (by omega)]
 omega
theorem inRC {j:Int} (h1:0≤j) (h2:j≤3):inR j (RC x0 x1 y0 y1):=by
 have e:((RC x0 x1 y0 y1).length:Int)=4:=rfl
 unfold inR; omega
structure Tn (x0 x1 y0 y1:Int):Prop where
 abc:xa0 x0 y0 x1 y0 x1 y1=1
 abd:xa0 x0 y0 x1 y0 x0 y1=1
 bcd:xa0 x1 y0 x1 y1 x0 y1=1
 bca:xa0 x1 y0 x1 y1 x0 y0=1
 cda:xa0 x1 y1 x0 y1 x0 y0=1
 cdb:xa0 x1 y1 x0 y1 x1 y0=1
 dab:xa0 x0 y1 x0 y0 x1 y0=1
 dac:xa0 x0 y1 x0 y0 x1 y1=1
theorem xqN (h:RB x0 x1 y0 y1):Tn x0 x1 y0 y1:=by
 have p:=xDO h
 obtain ⟨a,b,c,d⟩:=xn5 h
 exact ⟨xiZ a b c (by grind),xiZ a b d (by grind),xiZ b c d (by grind),xiZ b c a (by grind),xiZ c d a (by grind),xiZ c d b (by grind),xiZ d a b (by grind),xiZ d a c (by grind)⟩
end
end Go.Proofs.YthfjhbbpdhjklaaGreat
set_option linter.unusedVariables false
set_option linter.unusedSimpArgs false
set_option linter.unusedSectionVars false
set_option maxRecDepth 100000
set_option maxHeartbeats 4000000
namespace Go.Proofs.YthfjhbbpdhjklaaGreat
open Go Go.Sy
variable {x0 x1 y0 y1:Int}
theorem ltR {α:Type} {j:Int} (h:j<4) (x y:α):(bif decide (j<((RC x0 x1 y0 y1).length:Int)) then x else y)=x:=by
 rw [show ((RC x0 x1 y0 y1).length:Int)=4 from rfl,decide_eq_true h]; rfl
theorem nltR {α:Type} {j:Int} (h:¬ j<4) (x y:α):(bif decide (j<((RC x0 x1 y0 y1).length:Int)) then x else y)=y:=by
 rw [show ((RC x0 x1 y0 y1).length:Int)=4 from rfl,decide_eq_false h]; rfl
theorem xIh (h:RB x0 x1 y0 y1):xba (RC x0 x1 y0 y1) [.i 0,.i 0]=some (0,[.i 0,.i 1]):=by
 obtain ⟨a,b,c,d⟩:=xn5 h
 have e:xaG (((RC x0 x1 y0 y1).getD ((0:Int)).toNat []).getD 0 0) (((RC x0 x1 y0 y1).getD ((0:Int)).toNat []).getD 1 0)=true:=by
  show xaG x0 y0=true
  rw [Si.xcG,decide_eq_true a]
 unfold xba
 simp only [gi_1,gi_z,gb_z]
 rw [ltR (by decide),xaa (by first | exact inRC (by decide) (by decide) | exact xad (by decide) (by decide) | (intro _; exact inRC (by decide) (by decide)) | (intro _; exact xad (by decide) (by decide))),xaa (by first | exact inRC (by decide) (by decide) | exact xad (by decide) (by decide) | (intro _; exact inRC (by decide) (by decide)) | (intro _; exact xad (by decide) (by decide))),e]
 rfl
theorem xIg (h:RB x0 x1 y0 y1):xba (RC x0 x1 y0 y1) [.i 0,.i 1]=some (0,[.i 0,.i 2]):=by
 obtain ⟨a,b,c,d⟩:=xn5 h
 have e:xaG (((RC x0 x1 y0 y1).getD ((1:Int)).toNat []).getD 0 0) (((RC x0 x1 y0 y1).getD ((1:Int)).toNat []).getD 1 0)=true:=by
  show xaG x1 y0=true
  rw [Si.xcG,decide_eq_true b]
 unfold xba
 simp only [gi_1,gi_z,gb_z]
 rw [ltR (by decide),xaa (by first | exact inRC (by decide) (by decide) | exact xad (by decide) (by decide) | (intro _; exact inRC (by decide) (by decide)) | (intro _; exact xad (by decide) (by decide))),xaa (by first | exact inRC (by decide) (by decide) | exact xad (by decide) (by decide) | (intro _; exact inRC (by decide) (by decide)) | (intro _; exact xad (by decide) (by decide))),e]
 rfl
theorem xIf (h:RB x0 x1 y0 y1):xba (RC x0 x1 y0 y1) [.i 0,.i 2]=some (0,[.i 0,.i 3]):=by
 obtain ⟨a,b,c,d⟩:=xn5 h
 have e:xaG (((RC x0 x1 y0 y1).getD ((2:Int)).toNat []).getD 0 0) (((RC x0 x1 y0 y1).getD ((2:Int)).toNat []).getD 1 0)=true:=by
  show xaG x1 y1=true
  rw [Si.xcG,decide_eq_true c]
 unfold xba
 simp only [gi_1,gi_z,gb_z]
 rw [ltR (by decide),xaa (by first | exact inRC (by decide) (by decide) | exact xad (by decide) (by decide) | (intro _; exact inRC (by decide) (by decide)) | (intro _; exact xad (by decide) (by decide))),xaa (by first | exact inRC (by decide) (by decide) | exact xad (by decide) (by decide) | (intro _; exact inRC (by decide) (by decide)) | (intro _; exact xad (by decide) (by decide))),e]
 rfl
theorem xIe (h:RB x0 x1 y0 y1):xba (RC x0 x1 y0 y1) [.i 0,.i 3]=some (0,[.i 0,.i 4]):=by
 obtain ⟨a,b,c,d⟩:=xn5 h
 have e:xaG (((RC x0 x1 y0 y1).getD ((3:Int)).toNat []).getD 0 0) (((RC x0 x1 y0 y1).getD ((3:Int)).toNat []).getD 1 0)=true:=by
  show xaG x0 y1=true
  rw [Si.xcG,decide_eq_true d]
 unfold xba
 simp only [gi_1,gi_z,gb_z]
 rw [ltR (by decide),xaa (by first | exact inRC (by decide) (by decide) | exact xad (by decide) (by decide) | (intro _; exact inRC (by decide) (by decide)) | (intro _; exact xad (by decide) (by decide))),xaa (by first | exact inRC (by decide) (by decide) | exact xad (by decide) (by decide) | (intro _; exact inRC (by decide) (by decide)) | (intro _; exact xad (by decide) (by decide))),e]
 rfl
theorem xId:xba (RC x0 x1 y0 y1) [.i 0,.i 4]=some (3,[.i 0,.i 4]):=by
 unfold xba
 simp only [gi_1,gi_z,gb_z]
 rw [nltR (by decide)]
theorem xIl (h:RB x0 x1 y0 y1):xdr (RC x0 x1 y0 y1) [.b false,.i 0]=1:=by
 obtain ⟨a,b,c,d⟩:=xn5 h
 unfold xdr
 simp only [gi_1,gi_z]
 rw [xGc.1,xGc.2,corB.1,corB.2]
 exact (xqf d a b).trans (xqN h).dab
theorem xIc (h:RB x0 x1 y0 y1):xa9 (RC x0 x1 y0 y1) [.b false,.i 0]=some (0,[.b false,.i 1]):=by
 unfold xa9
 simp only [gi_1,gi_z,gb_z]
 rw [ltR (by decide),xaa (by first | exact inRC (by decide) (by decide) | exact xad (by decide) (by decide) | (intro _; exact inRC (by decide) (by decide)) | (intro _; exact xad (by decide) (by decide))),xaa (by first | exact inRC (by decide) (by decide) | exact xad (by decide) (by decide) | (intro _; exact inRC (by decide) (by decide)) | (intro _; exact xad (by decide) (by decide))),xaa (by first | exact inRC (by decide) (by decide) | exact xad (by decide) (by decide) | (intro _; exact inRC (by decide) (by decide)) | (intro _; exact xad (by decide) (by decide))),xaa (by first | exact inRC (by decide) (by decide) | exact xad (by decide) (by decide) | (intro _; exact inRC (by decide) (by decide)) | (intro _; exact xad (by decide) (by decide))),xaa (by first | exact inRC (by decide) (by decide) | exact xad (by decide) (by decide) | (intro _; exact inRC (by decide) (by decide)) | (intro _; exact xad (by decide) (by decide))),xaa (by first | exact inRC (by decide) (by decide) | exact xad (by decide) (by decide) | (intro _; exact inRC (by decide) (by decide)) | (intro _; exact xad (by decide) (by decide))),xaa (by first | exact inRC (by decide) (by decide) | exact xad (by decide) (by decide) | (intro _; exact inRC (by decide) (by decide)) | (intro _; exact xad (by decide) (by decide))),xaa (by first | exact inRC (by decide) (by decide) | exact xad (by decide) (by decide) | (intro _; exact inRC (by decide) (by decide)) | (intro _; exact xad (by decide) (by decide))),xIl h]
 rfl
theorem xIk (h:RB x0 x1 y0 y1):xdr (RC x0 x1 y0 y1) [.b false,.i 1]=1:=by
 obtain ⟨a,b,c,d⟩:=xn5 h
 unfold xdr
 simp only [gi_1,gi_z]
 rw [xGf.1,xGf.2,corC.1,corC.2]
 exact (xqf a b c).trans (xqN h).abc
theorem xIo (h:RB x0 x1 y0 y1):xd5 (RC x0 x1 y0 y1) [.b false,.i 1] = -1:=by
 unfold RB at h
 show xdB [[xaI x0 x1],[xaI y0 y0]] = -1
 rw [(xzK _ _).2]
 rw [xzg (show x0<x1 by omega),if_neg (by decide)]
theorem xIb (h:RB x0 x1 y0 y1):xa9 (RC x0 x1 y0 y1) [.b false,.i 1]=some (0,[.b false,.i 2]):=by
 unfold xa9
 simp only [gi_1,gi_z,gb_z]
 rw [ltR (by decide),xaa (by first | exact inRC (by decide) (by decide) | exact xad (by decide) (by decide) | (intro _; exact inRC (by decide) (by decide)) | (intro _; exact xad (by decide) (by decide))),xaa (by first | exact inRC (by decide) (by decide) | exact xad (by decide) (by decide) | (intro _; exact inRC (by decide) (by decide)) | (intro _; exact xad (by decide) (by decide))),xaa (by first | exact inRC (by decide) (by decide) | exact xad (by decide) (by decide) | (intro _; exact inRC (by decide) (by decide)) | (intro _; exact xad (by decide) (by decide))),xaa (by first | exact inRC (by decide) (by decide) | exact xad (by decide) (by decide) | (intro _; exact inRC (by decide) (by decide)) | (intro _; exact xad (by decide) (by decide))),xaa (by first | exact inRC (by decide) (by decide) | exact xad (by decide) (by decide) | (intro _; exact inRC (by decide) (by decide)) | (intro _; exact xad (by decide) (by decide))),xaa (by first | exact inRC (by decide) (by decide) | exact xad (by decide) (by decide) | (intro _; exact inRC (by decide) (by decide)) | (intro _; exact xad (by decide) (by decide))),xaa (by first | exact inRC (by decide) (by decide) | exact xad (by decide) (by decide) | (intro _; exact inRC (by decide) (by decide)) | (intro _; exact xad (by decide) (by decide))),xaa (by first | exact inRC (by decide) (by decide) | exact xad (by decide) (by decide) | (intro _; exact inRC (by decide) (by decide)) | (intro _; exact xad (by decide) (by decide))),xIk h,xIo h]
 rfl
theorem xIj (h:RB x0 x1 y0 y1):xdr (RC x0 x1 y0 y1) [.b false,.i 2]=1:=by
 obtain ⟨a,b,c,d⟩:=xn5 h
 unfold xdr
 simp only [gi_1,gi_z]
 rw [xGe.1,xGe.2,corD.1,corD.2]
 exact (xqf b c d).trans (xqN h).bcd
theorem xIn (h:RB x0 x1 y0 y1):xd5 (RC x0 x1 y0 y1) [.b false,.i 2] = -1:=by
 unfold RB at h
 show xdB [[xaI x0 x1],[xaI y0 y1]] = -1
 rw [(xzK _ _).2]
 rw [xzg (show x0<x1 by omega),if_neg (by decide)]
theorem xIa (h:RB x0 x1 y0 y1):xa9 (RC x0 x1 y0 y1) [.b false,.i 2]=some (0,[.b false,.i 3]):=by
 unfold xa9
 simp only [gi_1,gi_z,gb_z]
 rw [ltR (by decide),xaa (by first | exact inRC (by decide) (by decide) | exact xad (by decide) (by decide) | (intro _; exact inRC (by decide) (by decide)) | (intro _; exact xad (by decide) (by decide))),xaa (by first | exact inRC (by decide) (by decide) | exact xad (by decide) (by decide) | (intro _; exact inRC (by decide) (by decide)) | (intro _; exact xad (by decide) (by decide))),xaa (by first | exact inRC (by decide) (by decide) | exact xad (by decide) (by decide) | (intro _; exact inRC (by decide) (by decide)) | (intro _; exact xad (by decide) (by decide))),xaa (by first | exact inRC (by decide) (by decide) | exact xad (by decide) (by decide) | (intro _; exact inRC (by decide) (by decide)) | (intro _; exact xad (by decide) (by decide))),xaa (by first | exact inRC (by decide) (by decide) | exact xad (by decide) (by decide) | (intro _; exact inRC (by decide) (by decide)) | (intro _; exact xad (by decide) (by decide))),xaa (by first | exact inRC (by decide) (by decide) | exact xad (by decide) (by decide) | (intro _; exact inRC (by decide) (by decide)) | (intro _; exact xad (by decide) (by decide))),xaa (by first | exact inRC (by decide) (by decide) | exact xad (by decide) (by decide) | (intro _; exact inRC (by decide) (by decide)) | (intro _; exact xad (by decide) (by decide))),xaa (by first | exact inRC (by decide) (by decide) | exact xad (by decide) (by decide) | (intro _; exact inRC (by decide) (by decide)) | (intro _; exact xad (by decide) (by decide))),xIj h,xIn h]
 rfl
theorem xIi (h:RB x0 x1 y0 y1):xdr (RC x0 x1 y0 y1) [.b false,.i 3]=1:=by
 obtain ⟨a,b,c,d⟩:=xn5 h
 unfold xdr
 simp only [gi_1,gi_z]
 rw [xGd.1,xGd.2,corA.1,corA.2]
 exact (xqf c d a).trans (xqN h).cda
theorem xIm (h:RB x0 x1 y0 y1):xd5 (RC x0 x1 y0 y1) [.b false,.i 3] = -1:=by
 unfold RB at h
 show xdB [[xaI x0 x0],[xaI y0 y1]] = -1
 rw [(xzK _ _).2]
 rw [xCH,if_pos rfl,xzg (show y0<y1 by omega)]
theorem xH9 (h:RB x0 x1 y0 y1):xa9 (RC x0 x1 y0 y1) [.b false,.i 3]=some (0,[.b false,.i 4]):=by
 unfold xa9
 simp only [gi_1,gi_z,gb_z]
 rw [ltR (by decide),xaa (by first | exact inRC (by decide) (by decide) | exact xad (by decide) (by decide) | (intro _; exact inRC (by decide) (by decide)) | (intro _; exact xad (by decide) (by decide))),xaa (by first | exact inRC (by decide) (by decide) | exact xad (by decide) (by decide) | (intro _; exact inRC (by decide) (by decide)) | (intro _; exact xad (by decide) (by decide))),xaa (by first | exact inRC (by decide) (by decide) | exact xad (by decide) (by decide) | (intro _; exact inRC (by decide) (by decide)) | (intro _; exact xad (by decide) (by decide))),xaa (by first | exact inRC (by decide) (by decide) | exact xad (by decide) (by decide) | (intro _; exact inRC (by decide) (by decide)) | (intro _; exact xad (by decide) (by decide))),xaa (by first | exact inRC (by decide) (by decide) | exact xad (by decide) (by decide) | (intro _; exact inRC (by decide) (by decide)) | (intro _; exact xad (by decide) (by decide))),xaa (by first | exact inRC (by decide) (by decide) | exact xad (by decide) (by decide) | (intro _; exact inRC (by decide) (by decide)) | (intro _; exact xad (by decide) (by decide))),xaa (by first | exact inRC (by decide) (by decide) | exact xad (by decide) (by decide) | (intro _; exact inRC (by decide) (by decide)) | (intro _; exact xad (by decide) (by decide))),xaa (by first | exact inRC (by decide) (by decide) | exact xad (by decide) (by decide) | (intro _; exact inRC (by decide) (by decide)) | (intro _; exact xad (by decide) (by decide))),xIi h,xIm h]
 rfl
theorem xH8:xa9 (RC x0 x1 y0 y1) [.b false,.i 4]=some (3,[.b false,.i 4]):=by
 unfold xa9
 simp only [gi_1,gi_z,gb_z]
 rw [nltR (by decide)]
theorem xFB (h:RB x0 x1 y0 y1):xac (RC x0 x1 y0 y1) [.i 0] [.i 0]=some (0,[.i 1]):=by
 unfold xac
 simp only [gi_1,gi_z,gb_z]
 rw [ltR (by decide),xaa (by first | exact inRC (by decide) (by decide) | exact xad (by decide) (by decide) | (intro _; exact inRC (by decide) (by decide)) | (intro _; exact xad (by decide) (by decide))),xaa (by first | exact inRC (by decide) (by decide) | exact xad (by decide) (by decide) | (intro _; exact inRC (by decide) (by decide)) | (intro _; exact xad (by decide) (by decide))),xaa (by first | exact inRC (by decide) (by decide) | exact xad (by decide) (by decide) | (intro _; exact inRC (by decide) (by decide)) | (intro _; exact xad (by decide) (by decide)))]
 rfl
theorem xFA (h:RB x0 x1 y0 y1):xac (RC x0 x1 y0 y1) [.i 0] [.i 1]=some (0,[.i 2]):=by
 unfold xac
 simp only [gi_1,gi_z,gb_z]
 rw [ltR (by decide),xaa (by first | exact inRC (by decide) (by decide) | exact xad (by decide) (by decide) | (intro _; exact inRC (by decide) (by decide)) | (intro _; exact xad (by decide) (by decide))),xaa (by first | exact inRC (by decide) (by decide) | exact xad (by decide) (by decide) | (intro _; exact inRC (by decide) (by decide)) | (intro _; exact xad (by decide) (by decide))),xaa (by first | exact inRC (by decide) (by decide) | exact xad (by decide) (by decide) | (intro _; exact inRC (by decide) (by decide)) | (intro _; exact xad (by decide) (by decide)))]
 rfl
theorem xFP (h:RB x0 x1 y0 y1):xfD (((RC x0 x1 y0 y1).getD ((0:Int)).toNat []).getD 0 0) (((RC x0 x1 y0 y1).getD ((0:Int)).toNat []).getD 1 0) (xag (IntKind.i64.wrap ((0:Int)+1)) (RC x0 x1 y0 y1)) (xaf (IntKind.i64.wrap ((0:Int)+1)) (RC x0 x1 y0 y1))
  (((RC x0 x1 y0 y1).getD ((2:Int)).toNat []).getD 0 0) (((RC x0 x1 y0 y1).getD ((2:Int)).toNat []).getD 1 0) (xag (IntKind.i64.wrap ((2:Int)+1)) (RC x0 x1 y0 y1)) (xaf (IntKind.i64.wrap ((2:Int)+1)) (RC x0 x1 y0 y1))=false:=by
 obtain ⟨a,b,c,d⟩:=xn5 h
 rw [corB.1,corB.2,corD.1,corD.2]
 exact xzO a b c d (xqN h).abc (xqN h).abd (xqN h).cda (xqN h).cdb
theorem xFz (h:RB x0 x1 y0 y1):xac (RC x0 x1 y0 y1) [.i 0] [.i 2]=some (0,[.i 3]):=by
 unfold xac
 simp only [gi_1,gi_z,gb_z]
 rw [ltR (by decide),xaa (by first | exact inRC (by decide) (by decide) | exact xad (by decide) (by decide) | (intro _; exact inRC (by decide) (by decide)) | (intro _; exact xad (by decide) (by decide))),xaa (by first | exact inRC (by decide) (by decide) | exact xad (by decide) (by decide) | (intro _; exact inRC (by decide) (by decide)) | (intro _; exact xad (by decide) (by decide))),xaa (by first | exact inRC (by decide) (by decide) | exact xad (by decide) (by decide) | (intro _; exact inRC (by decide) (by decide)) | (intro _; exact xad (by decide) (by decide))),xFP h]
 rfl
theorem xFy (h:RB x0 x1 y0 y1):xac (RC x0 x1 y0 y1) [.i 0] [.i 3]=some (0,[.i 4]):=by
 unfold xac
 simp only [gi_1,gi_z,gb_z]
 rw [ltR (by decide),xaa (by first | exact inRC (by decide) (by decide) | exact xad (by decide) (by decide) | (intro _; exact inRC (by decide) (by decide)) | (intro _; exact xad (by decide) (by decide))),xaa (by first | exact inRC (by decide) (by decide) | exact xad (by decide) (by decide) | (intro _; exact inRC (by decide) (by decide)) | (intro _; exact xad (by decide) (by decide))),xaa (by first | exact inRC (by decide) (by decide) | exact xad (by decide) (by decide) | (intro _; exact inRC (by decide) (by decide)) | (intro _; exact xad (by decide) (by decide)))]
 rfl
theorem xFx:xac (RC x0 x1 y0 y1) [.i 0] [.i 4]=some (4,[.i 4]):=by
 unfold xac
 simp only [gi_1,gi_z,gb_z]
 rw [nltR (by decide)]
theorem sm_0 (h:RB x0 x1 y0 y1):xa5 (xac (RC x0 x1 y0 y1) [.i 0]) (xbM (RC x0 x1 y0 y1) [.i 0])∧xdm (RC x0 x1 y0 y1) [.i 0]=(4,[.i 4]):=xfI (xaK (xFB h) (xaK (xFA h) (xaK (xFz h) (xaK (xFy h) (xcB xFx)))))
theorem sl_0 (h:RB x0 x1 y0 y1):xaR (RC x0 x1 y0 y1) [.i 0]=some (0,[.i 1]):=by
 unfold xaR
 simp only [gi_1,gi_z,gb_z]
 rw [ltR (by decide),xaa (by first | exact inRC (by decide) (by decide) | exact xad (by decide) (by decide) | (intro _; exact inRC (by decide) (by decide)) | (intro _; exact xad (by decide) (by decide))),xaa (by first | exact inRC (by decide) (by decide) | exact xad (by decide) (by decide) | (intro _; exact inRC (by decide) (by decide)) | (intro _; exact xad (by decide) (by decide))),xaa (by first | exact inRC (by decide) (by decide) | exact xad (by decide) (by decide) | (intro _; exact inRC (by decide) (by decide)) | (intro _; exact xad (by decide) (by decide))),xaa (sm_0 h).1,(sm_0 h).2]
 rfl
theorem xFw (h:RB x0 x1 y0 y1):xac (RC x0 x1 y0 y1) [.i 1] [.i 0]=some (0,[.i 1]):=by
 unfold xac
 simp only [gi_1,gi_z,gb_z]
 rw [ltR (by decide),xaa (by first | exact inRC (by decide) (by decide) | exact xad (by decide) (by decide) | (intro _; exact inRC (by decide) (by decide)) | (intro _; exact xad (by decide) (by decide))),xaa (by first | exact inRC (by decide) (by decide) | exact xad (by decide) (by decide) | (intro _; exact inRC (by decide) (by decide)) | (intro _; exact xad (by decide) (by decide))),xaa (by first | exact inRC (by decide) (by decide) | exact xad (by decide) (by decide) | (intro _; exact inRC (by decide) (by decide)) | (intro _; exact xad (by decide) (by decide)))]
 rfl
theorem xFv (h:RB x0 x1 y0 y1):xac (RC x0 x1 y0 y1) [.i 1] [.i 1]=some (0,[.i 2]):=by
 unfold xac
 simp only [gi_1,gi_z,gb_z]
 rw [ltR (by decide),xaa (by first | exact inRC (by decide) (by decide) | exact xad (by decide) (by decide) | (intro _; exact inRC (by decide) (by decide)) | (intro _; exact xad (by decide) (by decide))),xaa (by first | exact inRC (by decide) (by decide) | exact xad (by decide) (by decide) | (intro _; exact inRC (by decide) (by decide)) | (intro _; exact xad (by decide) (by decide))),xaa (by first | exact inRC (by decide) (by decide) | exact xad (by decide) (by decide) | (intro _; exact inRC (by decide) (by decide)) | (intro _; exact xad (by decide) (by decide)))]
 rfl
theorem xFu (h:RB x0 x1 y0 y1):xac (RC x0 x1 y0 y1) [.i 1] [.i 2]=some (0,[.i 3]):=by
 unfold xac
 simp only [gi_1,gi_z,gb_z]
 rw [ltR (by decide),xaa (by first | exact inRC (by decide) (by decide) | exact xad (by decide) (by decide) | (intro _; exact inRC (by decide) (by decide)) | (intro _; exact xad (by decide) (by decide))),xaa (by first | exact inRC (by decide) (by decide) | exact xad (by decide) (by decide) | (intro _; exact inRC (by decide) (by decide)) | (intro _; exact xad (by decide) (by decide))),xaa (by first | exact inRC (by decide) (by decide) | exact xad (by decide) (by decide) | (intro _; exact inRC (by decide) (by decide)) | (intro _; exact xad (by decide) (by decide)))]
 rfl
theorem xFO (h:RB x0 x1 y0 y1):xfD (((RC x0 x1 y0 y1).getD ((1:Int)).toNat []).getD 0 0) (((RC x0 x1 y0 y1).getD ((1:Int)).toNat []).getD 1 0) (xag (IntKind.i64.wrap ((1:Int)+1)) (RC x0 x1 y0 y1)) (xaf (IntKind.i64.wrap ((1:Int)+1)) (RC x0 x1 y0 y1))
  (((RC x0 x1 y0 y1).getD ((3:Int)).toNat []).getD 0 0) (((RC x0 x1 y0 y1).getD ((3:Int)).toNat []).getD 1 0) (xag (IntKind.i64.wrap ((3:Int)+1)) (RC x0 x1 y0 y1)) (xaf (IntKind.i64.wrap ((3:Int)+1)) (RC x0 x1 y0 y1))=false:=by
 obtain ⟨a,b,c,d⟩:=xn5 h
 rw [corC.1,corC.2,corA.1,corA.2]
 exact xzO b c d a (xqN h).bcd (xqN h).bca (xqN h).dab (xqN h).dac
theorem xFt (h:RB x0 x1 y0 y1):xac (RC x0 x1 y0 y1) [.i 1] [.i 3]=some (0,[.i 4]):=by
 unfold xac
 simp only [gi_1,gi_z,gb_z]
 rw [ltR (by decide),xaa (by first | exact inRC (by decide) (by decide) | exact xad (by decide) (by decide) | (intro _; exact inRC (by decide) (by decide)) | (intro _; exact xad (by decide) (by decide))),xaa (by first | exact inRC (by decide) (by decide) | exact xad (by decide) (by decide) | (intro _; exact inRC (by decide) (by decide)) | (intro _; exact xad (by decide) (by decide))),xaa (by first | exact inRC (by decide) (by decide) | exact xad (by decide) (by decide) | (intro _; exact inRC (by decide) (by decide)) | (intro _; exact xad (by decide) (by decide))),xFO h]
 rfl
theorem xFs:xac (RC x0 x1 y0 y1) [.i 1] [.i 4]=some (4,[.i 4]):=by
 unfold xac
 simp only [gi_1,gi_z,gb_z]
 rw [nltR (by decide)]
theorem sm_1 (h:RB x0 x1 y0 y1):xa5 (xac (RC x0 x1 y0 y1) [.i 1]) (xbM (RC x0 x1 y0 y1) [.i 1])∧xdm (RC x0 x1 y0 y1) [.i 1]=(4,[.i 4]):=xfI (xaK (xFw h) (xaK (xFv h) (xaK (xFu h) (xaK (xFt h) (xcB xFs)))))
theorem sl_1 (h:RB x0 x1 y0 y1):xaR (RC x0 x1 y0 y1) [.i 1]=some (0,[.i 2]):=by
 unfold xaR
 simp only [gi_1,gi_z,gb_z]
 rw [ltR (by decide),xaa (by first | exact inRC (by decide) (by decide) | exact xad (by decide) (by decide) | (intro _; exact inRC (by decide) (by decide)) | (intro _; exact xad (by decide) (by decide))),xaa (by first | exact inRC (by decide) (by decide) | exact xad (by decide) (by decide) | (intro _; exact inRC (by decide) (by decide)) | (intro _; exact xad (by decide) (by decide))),xaa (by first | exact inRC (by decide) (by decide) | exact xad (by decide) (by decide) | (intro _; exact inRC (by decide) (by decide)) | (intro _; exact xad (by decide) (by decide))),xaa (sm_1 h).1,(sm_1 h).2]
 rfl
theorem xFr (h:RB x0 x1 y0 y1):xac (RC x0 x1 y0 y1) [.i 2] [.i 0]=some (0,[.i 1]):=by
 unfold xac
 simp only [gi_1,gi_z,gb_z]
 rw [ltR (by decide),xaa (by first | exact inRC (by decide) (by decide) | exact xad (by decide) (by decide) | (intro _; exact inRC (by decide) (by decide)) | (intro _; exact xad (by decide) (by decide))),xaa (by first | exact inRC (by decide) (by decide) | exact xad (by decide) (by decide) | (intro _; exact inRC (by decide) (by decide)) | (intro _; exact xad (by decide) (by decide))),xaa (by first | exact inRC (by decide) (by decide) | exact xad (by decide) (by decide) | (intro _; exact inRC (by decide) (by decide)) | (intro _; exact xad (by decide) (by decide)))]
 rfl
theorem xFq (h:RB x0 x1 y0 y1):xac (RC x0 x1 y0 y1) [.i 2] [.i 1]=some (0,[.i 2]):=by
 unfold xac
 simp only [gi_1,gi_z,gb_z]
 rw [ltR (by decide),xaa (by first | exact inRC (by decide) (by decide) | exact xad (by decide) (by decide) | (intro _; exact inRC (by decide) (by decide)) | (intro _; exact xad (by decide) (by decide))),xaa (by first | exact inRC (by decide) (by decide) | exact xad (by decide) (by decide) | (intro _; exact inRC (by decide) (by decide)) | (intro _; exact xad (by decide) (by decide))),xaa (by first | exact inRC (by decide) (by decide) | exact xad (by decide) (by decide) | (intro _; exact inRC (by decide) (by decide)) | (intro _; exact xad (by decide) (by decide)))]
 rfl
theorem xFp (h:RB x0 x1 y0 y1):xac (RC x0 x1 y0 y1) [.i 2] [.i 2]=some (0,[.i 3]):=by
 unfold xac
 simp only [gi_1,gi_z,gb_z]
 rw [ltR (by decide),xaa (by first | exact inRC (by decide) (by decide) | exact xad (by decide) (by decide) | (intro _; exact inRC (by decide) (by decide)) | (intro _; exact xad (by decide) (by decide))),xaa (by first | exact inRC (by decide) (by decide) | exact xad (by decide) (by decide) | (intro _; exact inRC (by decide) (by decide)) | (intro _; exact xad (by decide) (by decide))),xaa (by first | exact inRC (by decide) (by decide) | exact xad (by decide) (by decide) | (intro _; exact inRC (by decide) (by decide)) | (intro _; exact xad (by decide) (by decide)))]
 rfl
theorem xFo (h:RB x0 x1 y0 y1):xac (RC x0 x1 y0 y1) [.i 2] [.i 3]=some (0,[.i 4]):=by
 unfold xac
 simp only [gi_1,gi_z,gb_z]
 rw [ltR (by decide),xaa (by first | exact inRC (by decide) (by decide) | exact xad (by decide) (by decide) | (intro _; exact inRC (by decide) (by decide)) | (intro _; exact xad (by decide) (by decide))),xaa (by first | exact inRC (by decide) (by decide) | exact xad (by decide) (by decide) | (intro _; exact inRC (by decide) (by decide)) | (intro _; exact xad (by decide) (by decide))),xaa (by first | exact inRC (by decide) (by decide) | exact xad (by decide) (by decide) | (intro _; exact inRC (by decide) (by decide)) | (intro _; exact xad (by decide) (by decide)))]
 rfl
theorem xFn:xac (RC x0 x1 y0 y1) [.i 2] [.i 4]=some (4,[.i 4]):=by
 unfold xac
 simp only [gi_1,gi_z,gb_z]
 rw [nltR (by decide)]
theorem sm_2 (h:RB x0 x1 y0 y1):xa5 (xac (RC x0 x1 y0 y1) [.i 2]) (xbM (RC x0 x1 y0 y1) [.i 2])∧xdm (RC x0 x1 y0 y1) [.i 2]=(4,[.i 4]):=xfI (xaK (xFr h) (xaK (xFq h) (xaK (xFp h) (xaK (xFo h) (xcB xFn)))))
theorem sl_2 (h:RB x0 x1 y0 y1):xaR (RC x0 x1 y0 y1) [.i 2]=some (0,[.i 3]):=by
 unfold xaR
 simp only [gi_1,gi_z,gb_z]
 rw [ltR (by decide),xaa (by first | exact inRC (by decide) (by decide) | exact xad (by decide) (by decide) | (intro _; exact inRC (by decide) (by decide)) | (intro _; exact xad (by decide) (by decide))),xaa (by first | exact inRC (by decide) (by decide) | exact xad (by decide) (by decide) | (intro _; exact inRC (by decide) (by decide)) | (intro _; exact xad (by decide) (by decide))),xaa (by first | exact inRC (by decide) (by decide) | exact xad (by decide) (by decide) | (intro _; exact inRC (by decide) (by decide)) | (intro _; exact xad (by decide) (by decide))),xaa (sm_2 h).1,(sm_2 h).2]
 rfl
theorem xFm (h:RB x0 x1 y0 y1):xac (RC x0 x1 y0 y1) [.i 3] [.i 0]=some (0,[.i 1]):=by
 unfold xac
 simp only [gi_1,gi_z,gb_z]
 rw [ltR (by decide),xaa (by first | exact inRC (by decide) (by decide) | exact xad (by decide) (by decide) | (intro _; exact inRC (by decide) (by decide)) | (intro _; exact xad (by decide) (by decide))),xaa (by first | exact inRC (by decide) (by decide) | exact xad (by decide) (by decide) | (intro _; exact inRC (by decide) (by decide)) | (intro _; exact xad (by decide) (by decide))),xaa (by first | exact inRC (by decide) (by decide) | exact xad (by decide) (by decide) | (intro _; exact inRC (by decide) (by decide)) | (intro _; exact xad (by decide) (by decide)))]
 rfl
theorem xFl (h:RB x0 x1 y0 y1):xac (RC x0 x1 y0 y1) [.i 3] [.i 1]=some (0,[.i 2]):=by
 unfold xac
 simp only [gi_1,gi_z,gb_z]
 rw [ltR (by decide),xaa (by first | exact inRC (by decide) (by decide) | exact xad (by decide) (by decide) | (intro _; exact inRC (by decide) (by decide)) | (intro _; exact xad (by decide) (by decide))),xaa (by first | exact inRC (by decide) (by decide) | exact xad (by decide) (by decide) | (intro _; exact inRC (by decide) (by decide)) | (intro _; exact xad (by decide) (by decide))),xaa (by first | exact inRC (by decide) (by decide) | exact xad (by decide) (by decide) | (intro _; exact inRC (by decide) (by decide)) | (intro _; exact xad (by decide) (by decide)))]
 rfl
theorem xFk (h:RB x0 x1 y0 y1):xac (RC x0 x1 y0 y1) [.i 3] [.i 2]=some (0,[.i 3]):=by
 unfold xac
 simp only [gi_1,gi_z,gb_z]
 rw [ltR (by decide),xaa (by first | exact inRC (by decide) (by decide) | exact xad (by decide) (by decide) | (intro _; exact inRC (by decide) (by decide)) | (intro _; exact xad (by decide) (by decide))),xaa (by first | exact inRC (by decide) (by decide) | exact xad (by decide) (by decide) | (intro _; exact inRC (by decide) (by decide)) | (intro _; exact xad (by decide) (by decide))),xaa (by first | exact inRC (by decide) (by decide) | exact xad (by decide) (by decide) | (intro _; exact inRC (by decide) (by decide)) | (intro _; exact xad (by decide) (by decide)))]
 rfl
theorem xFj (h:RB x0 x1 y0 y1):xac (RC x0 x1 y0 y1) [.i 3] [.i 3]=some (0,[.i 4]):=by
 unfold xac
 simp only [gi_1,gi_z,gb_z]
 rw [ltR (by decide),xaa (by first | exact inRC (by decide) (by decide) | exact xad (by decide) (by decide) | (intro _; exact inRC (by decide) (by decide)) | (intro _; exact xad (by decide) (by decide))),xaa (by first | exact inRC (by decide) (by decide) | exact xad (by decide) (by decide) | (intro _; exact inRC (by decide) (by decide)) | (intro _; exact xad (by decide) (by decide))),xaa (by first | exact inRC (by decide) (by decide) | exact xad (by decide) (by decide) | (intro _; exact inRC (by decide) (by decide)) | (intro _; exact xad (by decide) (by decide)))]
 rfl
theorem xFi:xac (RC x0 x1 y0 y1) [.i 3] [.i 4]=some (4,[.i 4]):=by
 unfold xac
 simp only [gi_1,gi_z,gb_z]
 rw [nltR (by decide)]
theorem sm_3 (h:RB x0 x1 y0 y1):xa5 (xac (RC x0 x1 y0 y1) [.i 3]) (xbM (RC x0 x1 y0 y1) [.i 3])∧xdm (RC x0 x1 y0 y1) [.i 3]=(4,[.i 4]):=xfI (xaK (xFm h) (xaK (xFl h) (xaK (xFk h) (xaK (xFj h) (xcB xFi)))))
theorem sl_3 (h:RB x0 x1 y0 y1):xaR (RC x0 x1 y0 y1) [.i 3]=some (0,[.i 4]):=by
 unfold xaR
 simp only [gi_1,gi_z,gb_z]
 rw [ltR (by decide),xaa (by first | exact inRC (by decide) (by decide) | exact xad (by decide) (by decide) | (intro _; exact inRC (by decide) (by decide)) | (intro _; exact xad (by decide) (by decide))),xaa (by first | exact inRC (by decide) (by decide) | exact xad (by decide) (by decide) | (intro _; exact inRC (by decide) (by decide)) | (intro _; exact xad (by decide) (by decide))),xaa (by first | exact inRC (by decide) (by decide) | exact xad (by decide) (by decide) | (intro _; exact inRC (by decide) (by decide)) | (intro _; exact xad (by decide) (by decide))),xaa (sm_3 h).1,(sm_3 h).2]
 rfl
theorem sl_4:xaR (RC x0 x1 y0 y1) [.i 4]=some (3,[.i 4]):=by
 unfold xaR
 simp only [gi_1,gi_z,gb_z]
 rw [nltR (by decide)]
theorem xxe (h:RB x0 x1 y0 y1):xcW (RC x0 x1 y0 y1)∧xcM (RC x0 x1 y0 y1)=true:=by
 obtain ⟨h1,h2⟩:=xfI (xaK (sl_0 h) (xaK (sl_1 h) (xaK (sl_2 h) (xaK (sl_3 h) (xcB sl_4)))))
 refine ⟨h1,?_⟩
 unfold xcM xiS
 rw [show xet (RC x0 x1 y0 y1)=[.i 0] from rfl,h2]; rfl
theorem tw_0 (h:RB x0 x1 y0 y1):xaS (RC x0 x1 y0 y1) [.i 0,.i 0]=some (0,[.i 1,.i (0+(x0*y0-y0*x1))]):=by
 have p00:=Si.xc7 (A:=1000000) (B:=1000000) (x:=x0) (n:=y0) (by unfold RB at h; omega) (by unfold RB at h; omega) (by unfold RB at h; omega) (by unfold RB at h; omega)
 have p01:=Si.xc7 (A:=1000000) (B:=1000000) (x:=x0) (n:=y1) (by unfold RB at h; omega) (by unfold RB at h; omega) (by unfold RB at h; omega) (by unfold RB at h; omega)
 have p10:=Si.xc7 (A:=1000000) (B:=1000000) (x:=x1) (n:=y0) (by unfold RB at h; omega) (by unfold RB at h; omega) (by unfold RB at h; omega) (by unfold RB at h; omega)
 have p11:=Si.xc7 (A:=1000000) (B:=1000000) (x:=x1) (n:=y1) (by unfold RB at h; omega) (by unfold RB at h; omega) (by unfold RB at h; omega) (by unfold RB at h; omega)
 have c1:=Int.mul_comm y0 x0
 have c2:=Int.mul_comm y0 x1
 have c3:=Int.mul_comm y1 x0
 have c4:=Int.mul_comm y1 x1
 have e:xbH (RC x0 x1 y0 y1) [.i 0,.i 0]=x0*y0-y0*x1:=by
  unfold xbH
  simp only [gi_1,gi_z]
  rw [corB.1,corB.2]
  show IntKind.i64.wrap (x0*y0)-IntKind.i64.wrap (y0*x1)=_
  rw [xau (by omega),xau (by omega)]
 unfold xaS
 simp only [gi_1,gi_z]
 rw [ltR (by decide),xaa (by first | exact inRC (by decide) (by decide) | exact xad (by decide) (by decide) | (intro _; exact inRC (by decide) (by decide)) | (intro _; exact xad (by decide) (by decide))),xaa (by first | exact inRC (by decide) (by decide) | exact xad (by decide) (by decide) | (intro _; exact inRC (by decide) (by decide)) | (intro _; exact xad (by decide) (by decide))),xaa (by first | exact inRC (by decide) (by decide) | exact xad (by decide) (by decide) | (intro _; exact inRC (by decide) (by decide)) | (intro _; exact xad (by decide) (by decide))),e,xau (x:=x0*y0-y0*x1) (by omega),xau (x:=0+(x0*y0-y0*x1)) (by omega)]
 rfl
theorem tw_1 (h:RB x0 x1 y0 y1):xaS (RC x0 x1 y0 y1) [.i 1,.i (0+(x0*y0-y0*x1))]=some (0,[.i 2,.i ((0+(x0*y0-y0*x1))+(x1*y1-y0*x1))]):=by
 have p00:=Si.xc7 (A:=1000000) (B:=1000000) (x:=x0) (n:=y0) (by unfold RB at h; omega) (by unfold RB at h; omega) (by unfold RB at h; omega) (by unfold RB at h; omega)
 have p01:=Si.xc7 (A:=1000000) (B:=1000000) (x:=x0) (n:=y1) (by unfold RB at h; omega) (by unfold RB at h; omega) (by unfold RB at h; omega) (by unfold RB at h; omega)
 have p10:=Si.xc7 (A:=1000000) (B:=1000000) (x:=x1) (n:=y0) (by unfold RB at h; omega) (by unfold RB at h; omega) (by unfold RB at h; omega) (by unfold RB at h; omega)
 have p11:=Si.xc7 (A:=1000000) (B:=1000000) (x:=x1) (n:=y1) (by unfold RB at h; omega) (by unfold RB at h; omega) (by unfold RB at h; omega) (by unfold RB at h; omega)
 have c1:=Int.mul_comm y0 x0
 have c2:=Int.mul_comm y0 x1
 have c3:=Int.mul_comm y1 x0
 have c4:=Int.mul_comm y1 x1
 have e:xbH (RC x0 x1 y0 y1) [.i 1,.i (0+(x0*y0-y0*x1))]=x1*y1-y0*x1:=by
  unfold xbH
  simp only [gi_1,gi_z]
  rw [corC.1,corC.2]
  show IntKind.i64.wrap (x1*y1)-IntKind.i64.wrap (y0*x1)=_
  rw [xau (by omega),xau (by omega)]
 unfold xaS
 simp only [gi_1,gi_z]
 rw [ltR (by decide),xaa (by first | exact inRC (by decide) (by decide) | exact xad (by decide) (by decide) | (intro _; exact inRC (by decide) (by decide)) | (intro _; exact xad (by decide) (by decide))),xaa (by first | exact inRC (by decide) (by decide) | exact xad (by decide) (by decide) | (intro _; exact inRC (by decide) (by decide)) | (intro _; exact xad (by decide) (by decide))),xaa (by first | exact inRC (by decide) (by decide) | exact xad (by decide) (by decide) | (intro _; exact inRC (by decide) (by decide)) | (intro _; exact xad (by decide) (by decide))),e,xau (x:=x1*y1-y0*x1) (by omega),xau (x:=(0+(x0*y0-y0*x1))+(x1*y1-y0*x1)) (by omega)]
 rfl
theorem tw_2 (h:RB x0 x1 y0 y1):xaS (RC x0 x1 y0 y1) [.i 2,.i ((0+(x0*y0-y0*x1))+(x1*y1-y0*x1))]=some (0,[.i 3,.i (((0+(x0*y0-y0*x1))+(x1*y1-y0*x1))+(x1*y1-y1*x0))]):=by
 have p00:=Si.xc7 (A:=1000000) (B:=1000000) (x:=x0) (n:=y0) (by unfold RB at h; omega) (by unfold RB at h; omega) (by unfold RB at h; omega) (by unfold RB at h; omega)
 have p01:=Si.xc7 (A:=1000000) (B:=1000000) (x:=x0) (n:=y1) (by unfold RB at h; omega) (by unfold RB at h; omega) (by unfold RB at h; omega) (by unfold RB at h; omega)
 have p10:=Si.xc7 (A:=1000000) (B:=1000000) (x:=x1) (n:=y0) (by unfold RB at h; omega) (by unfold RB at h; omega) (by unfold RB at h; omega) (by unfold RB at h; omega)
 have p11:=Si.xc7 (A:=1000000) (B:=1000000) (x:=x1) (n:=y1) (by unfold RB at h; omega) (by unfold RB at h; omega) (by unfold RB at h; omega) (by unfold RB at h; omega)
 have c1:=Int.mul_comm y0 x0
 have c2:=Int.mul_comm y0 x1
 have c3:=Int.mul_comm y1 x0
 have c4:=Int.mul_comm y1 x1
 have e:xbH (RC x0 x1 y0 y1) [.i 2,.i ((0+(x0*y0-y0*x1))+(x1*y1-y0*x1))]=x1*y1-y1*x0:=by
  unfold xbH
  simp only [gi_1,gi_z]
  rw [corD.1,corD.2]
  show IntKind.i64.wrap (x1*y1)-IntKind.i64.wrap (y1*x0)=_
  rw [xau (by omega),xau (by omega)]
 unfold xaS
 simp only [gi_1,gi_z]
 rw [ltR (by decide),xaa (by first | exact inRC (by decide) (by decide) | exact xad (by decide) (by decide) | (intro _; exact inRC (by decide) (by decide)) | (intro _; exact xad (by decide) (by decide))),xaa (by first | exact inRC (by decide) (by decide) | exact xad (by decide) (by decide) | (intro _; exact inRC (by decide) (by decide)) | (intro _; exact xad (by decide) (by decide))),xaa (by first | exact inRC (by decide) (by decide) | exact xad (by decide) (by decide) | (intro _; exact inRC (by decide) (by decide)) | (intro _; exact xad (by decide) (by decide))),e,xau (x:=x1*y1-y1*x0) (by omega),xau (x:=((0+(x0*y0-y0*x1))+(x1*y1-y0*x1))+(x1*y1-y1*x0)) (by omega)]
 rfl
theorem tw_3 (h:RB x0 x1 y0 y1):xaS (RC x0 x1 y0 y1) [.i 3,.i (((0+(x0*y0-y0*x1))+(x1*y1-y0*x1))+(x1*y1-y1*x0))]=some (0,[.i 4,.i ((((0+(x0*y0-y0*x1))+(x1*y1-y0*x1))+(x1*y1-y1*x0))+(x0*y0-y1*x0))]):=by
 have p00:=Si.xc7 (A:=1000000) (B:=1000000) (x:=x0) (n:=y0) (by unfold RB at h; omega) (by unfold RB at h; omega) (by unfold RB at h; omega) (by unfold RB at h; omega)
 have p01:=Si.xc7 (A:=1000000) (B:=1000000) (x:=x0) (n:=y1) (by unfold RB at h; omega) (by unfold RB at h; omega) (by unfold RB at h; omega) (by unfold RB at h; omega)
 have p10:=Si.xc7 (A:=1000000) (B:=1000000) (x:=x1) (n:=y0) (by unfold RB at h; omega) (by unfold RB at h; omega) (by unfold RB at h; omega) (by unfold RB at h; omega)
 have p11:=Si.xc7 (A:=1000000) (B:=1000000) (x:=x1) (n:=y1) (by unfold RB at h; omega) (by unfold RB at h; omega) (by unfold RB at h; omega) (by unfold RB at h; omega)
 have c1:=Int.mul_comm y0 x0
 have c2:=Int.mul_comm y0 x1
 have c3:=Int.mul_comm y1 x0
 have c4:=Int.mul_comm y1 x1
 have e:xbH (RC x0 x1 y0 y1) [.i 3,.i (((0+(x0*y0-y0*x1))+(x1*y1-y0*x1))+(x1*y1-y1*x0))]=x0*y0-y1*x0:=by
  unfold xbH
  simp only [gi_1,gi_z]
  rw [corA.1,corA.2]
  show IntKind.i64.wrap (x0*y0)-IntKind.i64.wrap (y1*x0)=_
  rw [xau (by omega),xau (by omega)]
 unfold xaS
 simp only [gi_1,gi_z]
 rw [ltR (by decide),xaa (by first | exact inRC (by decide) (by decide) | exact xad (by decide) (by decide) | (intro _; exact inRC (by decide) (by decide)) | (intro _; exact xad (by decide) (by decide))),xaa (by first | exact inRC (by decide) (by decide) | exact xad (by decide) (by decide) | (intro _; exact inRC (by decide) (by decide)) | (intro _; exact xad (by decide) (by decide))),xaa (by first | exact inRC (by decide) (by decide) | exact xad (by decide) (by decide) | (intro _; exact inRC (by decide) (by decide)) | (intro _; exact xad (by decide) (by decide))),e,xau (x:=x0*y0-y1*x0) (by omega),xau (x:=(((0+(x0*y0-y0*x1))+(x1*y1-y0*x1))+(x1*y1-y1*x0))+(x0*y0-y1*x0)) (by omega)]
 rfl
theorem tw_4 (z:Int):xaS (RC x0 x1 y0 y1) [.i 4,.i z]=some (2,[.i 4,.i z]):=by
 unfold xaS
 simp only [gi_1,gi_z]
 rw [nltR (by decide)]
theorem xzw (h:RB x0 x1 y0 y1):xdl (RC x0 x1 y0 y1)∧xd3 (RC x0 x1 y0 y1)>0:=by
 obtain ⟨h1,h2⟩:=xfI (xaK (tw_0 h) (xaK (tw_1 h) (xaK (tw_2 h) (xaK (tw_3 h) (xcB (tw_4 _))))))
 refine ⟨h1,?_⟩
 unfold xd3 xjz
 rw [show xeJ (RC x0 x1 y0 y1)=[.i 0,.i 0] from rfl,h2]
 show ((((0+(x0*y0-y0*x1))+(x1*y1-y0*x1))+(x1*y1-y1*x0))+(x0*y0-y1*x0))>0
 have:=xDO h
 grind
theorem xxk (h:RB x0 x1 y0 y1):xfk (RC x0 x1 y0 y1)∧xdy (RC x0 x1 y0 y1)=true:=by
 obtain ⟨a1,a2⟩:=xfI (xaK (xIh h) (xaK (xIg h) (xaK (xIf h) (xaK (xIe h) (xcB xId)))))
 obtain ⟨b1,b2⟩:=xfI (xaK (xIc h) (xaK (xIb h) (xaK (xIa h) (xaK (xH9 h) (xcB xH8)))))
 have e1:xgJ (RC x0 x1 y0 y1)=(3,[.i 0,.i 4]):=a2
 have e2:xlp (RC x0 x1 y0 y1)=(3,[.b false,.i 4]):=b2
 refine ⟨⟨fun _=>a1,fun _=>⟨b1,fun _=>⟨(xxe h).1,fun _=>(xzw h).1⟩⟩⟩,?_⟩
 unfold xdy
 rw [e1,e2,(xxe h).2,decide_eq_true (xzw h).2]
 rfl
end Go.Proofs.YthfjhbbpdhjklaaGreat
set_option linter.unusedVariables false
set_option linter.unusedSimpArgs false
set_option linter.unusedSectionVars false
set_option maxRecDepth 100000
set_option maxHeartbeats 4000000
namespace Go.Proofs.YthfjhbbpdhjklaaGreat
open Go Go.Sy
variable {x0 x1 y0 y1 px py:Int}
def QB (x0 x1 y0 y1 px py:Int):Prop:=x0≤px∧px≤x1∧y0≤py∧py≤y1
theorem xBx (h:RB x0 x1 y0 y1) (q:QB x0 x1 y0 y1 px py):Si.Pt px py:=by unfold RB at h; unfold QB at q; unfold Si.Pt; omega
theorem xFI {a b c d:Int} (h1:Si.Pt px py) (h2:Si.Pt a b) (h3:Si.Pt c d) (h:(c-a)*(py-b)-(d-b)*(px-a)=0) (k1:imin a c≤px) (k2:px≤imax a c) (k3:imin b d≤py) (k4:py≤imax b d):xbr px py a b c d=true:=by
 rw [xIB h1 h2 h3]
 unfold xfl
 rw [xyz h2 h3 h1,h,xCH,decide_eq_true k1,decide_eq_true k2,decide_eq_true k3,decide_eq_true k4]
 rfl
theorem xEr (h:RB x0 x1 y0 y1) (q:QB x0 x1 y0 y1 px py) (ho:xbr px py x1 y0 x1 y1=false):px<x1:=by
 obtain ⟨a,b,c,d⟩:=xn5 h
 have hp:=xBx h q
 unfold RB at h; unfold QB at q
 refine Int.not_le.1 fun hn=>?_
 obtain rfl:px=x1:=by omega
 rw [xFI hp b c (by simp) (by unfold imin; split<;>omega) (by unfold imax; split<;>omega) (by unfold imin; split<;>omega) (by unfold imax; split<;>omega)] at ho
 exact absurd ho (by decide)
theorem xEq (h:RB x0 x1 y0 y1) (q:QB x0 x1 y0 y1 px py) (ho:xbr px py x1 y1 x0 y1=false):py<y1:=by
 obtain ⟨a,b,c,d⟩:=xn5 h
 have hp:=xBx h q
 unfold RB at h; unfold QB at q
 refine Int.not_le.1 fun hn=>?_
 obtain rfl:py=y1:=by omega
 rw [xFI hp c d (by simp) (by unfold imin; split<;>omega) (by unfold imax; split<;>omega) (by unfold imin; split<;>omega) (by unfold imax; split<;>omega)] at ho
 exact absurd ho (by decide)
theorem pn_0 (z:Bool) (ho:xbr px py x0 y0 x1 y0=true):xat px py (RC x0 x1 y0 y1) [.i 0,.b z]=some (1,[.b z]):=by
 have e:xbr px py (((RC x0 x1 y0 y1).getD ((0:Int)).toNat []).getD 0 0) (((RC x0 x1 y0 y1).getD ((0:Int)).toNat []).getD 1 0) (xag (IntKind.i64.wrap ((0:Int)+1)) (RC x0 x1 y0 y1)) (xaf (IntKind.i64.wrap ((0:Int)+1)) (RC x0 x1 y0 y1))=true:=by
  rw [corB.1,corB.2]; exact ho
 unfold xat
 simp only [gi_1,gi_z,gb_1,gb_z]
 rw [ltR (by decide),xaa (by first | exact inRC (by decide) (by decide) | exact xad (by decide) (by decide)),xaa (by first | exact inRC (by decide) (by decide) | exact xad (by decide) (by decide)),xaa (by first | exact inRC (by decide) (by decide) | exact xad (by decide) (by decide)),e]
 rfl
theorem pf_0 (z:Bool) (ho:xbr px py x0 y0 x1 y0=false):xat px py (RC x0 x1 y0 y1) [.i 0,.b z]=some (0,[.i 1,.b z]):=by
 have e:xbr px py (((RC x0 x1 y0 y1).getD ((0:Int)).toNat []).getD 0 0) (((RC x0 x1 y0 y1).getD ((0:Int)).toNat []).getD 1 0) (xag (IntKind.i64.wrap ((0:Int)+1)) (RC x0 x1 y0 y1)) (xaf (IntKind.i64.wrap ((0:Int)+1)) (RC x0 x1 y0 y1))=false:=by
  rw [corB.1,corB.2]; exact ho
 have ey:((RC x0 x1 y0 y1).getD ((0:Int)).toNat []).getD 1 0=y0:=rfl
 unfold xat
 simp only [gi_1,gi_z,gb_1,gb_z]
 rw [ltR (by decide),xaa (by first | exact inRC (by decide) (by decide) | exact xad (by decide) (by decide)),xaa (by first | exact inRC (by decide) (by decide) | exact xad (by decide) (by decide)),xaa (by first | exact inRC (by decide) (by decide) | exact xad (by decide) (by decide)),e,cond_false,ey,corB.2]
 rw [decide_eq_false (show ¬ y0>y0 by omega),cond_false]
 by_cases hc:y0≤py
 ·rw [decide_eq_true hc,decide_eq_false (show ¬ py<y0 by omega)]; rfl
 ·rw [decide_eq_false hc]; rfl
theorem pn_1 (z:Bool) (ho:xbr px py x1 y0 x1 y1=true):xat px py (RC x0 x1 y0 y1) [.i 1,.b z]=some (1,[.b z]):=by
 have e:xbr px py (((RC x0 x1 y0 y1).getD ((1:Int)).toNat []).getD 0 0) (((RC x0 x1 y0 y1).getD ((1:Int)).toNat []).getD 1 0) (xag (IntKind.i64.wrap ((1:Int)+1)) (RC x0 x1 y0 y1)) (xaf (IntKind.i64.wrap ((1:Int)+1)) (RC x0 x1 y0 y1))=true:=by
  rw [corC.1,corC.2]; exact ho
 unfold xat
 simp only [gi_1,gi_z,gb_1,gb_z]
 rw [ltR (by decide),xaa (by first | exact inRC (by decide) (by decide) | exact xad (by decide) (by decide)),xaa (by first | exact inRC (by decide) (by decide) | exact xad (by decide) (by decide)),xaa (by first | exact inRC (by decide) (by decide) | exact xad (by decide) (by decide)),e]
 rfl
theorem pf_1 (h:RB x0 x1 y0 y1) (q:QB x0 x1 y0 y1 px py) (ho:xbr px py x1 y0 x1 y1=false):∃ z,xat px py (RC x0 x1 y0 y1) [.i 1,.b false]=some (0,[.i 2,.b z])∧(py<y1→z=true):=by
 have e:xbr px py (((RC x0 x1 y0 y1).getD ((1:Int)).toNat []).getD 0 0) (((RC x0 x1 y0 y1).getD ((1:Int)).toNat []).getD 1 0) (xag (IntKind.i64.wrap ((1:Int)+1)) (RC x0 x1 y0 y1)) (xaf (IntKind.i64.wrap ((1:Int)+1)) (RC x0 x1 y0 y1))=false:=by
  rw [corC.1,corC.2]; exact ho
 have ey:((RC x0 x1 y0 y1).getD ((1:Int)).toNat []).getD 1 0=y0:=rfl
 have hx:=xEr h q ho
 obtain ⟨a,b,c,d⟩:=xn5 h
 have hp:=xBx h q
 have hyy:y0<y1:=by unfold RB at h; omega
 have hy0:y0≤py:=by unfold QB at q; omega
 have es:xgl px py (RC x0 x1 y0 y1) [.i 1,.b false]=1:=by
  unfold xgl
  simp only [gi_1,gi_z]
  rw [corC.1,corC.2]
  have hm:0<(y1-y0)*(x1-px):=Int.mul_pos (by omega) (by omega)
  exact (xqf b c hp).trans (xiZ b c hp (by grind))
 unfold xat
 simp only [gi_1,gi_z,gb_1,gb_z]
 rw [ltR (by decide),xaa (by first | exact inRC (by decide) (by decide) | exact xad (by decide) (by decide)),xaa (by first | exact inRC (by decide) (by decide) | exact xad (by decide) (by decide)),xaa (by first | exact inRC (by decide) (by decide) | exact xad (by decide) (by decide)),e,cond_false,ey,corC.2]
 rw [decide_eq_false (show ¬ y0>y1 by omega),cond_false,decide_eq_true hy0,es]
 by_cases hy:py<y1
 ·rw [decide_eq_true hy]
  exact ⟨true,rfl,fun _=>rfl⟩
 ·rw [decide_eq_false hy]
  exact ⟨false,rfl,fun h=>absurd h hy⟩
theorem pn_2 (z:Bool) (ho:xbr px py x1 y1 x0 y1=true):xat px py (RC x0 x1 y0 y1) [.i 2,.b z]=some (1,[.b z]):=by
 have e:xbr px py (((RC x0 x1 y0 y1).getD ((2:Int)).toNat []).getD 0 0) (((RC x0 x1 y0 y1).getD ((2:Int)).toNat []).getD 1 0) (xag (IntKind.i64.wrap ((2:Int)+1)) (RC x0 x1 y0 y1)) (xaf (IntKind.i64.wrap ((2:Int)+1)) (RC x0 x1 y0 y1))=true:=by
  rw [corD.1,corD.2]; exact ho
 unfold xat
 simp only [gi_1,gi_z,gb_1,gb_z]
 rw [ltR (by decide),xaa (by first | exact inRC (by decide) (by decide) | exact xad (by decide) (by decide)),xaa (by first | exact inRC (by decide) (by decide) | exact xad (by decide) (by decide)),xaa (by first | exact inRC (by decide) (by decide) | exact xad (by decide) (by decide)),e]
 rfl
theorem pf_2 (z:Bool) (ho:xbr px py x1 y1 x0 y1=false):xat px py (RC x0 x1 y0 y1) [.i 2,.b z]=some (0,[.i 3,.b z]):=by
 have e:xbr px py (((RC x0 x1 y0 y1).getD ((2:Int)).toNat []).getD 0 0) (((RC x0 x1 y0 y1).getD ((2:Int)).toNat []).getD 1 0) (xag (IntKind.i64.wrap ((2:Int)+1)) (RC x0 x1 y0 y1)) (xaf (IntKind.i64.wrap ((2:Int)+1)) (RC x0 x1 y0 y1))=false:=by
  rw [corD.1,corD.2]; exact ho
 have ey:((RC x0 x1 y0 y1).getD ((2:Int)).toNat []).getD 1 0=y1:=rfl
 unfold xat
 simp only [gi_1,gi_z,gb_1,gb_z]
 rw [ltR (by decide),xaa (by first | exact inRC (by decide) (by decide) | exact xad (by decide) (by decide)),xaa (by first | exact inRC (by decide) (by decide) | exact xad (by decide) (by decide)),xaa (by first | exact inRC (by decide) (by decide) | exact xad (by decide) (by decide)),e,cond_false,ey,corD.2]
 rw [decide_eq_false (show ¬ y1>y1 by omega),cond_false]
 by_cases hc:y1≤py
 ·rw [decide_eq_true hc,decide_eq_false (show ¬ py<y1 by omega)]; rfl
 ·rw [decide_eq_false hc]; rfl
theorem pn_3 (z:Bool) (ho:xbr px py x0 y1 x0 y0=true):xat px py (RC x0 x1 y0 y1) [.i 3,.b z]=some (1,[.b z]):=by
 have e:xbr px py (((RC x0 x1 y0 y1).getD ((3:Int)).toNat []).getD 0 0) (((RC x0 x1 y0 y1).getD ((3:Int)).toNat []).getD 1 0) (xag (IntKind.i64.wrap ((3:Int)+1)) (RC x0 x1 y0 y1)) (xaf (IntKind.i64.wrap ((3:Int)+1)) (RC x0 x1 y0 y1))=true:=by
  rw [corA.1,corA.2]; exact ho
 unfold xat
 simp only [gi_1,gi_z,gb_1,gb_z]
 rw [ltR (by decide),xaa (by first | exact inRC (by decide) (by decide) | exact xad (by decide) (by decide)),xaa (by first | exact inRC (by decide) (by decide) | exact xad (by decide) (by decide)),xaa (by first | exact inRC (by decide) (by decide) | exact xad (by decide) (by decide)),e]
 rfl
theorem pf_3 (z:Bool) (h:RB x0 x1 y0 y1) (q:QB x0 x1 y0 y1 px py) (ho:xbr px py x0 y1 x0 y0=false):xat px py (RC x0 x1 y0 y1) [.i 3,.b z]=some (0,[.i 4,.b z]):=by
 have e:xbr px py (((RC x0 x1 y0 y1).getD ((3:Int)).toNat []).getD 0 0) (((RC x0 x1 y0 y1).getD ((3:Int)).toNat []).getD 1 0) (xag (IntKind.i64.wrap ((3:Int)+1)) (RC x0 x1 y0 y1)) (xaf (IntKind.i64.wrap ((3:Int)+1)) (RC x0 x1 y0 y1))=false:=by
  rw [corA.1,corA.2]; exact ho
 have ey:((RC x0 x1 y0 y1).getD ((3:Int)).toNat []).getD 1 0=y1:=rfl
 obtain ⟨a,b,c,d⟩:=xn5 h
 have hp:=xBx h q
 have hyy:y0<y1:=by unfold RB at h; omega
 have hx:x0≤px:=by unfold QB at q; omega
 have es:decide (xgm px py (RC x0 x1 y0 y1) [.i 3,.b z]>0)=false:=by
  unfold xgm
  simp only [gi_1,gi_z]
  rw [corA.1,corA.2]
  show decide (xfC x0 y0 x0 y1 px py>0)=false
  rw [xqf a d hp,xyz a d hp]
  have hm:0≤(y1-y0)*(px-x0):=Int.mul_nonneg (by omega) (by omega)
  have e0:(x0-x0)*(py-y0)-(y1-y0)*(px-x0) = -((y1-y0)*(px-x0)):=by grind
  rw [e0]
  unfold xaI xb9
  rw [decide_eq_false (show ¬ -((y1-y0)*(px-x0))>0 by omega)]
  cases decide (-((y1-y0)*(px-x0))<0)<;>simp
 unfold xat
 simp only [gi_1,gi_z,gb_1,gb_z]
 rw [ltR (by decide),xaa (by first | exact inRC (by decide) (by decide) | exact xad (by decide) (by decide)),xaa (by first | exact inRC (by decide) (by decide) | exact xad (by decide) (by decide)),xaa (by first | exact inRC (by decide) (by decide) | exact xad (by decide) (by decide)),e,cond_false,ey,corA.2]
 rw [decide_eq_true (show y1>y0 from hyy),cond_true,es,Bool.and_false]
 rfl
theorem pf_4 (z:Bool):xat px py (RC x0 x1 y0 y1) [.i 4,.b z]=some (6,[.i 4,.b z]):=by
 unfold xat
 simp only [gi_1,gi_z,gb_1,gb_z]
 rw [nltR (by decide)]
theorem xDf (h:RB x0 x1 y0 y1) (q:QB x0 x1 y0 y1 px py):xdn px py (RC x0 x1 y0 y1)∧xd4 px py (RC x0 x1 y0 y1)≥0:=by
 have key:∃ n r,xi2 (xat px py (RC x0 x1 y0 y1)) n [.i 0,.b false]=some r∧(r=(1,[.b false])∨r=(1,[.b true])∨r=(6,[.i 4,.b true])):=by
  cases o0:xbr px py x0 y0 x1 y0
  ·cases o1:xbr px py x1 y0 x1 y1
   ·obtain ⟨z,hz,hzt⟩:=pf_1 h q o1
    cases o2:xbr px py x1 y1 x0 y1
    ·obtain rfl:=hzt (xEq h q o2)
     cases o3:xbr px py x0 y1 x0 y0
     ·exact ⟨_,_,xaK (pf_0 false o0) (xaK hz (xaK (pf_2 true o2) (xaK (pf_3 true h q o3) (xcB (pf_4 true))))),.inr (.inr rfl)⟩
     ·exact ⟨_,_,xaK (pf_0 false o0) (xaK hz (xaK (pf_2 true o2) (xcB (pn_3 true o3)))),.inr (.inl rfl)⟩
    ·cases z
     ·exact ⟨_,_,xaK (pf_0 false o0) (xaK hz (xcB (pn_2 false o2))),.inl rfl⟩
     ·exact ⟨_,_,xaK (pf_0 false o0) (xaK hz (xcB (pn_2 true o2))),.inr (.inl rfl)⟩
   ·exact ⟨_,_,xaK (pf_0 false o0) (xcB (pn_1 false o1)),.inl rfl⟩
  ·exact ⟨_,_,xcB (pn_0 false o0),.inl rfl⟩
 obtain ⟨n,r,h1,h2⟩:=key
 obtain ⟨h3,h4⟩:=xfI h1
 refine ⟨h3,?_⟩
 have e:xgn px py (RC x0 x1 y0 y1)=r:=h4
 unfold xd4
 rw [e]
 rcases h2 with rfl | rfl | rfl<;>decide
theorem xFG (h:RB x0 x1 y0 y1) (q:QB x0 x1 y0 y1 px py):xjB px py (RC x0 x1 y0 y1)∧xmp px py (RC x0 x1 y0 y1)=0∧xmq px py (RC x0 x1 y0 y1)≥0:=by
 obtain ⟨a1,a2⟩:=xxk h
 obtain ⟨b1,b2⟩:=xDf h q
 have hv:xaG px py=true:=by rw [Si.xcG,decide_eq_true (xBx h q)]
 refine ⟨⟨fun _=>a1,fun _=>b1⟩,?_,?_⟩
 ·unfold xmp; rw [a2,hv]; rfl
 ·unfold xmq; rw [a2,hv]; exact b2
end Go.Proofs.YthfjhbbpdhjklaaGreat
set_option linter.unusedVariables false
set_option linter.unusedSimpArgs false
set_option linter.unusedSectionVars false
set_option maxRecDepth 100000
namespace Go.Proofs.YthfjhbbpdhjklaaGreat
open Go Go.Sy
def nw (n:Nat) (wr:List (List Int)):List Nat:=(List.range n).filter fun i=>isW wr (i:Int)
def nwr (n:Nat) (wr:List (List Int)):List (List Int):=xcj ((nw n wr).map fun (x:Nat)=>(x:Int))
theorem xDP {n i:Nat} {wr:List (List Int)}:i∈nw n wr↔i<n∧isW wr (i:Int)=true:=by
 unfold nw; rw [List.mem_filter,List.mem_range]
theorem xFJ (n:Nat) (wr:List (List Int)):wB n (-1) (nwr n wr)=true :=
 xFb _ _ _ (List.Pairwise.filter _ List.pairwise_lt_range) fun x hx=>by
  have:=(xDP.1 hx).1; omega
theorem xEt (n:Nat) (wr:List (List Int)):∀ e∈nwr n wr,e.length=1:=fun e he=>by
 unfold nwr xcj at he
 obtain ⟨z,_,rfl⟩:=List.mem_map.1 he
 rfl
theorem xEv {n i:Nat} {wr:List (List Int)} (hi:i<n):isW (nwr n wr) (i:Int)=isW wr (i:Int):=by
 rw [Bool.eq_iff_iff]
 have e:isW (nwr n wr) (i:Int)=true↔i∈nw n wr:=by
  unfold isW nwr xcj
  rw [List.any_eq_true]
  constructor
  ·rintro ⟨x,hx,hk⟩
   obtain ⟨z,hz,rfl⟩:=List.mem_map.1 hx
   obtain ⟨m,hm,rfl⟩:=List.mem_map.1 hz
   have:(i:Int)=(m:Int):=by simpa using hk
   have:i=m:=by omega
   rw [this]; exact hm
  ·intro h
   exact ⟨[(i:Int)],List.mem_map.2 ⟨(i:Int),List.mem_map.2 ⟨i,h,rfl⟩,rfl⟩,by simp⟩
 rw [e,xDP]
 exact ⟨fun h=>h.2,fun h=>⟨hi,h⟩⟩
theorem xCF (x:Int):∀ n:Nat,(List.range n).countP (fun (i:Nat)=>((i:Int))==x)≤(if x<n then 1 else 0)
 | 0=>by simp
 | n+1=>by
  have h:=xCF x n
  rw [List.range_succ,List.countP_append,List.countP_singleton]
  by_cases hx:(n:Int)=x
  ·rw [if_neg (show ¬ x<n by omega)] at h
   rw [if_pos (show x<((n+1:Nat):Int) by omega)]
   split<;>omega
  ·rw [show (((n:Int))==x)=false by simpa using hx]
   by_cases hl:x<n
   ·rw [if_pos hl] at h
    rw [if_pos (show x<((n+1:Nat):Int) by omega)]
    simpa using h
   ·rw [if_neg hl] at h
    simp only [Bool.false_eq_true,if_false]
    omega
theorem xyg (p q:Nat→Bool):∀ l:List Nat,l.countP (fun (i:Nat)=>p i||q i)≤l.countP p+l.countP q
 | []=>by simp
 | a::l=>by
  have h:=xyg p q l
  rw [List.countP_cons,List.countP_cons,List.countP_cons]
  cases p a<;>cases q a<;>simp<;>omega
theorem xCG (n:Nat):∀ wr:List (List Int),(List.range n).countP (fun (i:Nat)=>isW wr (i:Int))≤wr.length
 | []=>by
  show (List.range n).countP (fun (i:Nat)=>false)≤0
  simp
 | e::wr=>by
  have h:=xCG n wr
  have h1:=xyg (fun (i:Nat)=>((i:Int))==e.getD 0 0) (fun (i:Nat)=>isW wr (i:Int)) (List.range n)
  have h2:=xCF (e.getD 0 0) n
  have h3:(List.range n).countP (fun (i:Nat)=>isW (e::wr) (i:Int))=(List.range n).countP (fun (i:Nat)=>(((i:Int))==e.getD 0 0)||isW wr (i:Int)):=rfl
  rw [h3,List.length_cons]
  split at h2<;>omega
theorem xEu (n:Nat) (wr:List (List Int)):(nwr n wr).length≤wr.length:=by
 have h:=xCG n wr
 rw [List.countP_eq_length_filter] at h
 unfold nwr xcj nw
 rw [List.length_map,List.length_map]
 exact h
theorem xzx {c wr wr' tr:List (List Int)}:∀ (rs:List (List Int)) (i:Nat) (at_:Int) (t:Bool),(∀ j,i≤j→j<i+rs.length→isW wr (j:Int)=isW wr' (j:Int))→tb c wr tr rs i at_ t=tb c wr' tr rs i at_ t
 | [],_,_,_,_=>rfl
 | r::rs,i,at_,t,h=>by
  rw [xyD,xyD,h i (Nat.le_refl _) (by simp only [List.length_cons]; omega)]
  exact xzx rs (i+1) _ _ fun j h1 h2=>h j (by omega) (by simp only [List.length_cons]; omega)
section
variable {f:Int} {base fc rp wr tr:List (List Int)}
theorem wh_t (h13:Si.El13 rp) (hf:fc.length≤9223372036854775807) (hW:xbU f (wr.length:Int) base fc rp=0) (hn:rp.length≤8) (m3:wr.length≤3) (tn:tr.length=rp.length+1)
  (hv0:VP (pX tr 0) (pY tr 0)) (h0:∃ b∈base,HB (pX tr 0) (pY tr 0) b) (htb:tb fc wr tr rp 0 f true=true) :
  VB [xbE f (wr.length:Int) base fc rp,xbD f (wr.length:Int) base fc rp,xbC f (wr.length:Int) base fc rp,xbB f (wr.length:Int) base fc rp] ∧
   HB (pX tr rp.length) (pY tr rp.length) [xbE f (wr.length:Int) base fc rp,xbD f (wr.length:Int) base fc rp,xbC f (wr.length:Int) base fc rp,xbB f (wr.length:Int) base fc rp]∧VP (pX tr rp.length) (pY tr rp.length):=by
 obtain ⟨_,hcase⟩:=xvA f (wr.length:Int) base fc rp h13 hf
 rcases hcase with ⟨k1,k2⟩ | ⟨_,w,_,k2,k3⟩ | ⟨_,_,_,k3⟩ | ⟨ha,k1,k2,k3,k4,k5,k6,k7⟩
 ·exact absurd (k2.symm.trans hW) k1
 ·exact absurd (by rw [← k3,hW]; unfold okE; first | exact .inl rfl | decide) k2
 ·exact absurd (k3.symm.trans hW) (by decide)
 have hsv:svE f base fc rp=0:=by
  unfold askE at ha
  split at ha
  ·exact absurd ha (by decide)
  ·split at ha
   ·exact absurd ha (by decide)
   ·exact ha
 have hgs:GS f base fc rp:=by
  rcases xvE f base fc rp with ⟨e,_⟩ | ⟨e,_⟩ | ⟨_,g,_⟩
  ·rw [hsv] at e; exact absurd e (by decide)
  ·rw [hsv] at e; exact absurd e (by decide)
  ·exact g
 have htb':tb fc (nwr rp.length wr) tr rp 0 f true=true:=by
  rw [← xzx (wr:=wr) (wr':=nwr rp.length wr) rp 0 f true (fun j _ h2=>(xEv (by omega)).symm)]
  exact htb
 have htl:tl fc (nwr rp.length wr) tr rp 0 f:=(xGh rp 0 f true (by rw [xFf _ _ _ _ true htb'])).2
 have T:Told f base fc rp (nwr rp.length wr) tr:=⟨hsv,hgs,xFJ _ _,tn,h0,hv0,htl⟩
 have hin:nwr rp.length wr∈alls rp.length ((wr.length:Int).toNat+1):=xEM (xEt _ _) T.wb (by have:=xEu rp.length wr; omega)
 have hok:=k1 _ hin
 have hvl:=xEb rp 0 f T.tl T.v0
 rw [Nat.zero_add] at hvl
 rcases xEa T with k | ⟨k,_,_,b,hb,hB⟩
 ·have k':(lw f base fc rp (nwr rp.length wr)).1=3:=k
  rw [k'] at hok
  exact absurd hok (by decide)
 have hm:b∈(alls rp.length ((wr.length:Int).toNat+1)).flatMap fun w=>(lw f base fc rp w).2:=List.mem_flatMap.2 ⟨_,hin,hb⟩
 have hH:=xIr hB (xEN hm)
 have hV:VB (hull ((alls rp.length ((wr.length:Int).toNat+1)).flatMap fun w=>(lw f base fc rp w).2)):=xBf k2 (fun b hb=>by
  obtain ⟨w,_,hb⟩:=List.mem_flatMap.1 hb
  exact xFQ T.gs b hb)
 rw [k4,k5,k6,k7]
 exact ⟨hV,hH,hvl⟩
end
end Go.Proofs.YthfjhbbpdhjklaaGreat
set_option linter.unusedVariables false
set_option linter.unusedSimpArgs false
set_option linter.unusedSectionVars false
set_option maxRecDepth 100000
set_option maxHeartbeats 4000000
namespace Go.Proofs.YthfjhbbpdhjklaaGreat
open Go Go.Sy
theorem xEW {a b:Int} (h:b≤a):decide (xaI a b<0)=false:=by
 unfold xaI xb9
 rw [decide_eq_false (show ¬ a<b by omega)]
 cases decide (a>b)<;>simp
theorem xx8 (ua:List (List Int)) (hl:ua.length≤200) (hs:∀ k:Nat,k+1<ua.length→(ua.getD k []).getD 3 0≤(ua.getD (k+1) []).getD 3 0)
  (hv:∀ r∈ua,xeX (r.getD 0 0) (r.getD 1 0) (r.getD 2 0) (r.getD 3 0) (r.getD 4 0) (r.getD 5 0) (r.getD 6 0) (r.getD 7 0)=true):xbS ua=true:=by
 have k0:=xrZ (step:=xc8 ua) (fun xs=>(gi xs 1).toNat) (fun xs=>∃ k:Int,xs=[.b false,.i k] ∧ -1≤k∧k<ua.length) (fun r=>r.1=3)
  (fun xs ⟨k,e,h1,h2⟩=>by
   subst e
   unfold xc8
   simp only [gi_1,gi_z,gb_z]
   by_cases hk:k>0
   ·have w:IntKind.i64.wrap (k-1)=k-1:=xau (by omega)
    have i1:inR k ua:=⟨by omega,h2⟩
    have i2:inR (k-1) ua:=⟨by omega,by omega⟩
    rw [decide_eq_true hk,cond_true,w,xaa i1,xaa i1,xaa i2,xaa i2]
    have hs':=hs (k-1).toNat (by omega)
    rw [show (k-1).toNat+1=k.toNat by omega] at hs'
    rw [xEW hs']
    left
    refine ⟨_,rfl,⟨k-1,rfl,by omega,by omega⟩,?_⟩
    show (k-1).toNat<k.toNat
    omega
   ·right
    rw [decide_eq_false hk]
    exact ⟨2,_,rfl,rfl⟩)
  (xs:=xc9 ua) ⟨(ua.length:Int)-1,by unfold xc9; rw [xau (by omega)],by omega,by omega⟩
 obtain ⟨k1,k2⟩:=xev (step:=xb5 ua) ua.length (fun i=>!xeX ((ua.getD i []).getD 0 0) ((ua.getD i []).getD 1 0) ((ua.getD i []).getD 2 0) ((ua.getD i []).getD 3 0) ((ua.getD i []).getD 4 0) ((ua.getD i []).getD 5 0) ((ua.getD i []).getD 6 0) ((ua.getD i []).getD 7 0))
  (fun i=>[.i 0,.i i]) (fun i=>[.i i]) 0 2 [.i 0,.i ua.length]
  (fun i hi=>by
   unfold xb5
   simp only [gi_1,gi_z,gb_z,dlt hi,xaa (xey hi),xbQ (show i<4611686018427387904 by omega),Int.toNat_natCast])
  (by
   unfold xb5
   simp only [gi_1,gi_z,dnlt])
 unfold xbS xi4
 have e0:(xly ua).fst=3:=k0.2
 rw [e0,decide_eq_true (show (ua.length:Int)≤200 by omega)]
 rcases k2 with ⟨i,hi,hp,_,hg⟩ | ⟨hn,hg⟩
 ·exfalso
  have:=hv (ua.getD i []) (by rw [xhC hi]; exact List.getElem_mem hi)
  rw [this] at hp
  exact absurd hp (by decide)
 ·rw [show xfw ua=[.i 0,.i ((0:Nat):Int)] from rfl,hg]
  rfl
theorem xD0 {ub:Int} {ua:List (List Int)} (hl:ua.length≤200) (h0:0≤ub∧ub≤10000000) (ht:∀ a∈ua,a.getD 3 0≤ub) (hv:xbS ua=true) :
  xdN ub ua∧xdp ub ua=0∧(∀ a∈ua,ActV a)∧xbx ub ua=xaZ (ua.foldl actR []):=by
 obtain ⟨h1,h2⟩:=xGl ub ua (by omega) ht
 refine ⟨h1,?_⟩
 rcases h2 with h2 | h2
 ·exfalso
  unfold xdp at h2
  rw [hv,decide_eq_false (show ¬ ub<0 by omega),decide_eq_false (show ¬ ub>10000000 by omega)] at h2
  cases hb:(xfn ub ua).fst.beq 4<;>rw [hb] at h2<;>exact absurd h2 (by decide)
 ·exact h2
theorem t_wh:xdA 0 0 tB tF tR1∧xbU 0 0 tB tF tR1=0∧xbE 0 0 tB tF tR1=50∧xbD 0 0 tB tF tR1=70∧xbC 0 0 tB tF tR1 = -4∧xbB 0 0 tB tF tR1=4:=by
 obtain ⟨h1,h2⟩:=xvA 0 0 tB tF tR1 t13 (by decide)
 have ha:askE 0 0 tB tF tR1=0:=xGn tsv (by decide) (by decide) (by decide)
 have hA:alls tR1.length ((0:Int).toNat+1)=[[]]:=by decide +kernel
 have hL:lw 0 tB tF tR1 []=(0,[[50,70,-4,4]]):=by decide +kernel
 rw [hA] at h2
 have hF:(([[]]:List (List (List Int))).flatMap fun w=>(lw 0 tB tF tR1 w).2)=[[50,70,-4,4]]:=by
  show (lw 0 tB tF tR1 []).2++[]=_
  rw [hL]; rfl
 rw [hF] at h2
 refine ⟨h1,?_⟩
 rcases h2 with ⟨k,_⟩ | ⟨_,w,k1,k2,k3⟩ | ⟨_,k1,k2,_⟩ | ⟨_,k1,k2,k3,k4,k5,k6,k7⟩
 ·exact absurd ha k
 ·rw [List.mem_singleton.1 k1,hL] at k2
  exact absurd (.inl rfl) k2
 ·cases k2
 ·exact ⟨k3,k4,k5,k6,k7⟩
def tA5:List (List Int):=[[1,1,3,50,50,70,-4,4],[3,1,4,51,0,0,0,0]]
def tA6:List (List Int):=[[1,1,3,50,50,70,-4,4],[3,1,3,51,0,0,0,0]]
theorem xH5:xdN 51 tA5∧xdp 51 tA5=0∧xcR 60 0 (xbx 51 tA5)∧xcP 60 0 (xbx 51 tA5)=0∧xcp 60 0 (xbx 51 tA5)=[[1]]:=by
 have hv:xbS tA5=true:=xx8 tA5 (by decide) (fun k hk=>by
  have e:tA5.length=2:=rfl
  obtain rfl:k=0:=by omega
  decide) (by decide +kernel)
 obtain ⟨a1,a2,a3,a4⟩:=xD0 (ub:=51) (ua:=tA5) (by decide) (by decide) (by decide +kernel) hv
 have hs:=xqe tA5 [] a3 xw7
 have e:tA5.foldl actR []=[[1,1,1,50,70,-4,4,0,0,0,0,0,0]]:=by decide +kernel
 rw [e] at a4 hs
 obtain ⟨b1,b2,b3⟩:=xwG 60 0 hs.1 (by decide) (by decide +kernel)
 rw [a4]
 refine ⟨a1,a2,b1,b2,b3.trans (by decide +kernel)⟩
theorem xH4:xdN 51 tA6∧xdp 51 tA6=0∧xcR 60 0 (xbx 51 tA6)∧xcP 60 0 (xbx 51 tA6)=0∧xcp 60 0 (xbx 51 tA6)=[]:=by
 have hv:xbS tA6=true:=xx8 tA6 (by decide) (fun k hk=>by
  have e:tA6.length=2:=rfl
  obtain rfl:k=0:=by omega
  decide) (by decide +kernel)
 obtain ⟨a1,a2,a3,a4⟩:=xD0 (ub:=51) (ua:=tA6) (by decide) (by decide) (by decide +kernel) hv
 have hs:=xqe tA6 [] a3 xw7
 have e:tA6.foldl actR []=[[1,1,0,0,0,0,0,3,0,50,70,-4,4]]:=by decide +kernel
 rw [e] at a4 hs
 obtain ⟨b1,b2,b3⟩:=xwG 60 0 hs.1 (by decide) (by decide +kernel)
 rw [a4]
 refine ⟨a1,a2,b1,b2,b3.trans (by decide +kernel)⟩
theorem xCV:xbh=true∧xdE:=by
 obtain ⟨b,b4,b0,b1,b2,b3⟩:=xH3
 obtain ⟨w,w4,w0,w1,w2,w3⟩:=t_wh
 obtain ⟨p1,p2,p3,p4,p5⟩:=xH5
 obtain ⟨q1,q2,q3,q4,q5⟩:=xH4
 have e1:[xbV]=tB:=by unfold xbV xlK; rw [b0,b1,b2,b3]; rfl
 have e2:[(1:Int)::(1:Int)::(50:Int)::xca]=tR1:=rfl
 have ef:xbJ=tF:=rfl
 have e5:xa1=tA5:=by
  unfold xa1 xgd xiI
  rw [e1,e2,ef,w0,w1,w2,w3]; rfl
 have e6:xbK=tA6:=by
  unfold xbK xgd xiI
  rw [e1,e2,ef,w0,w1,w2,w3]; rfl
 constructor
 ·unfold xbh
  rw [e5,e6,e1,e2,ef,b4,w4,p2,p4,p5,q2,q4,q5]
  decide
 ·unfold xdE
  rw [e5,e6,e1,e2,ef,p5]
  have hr:inR (0:Int) [[(1:Int)]]:=by unfold inR; decide
  exact ⟨b,w,p1,q1,p3,q3,fun _=>hr,fun _=>hr⟩
end Go.Proofs.YthfjhbbpdhjklaaGreat
set_option linter.unusedVariables false
set_option linter.unusedSimpArgs false
set_option linter.unusedSectionVars false
set_option maxRecDepth 100000
set_option maxHeartbeats 4000000
namespace Go.Proofs.YthfjhbbpdhjklaaGreat
open Go Go.Sy
section
variable (x y d0 d1 c t0 t1 h f dg one two:Int) (fc rp wr tr ac:List (List Int))
theorem xD6:(bif (tr.length:Int) !=IntKind.i64.wrap ((rp.length:Int)+1) then false else gb (xko x y d0 d1 c t0 t1 h f dg one two fc rp wr tr ac).snd 0)=xeE x y d0 d1 c h f fc rp wr tr:=rfl
theorem xCT:xdD x y d0 d1 c h f fc rp wr tr→((((tr.length:Int) !=IntKind.i64.wrap ((rp.length:Int)+1))=false)→inR (0:Int) tr∧inR (0:Int) tr∧xa5 (xgi x y d0 d1 c t0 t1 h f dg one two fc rp wr tr ac) (xgj x y d0 d1 c t0 t1 h f dg one two fc rp wr tr ac)):=fun k=>k
theorem xH2 {T:Int} (hT:(rp.getD (IntKind.i64.wrap ((rp.length:Int)-1)).toNat []).getD 2 0=T) (hl:ac.length≤20):xa5 (xcJ x y d0 d1 c t0 t1 h f dg one two fc rp wr tr ac) (xgh x y d0 d1 c t0 t1 h f dg one two fc rp wr tr ac) ∧
  (((xdx x y d0 d1 c t0 t1 h f dg one two fc rp wr tr ac).fst.beq 1=true∧gb (xdx x y d0 d1 c t0 t1 h f dg one two fc rp wr tr ac).snd 0=xbh)∨((xdx x y d0 d1 c t0 t1 h f dg one two fc rp wr tr ac).fst.beq 1=false∧∀ a∈ac,a.getD 1 0≠dg∧a.getD 3 0≤T)):=by
 obtain ⟨k1,k2⟩:=xev (step:=xcJ x y d0 d1 c t0 t1 h f dg one two fc rp wr tr ac) ac.length (fun i=>(ac.getD i []).getD 1 0==dg||decide ((ac.getD i []).getD 3 0>T))
  (fun i=>[.b false,.i i]) (fun _=>[.b xbh]) 0 2 [.b false,.i ac.length]
  (fun i hi=>by
   unfold xcJ
   rw [List.nil_append,hT]
   simp only [gi_1,gi_z,gb_z,dlt hi,xaa (xey hi),xbQ (show i<4611686018427387904 by omega),Int.toNat_natCast])
  (by
   unfold xcJ
   rw [List.nil_append]
   simp only [gi_1,gi_z,gb_z,dnlt])
 refine ⟨k1,?_⟩
 rcases k2 with ⟨i,hi,hp,_,hg⟩ | ⟨hn,hg⟩
 ·left
  have e:xdx x y d0 d1 c t0 t1 h f dg one two fc rp wr tr ac=(1,[.b xbh]):=hg
  rw [e]; exact ⟨rfl,rfl⟩
 ·right
  have e:xdx x y d0 d1 c t0 t1 h f dg one two fc rp wr tr ac=(3,[.b false,.i ac.length]):=hg
  rw [e]
  refine ⟨rfl,fun a ha=>?_⟩
  obtain ⟨i,hi,rfl⟩:=List.getElem_of_mem ha
  have:=hn i hi
  rw [xhC hi,Bool.or_eq_false_iff,beq_eq_false_iff_ne,decide_eq_false_iff_not] at this
  exact ⟨this.1,by omega⟩
theorem xH1 {S:List (List Int)} (hS:xel x y d0 d1 c t0 t1 h f dg one two fc rp wr tr ac=S) (hl:S.length≤1000):xa5 (xcI x y d0 d1 c t0 t1 h f dg one two fc rp wr tr ac) (xgg x y d0 d1 c t0 t1 h f dg one two fc rp wr tr ac)∧gb (xhA x y d0 d1 c t0 t1 h f dg one two fc rp wr tr ac).snd 0=S.any fun e=>e.getD 0 0==dg:=by
 have key:=xf9 (σ:=Bool) (step:=xcI x y d0 d1 c t0 t1 h f dg one two fc rp wr tr ac) S.length (fun j s=>[.b s,.i (j:Int)]) (fun j s=>s||(S.getD j []).getD 0 0==dg) (fun _ _=>True) 1 (fun s=>[.b s,.i S.length])
  (fun _ _ _ _=>trivial)
  (fun j s hj _=>by
   unfold xcI
   rw [hS]
   simp only [gb_z,gi_1,gi_z,dlt hj,xaa (xey hj),Int.toNat_natCast,xbQ (show j<4611686018427387904 by omega)])
  (fun s _=>by
   unfold xcI
   rw [hS]
   simp only [gb_z,gi_1,gi_z,dnlt])
  (s:=false) trivial
 refine ⟨key.1,?_⟩
 have e:xhA x y d0 d1 c t0 t1 h f dg one two fc rp wr tr ac=_:=key.2.1
 rw [e]
 simp only [gb_z]
 rw [Si.xvD S dg S.length (Nat.le_refl _),List.take_length]
end
theorem xEn {a b c d:Int} (hV:VB [a,b,c,d]):(xhq a b c d=4)∨(xhq a b c d=0∧xjA a b c d=RC a b c d∧RB a b c d):=by
 have v:xab a b c d=true:=(xqM [a,b,c,d]).trans (decide_eq_true hV)
 unfold xhq xjA xql
 rw [v]
 cases h1:(a==b||c==d)
 ·right
  rw [Bool.or_eq_false_iff,beq_eq_false_iff_ne,beq_eq_false_iff_ne] at h1
  refine ⟨rfl,rfl,?_⟩
  unfold VB at hV
  simp only [List.getD_cons_zero,List.getD_cons_succ] at hV
  unfold RB
  omega
 ·exact .inl rfl
theorem xAk (x y d0 d1 c t0 t1 h f dg one two:Int) (fc rp wr tr ac:List (List Int)) (h13:Si.El13 rp) (hf:fc.length≤9223372036854775807) (hw:wr.length≤9223372036854775807) :
  xgF x y d0 d1 c t0 t1 h f dg one two fc rp wr tr ac=true∧xeF x y d0 d1 c t0 t1 h f dg one two fc rp wr tr ac:=by
 obtain ⟨hh,hp⟩:=xCV
 unfold xgF xeF
 rw [hh]
 cases hC:((rp.length:Int)==0||decide ((rp.length:Int)>8)||decide ((wr.length:Int)>3)||decide ((tr.length:Int)>9)||decide ((fc.length:Int)>12)||decide ((ac.length:Int)>20)||decide (h<t0)||decide (h>t1)) with
 | true=>exact ⟨rfl,hp,fun k=>(by cases k)⟩
 | false =>
  simp only [Bool.or_eq_false_iff,decide_eq_false_iff_not,beq_eq_false_iff_ne] at hC
  obtain ⟨⟨⟨⟨⟨⟨⟨n0,n1⟩,n2⟩,n3⟩,n4⟩,n5⟩,n6⟩,n7⟩:=hC
  rw [cond_false]
  obtain ⟨b1,b2⟩:=xBV x y d0 d1 c t0 t1
  obtain ⟨o1,o2⟩:=xD9 x y d0 d1 c h f fc rp wr tr hf (by omega) hw
  have o1':=xCT x y d0 d1 c t0 t1 h f dg one two fc rp wr tr ac o1
  rw [xD6 x y d0 d1 c t0 t1 h f dg one two fc rp wr tr ac]
  cases hD:(xbW x y d0 d1 c t0 t1 !=0||!xeE x y d0 d1 c h f fc rp wr tr) with
  | true=>exact ⟨rfl,hp,fun _=>⟨b1,fun _=>o1',fun k=>(by cases k)⟩⟩
  | false =>
   rw [Bool.or_eq_false_iff,bne_eq_false_iff_eq,Bool.not_eq_false'] at hD
   obtain ⟨hb4,ht⟩:=hD
   obtain ⟨tn,hd1,hd0,htb⟩:=o2 ht
   obtain ⟨wp,_⟩:=xvA f (wr.length:Int) [[xam x y d0 d1 c t0 t1,xal x y d0 d1 c t0 t1,xak x y d0 d1 c t0 t1,xaj x y d0 d1 c t0 t1]] fc rp h13 hf
   rw [cond_false]
   cases hE:(xbU f (wr.length:Int) [[xam x y d0 d1 c t0 t1,xal x y d0 d1 c t0 t1,xak x y d0 d1 c t0 t1,xaj x y d0 d1 c t0 t1]] fc rp !=0) with
   | true=>exact ⟨rfl,hp,fun _=>⟨b1,fun _=>o1',fun _=>⟨wp,fun k=>(by cases k)⟩⟩⟩
   | false =>
    rw [bne_eq_false_iff_eq] at hE
    rcases b2 with ⟨k,_⟩ | ⟨_,_,r,hr,k1,k2⟩
    ·exact absurd hb4 k
    have hVB:VB (mbx x y r):=by
     rw [hb4] at k1
     exact Decidable.byContradiction fun k=>by rw [if_neg k] at k1; cases k1
    obtain ⟨q0,q1,q2,q3⟩:=k2 hVB
    obtain ⟨hv0,hB0⟩:=xCb (h:=h) (t1:=t1) ⟨by omega,by omega⟩ hd1 hd0 hr
    have h0:∃ b∈[[xam x y d0 d1 c t0 t1,xal x y d0 d1 c t0 t1,xak x y d0 d1 c t0 t1,xaj x y d0 d1 c t0 t1]],HB (pX tr 0) (pY tr 0) b:=⟨_,List.mem_singleton.2 rfl,by rw [q0,q1,q2,q3]; exact hB0⟩
    obtain ⟨hV,hH,hP⟩:=wh_t h13 hf hE (by omega) (by omega) tn hv0 h0 htb
    have li:=xEH tn (show rp.length≤60 by omega)
    have hri:inR (rp.length:Int) tr:=xey (by omega)
    have hrl:inR (IntKind.i64.wrap ((rp.length:Int)-1)) rp:=by rw [xau (by omega)]; unfold inR; omega
    have hft:xdo 64 (0+ac.length):=by unfold xdo maxLen; omega
    obtain ⟨l21,l22⟩:=xH2 x y d0 d1 c t0 t1 h f dg one two fc rp wr tr ac rfl (show ac.length≤20 by omega)
    rw [cond_false]
    rcases l22 with ⟨l23,l24⟩ | ⟨l23,l24⟩
    ·rw [l23,cond_true,l24,hh]
     exact ⟨rfl,hp,fun _=>⟨b1,fun _=>o1',fun _=>⟨wp,fun _=>⟨hrl,hrl,hrl,hft,l21,fun k=>(by cases k)⟩⟩⟩⟩
    rw [l23,cond_false]
    have hft2:xdo 64 (([]++ac).length+(xbA x y d0 d1 c t0 t1 h f dg one two fc rp wr tr ac).length):=by
     rw [List.nil_append,show (xbA x y d0 d1 c t0 t1 h f dg one two fc rp wr tr ac).length=2 from rfl]; unfold xdo maxLen; omega
    obtain ⟨a1,a2⟩:=xGl ((rp.getD (IntKind.i64.wrap ((rp.length:Int)-1)).toNat []).getD 2 0) ([]++ac++xbA x y d0 d1 c t0 t1 h f dg one two fc rp wr tr ac)
     (by rw [List.nil_append,List.length_append,show (xbA x y d0 d1 c t0 t1 h f dg one two fc rp wr tr ac).length=2 from rfl]; omega)
     (fun a ha=>by
      rw [List.nil_append] at ha
      rcases List.mem_append.1 ha with k | k
      ·exact (l24 a k).2
      ·unfold xbA xnx at k
       rcases List.mem_cons.1 k with rfl | k
       ·exact Int.le_refl _
       ·rw [List.mem_singleton.1 k]; exact Int.le_refl _)
    rcases a2 with a2 | ⟨a2,a3,a4⟩
    ·have e6:xfW x y d0 d1 c t0 t1 h f dg one two fc rp wr tr ac=1:=a2
     rw [e6]
     exact ⟨rfl,hp,fun _=>⟨b1,fun _=>o1',fun _=>⟨wp,fun _=>⟨hrl,hrl,hrl,hft,l21,fun _=>⟨hft2,a1,fun k=>(by cases k)⟩⟩⟩⟩⟩
    ·have e6:xfW x y d0 d1 c t0 t1 h f dg one two fc rp wr tr ac=0:=a2
     have m1:[1,dg,one,(rp.getD (IntKind.i64.wrap ((rp.length:Int)-1)).toNat []).getD 2 0,xbE f (wr.length:Int) [[xam x y d0 d1 c t0 t1,xal x y d0 d1 c t0 t1,xak x y d0 d1 c t0 t1,xaj x y d0 d1 c t0 t1]] fc rp,xbD f (wr.length:Int) [[xam x y d0 d1 c t0 t1,xal x y d0 d1 c t0 t1,xak x y d0 d1 c t0 t1,xaj x y d0 d1 c t0 t1]] fc rp,xbC f (wr.length:Int) [[xam x y d0 d1 c t0 t1,xal x y d0 d1 c t0 t1,xak x y d0 d1 c t0 t1,xaj x y d0 d1 c t0 t1]] fc rp,xbB f (wr.length:Int) [[xam x y d0 d1 c t0 t1,xal x y d0 d1 c t0 t1,xak x y d0 d1 c t0 t1,xaj x y d0 d1 c t0 t1]] fc rp]∈xbA x y d0 d1 c t0 t1 h f dg one two fc rp wr tr ac:=List.mem_cons_self ..
     have m2:[3,dg,two,(rp.getD (IntKind.i64.wrap ((rp.length:Int)-1)).toNat []).getD 2 0,0,0,0,0]∈xbA x y d0 d1 c t0 t1 h f dg one two fc rp wr tr ac:=List.mem_cons_of_mem _ (List.mem_cons_self ..)
     have v1:=a3 _ (List.mem_append_right _ m1)
     have v2:=a3 _ (List.mem_append_right _ m2)
     have hS0:=xqe ac [] (fun a ha=>a3 a (List.mem_append_left _ (by rw [List.nil_append]; exact ha))) xw7
     have hoff:=xAe (k:=dg) ac [] (fun a ha=>(l24 a ha).1) (fun r hr=>(List.not_mem_nil hr).elim)
     obtain ⟨rw_,hr1,hr2,hr3⟩:=xCS hS0.1 hoff v1 v2
     have hS:=xqe _ [] a3 xw7
     have eL:([]++ac++xbA x y d0 d1 c t0 t1 h f dg one two fc rp wr tr ac).foldl actR []=actR (actR (ac.foldl actR []) [1,dg,one,(rp.getD (IntKind.i64.wrap ((rp.length:Int)-1)).toNat []).getD 2 0,xbE f (wr.length:Int) [[xam x y d0 d1 c t0 t1,xal x y d0 d1 c t0 t1,xak x y d0 d1 c t0 t1,xaj x y d0 d1 c t0 t1]] fc rp,xbD f (wr.length:Int) [[xam x y d0 d1 c t0 t1,xal x y d0 d1 c t0 t1,xak x y d0 d1 c t0 t1,xaj x y d0 d1 c t0 t1]] fc rp,xbC f (wr.length:Int) [[xam x y d0 d1 c t0 t1,xal x y d0 d1 c t0 t1,xak x y d0 d1 c t0 t1,xaj x y d0 d1 c t0 t1]] fc rp,xbB f (wr.length:Int) [[xam x y d0 d1 c t0 t1,xal x y d0 d1 c t0 t1,xak x y d0 d1 c t0 t1,xaj x y d0 d1 c t0 t1]] fc rp]) [3,dg,two,(rp.getD (IntKind.i64.wrap ((rp.length:Int)-1)).toNat []).getD 2 0,0,0,0,0]:=by
      rw [List.nil_append,List.foldl_append]; rfl
     have hlen:([]++ac++xbA x y d0 d1 c t0 t1 h f dg one two fc rp wr tr ac).length≤22:=by
      rw [List.nil_append,List.length_append,show (xbA x y d0 d1 c t0 t1 h f dg one two fc rp wr tr ac).length=2 from rfl]; omega
     rw [eL] at hS a4
     have e7:xhz x y d0 d1 c t0 t1 h f dg one two fc rp wr tr ac=_:=a4
     generalize hR:actR (actR (ac.foldl actR []) [1,dg,one,(rp.getD (IntKind.i64.wrap ((rp.length:Int)-1)).toNat []).getD 2 0,xbE f (wr.length:Int) [[xam x y d0 d1 c t0 t1,xal x y d0 d1 c t0 t1,xak x y d0 d1 c t0 t1,xaj x y d0 d1 c t0 t1]] fc rp,xbD f (wr.length:Int) [[xam x y d0 d1 c t0 t1,xal x y d0 d1 c t0 t1,xak x y d0 d1 c t0 t1,xaj x y d0 d1 c t0 t1]] fc rp,xbC f (wr.length:Int) [[xam x y d0 d1 c t0 t1,xal x y d0 d1 c t0 t1,xak x y d0 d1 c t0 t1,xaj x y d0 d1 c t0 t1]] fc rp,xbB f (wr.length:Int) [[xam x y d0 d1 c t0 t1,xal x y d0 d1 c t0 t1,xak x y d0 d1 c t0 t1,xaj x y d0 d1 c t0 t1]] fc rp]) [3,dg,two,(rp.getD (IntKind.i64.wrap ((rp.length:Int)-1)).toNat []).getD 2 0,0,0,0,0]=R at *
     have hRl:R.length≤22:=by have:=hS.2; rw [List.length_nil] at this; omega
     have hin:xcg (pX tr rp.length) (pY tr rp.length) (xbE f (wr.length:Int) [[xam x y d0 d1 c t0 t1,xal x y d0 d1 c t0 t1,xak x y d0 d1 c t0 t1,xaj x y d0 d1 c t0 t1]] fc rp) (xbD f (wr.length:Int) [[xam x y d0 d1 c t0 t1,xal x y d0 d1 c t0 t1,xak x y d0 d1 c t0 t1,xaj x y d0 d1 c t0 t1]] fc rp) (xbC f (wr.length:Int) [[xam x y d0 d1 c t0 t1,xal x y d0 d1 c t0 t1,xak x y d0 d1 c t0 t1,xaj x y d0 d1 c t0 t1]] fc rp) (xbB f (wr.length:Int) [[xam x y d0 d1 c t0 t1,xal x y d0 d1 c t0 t1,xak x y d0 d1 c t0 t1,xaj x y d0 d1 c t0 t1]] fc rp)=true:=(xDr hP hV).trans (decide_eq_true hH)
     obtain ⟨c1,c2,c3⟩:=xwG (pX tr rp.length) (pY tr rp.length) hS.1 (by omega) ((xqM [pX tr rp.length,pX tr rp.length,pY tr rp.length,pY tr rp.length]).trans (decide_eq_true (by
      unfold VP at hP; unfold VB; simp only [List.getD_cons_zero,List.getD_cons_succ]; omega)))
     have e8:xel x y d0 d1 c t0 t1 h f dg one two fc rp wr tr ac=((xaZ R).filter (xpq (pX tr rp.length) (pY tr rp.length))).map (fun e=>[e.getD 0 0]):=by
      unfold xel
      rw [e7,li,Int.toNat_natCast]
      exact c3
     have e11:xgE x y d0 d1 c t0 t1 h f dg one two fc rp wr tr ac=0:=by
      unfold xgE
      rw [e7,li,Int.toNat_natCast]
      exact c2
     obtain ⟨l31,l32⟩:=xH1 x y d0 d1 c t0 t1 h f dg one two fc rp wr tr ac e8 (by
      rw [List.length_map]
      have:=List.length_filter_le (xpq (pX tr rp.length) (pY tr rp.length)) (xaZ R)
      rw [xzT] at this
      omega)
     rw [xCs (pX tr rp.length) (pY tr rp.length) dg hS.1 hr1 hr2,hr3,hin,Bool.and_true] at l32
     have hself:((one !=two)==(one !=two))=true:=by cases one !=two<;>rfl
     have tp:xcR ((tr.getD rp.length []).getD 0 0) ((tr.getD rp.length []).getD 1 0) (xaZ R):=c1
     rcases xEn hV with k | ⟨k,kr,kb⟩
     ·have e9:xfV x y d0 d1 c t0 t1 h f dg one two fc rp wr tr ac=4:=k
      rw [e6,e9,e11,l32,hself,e7,li,Int.toNat_natCast]
      exact ⟨rfl,hp,fun _=>⟨b1,fun _=>o1',fun _=>⟨wp,fun _=>⟨hrl,hrl,hrl,hft,l21,fun _=>⟨hft2,a1,fun _=>⟨hri,hri,tp,l31,fun k=>(by cases k)⟩⟩⟩⟩⟩⟩
     ·have e9:xfV x y d0 d1 c t0 t1 h f dg one two fc rp wr tr ac=0:=k
      have e10:xcU x y d0 d1 c t0 t1 h f dg one two fc rp wr tr ac=RC (xbE f (wr.length:Int) [[xam x y d0 d1 c t0 t1,xal x y d0 d1 c t0 t1,xak x y d0 d1 c t0 t1,xaj x y d0 d1 c t0 t1]] fc rp) (xbD f (wr.length:Int) [[xam x y d0 d1 c t0 t1,xal x y d0 d1 c t0 t1,xak x y d0 d1 c t0 t1,xaj x y d0 d1 c t0 t1]] fc rp) (xbC f (wr.length:Int) [[xam x y d0 d1 c t0 t1,xal x y d0 d1 c t0 t1,xak x y d0 d1 c t0 t1,xaj x y d0 d1 c t0 t1]] fc rp) (xbB f (wr.length:Int) [[xam x y d0 d1 c t0 t1,xal x y d0 d1 c t0 t1,xak x y d0 d1 c t0 t1,xaj x y d0 d1 c t0 t1]] fc rp):=kr
      have hq:QB (xbE f (wr.length:Int) [[xam x y d0 d1 c t0 t1,xal x y d0 d1 c t0 t1,xak x y d0 d1 c t0 t1,xaj x y d0 d1 c t0 t1]] fc rp) (xbD f (wr.length:Int) [[xam x y d0 d1 c t0 t1,xal x y d0 d1 c t0 t1,xak x y d0 d1 c t0 t1,xaj x y d0 d1 c t0 t1]] fc rp) (xbC f (wr.length:Int) [[xam x y d0 d1 c t0 t1,xal x y d0 d1 c t0 t1,xak x y d0 d1 c t0 t1,xaj x y d0 d1 c t0 t1]] fc rp) (xbB f (wr.length:Int) [[xam x y d0 d1 c t0 t1,xal x y d0 d1 c t0 t1,xak x y d0 d1 c t0 t1,xaj x y d0 d1 c t0 t1]] fc rp) (pX tr rp.length) (pY tr rp.length):=by
       unfold HB at hH; simp only [List.getD_cons_zero,List.getD_cons_succ] at hH
       unfold QB; exact hH
      obtain ⟨pv1,pv2⟩:=xxk kb
      obtain ⟨pi1,pi2,pi3⟩:=xFG kb hq
      have hpl:xaG ((tr.getD rp.length []).getD 0 0) ((tr.getD rp.length []).getD 1 0)=true:=by rw [Si.xcG]; exact decide_eq_true hP
      have e12:xjt x y d0 d1 c t0 t1 h f dg one two fc rp wr tr ac=0:=by
       unfold xjt
       rw [e10,pv2,li,Int.toNat_natCast,hpl]; rfl
      have e13:xjs x y d0 d1 c t0 t1 h f dg one two fc rp wr tr ac=0:=by
       unfold xjs
       rw [e10,li,Int.toNat_natCast]; exact pi2
      have e14:xjr x y d0 d1 c t0 t1 h f dg one two fc rp wr tr ac≥0:=by
       unfold xjr
       rw [e10,li,Int.toNat_natCast]; exact pi3
      rw [e6,e9,e10,e11,e12,e13,decide_eq_true e14,l32,hself,e7,li,Int.toNat_natCast,pv2,hpl]
      exact ⟨rfl,hp,fun _=>⟨b1,fun _=>o1',fun _=>⟨wp,fun _=>⟨hrl,hrl,hrl,hft,l21,fun _=>⟨hft2,a1,fun _=>⟨hri,hri,tp,l31,fun _=>⟨pv1,fun _=>pi1⟩⟩⟩⟩⟩⟩⟩
end Go.Proofs.YthfjhbbpdhjklaaGreat
namespace Go.Proofs.YthfjhbbpdhjklaaGreat
open Go Go.Sy Go.Proofs Go.RowKit
theorem xAL {k0 k1 k2 k3 k4 k5 k6 k7 k8 k9:VK} {vs:List Value} {W:World} (h:xfa W [k0,k1,k2,k3,k4,k5,k6,k7,k8,k9] vs):∃ v0 v1 v2 v3 v4 v5 v6 v7 v8 v9,vs=[v0,v1,v2,v3,v4,v5,v6,v7,v8,v9]∧xbz W k0 v0∧xbz W k1 v1∧xbz W k2 v2∧xbz W k3 v3∧xbz W k4 v4∧xbz W k5 v5∧xbz W k6 v6∧xbz W k7 v7∧xbz W k8 v8∧xbz W k9 v9:=by
 obtain ⟨v,vs',rfl,h1,h2⟩:=xfe h
 obtain ⟨u0,u1,u2,u3,u4,u5,u6,u7,u8,rfl,g0,g1,g2,g3,g4,g5,g6,g7,g8⟩:=xCe h2
 exact ⟨v,u0,u1,u2,u3,u4,u5,u6,u7,u8,rfl,h1,g0,g1,g2,g3,g4,g5,g6,g7,g8⟩
theorem xAK {k0 k1 k2 k3 k4 k5 k6 k7 k8 k9 k10:VK} {vs:List Value} {W:World} (h:xfa W [k0,k1,k2,k3,k4,k5,k6,k7,k8,k9,k10] vs):∃ v0 v1 v2 v3 v4 v5 v6 v7 v8 v9 v10,vs=[v0,v1,v2,v3,v4,v5,v6,v7,v8,v9,v10]∧xbz W k0 v0∧xbz W k1 v1∧xbz W k2 v2∧xbz W k3 v3∧xbz W k4 v4∧xbz W k5 v5∧xbz W k6 v6∧xbz W k7 v7∧xbz W k8 v8∧xbz W k9 v9∧xbz W k10 v10:=by
 obtain ⟨v,vs',rfl,h1,h2⟩:=xfe h
 obtain ⟨u0,u1,u2,u3,u4,u5,u6,u7,u8,u9,rfl,g0,g1,g2,g3,g4,g5,g6,g7,g8,g9⟩:=xAL h2
 exact ⟨v,u0,u1,u2,u3,u4,u5,u6,u7,u8,u9,rfl,h1,g0,g1,g2,g3,g4,g5,g6,g7,g8,g9⟩
theorem xAJ {k0 k1 k2 k3 k4 k5 k6 k7 k8 k9 k10 k11:VK} {vs:List Value} {W:World} (h:xfa W [k0,k1,k2,k3,k4,k5,k6,k7,k8,k9,k10,k11] vs):∃ v0 v1 v2 v3 v4 v5 v6 v7 v8 v9 v10 v11,vs=[v0,v1,v2,v3,v4,v5,v6,v7,v8,v9,v10,v11]∧xbz W k0 v0∧xbz W k1 v1∧xbz W k2 v2∧xbz W k3 v3∧xbz W k4 v4∧xbz W k5 v5∧xbz W k6 v6∧xbz W k7 v7∧xbz W k8 v8∧xbz W k9 v9∧xbz W k10 v10∧xbz W k11 v11:=by
 obtain ⟨v,vs',rfl,h1,h2⟩:=xfe h
 obtain ⟨u0,u1,u2,u3,u4,u5,u6,u7,u8,u9,u10,rfl,g0,g1,g2,g3,g4,g5,g6,g7,g8,g9,g10⟩:=xAK h2
 exact ⟨v,u0,u1,u2,u3,u4,u5,u6,u7,u8,u9,u10,rfl,h1,g0,g1,g2,g3,g4,g5,g6,g7,g8,g9,g10⟩
end Go.Proofs.YthfjhbbpdhjklaaGreat
set_option linter.unusedVariables false
namespace Go.Proofs.YthfjhbbpdhjklaaGreat
open Go Go.Sy
theorem xFC {W:World} {own:Bool} {e:TypeId} {sz:Nat} {v:Value} {m:Nat} {vs:List Value} (h:xa8 W own e sz v m vs):v.oneCell'=true:=by
 obtain ⟨a,c,rfl,_⟩:=h.reads.is
 rfl
theorem xBG {W:World} {e:TypeId} {ks:List CK} {v:Value} {l:List (List Int)} (r:xa8 W false e ks.length v l.length (rowV ks l)) (k:Nat):v.oneCell'=true∧xbt (.row e ks l)=true∧∀ (E:Env),E k=v→xbm E W k false (.row e ks l) :=
 ⟨xFC r,rfl,fun E he=>by
  show xa8 W false e ks.length (E k) l.length (rowV ks l)
  rw [he]; exact r⟩
end Go.Proofs.YthfjhbbpdhjklaaGreat
