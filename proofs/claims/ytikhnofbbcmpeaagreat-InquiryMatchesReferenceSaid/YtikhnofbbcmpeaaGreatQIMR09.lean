/- Several texts in one (wip/pack.py): XInqPo XInqPt XInqQ0 XInqPu XInqPv XInqPw XInqPs XInqRa XInqRb XInqRc XInqRd XInqRe XInqPf2 XInqQMatchesReference. -/
import Derived.Test.YtikhnofbbcmpeaaGreatQIMR05
import Derived.Test.YtikhnofbbcmpeaaGreatQIMR07
import Derived.Test.YtikhnofbbcmpeaaGreatQIMR08
set_option linter.unusedVariables false
set_option maxRecDepth 100000
namespace Go.Proofs.YtikhnofbbcmpeaaGreat
open Go Go.Sy Go.Koen
def xlY (gs:List (List Int)):Prop:=gs.Pairwise fun a b=>ltK (kOf a) (kOf b)
theorem xxB {a b:Key} (h:ltK a b):a≠b:=fun e=>by subst e; unfold ltK at h; omega
theorem xmK (g h:List Int):(col g 0==col h 0&&(col g 1==col h 1&&true))=decide (kOf g=kOf h):=by
 by_cases e:kOf g=kOf h
 ·obtain ⟨h1,h2⟩:=Prod.mk.inj e
  rw [decide_eq_true e,h1,h2]; simp
 ·rw [decide_eq_false e]
  cases hb:(col g 0==col h 0&&(col g 1==col h 1&&true)) with
  | false=>rfl
  | true =>
   simp only [Bool.and_eq_true,beq_iff_eq] at hb
   exact absurd (Prod.ext hb.1 hb.2.1) e
theorem xGt {g h:List Int} (he:lft g=lft h):(col g 2≠0∧col h 2≠0∧col g 1=col h 1)∨(col g 2=0∧col h 2=0∧kOf g=kOf h):=by
 unfold lft at he
 by_cases h1:col g 2=0<;>by_cases h2:col h 2=0
 ·rw [if_pos h1,if_pos h2] at he
  right
  simp only [List.cons.injEq,and_true,true_and] at he
  exact ⟨h1,h2,Prod.ext he.1 he.2⟩
 ·rw [if_pos h1,if_neg h2] at he
  simp at he
 ·rw [if_neg h1,if_pos h2] at he
  simp at he
 ·rw [if_neg h1,if_neg h2] at he
  left
  simp only [List.cons.injEq,and_true,true_and] at he
  exact ⟨h1,h2,he⟩
theorem xDA {g h:List Int} (ha:apF g h=true):xuj lft rt g h:=by
 unfold apF at ha
 rw [xmK] at ha
 simp only [Bool.and_eq_true,Bool.not_eq_true'] at ha
 obtain ⟨⟨h1,h2⟩,h3⟩:=ha
 have h1:=of_decide_eq_false h1
 refine ⟨fun e=>?_,fun b hb hb'=>?_⟩
 ·rcases xGt e with ⟨a1,a2,a3⟩ | ⟨_,_,a3⟩
  ·have e1:(col g 2 !=0)=true:=by simpa using a1
   have e2:(col h 2 !=0)=true:=by simpa using a2
   rw [e1,e2,a3] at h2
   simp at h2
  ·exact h1 a3
 ·unfold rt at hb hb'
  split at hb
  ·cases hb
  ·split at hb'
   ·cases hb'
   ·rename_i q1 q2
    cases hb
    have e1:(col g 3 !=0)=true:=by simpa using q1
    have e2:(col h 3 !=0)=true:=by simpa using q2
    have e3:col h 0=col g 0:=by injection hb'
    rw [e1,e2,e3] at h3
    simp at h3
theorem xDz {g h:List Int} (hk:kOf g≠kOf h) (ha:xuj lft rt g h):apF g h=true:=by
 obtain ⟨h1,h2⟩:=ha
 unfold apF
 rw [xmK,decide_eq_false hk]
 have e1:((col g 2 !=0)&&(col h 2 !=0)&&col g 1==col h 1)=false:=by
  cases hb:((col g 2 !=0)&&(col h 2 !=0)&&col g 1==col h 1) with
  | false=>rfl
  | true =>
   simp only [Bool.and_eq_true,bne_iff_ne,ne_eq,beq_iff_eq] at hb
   exact absurd (by unfold lft; rw [if_neg hb.1.1,if_neg hb.1.2,hb.2]) h1
 have e2:((col g 3 !=0)&&(col h 3 !=0)&&col g 0==col h 0)=false:=by
  cases hb:((col g 3 !=0)&&(col h 3 !=0)&&col g 0==col h 0) with
  | false=>rfl
  | true =>
   simp only [Bool.and_eq_true,bne_iff_ne,ne_eq,beq_iff_eq] at hb
   exact absurd (by unfold rt; rw [if_neg hb.1.2,hb.2]) (h2 (col g 0) (by unfold rt; rw [if_neg hb.1.1]))
 rw [e1,e2]; rfl
theorem xAu (g h:List Int):apF g h=apF h g:=by
 unfold apF
 rw [xmK,xmK]
 have c1:decide (kOf g=kOf h)=decide (kOf h=kOf g):=decide_eq_decide.2 ⟨Eq.symm,Eq.symm⟩
 have c2:(col g 1==col h 1)=(col h 1==col g 1):=by rw [Bool.eq_iff_iff,beq_iff_eq,beq_iff_eq]; exact ⟨Eq.symm,Eq.symm⟩
 have c3:(col g 0==col h 0)=(col h 0==col g 0):=by rw [Bool.eq_iff_iff,beq_iff_eq,beq_iff_eq]; exact ⟨Eq.symm,Eq.symm⟩
 rw [c1,c2,c3,Bool.and_comm (col g 2 !=0),Bool.and_comm (col g 3 !=0)]
theorem xzJ:∀ (k:Nat) (gs:List (List Int)),xep gs→xlY gs→(fewF gs).length<k→∃ M:List (List Int),M.Sublist gs∧M.Pairwise (fun a b=>apF a b=true)∧M.length=(fewF gs).length∧prF k ((fewF gs).length:Nat) gs=xgK M
 | 0,gs,_,_,h=>by omega
 | k+1,gs,hs,hu,hk=>by
  generalize hn:(fewF gs).length=n at *
  by_cases h0:n=0
  ·subst h0
   exact ⟨[],List.nil_sublist _,List.Pairwise.nil,rfl,rfl⟩
  ·have hgo:∀ (r:List (List Int)),xep r→xlY r→(∃ M:List (List Int),M.Sublist r∧M.Pairwise (xuj lft rt)∧M.length=n)→(∀ M:List (List Int),M.Sublist r→M.Pairwise (xuj lft rt)→M.length≤n) →
     ∃ M:List (List Int),M.Sublist r∧M.Pairwise (fun a b=>apF a b=true)∧M.length=n∧goP (prF k) n r=xgK M:=by
    intro r
    induction r with
    | nil =>
     rintro _ _ ⟨M,h1,_,h3⟩ _
     have:M=[]:=List.eq_nil_of_sublist_nil h1
     subst this
     exact absurd h3.symm h0
    | cons g r ih =>
     intro hsr hur ⟨M,h1,h2,h3⟩ hmax
     have hr:xep r:=fun x hx=>hsr x (List.mem_cons_of_mem _ hx)
     obtain ⟨hu1,hu2⟩:=List.pairwise_cons.1 hur
     have hsubf:∀ x∈r.filter (apF g),x∈r:=fun x hx=>(List.mem_filter.1 hx).1
     have hrf:xep (r.filter (apF g)):=fun x hx=>hr x (hsubf x hx)
     have huf:xlY (r.filter (apF g)):=List.Pairwise.filter _ hu2
     unfold goP
     by_cases hc:((fewF (r.filter (apF g))).length:Int)=n-1
     ·rw [if_pos hc]
      obtain ⟨M',m1,m2,m3,m4⟩:=xzJ k (r.filter (apF g)) hrf huf (by omega)
      refine ⟨g::M',(m1.trans (List.filter_sublist (p:=apF g))).cons_cons g,List.pairwise_cons.2 ⟨fun x hx=>(List.mem_filter.1 (m1.subset hx)).2,m2⟩,by rw [List.length_cons]; omega,?_⟩
      rw [← hc]
      rw [m4]
      rfl
     ·rw [if_neg hc]
      have hin:∃ M:List (List Int),M.Sublist r∧M.Pairwise (xuj lft rt)∧M.length=n:=by
       cases h1 with
       | cons _ h1=>exact ⟨M,h1,h2,h3⟩
       | cons_cons _ h1 =>
        rename_i M0
        exfalso
        obtain ⟨q1,q2⟩:=List.pairwise_cons.1 h2
        have hM0:∀ x∈M0,x∈r.filter (apF g):=fun x hx=>List.mem_filter.2 ⟨h1.subset hx,xDz (xxB (hu1 x (h1.subset hx))) (q1 x hx)⟩
        have l1:=xwS hrf hM0 q2
        obtain ⟨M1,a1,a2,a3⟩:=xAt hrf
        have l2:=hmax (g::M1) ((a1.trans (List.filter_sublist (p:=apF g))).cons_cons g) (List.pairwise_cons.2 ⟨fun x hx=>xDA (List.mem_filter.1 (a1.subset hx)).2,a2⟩)
        rw [List.length_cons] at l2 h3
        omega
      obtain ⟨M',m1,m2,m3,m4⟩:=ih hr hu2 hin fun M hM hp=>hmax M (hM.cons g) hp
      exact ⟨M',m1.cons g,m2,m3,m4⟩
   obtain ⟨M,e1,e2,e3⟩:=xAt hs
   have:=hgo gs hs hu ⟨M,e1,e2,by rw [e3,hn]⟩ fun M hM hp=>by rw [← hn]; exact xwS hs (fun g hg=>hM.subset hg) hp
   obtain ⟨M',m1,m2,m3,m4⟩:=this
   refine ⟨M',m1,m2,m3,?_⟩
   show (if (n:Int)=0 then [] else goP (prF k) n gs)=_
   rw [if_neg (by omega)]
   exact m4
theorem xxp {α:Type} {R:α→α→Prop} {l:List α} (h:l.Pairwise R) {i:Nat} (hi:i+1<l.length):R l[i] l[i+1]:=List.pairwise_iff_getElem.1 h i (i+1) (by omega) hi (by omega)
theorem xCQ (uo:List (List Int)) (logs:List ALog) (tm dl:Int) (up:List (List Int)):xlY (xc6 uo logs tm dl up):=by
 obtain ⟨ks,h1,_,h3⟩:=xnt uo logs tm dl up
 rw [h3]
 unfold xlY
 rw [List.pairwise_map]
 exact h1
end Go.Proofs.YtikhnofbbcmpeaaGreat
set_option linter.unusedVariables false
set_option maxRecDepth 100000
namespace Go.Proofs.YtikhnofbbcmpeaaGreat
open Go Go.Sy
theorem xvf {step:List U→Option (Nat×List U)} {l:List (List Int)} {p:List Int→Bool} (b:Bool) (m:Nat) (hs:∀ i (hi:i<l.length),step [.b b,.i i]=bif p l[i] then some (1,[]) else some (0,[.b b,.i ((i+1:Nat):Int)]))
  (he:step [.b b,.i l.length]=some (m+2,[.b b,.i l.length])) {init:List U} (hi:init=[.b b,.i ((0:Nat):Int)]) :
  xav step init∧(bif (xaf step init).fst.beq 1 then true else false)=l.any p:=by
 subst hi
 obtain ⟨h1,h2⟩:=xcy (step:=step) l.length (fun i=>p (l.getD i [])) (fun i=>[.b b,.i i]) (fun i=>[]) 0 (m+1) [.b b,.i l.length]
  (fun i hi=>by rw [hs i hi,xaz hi]) he
 refine ⟨h1,?_⟩
 rcases h2 with ⟨i,hi,hp,_,hg⟩ | ⟨hn,hg⟩
 ·rw [hg]
  have:l.any p=true:=List.any_eq_true.2 ⟨l[i],List.getElem_mem hi,by rw [← xaz hi]; exact hp⟩
  rw [this]; rfl
 ·rw [hg]
  have:l.any p=false:=List.any_eq_false.2 fun x hx=>by
   obtain ⟨i,hi,rfl⟩:=List.getElem_of_mem hx
   have:=hn i hi
   simp only [xaz hi] at this
   simp [this]
  rw [this]; rfl
theorem xqd (x y:List Int):xbT (col x 0) (col x 1) (col x 2) (col y 0) (col y 1) (col y 2)=decide (cmp3 x y<0):=by
 unfold xbT cmp3
 generalize col x 0=a
 generalize col x 1=b
 generalize col x 2=c
 generalize col y 0=d
 generalize col y 1=e
 generalize col y 2=f
 rcases Int.lt_trichotomy a d with h | h | h
 ·rw [if_pos h,bne_iff_ne.2 (by omega),cond_true,decide_eq_true h]; rfl
 ·subst h
  rw [if_neg (Int.lt_irrefl _),if_neg (Int.lt_irrefl _),bne_self_eq_false',cond_false]
  rcases Int.lt_trichotomy b e with h | h | h
  ·rw [if_pos h,bne_iff_ne.2 (by omega),cond_true,decide_eq_true h]; rfl
  ·subst h
   rw [if_neg (Int.lt_irrefl _),if_neg (Int.lt_irrefl _),bne_self_eq_false',cond_false]
   rcases Int.lt_trichotomy c f with h | h | h
   ·rw [if_pos h,decide_eq_true h]; rfl
   ·subst h
    rw [if_neg (Int.lt_irrefl _),if_neg (Int.lt_irrefl _),decide_eq_false (Int.lt_irrefl _)]; rfl
   ·rw [if_neg (by omega),if_pos h,decide_eq_false (by omega)]; rfl
  ·rw [if_neg (by omega),if_pos h,bne_iff_ne.2 (by omega),cond_true,decide_eq_false (by omega)]; rfl
 ·rw [if_neg (by omega),if_pos h,bne_iff_ne.2 (by omega),cond_true,decide_eq_false (by omega)]; rfl
theorem xGQ (g o:List Int):xhX (col g 0) (col g 1) (col g 2 !=0) (col g 3 !=0) (col o 0) (col o 1) (col o 2)=canF g o:=by
 unfold xhX canF
 generalize col o 0=a
 generalize col o 1=b
 generalize col o 2=c
 generalize (col g 2 !=0)=s
 generalize (col g 3 !=0)=n
 by_cases h1:a=1
 ·subst h1
  cases s<;>cases hb:(b==0)<;>cases hc:(c==col g 1)<;>rfl
 ·by_cases h2:a=2
  ·subst h2
   cases n<;>cases hb:(b==col g 0)<;>cases hc:(c==0)<;>rfl
  ·rw [bne h1,bne h2]
   cases (a==3)<;>cases (b==col g 0)<;>cases (c==col g 1)<;>rfl
def expF (gs om:List (List Int)):Bool:=xjT cmp3 om&&!(gs.any fun g=>!om.any (canF g))
theorem xzv (gs om:List (List Int)) (hg:gs.length≤9223372036854775807) (ho:om.length≤9223372036854775807):xeA gs om∧xfv gs om=expF gs om:=by
 have A:=xs5 (step:=xbz gs om) (l:=om) (cf:=cmp3) 1 (fun i hi=>by
   have hw:IntKind.i64.wrap (((i+1:Nat):Int)-1)=((i:Nat):Int):=by rw [xcJ (by omega)]; omega
   unfold xbz
   simp only [gi_1,gi_z,gb_z,hw]
   rw [decide_eq_true (by omega),cond_true,xaa (xan (by omega)),xaa (xan (by omega)),xaa (xan hi),xaa (xan hi),xaC hi,xaC (show i<om.length by omega),xbX (by omega)]
   rw [show ∀ x y:List Int,xbT (x.getD 0 0) (x.getD 1 0) (x.getD 2 0) (y.getD 0 0) (y.getD 1 0) (y.getD 2 0)=decide (cmp3 x y<0) from xqd]
   have:(!decide (cmp3 om[i] om[i+1]<0))=decide (cmp3 om[i] om[i+1]≥0):=by
    by_cases h:cmp3 om[i] om[i+1]<0
    ·rw [decide_eq_true h,decide_eq_false (by omega)]; rfl
    ·rw [decide_eq_false h,decide_eq_true (by omega)]; rfl
   rw [this])
  (fun n hn=>by
   unfold xbz
   simp only [gi_1,gi_z,gb_z]
   rw [decide_eq_false hn,cond_false]) (init:=xcY gs om) rfl
 have B:∀ b:Bool,xav (xa7 gs om) [.b b,.i ((0:Nat):Int)]∧(bif (xaf (xa7 gs om) [.b b,.i ((0:Nat):Int)]).fst.beq 1 then true else false)=gs.any fun g=>!om.any (canF g):=fun b =>
  xvf (step:=xa7 gs om) (l:=gs) (p:=fun g=>!om.any (canF g)) b 1 (fun i hi=>by
   have C:=xFC (step:=xcX gs om [.b b,.i i]) (l:=om) (p:=canF gs[i]) 1 (fun j c hj=>by
     unfold xcX
     simp only [gi_1,gi_z,gb_z]
     rw [dlt hj,xaa (fun _=>xan hi),xaa (fun _=>xan hi),xaa (fun _=>xan hj),xaa (fun _=>xan hj),xaC hi,xaC hj,xbX (by omega)]
     rw [show ∀ x y:List Int,xhX (x.getD 0 0) (x.getD 1 0) (x.getD 2 0 !=0) (x.getD 3 0 !=0) (y.getD 0 0) (y.getD 1 0) (y.getD 2 0)=canF x y from xGQ])
    (fun c=>by unfold xcX; simp only [gi_1,gi_z,gb_z,dnlt]) (init:=xfN gs om [.b b,.i i]) rfl
   have C2:gb (xkq gs om [.b b,.i i]).snd 0=om.any (canF gs[i]):=C.2
   unfold xa7
   rw [C2]
   simp only [gi_1,gi_z,gb_z]
   rw [dlt hi,xaa C.1,xbX (by omega)])
  (by unfold xa7; simp only [gi_1,gi_z,gb_z,dnlt]) rfl
 have B':=B (gb (xd6 gs om).snd 0)
 refine ⟨⟨A.1,fun _=>B'.1⟩,?_⟩
 unfold xfv expF
 rw [← A.2,← B'.2]
 show (bif (xaf (xbz gs om) (xcY gs om)).fst.beq 1 then false else bif (xaf (xa7 gs om) [.b (gb (xd6 gs om).snd 0),.i ((0:Nat):Int)]).fst.beq 1 then false else true)=_
 cases (xaf (xbz gs om) (xcY gs om)).fst.beq 1<;>cases (xaf (xa7 gs om) [.b (gb (xd6 gs om).snd 0),.i ((0:Nat):Int)]).fst.beq 1<;>rfl
def xqg:List (List Int)→List (List Int)→Bool
 | x::a,y::b=>if eq3 x y=true then xqg a b else decide (cmp3 x y<0)
 | _,_=>false
theorem xAy:∀ {a b:List (List Int)} {i:Nat} (ha:i<a.length) (hb:i<b.length),(∀ j (h1:j<a.length) (h2:j<b.length),j<i→eq3 a[j] b[j]=true)→eq3 a[i] b[i]=false→xqg a b=decide (cmp3 a[i] b[i]<0)
 | x::a,y::b,0,ha,hb,hn,he=>by
  have:eq3 x y=false:=he
  show (if eq3 x y=true then xqg a b else decide (cmp3 x y<0))=_
  rw [this,if_neg (by decide)]; rfl
 | x::a,y::b,i+1,ha,hb,hn,he=>by
  have:eq3 x y=true:=hn 0 (by simp) (by simp) (by omega)
  show (if eq3 x y=true then xqg a b else decide (cmp3 x y<0))=_
  rw [this,if_pos rfl]
  exact xAy (by simpa using ha) (by simpa using hb) (fun j h1 h2 h=>hn (j+1) (by simpa using h1) (by simpa using h2) (by omega)) he
theorem xAx:∀ {a b:List (List Int)},(∀ j (h1:j<a.length) (h2:j<b.length),eq3 a[j] b[j]=true)→xqg a b=false
 | [],[],_=>rfl
 | [],_::_,_=>rfl
 | _::_,[],_=>rfl
 | x::a,y::b,h=>by
  have:eq3 x y=true:=h 0 (by simp) (by simp)
  show (if eq3 x y=true then xqg a b else decide (cmp3 x y<0))=_
  rw [this,if_pos rfl]
  exact xAx fun j h1 h2=>h (j+1) (by simpa using h1) (by simpa using h2)
theorem xAF (a b:List (List Int)) (hl:a.length=b.length) (ha:a.length≤9223372036854775807):xe7 a b∧xhq a b=xqg a b:=by
 obtain ⟨h1,h2⟩:=xcy (step:=xcg a b) a.length (fun i=>!eq3 (a.getD i []) (b.getD i [])) (fun i=>[.b false,.i i]) (fun i=>[.b (decide (cmp3 (a.getD i []) (b.getD i [])<0))]) 0 2 [.b false,.i a.length]
  (fun i hi=>by
   have hi':i<b.length:=by omega
   unfold xcg
   simp only [gi_1,gi_z,gb_z]
   rw [dlt hi,xaa (xan hi),xaa (xan hi),xaa (xan hi'),xaa (xan hi'),xaa (xan hi),xaa (xan hi),xaa (xan hi'),xaa (xan hi'),xaC hi,xaC hi',xaz hi,xaz hi',xbX (by omega)]
   rw [show ∀ x y:List Int,xbT (x.getD 0 0) (x.getD 1 0) (x.getD 2 0) (y.getD 0 0) (y.getD 1 0) (y.getD 2 0)=decide (cmp3 x y<0) from xqd]
   rfl)
  (by unfold xcg; simp only [gi_1,gi_z,gb_z,dnlt])
 refine ⟨h1,?_⟩
 show (bif (xaf (xcg a b) [.b false,.i ((0:Nat):Int)]).fst.beq 1 then gb (xaf (xcg a b) [.b false,.i ((0:Nat):Int)]).snd 0 else false)=_
 rcases h2 with ⟨i,hi,hp,hq,hg⟩ | ⟨hn,hg⟩
 ·rw [hg]
  have hi':i<b.length:=by omega
  rw [xAy hi hi' (fun j k1 k2 h=>by
   have:=hq j h
   rw [xaz k1,xaz k2] at this
   simpa using this) (by
   rw [xaz hi,xaz hi'] at hp
   simpa using hp)]
  rw [xaz hi,xaz hi']; rfl
 ·rw [hg]
  rw [xAx fun j k1 k2=>by
   have:=hn j k1
   rw [xaz k1,xaz k2] at this
   simpa using this]
  rfl
end Go.Proofs.YtikhnofbbcmpeaaGreat
set_option linter.unusedVariables false
namespace Go.Proofs.YtikhnofbbcmpeaaGreat
open Go Go.Sy
theorem xyz {W:World} {own:Bool} {e:TypeId} {sz:Nat} {v:Value} {m:Nat} {vs:List Value} (h:xa6 W own e sz v m vs):m≤9223372036854775807:=by
 obtain ⟨a,c,_,h1,h2⟩:=h.reads.is
 unfold maxLen at h2
 omega
theorem xEA {W:World} {own:Bool} {e:TypeId} {sz:Nat} {v:Value} {m:Nat} {vs:List Value} (h:xa6 W own e sz v m vs):v.oneCell'=true:=by
 obtain ⟨a,c,rfl,_⟩:=h.reads.is
 rfl
theorem xCd {W:World} {e:TypeId} {ks:List CK} {v:Value} {l:List (List Int)} (r:xa6 W false e ks.length v l.length (rowV ks l)) (k:Nat):v.oneCell'=true∧xbc (.row e ks l)=true∧∀ (E:Env),E k=v→xa9 E W k false (.row e ks l) :=
 ⟨xEA r,rfl,fun E he=>by
  show xa6 W false e ks.length (E k) l.length (rowV ks l)
  rw [he]; exact r⟩
theorem xIb {W:World} {e:TypeId} {ks:List NK} {v:Value} {l:List (List Int)} {vs:List Value} (r:xhN W false e ks v l vs) (k:Nat):v.oneCell'=true∧xbc (.nst e ks l)=true∧∀ (E:Env),E k=v→xa9 E W k false (.nst e ks l) :=
 ⟨xEA r.row,rfl,fun E he=>by
  show ∃ vs,xhN W false e ks (E k) l vs
  rw [he]; exact ⟨vs,r⟩⟩
theorem xGu {W:World} {e e':TypeId} {k0:NK} {ks:List CK} {v:Value} {l:List (List Int)} {vs:List Value} (r:xhN W false e [k0,.s e' ks] v l vs):∀ x∈l,(decL (x.getD 1 0)).length≤9223372036854775807:=by
 intro x hx
 obtain ⟨i,hi,rfl⟩:=List.getElem_of_mem hx
 obtain ⟨u,_,hu⟩:=r.cell i 1 _ hi rfl
 have e1:l.getD i []=l[i]:=by rw [List.getD_eq_getElem?_getD,List.getElem?_eq_getElem hi]; rfl
 rw [e1] at hu
 exact xyz hu.2
end Go.Proofs.YtikhnofbbcmpeaaGreat
set_option linter.unusedVariables false
set_option maxRecDepth 100000
namespace Go.Proofs.YtikhnofbbcmpeaaGreat
open Go Go.Sy
def xoX (n:Int) (l:List Int):List Int:=l.filter (fun x=>decide (x<n))++n::l.filter (fun x=>decide (n<x))
theorem xuW {l:List Int} (h:l.Pairwise (·<·)) (n:Int):(xoX n l).Pairwise (·<·):=by
 unfold xoX
 rw [List.pairwise_append]
 refine ⟨h.filter _,List.pairwise_cons.2 ⟨fun x hx=>by simpa using (List.mem_filter.1 hx).2,h.filter _⟩,fun a ha b hb=>?_⟩
 have h1:a<n:=by simpa using (List.mem_filter.1 ha).2
 rcases List.mem_cons.1 hb with rfl | hb
 ·exact h1
 ·have h2:n<b:=by simpa using (List.mem_filter.1 hb).2
  omega
theorem xwX (n:Int) (l:List Int) (x:Int):x∈xoX n l↔x=n∨x∈l:=by
 unfold xoX
 simp only [List.mem_append,List.mem_cons,List.mem_filter,decide_eq_true_eq]
 constructor
 ·rintro (⟨h,_⟩ | h | ⟨h,_⟩)
  ·exact .inr h
  ·exact .inl h
  ·exact .inr h
 ·rintro (h | h)
  ·exact .inr (.inl h)
  ·rcases Int.lt_trichotomy x n with h' | h' | h'
   ·exact .inl ⟨h,h'⟩
   ·exact .inr (.inl h')
   ·exact .inr (.inr ⟨h,h'⟩)
theorem xsR (n:Int) (l:List Int):(xoX n l).length≤l.length+1:=by
 have:(l.filter (fun x=>decide (x<n))).length+(l.filter (fun x=>decide (n<x))).length≤l.length:=by
  induction l with
  | nil=>simp
  | cons x r ih =>
   rw [List.filter_cons,List.filter_cons]
   rcases Int.lt_trichotomy x n with h | h | h
   ·rw [if_pos (decide_eq_true h),if_neg (by simp; omega)]; simp only [List.length_cons]; omega
   ·rw [if_neg (by simp; omega),if_neg (by simp; omega)]; simp only [List.length_cons]; omega
   ·rw [if_neg (by simp; omega),if_pos (decide_eq_true h)]; simp only [List.length_cons]; omega
 unfold xoX
 rw [List.length_append,List.length_cons]
 omega
theorem xwy (p:Int→Bool) (l:List Int):((xaD l).filter fun x=>p (col x 0)).map (fun x=>[col x 0])=xaD (l.filter p):=by
 induction l with
 | nil=>rfl
 | cons x r ih =>
  show (([x]::xaD r).filter fun x=>p (col x 0)).map (fun x=>[col x 0])=_
  rw [List.filter_cons,List.filter_cons]
  have:p (col [x] 0)=p x:=rfl
  rw [this]
  cases p x
  ·rw [if_neg (by decide),if_neg (by decide)]; exact ih
  ·rw [if_pos rfl,if_pos rfl,List.map_cons,ih]; rfl
theorem xDC (n:Int) (l:List Int) (hl:l.length≤1000000):xdg n (xaD l)∧xew n (xaD l)=xaD (xoX n l):=by
 have hlen:(xaD l).length=l.length:=by unfold xaD; rw [List.length_map]
 have fit:∀ (s:List (List Int)) (x:Int),s.length≤2000000→xa5 8 (s.length+[[x]].length):=fun s x h=>by unfold xa5 maxLen; simp only [List.length_cons,List.length_nil]; omega
 have L:∀ (p:Int→Bool) (step:List U→Option (Nat×List U)) (s0:List (List Int)),s0.length≤1000001 →
   (∀ i s (hi:i<(xaD l).length),s.length≤2000000→step [.i i,.r s]=bif p (col (xaD l)[i] 0) then some (0,[.i ((i+1:Nat):Int),.r (s++[[col (xaD l)[i] 0]])]) else some (0,[.i ((i+1:Nat):Int),.r s])) →
   (∀ s,step [.i (xaD l).length,.r s]=some (3,[.i (xaD l).length,.r s])) →
   xav step [.i ((0:Nat):Int),.r s0]∧xaf step [.i ((0:Nat):Int),.r s0]=(3,[.i (xaD l).length,.r (s0++xaD (l.filter p))]):=fun p step s0 h0 h1 h2=>by
  obtain ⟨k1,k2⟩:=xbj (step:=step) (xaD l) (fun i (s:List (List Int))=>[.i i,.r s]) (fun s x=>.inl (if (fun x=>p (col x 0)) x=true then s++[[col x 0]] else s)) (fun i s=>s.length≤s0.length+i) (fun s=>(2,[.i (xaD l).length,.r s])) 0
   (fun i s hi _ hI=>⟨by
    rw [h1 i s hi (by omega)]
    cases hp:p (col (xaD l)[i] 0)
    ·simp only [hp]; rfl
    ·simp only [hp]; rfl,fun s' hs'=>by
    cases hs'
    exact Nat.le_trans (xpD _ _ _) (by omega)⟩)
   (fun i s hi _=>by
    have:i=(xaD l).length:=by omega
    subst this
    exact h2 s) (s:=s0) (Nat.le_refl _)
  refine ⟨k1,?_⟩
  rw [k2,List.drop_zero,xdx,xgp,xwy]
  rfl
 obtain ⟨a1,a2⟩:=L (fun x=>decide (x<n)) (xdA n (xaD l)) [] (by simp) (fun i s hi hs=>by
  unfold xdA
  simp only [gi_z,gr_1,gr_z]
  rw [dlt hi,xaa (xan hi),xaa (xan hi),xaa (xan hi),xaa (xan hi),xaa (fit _ _ hs),xaC hi,xbX (by omega)]) (fun s=>by
  unfold xdA
  simp only [gi_z,gr_1,gr_z,dnlt])
 have hf:∀ p:Int→Bool,(xaD (l.filter p)).length≤l.length:=fun p=>by unfold xaD; rw [List.length_map]; exact List.length_filter_le _ _
 have e1:gr (xk6 n (xaD l)).snd 1=xaD (l.filter fun x=>decide (x<n)):=by
  show gr (xaf (xdA n (xaD l)) [.i ((0:Nat):Int),.r []]).snd 1=_
  rw [a2]; rfl
 obtain ⟨b1,b2⟩:=L (fun x=>decide (n<x)) (xev n (xaD l)) (xaD (l.filter fun x=>decide (x<n))++[[n]]) (by
  have:=hf fun x=>decide (x<n)
  rw [List.length_append,List.length_cons,List.length_nil]; omega) (fun i s hi hs=>by
  unfold xev
  simp only [gi_z,gr_1,gr_z]
  rw [dlt hi,xaa (xan hi),xaa (xan hi),xaa (xan hi),xaa (xan hi),xaa (fit _ _ hs),xaC hi,xbX (by omega)]) (fun s=>by
  unfold xev
  simp only [gi_z,gr_1,gr_z,dnlt])
 have e2:xf5 n (xaD l)=[.i ((0:Nat):Int),.r (xaD (l.filter fun x=>decide (x<n))++[[n]])]:=by
  unfold xf5; rw [e1]; rfl
 unfold xdg xew xpb
 rw [e1,e2]
 refine ⟨⟨a1,fit _ _ (by have:=hf fun x=>decide (x<n); omega),b1⟩,?_⟩
 rw [b2]
 show xaD (l.filter fun x=>decide (x<n))++[[n]]++xaD (l.filter fun x=>decide (n<x))=_
 unfold xoX xaD
 rw [List.map_append,List.map_cons,List.append_assoc]; rfl
def cntR (t dl:Int) (x:ALog) (c:List Int):Bool:=col c 0==x.1&&decide (IntKind.i64.wrap (col c 2+dl)≤t)&&!hasR 3 (col c 1) 0 t x.2
def xjd (t dl:Int) (x:ALog) (s:List Int) (ul:List (List Int)):List Int:=ul.foldl (fun s c=>if cntR t dl x c=true then xoX (col c 1) s else s) s
theorem xh2 (t dl:Int) (x:ALog):∀ (ul:List (List Int)) (s:List Int),s.Pairwise (·<·)→(xjd t dl x s ul).Pairwise (·<·)∧(∀ y,y∈xjd t dl x s ul↔y∈s∨∃ c∈ul,cntR t dl x c=true∧col c 1=y)∧(xjd t dl x s ul).length≤s.length+ul.length
 | [],s,h=>⟨h,fun y=>by simp [xjd],Nat.le_refl _⟩
 | c::r,s,h=>by
  have e:xjd t dl x s (c::r)=xjd t dl x (if cntR t dl x c=true then xoX (col c 1) s else s) r:=rfl
  rw [e]
  by_cases hc:cntR t dl x c=true
  ·rw [if_pos hc]
   obtain ⟨h1,h2,h3⟩:=xh2 t dl x r _ (xuW h (col c 1))
   refine ⟨h1,fun y=>?_,?_⟩
   ·rw [h2,xwX]
    constructor
    ·rintro ((h | h) | ⟨d,hd,h⟩)
     ·exact .inr ⟨c,List.mem_cons_self,hc,h.symm⟩
     ·exact .inl h
     ·exact .inr ⟨d,List.mem_cons_of_mem _ hd,h⟩
    ·rintro (h | ⟨d,hd,h⟩)
     ·exact .inl (.inr h)
     ·rcases List.mem_cons.1 hd with rfl | hd
      ·exact .inl (.inl h.2.symm)
      ·exact .inr ⟨d,hd,h⟩
   ·have:=xsR (col c 1) s
    rw [List.length_cons]; omega
  ·rw [if_neg hc]
   obtain ⟨h1,h2,h3⟩:=xh2 t dl x r s h
   refine ⟨h1,fun y=>?_,?_⟩
   ·rw [h2]
    constructor
    ·rintro (h | ⟨d,hd,h⟩)
     ·exact .inl h
     ·exact .inr ⟨d,List.mem_cons_of_mem _ hd,h⟩
    ·rintro (h | ⟨d,hd,h⟩)
     ·exact .inl h
     ·rcases List.mem_cons.1 hd with rfl | hd
      ·exact absurd h.1 hc
      ·exact .inr ⟨d,hd,h⟩
   ·rw [List.length_cons]; omega
def xyx (t dl:Int) (ul:List (List Int)) (x:ALog):List (List Int):=(xjd t dl x [] ul).map fun i=>[x.1,i]
def xuo (t dl:Int) (ul:List (List Int)) (logs:List ALog):List (List Int):=logs.flatMap (xyx t dl ul)
theorem xxa (t dl:Int) (ul:List (List Int)) (x:ALog):(xyx t dl ul x).length≤ul.length:=by
 unfold xyx
 rw [List.length_map]
 have:=(xh2 t dl x ul [] List.Pairwise.nil).2.2
 simpa using this
theorem xvk {α β:Type} (g:α→List β):∀ (l:List α) (s:List β),l.foldl (fun s x=>s++g x) s=s++l.flatMap g
 | [],s=>by simp
 | x::r,s=>by rw [List.foldl_cons,xvk g r,List.flatMap_cons,List.append_assoc]
theorem xzF {t dl:Int} {um ul:List (List Int)} (hs:um.length≤1000) (hc:ul.length≤1000) (hd:xoV um):xfD t dl um ul∧xaE t dl um ul=xuo t dl ul (xao um):=by
 have L1:∀ k (out:List (List Int)) (hk:k<um.length),xav (xcv t dl um ul [.i k,.r out]) (xhl t dl um ul [.i k,.r out])∧gr (xhm t dl um ul [.i k,.r out]).snd 1=xaD (xjd t dl (xj0 um[k]) [] ul):=fun k out hk=>by
  obtain ⟨h1,h2⟩:=xbj (step:=xcv t dl um ul [.i k,.r out]) ul (fun i (s:List Int)=>[.i i,.r (xaD s)]) (fun s c=>.inl (if cntR t dl (xj0 um[k]) c=true then xoX (col c 1) s else s)) (fun i s=>s.length≤i) (fun s=>(2,[.i ul.length,.r (xaD s)])) 0
   (fun i s hi _ hI=>by
    have hh:=xDH (col um[k] 0) 3 (col ul[i] 1) 0 t (decL (col um[k] 1)) (hd _ (List.getElem_mem hk))
    have hw:=xDC (col ul[i] 1) s (by omega)
    refine ⟨?_,fun s' hs'=>?_⟩
    ·have e:(ul[i].getD 0 0==um[k].getD 0 0&&decide (IntKind.i64.wrap (ul[i].getD 2 0+dl)≤t)&&!xeN (um[k].getD 0 0) 3 (ul[i].getD 1 0) 0 t (decL (um[k].getD 1 0)))=cntR t dl (xj0 um[k]) ul[i]:=by
      rw [show xeN (um[k].getD 0 0) 3 (ul[i].getD 1 0) 0 t (decL (um[k].getD 1 0))=_ from hh.2]; rfl
     unfold xcv
     simp only [gi_z,gr_1,gr_z]
     rw [dlt hi,xaa (xan hi),xaa (xan hi),xaa (xan hk),xaa (xan hk),xaC hi,xaC hk,xaa hh.1,xaa (xan hk),xaa (xan hk),xaa (xan hk),e,xbX (by omega)]
     cases cntR t dl (xj0 um[k]) ul[i] with
     | false=>rw [if_neg (by decide)]; rfl
     | true =>
      rw [if_pos rfl,cond_true,xaa hw.1,show xew (ul[i].getD 1 0) (xaD s)=_ from hw.2]; rfl
    ·cases hs'
     have:=xsR (col ul[i] 1) s
     split<;>omega)
   (fun i s hi _=>by
    have:i=ul.length:=by omega
    subst this
    unfold xcv
    simp only [gi_z,gr_1,gr_z,dnlt]) (s:=[]) (Nat.zero_le _)
  refine ⟨h1,?_⟩
  show gr (xaf (xcv t dl um ul [.i k,.r out]) [.i ((0:Nat):Int),.r (xaD [])]).snd 1=_
  rw [h2,List.drop_zero,xdx]
  rfl
 obtain ⟨h1,h2⟩:=xbj (step:=xdz t dl um ul) um (fun k (out:List (List Int))=>[.i k,.r out]) (fun out x=>.inl (out++xyx t dl ul (xj0 x))) (fun k out=>out.length≤1000*k) (fun out=>(1,[.i um.length,.r out])) 0
  (fun k out hk _ hI=>by
   obtain ⟨a1,a2⟩:=L1 k out hk
   have hin:(xjd t dl (xj0 um[k]) [] ul).length≤ul.length:=by
    have:=(xh2 t dl (xj0 um[k]) ul [] List.Pairwise.nil).2.2
    simpa using this
   have hlen:(xaD (xjd t dl (xj0 um[k]) [] ul)).length≤1000:=by unfold xaD; rw [List.length_map]; omega
   obtain ⟨b1,b2⟩:=xbj (step:=xcu t dl um ul [.i k,.r out]) (xaD (xjd t dl (xj0 um[k]) [] ul)) (fun i (s:List (List Int))=>[.i i,.r s]) (fun s x=>.inl (s++[[col um[k] 0,col x 0]])) (fun i s=>s.length≤out.length+i) (fun s=>(1,[.i (xaD (xjd t dl (xj0 um[k]) [] ul)).length,.r s])) 0
    (fun i s hi _ hI'=>by
     have hfit:∀ x:List Int,xa5 16 (s.length+[x].length):=fun x=>by unfold xa5 maxLen; simp only [List.length_cons,List.length_nil]; omega
     refine ⟨?_,fun s' hs'=>?_⟩
     ·unfold xcu xk5
      rw [a2]
      simp only [gi_z,gr_1,gr_z]
      rw [dlt hi,xaa (xan hk),xaa (xan hk),xaa (xan hk),xaa (xan hi),xaa (xan hi),xaa (hfit _),xaC hi,xaC hk,xbX (by omega)]
      rfl
     ·cases hs'
      rw [List.length_append,List.length_cons,List.length_nil]; omega)
    (fun i s hi _=>by
     have:i=(xaD (xjd t dl (xj0 um[k]) [] ul)).length:=by omega
     subst this
     unfold xcu
     rw [a2]
     simp only [gi_z,gr_1,gr_z,dnlt]) (s:=out) (Nat.le_refl _)
   have e2:gr (xpa t dl um ul [.i k,.r out]).snd 1=out++xyx t dl ul (xj0 um[k]):=by
    show gr (xaf (xcu t dl um ul [.i k,.r out]) [.i ((0:Nat):Int),.r out]).snd 1=_
    rw [b2,List.drop_zero,xdx]
    have:∀ (l:List Int) (s:List (List Int)),(xaD l).foldl (fun s x=>s++[[col um[k] 0,col x 0]]) s=s++l.map fun i=>[col um[k] 0,i]:=by
     intro l
     induction l with
     | nil=>intro s; simp [xaD]
     | cons y r ih =>
      intro s
      show (xaD r).foldl _ (s++[[col um[k] 0,y]])=_
      rw [ih,List.map_cons,List.append_assoc]; rfl
    rw [this]; rfl
   refine ⟨?_,fun s' hs'=>?_⟩
   ·unfold xdz
    simp only [gi_z,gr_1,gr_z]
    rw [dlt hk,xaa a1,xaa (show xav (xcu t dl um ul [.i k,.r out]) (xhk t dl um ul [.i k,.r out]) from b1),e2,xbX (by omega)]
    rfl
   ·cases hs'
    have:=xxa t dl ul (xj0 um[k])
    rw [List.length_append]; omega)
  (fun i s hi _=>by
   have:i=um.length:=by omega
   subst this
   unfold xdz
   simp only [gi_z,gr_1,gr_z,dnlt]) (s:=[]) (Nat.zero_le _)
 refine ⟨h1,?_⟩
 show gr (xaf (xdz t dl um ul) [.i ((0:Nat):Int),.r []]).snd 1=_
 rw [h2,List.drop_zero,xdx,xvk]
 show ([]++um.flatMap fun x=>xyx t dl ul (xj0 x))=_
 unfold xuo xao
 rw [List.flatMap_map,List.nil_append]
theorem xo2 (t:Int):∀ {l:List (List Int)},l.Pairwise (fun a b=>col a 0≤col b 0)→∀ n,n∈xk3 t l↔∃ x∈l,col x 0≤t∧col x 1=3∧col x 2=n
 | [],_,n=>⟨fun h=>(by cases h),fun ⟨x,hx,_⟩=>(by cases hx)⟩
 | x::r,h,n=>by
  obtain ⟨h1,h2⟩:=List.pairwise_cons.1 h
  unfold xk3
  by_cases ht:col x 0>t
  ·rw [if_pos ht]
   refine ⟨fun h=>(by cases h),fun ⟨y,hy,h3,_⟩=>?_⟩
   rcases List.mem_cons.1 hy with rfl | hy
   ·omega
   ·have:=h1 y hy; omega
  ·rw [if_neg ht]
   by_cases h3:col x 1=3
   ·rw [if_pos h3,List.mem_cons,xo2 t h2]
    constructor
    ·rintro (hh | ⟨y,hy,hh⟩)
     ·exact ⟨x,List.mem_cons_self,by omega,h3,hh.symm⟩
     ·exact ⟨y,List.mem_cons_of_mem _ hy,hh⟩
    ·rintro ⟨y,hy,hh⟩
     rcases List.mem_cons.1 hy with e | hy
     ·rw [e] at hh; exact .inl hh.2.2.symm
     ·exact .inr ⟨y,hy,hh⟩
   ·rw [if_neg h3,xo2 t h2]
    constructor
    ·rintro ⟨y,hy,hh⟩
     exact ⟨y,List.mem_cons_of_mem _ hy,hh⟩
    ·rintro ⟨y,hy,hh⟩
     rcases List.mem_cons.1 hy with e | hy
     ·rw [e] at hh; exact absurd hh.2.1 h3
     ·exact ⟨y,hy,hh⟩
theorem xCL {o:Int} {l:List (List Int)} (h:valF o l=true) (n t:Int):hasR 3 n 0 t l=(xlu t l).contains n:=by
 have hv:=xnk h
 rw [Bool.eq_iff_iff,List.contains_iff_mem]
 unfold xlu
 rw [xxt,xo2 t hv.2]
 unfold hasR
 rw [List.any_eq_true]
 constructor
 ·rintro ⟨x,hx,h⟩
  simp only [Bool.and_eq_true,beq_iff_eq,decide_eq_true_eq] at h
  exact ⟨x,hx,h.2,h.1.1.1,h.1.1.2⟩
 ·rintro ⟨x,hx,h1,h2,h3⟩
  refine ⟨x,hx,?_⟩
  simp only [Bool.and_eq_true,beq_iff_eq,decide_eq_true_eq]
  exact ⟨⟨⟨h2,h3⟩,(hv.1 x hx).1⟩,h1⟩
theorem xDR {l:List (List Int)} (h:valF 0 l=true) (n:Int):hasR 1 n 0 10000000 l=xw9 n (-1) l:=by
 refine xrj fun x hx=>?_
 obtain ⟨h1,h2,_⟩:=(xnk h).1 x hx
 have hk:=xto h x hx
 rw [hk] at h2
 have h3:col x 0≤10000000:=by
  unfold lnF at h2
  rw [if_neg (by decide),if_neg (by decide)] at h2
  unfold tmF at h2
  simp only [Bool.and_eq_true,decide_eq_true_eq] at h2
  exact h2.1.2
 rw [hk,decide_eq_true h1,decide_eq_true h3]
 show (true&&col x 2==n&&true&&true)=(col x 2==n&&(true||col x 0 == -1))
 simp
theorem xDd {logs:List ALog} {b:Int} (h:risF b logs=true) {x:ALog} (hx:x∈logs):xeo x.1 logs=some x:=by
 induction logs generalizing b with
 | nil=>cases hx
 | cons y r ih =>
  unfold xeo
  rw [List.find?_cons]
  rcases List.mem_cons.1 hx with rfl | hx'
  ·rw [show (x.1==x.1)=true from beq_self_eq_true _]
  ·have hr:risF y.1 r=true:=by
    unfold risF at h
    simp only [Bool.and_eq_true] at h
    exact h.2
   have:=(xov hr x hx').2
   rw [show (y.1==x.1)=false from bne (by omega)]
   exact ih hr hx'
theorem xE2 {logs:List ALog} {t dl:Int} {c:List Int} (hris:risF 0 logs=true) {x:ALog} (hx:x∈logs) (he:col c 0=x.1) (hw:IntKind.i64.wrap (col c 2+dl)=col c 2+dl):cntR t dl x c=cntF logs t dl c:=by
 unfold cntR cntF xvL
 have hf:xeo (col c 0) logs=some x:=by rw [he]; exact xDd hris hx
 have hs:xl6 logs c=x.2:=by unfold xl6; rw [hf]; rfl
 rw [hs,he,beq_self_eq_true,hw,xCL (xov hris x hx).1,Bool.not_or,Bool.true_and]
 have:decide (col c 2+dl≤t)=!decide (col c 2+dl>t):=by
  by_cases h:col c 2+dl>t
  ·rw [decide_eq_true h,decide_eq_false (by omega)]; rfl
  ·rw [decide_eq_false h,decide_eq_true (by omega)]; rfl
 rw [this]
def xuH (t dl:Int) (ul:List (List Int)) (logs:List ALog):List Key:=logs.flatMap fun x=>(xjd t dl x [] ul).map fun i=>(x.1,i)
theorem xz3 (t dl:Int) (ul:List (List Int)):∀ (logs:List ALog) (b:Int),risF b logs=true→(xuH t dl ul logs).Pairwise ltK∧∀ k∈xuH t dl ul logs,b<k.1
 | [],b,_=>⟨List.Pairwise.nil,fun k hk=>(by cases hk)⟩
 | x::r,b,h=>by
  have hr:risF x.1 r=true:=by
   unfold risF at h
   simp only [Bool.and_eq_true] at h
   exact h.2
  have hb:=(xov h x List.mem_cons_self).2
  obtain ⟨h1,h2⟩:=xz3 t dl ul r x.1 hr
  have e:xuH t dl ul (x::r)=(xjd t dl x [] ul).map (fun i=>(x.1,i))++xuH t dl ul r:=by unfold xuH; rw [List.flatMap_cons]
  rw [e]
  refine ⟨List.pairwise_append.2 ⟨?_,h1,fun a ha c hc=>?_⟩,fun k hk=>?_⟩
  ·rw [List.pairwise_map]
   exact (xh2 t dl x ul [] List.Pairwise.nil).1.imp fun h=>Or.inr ⟨rfl,h⟩
  ·obtain ⟨i,hi,rfl⟩:=List.mem_map.1 ha
   exact Or.inl (h2 c hc)
  ·rcases List.mem_append.1 hk with hk | hk
   ·obtain ⟨i,hi,rfl⟩:=List.mem_map.1 hk
    exact hb
   ·have:=h2 k hk
    omega
theorem xqI (a:Key):¬ ltK a a:=fun h=>xxB h rfl
theorem xsA (a b:Key) (h:ltK a b):¬ ltK b a:=fun k=>by unfold ltK at h k; omega
theorem xEc {t dl:Int} {ul:List (List Int)} {logs:List ALog} (hris:risF 0 logs=true) (hf:∀ c∈ul,∃ x,xeo (col c 0) logs=some x) (hw:∀ c∈ul,IntKind.i64.wrap (col c 2+dl)=col c 2+dl)
  {ks:List Key} (h1:ks.Pairwise ltK) (h2:∀ k,k∈ks↔∃ c∈ul,cntF logs t dl c=true∧kOf c=k):xuH t dl ul logs=ks:=by
 refine xmt xqI xsA (xz3 t dl ul logs 0 hris).1 h1 fun k=>?_
 rw [h2]
 unfold xuH
 rw [List.mem_flatMap]
 constructor
 ·rintro ⟨x,hx,hk⟩
  obtain ⟨i,hi,rfl⟩:=List.mem_map.1 hk
  rcases ((xh2 t dl x ul [] List.Pairwise.nil).2.1 i).1 hi with h | ⟨c,hc,h3,h4⟩
  ·cases h
  ·have he:col c 0=x.1:=by
    unfold cntR at h3
    simp only [Bool.and_eq_true,beq_iff_eq] at h3
    exact h3.1.1
   exact ⟨c,hc,by rw [← xE2 hris hx he (hw c hc)]; exact h3,by unfold kOf; rw [he,h4]⟩
 ·rintro ⟨c,hc,h3,rfl⟩
  obtain ⟨x,hx⟩:=hf c hc
  have he:x.1=col c 0:=by simpa using List.find?_some hx
  have hm:=List.mem_of_find?_eq_some hx
  refine ⟨x,hm,List.mem_map.2 ⟨col c 1,((xh2 t dl x ul [] List.Pairwise.nil).2.1 _).2 (.inr ⟨c,hc,by rw [xE2 hris hm he.symm (hw c hc)]; exact h3,rfl⟩),by unfold kOf; rw [he]⟩⟩
theorem xxc (t dl:Int) (ul:List (List Int)) (logs:List ALog):xuo t dl ul logs=(xuH t dl ul logs).map fun k=>[k.1,k.2]:=by
 unfold xuo xuH
 rw [List.map_flatMap]
 congr 1
 funext x
 unfold xyx
 rw [List.map_map]; rfl
def rOnB (t dl:Int) (l:List (List Int)) (k:Key) (c:List Int):Bool:=!(col c 0 !=k.1||col c 1 !=k.2||decide (IntKind.i64.wrap (col c 2+dl)>t))&&(!offR (col c 2) l&&decide ((l.length:Int)>0)&&decide (xl3 0 (-1) l≥col c 2))
theorem xCz {l:List (List Int)} (h:(l.length:Int)>0):IntKind.i64.wrap ((l.length:Int)-1)=((l.length-1:Nat):Int)∨l.length>9223372036854775807:=by
 by_cases h':l.length>9223372036854775807
 ·exact .inr h'
 ·left
  rw [xcJ (by omega)]; omega
theorem xIj {so t dl:Int} {l ul:List (List Int)} (k:Key) (hl:l.length≤9223372036854775807) (hc:ul.length≤9223372036854775807):xha so t dl k.1 k.2 l ul∧xkn so t dl k.1 k.2 l ul=!ul.any (rOnB t dl l k):=by
 obtain ⟨h1,h2⟩:=xcy (step:=xet so t dl k.1 k.2 l ul) ul.length (fun i=>rOnB t dl l k (ul.getD i [])) (fun i=>[.b false,.i i]) (fun i=>[]) 1 3 [.b false,.i ul.length]
  (fun i hi=>by
   have ho:=xDG so (col ul[i] 2) l hl
   have hin:∀ b:Bool,(b&&decide ((l.length:Int)>0))=true→inR (IntKind.i64.wrap ((l.length:Int)-1)) l:=fun b h=>by
    rw [Bool.and_eq_true,decide_eq_true_eq] at h
    rcases xCz h.2 with h' | h'
    ·rw [h']; exact xan (by omega)
    ·omega
   have hlast:(l.length:Int)>0→(l.getD (IntKind.i64.wrap ((l.length:Int)-1)).toNat []).getD 0 0=xl3 0 (-1) l:=fun h=>by
    rcases xCz h with h' | h'
    ·rw [h',xaC (by omega)]
     unfold xl3
     rw [List.getLast?_eq_getElem?,List.getElem?_eq_getElem (by omega)]
    ·omega
   rw [xaz hi]
   unfold xet
   simp only [gi_1,gi_z,gb_z]
   rw [dlt hi,xaa (xan hi),xaa (xan hi),xaC hi,xbX (by omega)]
   unfold rOnB
   generalize hx:(col ul[i] 0 !=k.1||col ul[i] 1 !=k.2||decide (IntKind.i64.wrap (col ul[i] 2+dl)>t))=x
   cases x with
   | true=>rfl
   | false =>
    rw [xaa ho.1,xaa (hin _),xaa (hin _),xaa (hin _),show xaR so (ul[i].getD 2 0) l=_ from ho.2]
    by_cases h0:(l.length:Int)>0
    ·rw [hlast h0]; rfl
    ·rw [decide_eq_false h0,Bool.and_false,Bool.false_and,Bool.false_and]; rfl)
  (by unfold xet; simp only [gi_1,gi_z,gb_z,dnlt])
 refine ⟨h1,?_⟩
 show (bif (xaf (xet so t dl k.1 k.2 l ul) [.b false,.i ((0:Nat):Int)]).fst.beq 2 then false else true)=_
 rcases h2 with ⟨i,hi,hp,_,hg⟩ | ⟨hn,hg⟩
 ·rw [hg]
  have:ul.any (rOnB t dl l k)=true:=List.any_eq_true.2 ⟨ul[i],List.getElem_mem hi,by rw [← xaz hi]; exact hp⟩
  rw [this]; rfl
 ·rw [hg]
  have:ul.any (rOnB t dl l k)=false:=List.any_eq_false.2 fun x hx=>by
   obtain ⟨i,hi,rfl⟩:=List.getElem_of_mem hx
   have:=hn i hi
   simp only [xaz hi] at this
   simp [this]
  rw [this]; rfl
def mkR (uo:List (List Int)) (t dl:Int) (ul:List (List Int)) (logs:List ALog) (k:Key):List Int :=
 [k.1,k.2,b2 (!hasR 1 k.2 0 10000000 uo),b2 (!ul.any (rOnB t dl (((xeo k.1 logs).getD (0,[])).2) k))]
theorem xGr {uo:List (List Int)} {t dl:Int} {ul:List (List Int)} {logs:List ALog} (ho:valF 0 uo=true) (hris:risF 0 logs=true) (hch:chF ul=true) (hf:∀ c∈ul,∃ x,xeo (col c 0) logs=some x) (hw:∀ c∈ul,IntKind.i64.wrap (col c 2+dl)=col c 2+dl)
  {k:Key} (hk:∃ c∈ul,cntF logs t dl c=true∧kOf c=k):mkR uo t dl ul logs k=mkG uo logs t dl ul k:=by
 obtain ⟨c0,hc0,hcnt0,rfl⟩:=hk
 obtain ⟨x,hx⟩:=hf c0 hc0
 have hxm:=List.mem_of_find?_eq_some hx
 have hval:=(xov hris x hxm).1
 have hk1:(kOf c0).1=col c0 0:=rfl
 unfold mkR mkG
 rw [xDR ho,hk1,hx]
 have key:ul.any (rOnB t dl ((some x).getD (0,[])).2 (kOf c0))=!(ul.all fun c=>!(cntF logs t dl c&&decide (kOf c=kOf c0))||offF logs c):=by
  rw [Bool.eq_iff_iff,List.any_eq_true,Bool.not_eq_true',List.all_eq_false]
  have each:∀ c∈ul,(rOnB t dl x.2 (kOf c0) c=true↔¬ ((!(cntF logs t dl c&&decide (kOf c=kOf c0))||offF logs c)=true)):=fun c hc=>by
   obtain ⟨q1,q2,q3,q4,q5,q6⟩:=(xjR hch).2 c hc
   by_cases hkc:kOf c=kOf c0
   ·have e0:col c 0=col c0 0:=congrArg Prod.fst hkc
    have e1:col c 1=col c0 1:=congrArg Prod.snd hkc
    have hs:xl6 logs c=x.2:=by unfold xl6; rw [e0,hx]; rfl
    have hs0:xl6 logs c0=x.2:=by unfold xl6; rw [hx]; rfl
    have hcnt:cntF logs t dl c=decide (col c 2+dl≤t):=by
     unfold cntF xvL at hcnt0 ⊢
     rw [hs0,Bool.not_or,Bool.and_eq_true] at hcnt0
     rw [hs,e1,Bool.not_or,hcnt0.2,Bool.and_true]
     by_cases h:col c 2+dl>t
     ·rw [decide_eq_true h,decide_eq_false (by omega)]; rfl
     ·rw [decide_eq_false h,decide_eq_true (by omega)]; rfl
    have hoff:(!offR (col c 2) x.2&&decide ((x.2.length:Int)>0)&&decide (xl3 0 (-1) x.2≥col c 2))=!offF logs c:=by
     unfold offF
     rw [hs,xCe hval,Bool.not_not,Bool.not_or,Bool.not_not]
     by_cases h0:x.2=[]
     ·rw [h0]
      have:xl3 0 (-1) ([]:List (List Int)) = -1:=rfl
      rw [this,decide_eq_true (show (-1:Int)<col c 2 by omega)]
      simp
     ·have:0<x.2.length:=List.length_pos_iff.2 h0
      rw [decide_eq_true (show (x.2.length:Int)>0 by omega),Bool.and_true,Bool.and_comm]
      congr 1
      by_cases h:xl3 0 (-1) x.2<col c 2
      ·rw [decide_eq_true h,decide_eq_false (by omega)]; rfl
      ·rw [decide_eq_false h,decide_eq_true (by omega)]; rfl
    unfold rOnB
    rw [hoff,hcnt,decide_eq_true hkc,Bool.and_true,hw c hc]
    have a0:(col c 0 !=(kOf c0).1)=false:=by rw [show (kOf c0).1=col c0 0 from rfl,e0]; simp
    have a1:(col c 1 !=(kOf c0).2)=false:=by rw [show (kOf c0).2=col c0 1 from rfl,e1]; simp
    rw [a0,a1,Bool.false_or,Bool.false_or]
    have:decide (col c 2+dl≤t)=!decide (col c 2+dl>t):=by
     by_cases h:col c 2+dl>t
     ·rw [decide_eq_true h,decide_eq_false (by omega)]; rfl
     ·rw [decide_eq_false h,decide_eq_true (by omega)]; rfl
    rw [this]
    cases decide (col c 2+dl>t)<;>cases offF logs c<;>simp
   ·have a:(col c 0 !=(kOf c0).1||col c 1 !=(kOf c0).2)=true:=by
     rw [Bool.or_eq_true,bne_iff_ne,bne_iff_ne]
     by_cases e:col c 0=(kOf c0).1
     ·right; intro e1; exact hkc (Prod.ext e e1)
     ·exact .inl e
    unfold rOnB
    rw [a,decide_eq_false hkc,Bool.and_false]
    simp
  constructor
  ·rintro ⟨c,hc,h⟩
   exact ⟨c,hc,(each c hc).1 h⟩
  ·rintro ⟨c,hc,h⟩
   exact ⟨c,hc,(each c hc).2 h⟩
 rw [key,Bool.not_not]
theorem xu3 {uo:List (List Int)} {t dl:Int} {ul:List (List Int)} {logs:List ALog} (ho:valF 0 uo=true) (hris:risF 0 logs=true) (hch:chF ul=true) (hf:∀ c∈ul,∃ x,xeo (col c 0) logs=some x) (hw:∀ c∈ul,IntKind.i64.wrap (col c 2+dl)=col c 2+dl) :
  (xuH t dl ul logs).map (mkR uo t dl ul logs)=xc6 uo logs t dl ul∧xuo t dl ul logs=xgK (xc6 uo logs t dl ul):=by
 obtain ⟨ks,k1,k2,k3⟩:=xnt uo logs t dl ul
 have e:=xEc hris hf hw k1 k2
 refine ⟨?_,?_⟩
 ·rw [e,k3]
  exact List.map_congr_left fun k hk=>xGr ho hris hch hf hw ((k2 k).1 hk)
 ·rw [xxc,e,k3]
  unfold xgK
  rw [List.map_map]; rfl
end Go.Proofs.YtikhnofbbcmpeaaGreat
set_option linter.unusedVariables false
set_option maxRecDepth 100000
namespace Go.Proofs.YtikhnofbbcmpeaaGreat
open Go Go.Sy
def lt3 (x y:List Int):Prop:=col x 0<col y 0∨(col x 0=col y 0∧(col x 1<col y 1∨(col x 1=col y 1∧col x 2<col y 2)))
theorem xnc (x y:List Int):cmp3 x y<0↔lt3 x y:=by
 unfold cmp3 lt3
 generalize col x 0=a
 generalize col x 1=b
 generalize col x 2=c
 generalize col y 0=d
 generalize col y 1=e
 generalize col y 2=f
 split
 ·omega
 ·split
  ·omega
  ·split
   ·omega
   ·split
    ·omega
    ·split
     ·omega
     ·split<;>omega
theorem xnb (x y:List Int):cmp3 x y=0↔(col x 0=col y 0∧col x 1=col y 1∧col x 2=col y 2):=by rw [← xyc]; exact xsL x y
theorem xDh (x y:List Int):eq3 x y=true↔cmp3 x y=0:=by
 rw [xnb]
 unfold eq3
 simp only [Bool.and_eq_true,beq_iff_eq,and_true]
theorem xAk:∀ {x y:List (List Int)},x.length=y.length→(∀ a∈x,a.length=3)→(∀ a∈y,a.length=3)→xwM x y<0∨x=y∨xwM y x<0
 | [],[],_,_,_=>.inr (.inl rfl)
 | a::x,b::y,hl,h1,h2=>by
  unfold xwM
  by_cases e:cmp3 a b=0
  ·have e0:=(xnb a b).1 e
   have hab:a=b:=xnn (h1 a List.mem_cons_self) (h2 b List.mem_cons_self) e0.1 e0.2.1 e0.2.2
   subst hab
   rw [if_pos e,if_pos e]
   rcases xAk (x:=x) (y:=y) (by simpa using hl) (fun a ha=>h1 a (List.mem_cons_of_mem _ ha)) (fun a ha=>h2 a (List.mem_cons_of_mem _ ha)) with h | h | h
   ·exact .inl h
   ·exact .inr (.inl (by rw [h]))
   ·exact .inr (.inr h)
  ·have e':¬ cmp3 b a=0:=fun h=>e ((xnb a b).2 (by have:=(xnb b a).1 h; omega))
   rw [if_neg e,if_neg e']
   by_cases hlt:cmp3 a b<0
   ·exact .inl hlt
   ·right; right
    rw [xnc] at hlt ⊢
    have e2:¬ (col a 0=col b 0∧col a 1=col b 1∧col a 2=col b 2):=fun h=>e ((xnb a b).2 h)
    clear e e'
    unfold lt3 at *
    omega
theorem xCr {x y z:List Int} (h:lt3 x y) (k:lt3 y z):lt3 x z:=by unfold lt3 at *; omega
theorem xz2 {gs:List (List Int)} (hu:xlY gs) {g h:List Int} (hg:g∈gs) (hh:h∈gs) (he:kOf g=kOf h):g=h:=by
 induction gs with
 | nil=>cases hg
 | cons x r ih =>
  obtain ⟨h1,h2⟩:=List.pairwise_cons.1 hu
  rcases List.mem_cons.1 hg with rfl | hg'<;>rcases List.mem_cons.1 hh with rfl | hh'
  ·rfl
  ·exact absurd he (xxB (h1 _ hh'))
  ·exact absurd he.symm (xxB (h1 _ hg'))
  ·exact ih h2 hg' hh'
def backF (gs:List (List Int)) (o:List Int):List Int :=
 if col o 0=1 then [1,0,col o 2] else if col o 0=2 then [2,col o 1,0] else ((gs.find? fun g=>decide (kOf g=(col o 1,col o 2))).map lft).getD o
end Go.Proofs.YtikhnofbbcmpeaaGreat
set_option linter.unusedVariables false
set_option maxRecDepth 100000
namespace Go.Proofs.YtikhnofbbcmpeaaGreat
open Go Go.Sy
theorem xtq (s:Int):∀ um:List (List Int),xmy s um=(xeo s (xao um)).getD (0,[])
 | []=>rfl
 | x::r=>by
  have ih:=xtq s r
  unfold xmy xeo xao at ih ⊢
  rw [List.map_cons,List.find?_cons,List.find?_cons]
  have:(x.getD 0 0==s)=((xj0 x).1==s):=rfl
  rw [this]
  cases (xj0 x).1==s with
  | true=>rfl
  | false=>exact ih
theorem xA2 {s:Int} {um:List (List Int)} (hd:xoV um):(xmy s um).2.length≤9223372036854775807:=by
 unfold xmy
 split
 ·rename_i x hx
  exact hd x (List.mem_of_find?_eq_some hx)
 ·exact Nat.zero_le _
theorem xxd (t dl:Int) (ul:List (List Int)):∀ logs:List ALog,(xuo t dl ul logs).length≤logs.length*ul.length
 | []=>Nat.zero_le _
 | x::r=>by
  have h1:=xxd t dl ul r
  have h2:=xxa t dl ul x
  unfold xuo at h1 ⊢
  rw [List.flatMap_cons,List.length_append,List.length_cons,Nat.add_mul]
  omega
theorem xE5 (b:Bool):(bif b then (1:Int) else 0)=b2 b:=by cases b<;>rfl
theorem xH9 {ow t dl:Int} {uo um ul:List (List Int)} (ho:uo.length≤9223372036854775807) (hs:um.length≤1000) (hc:ul.length≤1000) (hd:xoV um) :
  xfl ow t dl uo um ul∧xdI ow t dl uo um ul=(xuo t dl ul (xao um)).map fun g=>mkR uo t dl ul (xao um) (kOf g):=by
 obtain ⟨g1,g2⟩:=xzF (t:=t) (dl:=dl) hs hc hd
 have hlen:(xuo t dl ul (xao um)).length≤1000000:=by
  have h1:=xxd t dl ul (xao um)
  have h2:(xao um).length=um.length:=by unfold xao; rw [List.length_map]
  rw [h2] at h1
  exact Nat.le_trans h1 (Nat.mul_le_mul hs hc)
 generalize hG:xuo t dl ul (xao um)=G at g2 hlen
 obtain ⟨h1,h2⟩:=xbj (step:=xd9 ow t dl uo um ul) G (fun i (s:List (List Int))=>[.i i,.r s]) (fun s g=>.inl (s++[mkR uo t dl ul (xao um) (kOf g)])) (fun i s=>s.length≤i) (fun s=>(1,[.i G.length,.r s])) 0
  (fun i s hi _ hI=>by
   have hr:=xan hi
   have hh:=xDH ow 1 (col G[i] 1) 0 10000000 uo ho
   have hon:=xIj (so:=xbU (col G[i] 0) um) (t:=t) (dl:=dl) (l:=xd4 (col G[i] 0) um) (ul:=ul) (kOf G[i]) (xA2 hd) (by omega)
   have hfit:∀ x:List Int,xa5 24 (s.length+[x].length):=fun x=>by unfold xa5 maxLen; simp only [List.length_cons,List.length_nil]; omega
   have hof:xd4 (col G[i] 0) um=((xeo (kOf G[i]).1 (xao um)).getD (0,[])).2:=congrArg Prod.snd (xtq (col G[i] 0) um)
   refine ⟨?_,fun s' hs'=>?_⟩
   ·unfold xd9 xml xrs
    rw [g2]
    simp only [gi_z,gr_1,gr_z]
    rw [dlt hi,xaa hr,xaa hr,xaa hr,xaC hi,xaa hh.1,xaa hr,xaa hr,xaa hr,xaa (show xff (G[i].getD 0 0) um from (by omega:um.length≤9223372036854775807)),xaa hr,xaa hr,
     xaa (show xha (xbU (G[i].getD 0 0) um) t dl (G[i].getD 0 0) (G[i].getD 1 0) (xd4 (G[i].getD 0 0) um) ul from hon.1),xaa hr,xaa hr,xaa (hfit _),xbX (by omega),
     show xeN ow 1 (G[i].getD 1 0) 0 10000000 uo=_ from hh.2,show xkn (xbU (G[i].getD 0 0) um) t dl (G[i].getD 0 0) (G[i].getD 1 0) (xd4 (G[i].getD 0 0) um) ul=_ from hon.2,hof,xE5,xE5]
    rfl
   ·cases hs'
    rw [List.length_append,List.length_cons,List.length_nil]; omega)
  (fun i s hi _=>by
   have:i=G.length:=by omega
   subst this
   unfold xd9
   rw [g2]
   simp only [gi_z,gr_1,gr_z,dnlt]) (s:=[]) (Nat.zero_le _)
 refine ⟨⟨g1,h1⟩,?_⟩
 show gr (xaf (xd9 ow t dl uo um ul) [.i ((0:Nat):Int),.r []]).snd 1=_
 rw [h2,List.drop_zero,xdx]
 have:∀ (l s:List (List Int)),l.foldl (fun s g=>s++[mkR uo t dl ul (xao um) (kOf g)]) s=s++l.map fun g=>mkR uo t dl ul (xao um) (kOf g):=by
  intro l
  induction l with
  | nil=>intro s; simp
  | cons x r ih=>intro s; rw [List.foldl_cons,ih,List.map_cons,List.append_assoc]; rfl
 rw [this]; rfl
theorem xyB:∀ (logs:List ALog) (b:Int),0≤b→b≤8→risF b logs=true→(logs.length:Int)≤8-b
 | [],b,_,h8,_=>by simp; omega
 | x::r,b,hb,h8,h=>by
  have hr:risF x.1 r=true:=by
   unfold risF at h
   simp only [Bool.and_eq_true] at h
   exact h.2
  obtain ⟨h1,h2⟩:=xov h x List.mem_cons_self
  obtain ⟨_,h3,h4⟩:=xql h1
  have:=xyB r x.1 (by omega) h4 hr
  rw [List.length_cons]
  omega
theorem xye {t dl:Int} {ul:List (List Int)} (hch:chF ul=true) (h0:0≤dl) (h1:dl≤100000):∀ c∈ul,IntKind.i64.wrap (col c 2+dl)=col c 2+dl:=fun c hc=>by
 obtain ⟨q1,q2,_⟩:=(xjR hch).2 c hc
 rw [xcJ (by omega)]
theorem xp9 {ow t dl:Int} {uo ul:List (List Int)} {logs:List ALog} (h:xdS ow t dl uo logs ul=true):valF 0 uo=true∧ow=0∧chF ul=true∧tmF t=true∧0≤dl∧dl≤100000∧risF 0 logs=true∧∀ c∈ul,∃ x,xeo (col c 0) logs=some x:=by
 unfold xdS at h
 simp only [Bool.and_eq_true,decide_eq_true_eq,Bool.not_eq_true',beq_iff_eq] at h
 obtain ⟨⟨⟨⟨⟨⟨⟨a1,a2⟩,a3⟩,a4⟩,a5⟩,a6⟩,a7⟩,a8⟩:=h
 refine ⟨by rw [a2] at a1; exact a1,a2,a3,a4,a5,a6,a7,fun c hc=>?_⟩
 have:=List.any_eq_false.1 a8 c hc
 unfold xlC at this
 cases hf:xeo (col c 0) logs with
 | none=>rw [hf] at this; exact absurd rfl this
 | some x=>exact ⟨x,rfl⟩
theorem xAE {ow t dl:Int} {uo um ul:List (List Int)} (ho:uo.length≤9223372036854775807) (hd:xoV um) (h:xdS ow t dl uo (xao um) ul=true) :
  xfl ow t dl uo um ul∧xdI ow t dl uo um ul=xc6 uo (xao um) t dl ul:=by
 obtain ⟨a1,a2,a3,a4,a5,a6,a7,a8⟩:=xp9 h
 have hsl:um.length≤1000:=by
  have:=xyB (xao um) 0 (by omega) (by omega) a7
  unfold xao at this
  rw [List.length_map] at this
  omega
 have hcl:ul.length≤1000:=by have:=(xjR a3).1; omega
 obtain ⟨h1,h2⟩:=xH9 (ow:=ow) (t:=t) (dl:=dl) ho hsl hcl hd
 refine ⟨h1,?_⟩
 obtain ⟨r1,r2⟩:=xu3 a1 a7 a3 a8 (xye (t:=t) a3 a5 a6)
 rw [h2,← r1,xxc,List.map_map]
 rfl
theorem xtH {uo:List (List Int)} {logs:List ALog} {t dl:Int} {ul:List (List Int)} (hch:chF ul=true):(xc6 uo logs t dl ul).length≤200:=by
 have h1:=(xpU (uo:=uo) (logs:=logs) (tm:=t) (dl:=dl) hch).2.2
 have h2:=(xjR hch).1
 omega
end Go.Proofs.YtikhnofbbcmpeaaGreat
set_option linter.unusedVariables false
set_option maxRecDepth 100000
namespace Go.Proofs.YtikhnofbbcmpeaaGreat
open Go Go.Sy
def sAt (L:List (List Int)) (M:Nat):Int:=if M=0 then 0 else col (L.getD (M-1) []) 3
def tAt (L:List (List Int)) (M:Nat):Int:=if M=0 then -1 else col (L.getD (M-1) []) 0
def slOk (o so st sc ss:Int) (L:List (List Int)):Bool:=valF o L&&tmF st&&so==o&&decide (0≤sc)&&decide (sc≤200)&&!(sc==0&&ss !=0)
def lieF (st sc ss:Int) (L:List (List Int)) (M:Nat):Bool:=sc-(M:Int)==0&&sAt L M !=ss||decide (tAt L M>st)
theorem decT {p:Prop} {inst:Decidable p} (h:p):@decide p inst=true:=decide_eq_true h
theorem decF {p:Prop} {inst:Decidable p} (h:¬ p):@decide p inst=false:=decide_eq_false h
theorem xGf {L:List (List Int)} {M:Nat} {inst:Decidable ((M:Int)>0)}:(bif @decide ((M:Int)>0) inst then (L.getD ((M:Int)-1).toNat []).getD 3 0 else 0)=sAt L M:=by
 unfold sAt
 by_cases h:M=0
 ·rw [if_pos h,decF (by omega)]; rfl
 ·rw [if_neg h,decT (by omega),show ((M:Int)-1).toNat=M-1 by omega]; rfl
theorem xGc {L:List (List Int)} {M:Nat} {inst:Decidable ((M:Int)>0)}:(bif @decide ((M:Int)>0) inst then (L.getD ((M:Int)-1).toNat []).getD 0 0 else -1)=tAt L M:=by
 unfold tAt
 by_cases h:M=0
 ·rw [if_pos h,decF (by omega)]; rfl
 ·rw [if_neg h,decT (by omega),show ((M:Int)-1).toNat=M-1 by omega]; rfl
theorem xFH {a:Int} {n:Nat} (h:0≤a):imin a (n:Int)=((min a.toNat n:Nat):Int):=by
 unfold imin
 by_cases h1:(n:Int)<a
 ·rw [if_pos h1]; omega
 ·rw [if_neg h1]; omega
theorem xEx (o so st sc ss:Int) (L:List (List Int)) (hl:L.length≤9223372036854775807) :
  xed o so st sc ss L∧xb8 o so st sc ss L=(if slOk o so st sc ss L=true then (if lieF st sc ss L (min sc.toNat L.length)=true then 0 else sc-(min sc.toNat L.length:Nat)) else 0) ∧
  xb7 o so st sc ss L=(if slOk o so st sc ss L=true then (if lieF st sc ss L (min sc.toNat L.length)=true then 18 else 0) else 1):=by
 obtain ⟨v1,v2⟩:=xgu o L hl
 have e:(!valF o L||!tmF st||so !=o||decide (sc<0)||decide (sc>200)||sc==0&&ss !=0)=!slOk o so st sc ss L:=by
  unfold slOk
  have e1:decide (sc<0)=!decide (0≤sc):=by
   by_cases h:sc<0
   ·rw [decide_eq_true h,decide_eq_false (by omega)]; rfl
   ·rw [decide_eq_false h,decide_eq_true (by omega)]; rfl
  have e2:decide (sc>200)=!decide (sc≤200):=by
   by_cases h:sc>200
   ·rw [decide_eq_true h,decide_eq_false (by omega)]; rfl
   ·rw [decide_eq_false h,decide_eq_true (by omega)]; rfl
  rw [e1,e2]
  show (!valF o L||!tmF st||!(so==o)||!decide (0≤sc)||!decide (sc≤200)||(sc==0&&ss !=0))=_
  cases valF o L<;>cases tmF st<;>cases (so==o)<;>cases decide (0≤sc)<;>cases decide (sc≤200)<;>cases (sc==0&&ss !=0)<;>rfl
 unfold xed xb8 xb7 xlQ xlP
 rw [v2,xqm,e]
 cases hok:slOk o so st sc ss L with
 | false=>exact ⟨⟨v1,fun h=>by cases h⟩,rfl,rfl⟩
 | true =>
  have hb:0≤sc∧sc≤200∧L.length≤200:=by
   unfold slOk at hok
   simp only [Bool.and_eq_true,decide_eq_true_eq] at hok
   exact ⟨hok.1.1.2,hok.1.2,(xql hok.1.1.1.1.1).1⟩
  have hM:=xFH (n:=L.length) hb.1
  have hm1:min sc.toNat L.length≤L.length:=Nat.min_le_right _ _
  have hm2:((min sc.toNat L.length:Nat):Int)≤sc:=by omega
  generalize min sc.toNat L.length=M at hm1 hm2 hM ⊢
  have hw:IntKind.i64.wrap ((M:Int)-1)=(M:Int)-1:=by rw [xcJ (by omega)]
  have hw2:IntKind.i64.wrap (sc-(M:Int))=sc-(M:Int):=by rw [xcJ (by omega)]
  have s0:xbg o so st sc ss L=(M:Int)-1:=by unfold xbg; rw [hM]; rfl
  have s1:xfA o so st sc ss L=sc-(M:Int):=by unfold xfA; rw [hM]; rfl
  have s2:xgZ o so st sc ss L=sAt L M:=by
   unfold xgZ
   rw [s0,hM,hw]
   exact xGf
  have s3:xgY o so st sc ss L=tAt L M:=by
   unfold xgY
   rw [s0,hM,hw]
   exact xGc
  rw [s0,s1,s2,s3,hM,hw,hw2]
  have hlie:(sc-(M:Int)==0&&sAt L M !=ss||decide (tAt L M>st))=lieF st sc ss L M:=rfl
  rw [hlie]
  refine ⟨⟨v1,fun _=>⟨⟨by omega,by omega⟩,fun h=>?_⟩⟩,?_,?_⟩
  ·have h:(M:Int)>0:=@of_decide_eq_true _ _ h
   have hr:inR ((M:Int)-1) L:=by unfold inR; omega
   have hq:0≤(M:Int)-1∧((0:Nat):Int)+((M:Int)-1)<(M:Int)∧(M:Int)≤(L.length:Int):=by omega
   exact ⟨hq,hr,hr,hq,hr,hr⟩
  ·cases lieF st sc ss L M<;>rfl
  ·cases lieF st sc ss L M<;>rfl
end Go.Proofs.YtikhnofbbcmpeaaGreat
set_option linter.unusedVariables false
set_option maxRecDepth 100000
namespace Go.Proofs.YtikhnofbbcmpeaaGreat
open Go Go.Sy
theorem xFp (l:List (List Int)) (hl:l.length≤9223372036854775807):xfw l∧xgR l=digF (l.map fun x=>x.getD 0 0):=by
 obtain ⟨h1,h2⟩:=xbj (step:=xdO l) l (fun i (s:Int)=>[.i s,.i i]) (fun s x=>.inl (mixD s (x.getD 0 0))) (fun _ _=>True) (fun s=>(1,[.i s,.i (l.length:Int)])) 0
  (fun i s hi _ _=>⟨by
   unfold xdO xmn
   simp only [gi_z,gi_1,dlt hi,xaa (xan hi),xaa (show (0:Int)≤32 by decide),xbX (show i<9223372036854775807 by omega),xaC hi]
   rfl,fun _ _=>trivial⟩)
  (fun i s hi _=>by
   have:i=l.length:=by omega
   subst this
   unfold xdO
   simp only [gi_z,gi_1,dnlt]) (s:=IntKind.u64.wrap (11400714819323198485+IntKind.u64.wrap l.length)) trivial
 refine ⟨h1,?_⟩
 unfold xgR xmo
 have hi:xgJ l=[.i (IntKind.u64.wrap (11400714819323198485+IntKind.u64.wrap l.length)),.i ((0:Nat):Int)]:=rfl
 rw [hi,h2,List.drop_zero,xdx]
 unfold digF
 rw [List.foldl_map,List.length_map]
 rfl
theorem xs3 (o last t k n s:Int):xfi o last t k n s∧xga o last t k n s=sumF o last t k n:=xFp _ (by simp)
theorem xzE (t k n:Int):xcj t k n=lnF t k n:=by
 have ht:xaI t=tmF t:=rfl
 have hn:xdq n=itF n:=rfl
 unfold xcj lnF
 rw [ht,hn]
 by_cases h1:k=1
 ·subst h1; cases tmF t<;>cases itF n<;>rfl
 by_cases h2:k=2
 ·subst h2; cases tmF t<;>cases itF n<;>rfl
 by_cases h3:k=3
 ·subst h3; cases tmF t<;>cases itF n<;>rfl
 by_cases h4:k=4
 ·subst h4; cases tmF t<;>cases (n==0)<;>rfl
 by_cases h5:k=5
 ·subst h5; cases tmF t<;>cases (n==0)<;>rfl
 have hc:clsF k=0:=by unfold clsF; rw [if_neg h1,if_neg (by omega),if_neg (by omega)]
 rw [if_pos hc,bne h1,bne h2,bne h3,bne h4,bne h5]
 cases tmF t<;>cases itF n<;>rfl
theorem xBP (o k:Int):xdb o k=ownF o k:=by
 unfold xdb ownF
 have:(k==1)=(clsF k==1):=by
  by_cases h1:k=1
  ·subst h1; rfl
  ·rw [bne h1,bne]
   unfold clsF
   rw [if_neg h1]
   split
   ·omega
   ·split<;>omega
 rw [this]
theorem xCs {t k n:Int} (h:lnF t k n=true):0≤t:=by
 unfold lnF tmF at h
 split at h
 ·cases h
 ·split at h
  ·simp only [Bool.and_eq_true,decide_eq_true_eq] at h; exact h.1.1
  ·simp only [Bool.and_eq_true,decide_eq_true_eq] at h; exact h.1.1
theorem xEm {σ:Type} {fa fb:σ→Nat×List U} (h:∀ s,(fa s).1=(fb s).1):∀ r,(endL fa r).1=(endL fb r).1
 | .inl s=>by show (fa s).1+1=(fb s).1+1; rw [h]
 | .inr o=>rfl
theorem xij (o:Int) (l:List (List Int)) (hl:l.length≤9223372036854775807):xbs o l∧xaq o l=valF o l:=by
 obtain ⟨h1,h2⟩:=xbj (step:=xee o l) l (fun i (s:Bool×Int×Int)=>[.b false,.b s.1,.i s.2.1,.i i]) (xl0 o) (fun i s=>s.2.2=if i=0 then 0 else col (l.getD (i-1) []) 0) (fun s=>(4,[.b false,.b s.1,.i s.2.1,.i l.length])) 0
  (fun i s hi _ hI=>by
   have hr:=xan hi
   have hprev:decide ((i:Int)>0)=true→inR (IntKind.i64.wrap ((i:Int)-1)) l∧l.getD (IntKind.i64.wrap ((i:Int)-1)).toNat []=l.getD (i-1) []:=fun h=>by
    have h:=of_decide_eq_true h
    have hw:IntKind.i64.wrap ((i:Int)-1)=((i-1:Nat):Int):=by rw [xcJ (by omega)]; omega
    rw [hw,Int.toNat_natCast]
    exact ⟨xan (by omega),rfl⟩
   refine ⟨?_,fun s' hs'=>?_⟩
   ·have hB:(!lnF (col l[i] 0) (col l[i] 1) (col l[i] 2)||!ownF o (col l[i] 1)||decide ((i:Int)>0)&&decide (col l[i] 0<(l.getD (IntKind.i64.wrap ((i:Int)-1)).toNat []).getD 0 0)||col l[i] 3 !=sumF o s.2.1 (col l[i] 0) (col l[i] 1) (col l[i] 2)) =
      (!lnF (col l[i] 0) (col l[i] 1) (col l[i] 2)||!ownF o (col l[i] 1)||decide (col l[i] 0<s.2.2)||col l[i] 3 !=sumF o s.2.1 (col l[i] 0) (col l[i] 1) (col l[i] 2)):=by
     by_cases h0:i=0
     ·rw [if_pos h0] at hI
      have hd:decide ((i:Int)>0)=false:=decide_eq_false (by omega)
      rw [hd,hI,Bool.false_and]
      cases hln:lnF (col l[i] 0) (col l[i] 1) (col l[i] 2) with
      | false=>rfl
      | true =>
       have:decide (col l[i] 0<0)=false:=decide_eq_false (by have:=xCs hln; omega)
       rw [this]
     ·rw [if_neg h0] at hI
      have hd:decide ((i:Int)>0)=true:=decide_eq_true (by omega)
      rw [hd,Bool.true_and,(hprev hd).2,hI]
    unfold xee xnK
    simp only [gi_3,gi_2,gi_1,gi_z,gb_1,gb_z]
    rw [dlt hi,xaa hr,xaa hr,xaC hi,xaa (fun _ h=>(hprev h).1),xaa (fun _ h=>(hprev h).1),xaa (fun _ h=>(hprev h).1),xaa (fun _=>(xs3 _ _ _ _ _ _).1)]
    simp only [xzE,xBP,(xs3 _ _ _ _ _ _).2]
    rw [hB,xbX (by omega)]
    unfold xl0
    cases hb:(!lnF (col l[i] 0) (col l[i] 1) (col l[i] 2)||!ownF o (col l[i] 1)||decide (col l[i] 0<s.2.2)||col l[i] 3 !=sumF o s.2.1 (col l[i] 0) (col l[i] 1) (col l[i] 2)) with
    | true=>rw [if_pos rfl]; rfl
    | false =>
     rw [if_neg (by decide),cond_false]
     show (bif (col l[i] 1==4&&s.1||col l[i] 1==5&&!s.1) then _ else bif (col l[i] 1==4||col l[i] 1==5) then _ else _)=_
     by_cases h4:col l[i] 1=4
     ·have h4':l[i].getD 1 0=4:=h4
      rw [if_pos ((cls3 _).2 (.inl h4))]
      simp only [h4,h4']
      cases s.1<;>rfl
     ·by_cases h5:col l[i] 1=5
      ·have h5':l[i].getD 1 0=5:=h5
       rw [if_pos ((cls3 _).2 (.inr h5))]
       simp only [h5,h5']
       cases s.1<;>rfl
      ·rw [if_neg (fun h=>by rcases (cls3 _).1 h with h | h<;>omega),bne h4,bne h5]
       rfl
   ·have hg:=xaz hi
    rw [if_neg (by omega),Nat.add_sub_cancel,hg]
    unfold xl0 at hs'
    split at hs'
    ·cases hs'
    ·split at hs'
     ·split at hs'
      ·cases hs'
      ·cases hs'; rfl
     ·cases hs'; rfl)
  (fun i s hi _=>by
   have:i=l.length:=by omega
   subst this
   unfold xee
   simp only [gi_3,gi_2,gi_1,gi_z,gb_1,gb_z,dnlt]) (s:=(false,0,0)) rfl
 refine ⟨fun _=>h1,?_⟩
 have e:xjU o l=endL (fun s:Bool×Int×Int=>(4,[.b false,.b s.1,.i s.2.1,.i l.length])) (runL (xl0 o) (false,0,0) l):=h2
 unfold xaq valF
 have e2:=xEm (fa:=fun s:Bool×Int×Int=>(4,[U.b false,.b s.1,.i s.2.1,.i l.length])) (fb:=fun s:Bool×Int×Int=>(4,[U.b false,.b s.1,.i s.2.1,.i s.2.2,.i (l.length:Int)])) (fun _=>rfl) (runL (xl0 o) (false,0,0) l)
 rw [e,e2,xoY o l.length l (false,0,0)]
 by_cases h0:0≤o
 ·by_cases h8:o≤8
  ·by_cases h200:l.length≤200
   ·simp [h0,h8,h200,show ¬ o<0 by omega,show ¬ o>8 by omega,show ¬ ((l.length:Int)>200) by omega]
   ·simp [h0,h8,h200,show ((l.length:Int)>200) by omega]
  ·simp [h8,show o>8 by omega]
 ·simp [h0,show o<0 by omega]
theorem xwo {l:List (List Int)} {j:Nat} {d:Int} (h0:0<l.length) (hl:l.length≤9223372036854775807):inR (IntKind.i64.wrap ((l.length:Int)-1)) l∧(l.getD (IntKind.i64.wrap ((l.length:Int)-1)).toNat []).getD j 0=xl3 j d l:=by
 have hw:IntKind.i64.wrap ((l.length:Int)-1)=((l.length-1:Nat):Int):=by rw [xcJ (by omega)]; omega
 rw [hw]
 refine ⟨xan (by omega),?_⟩
 rw [xaC (by omega)]
 unfold xl3
 rw [List.getLast?_eq_getElem?,List.getElem?_eq_getElem (by omega)]
theorem xFq (o t k n:Int) (l:List (List Int)) (hl:l.length≤9223372036854775807):xhr o t k n l∧xei o t k n l=addL o t k n l∧xeh o t k n l=(if addE o t k n l=0 then o else 0)∧xeP o t k n l=addE o t k n l:=by
 obtain ⟨v1,v2⟩:=xij o l hl
 obtain ⟨o1,o2⟩:=xDG o 10000000 l hl
 have hfit:decide ((l.length:Int)≥(200:Int))=false→∀ x:List Int,xa5 32 (0+l.length)∧xa5 32 (([]++l).length+[x].length):=fun h x=>by
  have:=of_decide_eq_false h
  unfold xa5 maxLen
  simp only [List.nil_append,List.length_cons,List.length_nil]
  omega
 refine ⟨⟨v1,fun _ _ h2=>⟨fun h=>?_,fun h=>⟨o1,fun _=>⟨(xs3 _ _ _ _ _ _).1,hfit h2 _⟩⟩⟩⟩,?_⟩
 ·have h0:0<l.length:=by have:=of_decide_eq_true h; omega
  have hr:=(xwo (j:=0) (d:=0) h0 hl).1
  exact ⟨hr,hr,hr,fun _=>⟨hr,hr,hr,o1,fun _=>⟨(xs3 _ _ _ _ _ _).1,hfit h2 _⟩⟩⟩
 ·unfold xei xeh xeP xrx xry xrz xrA xrv xrw xrt xru addL addE
  rw [v2,xzE,xBP,o2]
  simp only [(xs3 _ _ _ _ _ _).2]
  have e200:decide ((l.length:Int)≥(200:Int))=decide (200≤l.length):=decide_eq_decide.2 (by omega)
  rw [e200]
  cases hv:valF o l
  ·simp
  ·rw [xCe hv]
   cases hln:lnF t k n
   ·simp
   ·cases hown:ownF o k
    ·simp
    ·by_cases h2:200≤l.length
     ·simp [h2]
     ·by_cases h0:0<l.length
      ·have hd:decide ((l.length:Int)>0)=true:=decide_eq_true (by omega)
       rw [hd,(xwo (j:=0) (d := -1) h0 hl).2,(xwo (j:=3) (d:=0) h0 hl).2]
       by_cases h3:t<xl3 0 (-1) l
       ·simp [h2,h3]
       ·cases h4:(k==4&&!onF 10000000 true l)
        ·cases h5:(k==5&&onF 10000000 true l)
         ·simp [h2,h3,h5]
         ·simp [h2,h3,h5]
        ·simp [h2,h3]
      ·have hd:decide ((l.length:Int)>0)=false:=decide_eq_false (by omega)
       have hnil:l=[]:=List.eq_nil_of_length_eq_zero (by omega)
       have h3:¬ t<xl3 0 (-1) l:=by
        rw [hnil]
        show ¬ t < -1
        have:=xCs hln
        omega
       have h6:xl3 3 0 l=0:=by rw [hnil]; rfl
       rw [hd,h6]
       cases h4:(k==4&&!onF 10000000 true l)
       ·cases h5:(k==5&&onF 10000000 true l)
        ·simp [h2,h3,h5]
        ·simp [h2,h3,h5]
       ·simp [h2,h3]
theorem xBV (o so st sc ss:Int) (L:List (List Int)) (hl:L.length≤9223372036854775807) :
  xe6 o so st sc ss L∧xdj o so st sc ss L=(if slOk o so st sc ss L=true then (if lieF st sc ss L (min sc.toNat L.length)=true then 0 else sc-(min sc.toNat L.length:Nat)) else 0) ∧
  xdi o so st sc ss L=(if slOk o so st sc ss L=true then (if lieF st sc ss L (min sc.toNat L.length)=true then 18 else 0) else 1):=by
 obtain ⟨v1,v2⟩:=xij o L hl
 have e:(!valF o L||!xgb so st sc ss||o !=so)=!slOk o so st sc ss L:=by
  unfold xgb slOk
  rw [show xaI st=tmF st from rfl]
  have e1:(o !=so)=!(so==o):=by
   by_cases h:so=o
   ·subst h; simp
   ·rw [bne h,bne_iff_ne.2 (fun e=>h e.symm)]; rfl
  rw [e1]
  cases hv:valF o L with
  | false=>rfl
  | true =>
   obtain ⟨_,ho0,ho8⟩:=xql hv
   by_cases h:so=o
   ·subst h
    rw [decide_eq_true (show so≥0 by omega),decide_eq_true ho8,beq_self_eq_true]
    have e3:(decide (sc≥0)&&decide (sc≤200)&&(decide (sc>0)||ss==0))=(decide (0≤sc)&&decide (sc≤200)&&!(sc==0&&ss !=0)):=by
     by_cases h:sc=0
     ·subst h
      show (true&&true&&(false||ss==0))=(true&&true&&!(true&&!(ss==0)))
      cases (ss==0)<;>rfl
     ·rw [bne h]
      by_cases h':sc>0
      ·rw [decide_eq_true h',decide_eq_true (show sc≥0 by omega)]; simp
      ·rw [decide_eq_false (show ¬ sc≥0 by omega)]; simp
    revert e3
    cases tmF st<;>cases decide (sc≥0)<;>cases decide (sc≤200)<;>cases (decide (sc>0)||ss==0)<;>cases decide (0≤sc)<;>cases (sc==0&&ss !=0)<;>simp
   ·rw [bne h]
    simp
 unfold xe6 xdj xdi xnV xnU
 rw [v2,e]
 cases hok:slOk o so st sc ss L with
 | false=>exact ⟨⟨v1,fun h=>by cases h⟩,rfl,rfl⟩
 | true =>
  have hb:0≤sc∧sc≤200∧L.length≤200∧valF o L=true∧(sc=0→ss=0):=by
   unfold slOk at hok
   simp only [Bool.and_eq_true,decide_eq_true_eq,Bool.not_eq_true',Bool.and_eq_false_iff,beq_eq_false_iff_ne,bne_eq_false_iff_eq] at hok
   exact ⟨hok.1.1.2,hok.1.2,(xql hok.1.1.1.1.1).1,hok.1.1.1.1.1,fun h=>hok.2.resolve_left (fun h'=>h' h)⟩
  obtain ⟨b1,b2,b3,b4,b5⟩:=hb
  have hsn:sc=((sc.toNat:Nat):Int):=by omega
  generalize sc.toNat=n at hsn
  subst hsn
  have hwn:0<n→IntKind.i64.wrap ((n:Int)-1)=((n-1:Nat):Int):=fun h=>by rw [xcJ (by omega)]; omega
  have hloop:=xcy (step:=xcf o so st n ss L) (min n L.length) (fun i=>decide (col (L.getD i []) 0>st)) (fun i=>[.i 0,.i 0,.i i]) (fun i=>[]) 0 2 [.i 0,.i 0,.i (min n L.length:Nat)]
   (fun i hi=>by
    have hi':i<L.length:=by omega
    unfold xcf
    simp only [gi_2,gi_1,gi_z]
    rw [decide_eq_true (show (i:Int)<(L.length:Int) by omega),decide_eq_true (show (i:Int)<(n:Int) by omega),xaa (xan hi'),xaa (xan hi'),xaa (xan hi'),xaC hi',xaz hi',xbX (by omega)]
    rfl)
   (by
    unfold xcf
    simp only [gi_2,gi_1,gi_z]
    have:(decide (((min n L.length:Nat):Int)<(L.length:Int))&&decide (((min n L.length:Nat):Int)<(n:Int)))=false:=by
     rw [Bool.and_eq_false_iff,decide_eq_false_iff_not,decide_eq_false_iff_not]; omega
    rw [this]; rfl)
  obtain ⟨l1,l2⟩:=hloop
  have hsum:(decide ((L.length:Int)≥(n:Int))&&decide ((n:Int)>0)&&(L.getD (IntKind.i64.wrap ((n:Int)-1)).toNat []).getD 3 0 !=ss)=((n:Int)-((min n L.length:Nat):Int)==0&&sAt L (min n L.length) !=ss):=by
   by_cases h1:n≤L.length
   ·rw [Nat.min_eq_left h1,Int.sub_self,decide_eq_true (show (L.length:Int)≥(n:Int) by omega)]
    by_cases h2:0<n
    ·rw [decide_eq_true (show (n:Int)>0 by omega),hwn h2,Int.toNat_natCast]
     unfold sAt
     rw [if_neg (by omega)]
     rfl
    ·have h0:n=0:=by omega
     subst h0
     rw [b5 rfl]
     rfl
   ·rw [decide_eq_false (show ¬ (L.length:Int)≥(n:Int) by omega),Nat.min_eq_right (by omega),bne (show ¬ (n:Int)-(L.length:Int)=0 by omega)]
    rfl
  have htime:∀ r:Nat×List U,r=xaf (xcf o so st n ss L) [.i 0,.i 0,.i ((0:Nat):Int)]→r.1.beq 1=decide (tAt L (min n L.length)>st):=fun r hr=>by
   subst hr
   have hpw:=(xnk b4).2
   have htm:0≤st:=by
    unfold slOk at hok
    simp only [Bool.and_eq_true] at hok
    have:=hok.1.1.1.1.2
    unfold tmF at this
    simp only [Bool.and_eq_true,decide_eq_true_eq] at this
    exact this.1
   rcases l2 with ⟨i,hi,hp,_,hg⟩ | ⟨hn,hg⟩
   ·rw [hg]
    have hp:=of_decide_eq_true hp
    rw [xaz (by omega)] at hp
    have:tAt L (min n L.length)>st:=by
     unfold tAt
     rw [if_neg (by omega),xaz (by omega)]
     by_cases e:i=min n L.length-1
     ·subst e; exact hp
     ·have:=List.pairwise_iff_getElem.1 hpw i (min n L.length-1) (by omega) (by omega) (by omega)
      omega
    rw [decide_eq_true this]; rfl
   ·rw [hg]
    have:¬ tAt L (min n L.length)>st:=by
     unfold tAt
     by_cases h0:min n L.length=0
     ·rw [if_pos h0]; omega
     ·rw [if_neg h0]
      have:=of_decide_eq_false (hn (min n L.length-1) (by omega))
      exact this
    rw [decide_eq_false this]; rfl
  have htime:=htime _ rfl
  have hl0:xjW o so st n ss L=xaf (xcf o so st n ss L) [.i 0,.i 0,.i ((0:Nat):Int)]:=rfl
  have hlie:lieF st n ss L (min n L.length)=((n:Int)-((min n L.length:Nat):Int)==0&&sAt L (min n L.length) !=ss||decide (tAt L (min n L.length)>st)):=rfl
  have hmax:imax 0 (IntKind.i64.wrap ((n:Int)-(L.length:Int)))=(n:Int)-((min n L.length:Nat):Int):=by
   rw [xcJ (by omega)]
   unfold imax
   by_cases h1:(n:Int)-(L.length:Int)>0
   ·rw [if_pos h1,Nat.min_eq_right (by omega)]
   ·rw [if_neg h1,Nat.min_eq_left (by omega)]; omega
  rw [hl0,hsum,htime,hlie,hmax]
  refine ⟨⟨v1,fun _=>?_⟩,?_,?_⟩
  ·have hin:(decide ((L.length:Int)≥(n:Int))&&decide ((n:Int)>0))=true→inR (IntKind.i64.wrap ((n:Int)-1)) L:=fun h=>by
    rw [Bool.and_eq_true,decide_eq_true_eq,decide_eq_true_eq] at h
    rw [hwn (by omega)]
    exact xan (by omega)
   exact ⟨hin,hin,hin,fun _=>l1⟩
  ·cases ((n:Int)-((min n L.length:Nat):Int)==0&&sAt L (min n L.length) !=ss)<;>cases decide (tAt L (min n L.length)>st)<;>rfl
  ·cases ((n:Int)-((min n L.length:Nat):Int)==0&&sAt L (min n L.length) !=ss)<;>cases decide (tAt L (min n L.length)>st)<;>rfl
end Go.Proofs.YtikhnofbbcmpeaaGreat
set_option linter.unusedVariables false
set_option maxRecDepth 100000
namespace Go.Proofs.YtikhnofbbcmpeaaGreat
open Go Go.Sy
theorem xtf (l:List (List Int)) (hl:l.length≤9223372036854775807):xd8 l∧xcx l=chF l:=by
 obtain ⟨h1,h2⟩:=xxC (step:=xbP l) (l:=l) (p:=badC) 1 (fun i hi=>by
   have hr:=xan hi
   unfold xbP
   simp only [gi_1,gi_z,gb_z]
   rw [dlt hi,xaa hr,xaa hr,xaa hr,xaa hr,xaa hr,xaa hr,xaa (fun _=>hr),xaa (fun _=>hr),xaa (fun _=>hr),xaa (fun _=>hr),xaa (fun _=>hr),xaa (fun _=>hr),xaC hi,xbX (by omega)]
   rfl)
  (by unfold xbP; simp only [gi_1,gi_z,gb_z,dnlt]) (init:=xdr l) rfl
 refine ⟨fun _=>h1,?_⟩
 unfold xcx chF
 have e:(bif (xlz l).fst.beq 1 then false else true)=!l.any badC:=by
  rw [← h2]
  show (bif (xaf (xbP l) (xdr l)).fst.beq 1 then false else true)=_
  cases (xaf (xbP l) (xdr l)).fst.beq 1<;>rfl
 rw [e]
 by_cases h:l.length≤200
 ·rw [decide_eq_true h,decide_eq_false (by omega)]; rfl
 ·rw [decide_eq_false h,decide_eq_true (by omega)]; rfl
def accF (p:List Int→Bool) (v:List Int→Int) (s:List Int) (l:List (List Int)):List Int:=l.foldl (fun s c=>if p c=true then xoX (v c) s else s) s
theorem xwT (p:List Int→Bool) (v:List Int→Int):∀ (l:List (List Int)) (s:List Int),s.Pairwise (·<·)→(accF p v s l).Pairwise (·<·)∧(∀ y,y∈accF p v s l↔y∈s∨∃ c∈l,p c=true∧v c=y)
 | [],s,h=>⟨h,fun y=>by simp [accF]⟩
 | c::r,s,h=>by
  have e:accF p v s (c::r)=accF p v (if p c=true then xoX (v c) s else s) r:=rfl
  rw [e]
  by_cases hc:p c=true
  ·rw [if_pos hc]
   obtain ⟨h1,h2⟩:=xwT p v r _ (xuW h (v c))
   refine ⟨h1,fun y=>?_⟩
   rw [h2,xwX]
   constructor
   ·rintro ((h | h) | ⟨d,hd,h⟩)
    ·exact .inr ⟨c,List.mem_cons_self,hc,h.symm⟩
    ·exact .inl h
    ·exact .inr ⟨d,List.mem_cons_of_mem _ hd,h⟩
   ·rintro (h | ⟨d,hd,h⟩)
    ·exact .inl (.inr h)
    ·rcases List.mem_cons.1 hd with e | hd
     ·rw [e] at h; exact .inl (.inl h.2.symm)
     ·exact .inr ⟨d,hd,h⟩
  ·rw [if_neg hc]
   obtain ⟨h1,h2⟩:=xwT p v r s h
   refine ⟨h1,fun y=>?_⟩
   rw [h2]
   constructor
   ·rintro (h | ⟨d,hd,h⟩)
    ·exact .inl h
    ·exact .inr ⟨d,List.mem_cons_of_mem _ hd,h⟩
   ·rintro (h | ⟨d,hd,h⟩)
    ·exact .inl h
    ·rcases List.mem_cons.1 hd with e | hd
     ·rw [e] at h; exact absurd h.1 hc
     ·exact .inr ⟨d,hd,h⟩
theorem xAz {p:List Int→Bool} {v:List Int→Int} {l:List (List Int)} {raw:List Int} (h:∀ y,y∈raw↔∃ c∈l,p c=true∧v c=y):accF p v [] l=xnB raw:=by
 obtain ⟨h1,h2⟩:=xwT p v l [] List.Pairwise.nil
 refine xyA h1 (xA0 raw) fun y=>?_
 rw [h2,xxt,h]
 simp
theorem xAA {step:List U→Option (Nat×List U)} {l:List (List Int)} (p:List Int→Bool) (v:List Int→Int) (hl:l.length≤1000000)
  (hs:∀ i (s:List Int) (hi:i<l.length),s.length≤i→step [.i i,.r (xaD s)]=bif p l[i] then xab (xdg (v l[i]) (xaD s)) (some (0,[.i ((i+1:Nat):Int),.r (xew (v l[i]) (xaD s))])) else some (0,[.i ((i+1:Nat):Int),.r (xaD s)]))
  (he:∀ s,step [.i l.length,.r s]=some (3,[.i l.length,.r s])):xav step [.i ((0:Nat):Int),.r []]∧gr (xaf step [.i ((0:Nat):Int),.r []]).snd 1=xaD (accF p v [] l):=by
 obtain ⟨h1,h2⟩:=xbj (step:=step) l (fun i (s:List Int)=>[.i i,.r (xaD s)]) (fun s c=>.inl (if p c=true then xoX (v c) s else s)) (fun i s=>s.length≤i) (fun s=>(2,[.i l.length,.r (xaD s)])) 0
  (fun i s hi _ hI=>by
   refine ⟨?_,fun s' hs'=>?_⟩
   ·rw [hs i s hi hI]
    have hw:=xDC (v l[i]) s (by omega)
    cases p l[i] with
    | false=>rw [if_neg (by decide)]; rfl
    | true=>rw [if_pos rfl,cond_true,xaa hw.1,hw.2]; rfl
   ·cases hs'
    have:=xsR (v l[i]) s
    split<;>omega)
  (fun i s hi _=>by
   have:i=l.length:=by omega
   subst this
   exact he _) (s:=[]) (Nat.zero_le _)
 refine ⟨h1,?_⟩
 have e:([.i ((0:Nat):Int),.r []]:List U)=[.i ((0:Nat):Int),.r (xaD [])]:=rfl
 rw [e,h2,List.drop_zero,xdx]
 rfl
theorem xBU (oo so t:Int) (uo ship up:List (List Int)) (h1:uo.length≤9223372036854775807) (h2:ship.length≤9223372036854775807) (h3:up.length≤9223372036854775807) :
  xe5 oo so t uo ship up∧xdh oo so t uo ship up=(if coOk oo so t uo ship up=true then xaD (xnB (xnD so t uo ship up)) else [])∧xdV oo so t uo ship up=if coOk oo so t uo ship up=true then 0 else 1:=by
 obtain ⟨v1,v2⟩:=xij oo uo h1
 obtain ⟨w1,w2⟩:=xij so ship h2
 obtain ⟨c1,c2⟩:=xtf up h3
 have e:(!valF oo uo||!valF so ship||!chF up||!xaI t||oo !=0||so==0)=!coOk oo so t uo ship up:=by
  rw [show xaI t=tmF t from rfl]
  unfold coOk
  show (!valF oo uo||!valF so ship||!chF up||!tmF t||!(oo==0)||so==0)=!(valF oo uo&&valF so ship&&chF up&&tmF t&&oo==0&&!(so==0))
  cases valF oo uo<;>cases valF so ship<;>cases chF up<;>cases tmF t<;>cases (oo==0)<;>cases (so==0)<;>rfl
 unfold xe5 xdh xdV
 rw [v2,w2,c2,e]
 cases hok:coOk oo so t uo ship up with
 | false=>exact ⟨⟨v1,w1,c1,fun h=>by cases h⟩,rfl,rfl⟩
 | true =>
  have hk:=hok
  unfold coOk at hk
  simp only [Bool.and_eq_true,beq_iff_eq] at hk
  obtain ⟨⟨⟨⟨⟨k1,k2⟩,k3⟩,k4⟩,k5⟩,k6⟩:=hk
  subst k5
  have hch:=xjR k3
  obtain ⟨a1,a2⟩:=xAA (step:=xdc 0 so t uo ship up) (l:=up) (fun c=>col c 0==so&&decide (col c 2≤t)&&hasR 1 (col c 1) (col c 2) (col c 2) uo&&!offR (col c 2) ship) (fun c=>col c 1) (by omega)
   (fun i s hi _=>by
    have hr:=xan hi
    have hh:=xDH 0 1 (col up[i] 1) (col up[i] 2) (col up[i] 2) uo h1
    have ho:=xDG so (col up[i] 2) ship h2
    unfold xdc
    simp only [gi_z,gr_1,gr_z]
    rw [dlt hi,xaa hr,xaa hr,xaC hi,xaa hh.1,xaa ho.1,show xeN 0 1 (up[i].getD 1 0) (up[i].getD 2 0) (up[i].getD 2 0) uo=_ from hh.2,show xaR so (up[i].getD 2 0) ship=_ from ho.2,xbX (by omega)])
   (fun s=>by
    unfold xdc
    simp only [gi_z,gr_1,gr_z,dnlt])
  refine ⟨⟨v1,w1,c1,fun _=>a1⟩,?_,rfl⟩
  rw [if_pos rfl]
  show gr (xaf (xdc 0 so t uo ship up) [.i ((0:Nat):Int),.r []]).snd 1=_
  rw [a2,xAz (raw:=xnD so t uo ship up) fun y=>?_]
  unfold xnD
  rw [List.mem_map]
  have each:∀ c∈up,coP so t uo ship c=(col c 0==so&&decide (col c 2≤t)&&hasR 1 (col c 1) (col c 2) (col c 2) uo&&!offR (col c 2) ship):=fun c hc=>by
   unfold coP
   rw [xFk k1 (hch.2 c hc).1,xCe k2,Bool.not_not]
  constructor
  ·rintro ⟨c,hc,rfl⟩
   obtain ⟨m1,m2⟩:=List.mem_filter.1 hc
   exact ⟨c,m1,by rw [← each c m1]; exact m2,rfl⟩
  ·rintro ⟨c,hc,m1,m2⟩
   exact ⟨c,List.mem_filter.2 ⟨hc,by rw [each c hc]; exact m1⟩,m2⟩
theorem xBO (o t:Int) (l:List (List Int)) (hl:l.length≤9223372036854775807):xe0 o t l∧xdT o t l=(if (valF o l&&tmF t)=true then xaD (xlu t l) else [])∧xex o t l=if (valF o l&&tmF t)=true then 0 else 1:=by
 obtain ⟨v1,v2⟩:=xij o l hl
 have e:(!valF o l||!xaI t)=!(valF o l&&tmF t):=by
  rw [show xaI t=tmF t from rfl]
  cases valF o l<;>cases tmF t<;>rfl
 unfold xe0 xdT xex
 rw [v2,e]
 cases hok:(valF o l&&tmF t) with
 | false=>exact ⟨⟨v1,fun h=>by cases h⟩,rfl,rfl⟩
 | true =>
  rw [Bool.and_eq_true] at hok
  have hlen:=(xql hok.1).1
  obtain ⟨a1,a2⟩:=xAA (step:=xc9 o t l) (l:=l) (fun x=>col x 1==3&&decide (col x 0≤t)) (fun x=>col x 2) (by omega)
   (fun i s hi _=>by
    have hr:=xan hi
    unfold xc9
    simp only [gi_z,gr_1,gr_z]
    rw [dlt hi,xaa hr,xaa hr,xaa hr,xaa (fun _=>hr),xaa (fun _=>hr),xaa (fun _=>hr),xaa hr,xaa hr,xaa hr,xaC hi,xbX (by omega)])
   (fun s=>by
    unfold xc9
    simp only [gi_z,gr_1,gr_z,dnlt])
  refine ⟨⟨v1,fun _=>a1⟩,?_,rfl⟩
  rw [if_pos rfl]
  show gr (xaf (xc9 o t l) [.i ((0:Nat):Int),.r []]).snd 1=_
  unfold xlu
  rw [a2,xAz (raw:=xk3 t l) fun y=>?_]
  rw [xo2 t (xnk hok.1).2]
  constructor
  ·rintro ⟨x,hx,m1,m2,m3⟩
   exact ⟨x,hx,by rw [m2,decide_eq_true m1]; rfl,m3⟩
  ·rintro ⟨x,hx,m1,m2⟩
   rw [Bool.and_eq_true,beq_iff_eq,decide_eq_true_eq] at m1
   exact ⟨x,hx,m1.2,m1.1,m2⟩
noncomputable def xrD (s:Int) (x:List Int):Int ⊕ (Nat×List U):=if (!valF (col x 0) (decL (col x 1))||decide (col x 0<1)||decide (col x 0≤s))=true then .inr (0,[]) else .inl (col x 0)
theorem xEB {fin:Int→Nat×List U} (hf:∀ s,(fin s).1≠0):∀ (l:List (List Int)) (b:Int),0≤b→(bif (endL fin (runL xrD b l)).1.beq 1 then false else true)=risF b (xao l)
 | [],b,_=>by
  show (bif ((fin b).1+1).beq 1 then false else true)=true
  have:((fin b).1+1).beq 1=false:=by
   cases h:(fin b).1 with
   | zero=>exact absurd h (hf b)
   | succ n=>rfl
  rw [this]; rfl
 | x::r,b,hb=>by
  have e:risF b (xao (x::r))=(valF (col x 0) (decL (col x 1))&&decide (b<col x 0)&&risF (col x 0) (xao r)):=rfl
  rw [e]
  unfold runL
  by_cases h:(!valF (col x 0) (decL (col x 1))||decide (col x 0<1)||decide (col x 0≤b))=true
  ·have e1:xrD b x=.inr (0,[]):=by unfold xrD; rw [if_pos h]
   rw [e1]
   show false=_
   simp only [Bool.or_eq_true,Bool.not_eq_true',decide_eq_true_eq] at h
   rcases h with (h | h) | h
   ·rw [h]; rfl
   ·rw [decide_eq_false (show ¬ b<col x 0 by omega),Bool.and_false,Bool.false_and]
   ·rw [decide_eq_false (show ¬ b<col x 0 by omega),Bool.and_false,Bool.false_and]
  ·have e1:xrD b x=.inl (col x 0):=by unfold xrD; rw [if_neg h]
   rw [e1]
   simp only [Bool.or_eq_true,Bool.not_eq_true',decide_eq_true_eq,not_or,Bool.not_eq_false] at h
   rw [h.1.1,decide_eq_true (show b<col x 0 by omega)]
   exact xEB hf r (col x 0) (by omega)
theorem xv7 {ow t dl:Int} {uo um ul:List (List Int)} (h1:uo.length≤9223372036854775807) (h2:um.length≤9223372036854775807) (h3:ul.length≤9223372036854775807) (hd:xoV um) :
  xd1 ow t dl uo um ul∧xb0 ow t dl uo um ul=xdS ow t dl uo (xao um) ul:=by
 obtain ⟨v1,v2⟩:=xij ow uo h1
 obtain ⟨c1,c2⟩:=xtf ul h3
 have e:(!valF ow uo||!chF ul||!xaI t||ow !=0||decide (dl<0)||decide (dl>100000))=!xg8 ow t dl uo ul:=by
  rw [show xaI t=tmF t from rfl]
  unfold xg8
  have e1:decide (dl<0)=!decide (0≤dl):=by
   by_cases h:dl<0
   ·rw [decide_eq_true h,decide_eq_false (by omega)]; rfl
   ·rw [decide_eq_false h,decide_eq_true (by omega)]; rfl
  have e2:decide (dl>100000)=!decide (dl≤100000):=by
   by_cases h:dl>100000
   ·rw [decide_eq_true h,decide_eq_false (by omega)]; rfl
   ·rw [decide_eq_false h,decide_eq_true (by omega)]; rfl
  rw [e1,e2]
  show (!valF ow uo||!chF ul||!tmF t||!(ow==0)||!decide (0≤dl)||!decide (dl≤100000))=_
  cases valF ow uo<;>cases chF ul<;>cases tmF t<;>cases (ow==0)<;>cases decide (0≤dl)<;>cases decide (dl≤100000)<;>rfl
 obtain ⟨a1,a2⟩:=xbj (step:=xdC ow t dl uo um ul) um (fun i (s:Int)=>[.b false,.i i]) xrD (fun i s=>s=if i=0 then 0 else col (um.getD (i-1) []) 0) (fun s=>(2,[.b false,.i um.length])) 0
  (fun i s hi _ hI=>by
   have hr:=xan hi
   have hv:=xij (col um[i] 0) (decL (col um[i] 1)) (hd _ (List.getElem_mem hi))
   have hprev:decide ((i:Int)>0)=true→inR (IntKind.i64.wrap ((i:Int)-1)) um∧um.getD (IntKind.i64.wrap ((i:Int)-1)).toNat []=um.getD (i-1) []:=fun h=>by
    have h:=of_decide_eq_true h
    have hw:IntKind.i64.wrap ((i:Int)-1)=((i-1:Nat):Int):=by rw [xcJ (by omega)]; omega
    rw [hw,Int.toNat_natCast]
    exact ⟨xan (by omega),rfl⟩
   refine ⟨?_,fun s' hs'=>?_⟩
   ·have hB:(!valF (col um[i] 0) (decL (col um[i] 1))||decide (col um[i] 0<1)||decide ((i:Int)>0)&&decide (col um[i] 0≤(um.getD (IntKind.i64.wrap ((i:Int)-1)).toNat []).getD 0 0)) =
      (!valF (col um[i] 0) (decL (col um[i] 1))||decide (col um[i] 0<1)||decide (col um[i] 0≤s)):=by
     by_cases h0:i=0
     ·rw [if_pos h0] at hI
      have hd:decide ((i:Int)>0)=false:=decide_eq_false (by omega)
      rw [hd,hI,Bool.false_and]
      by_cases hlt:col um[i] 0<1
      ·rw [decide_eq_true hlt]; simp
      ·rw [decide_eq_false hlt,decide_eq_false (show ¬ col um[i] 0≤0 by omega)]
     ·rw [if_neg h0] at hI
      have hd:decide ((i:Int)>0)=true:=decide_eq_true (by omega)
      rw [hd,Bool.true_and,(hprev hd).2,hI]
    unfold xdC
    simp only [gi_1,gi_z,gb_z]
    rw [dlt hi,xaa hr,xaa hr,xaC hi,xaa hv.1,xaa (fun _=>hr),xaa (fun _=>hr),xaa (fun _=>hr),xaa (fun _ _=>hr),xaa (fun _ _=>hr),xaa (fun _ _=>hr),xaa (fun _ h=>(hprev h).1),xaa (fun _ h=>(hprev h).1),xaa (fun _ h=>(hprev h).1),
     show xaq (um[i].getD 0 0) (decL (um[i].getD 1 0))=_ from hv.2,xbX (by omega)]
    show (bif (!valF (col um[i] 0) (decL (col um[i] 1))||decide (col um[i] 0<1)||decide ((i:Int)>0)&&decide (col um[i] 0≤(um.getD (IntKind.i64.wrap ((i:Int)-1)).toNat []).getD 0 0)) then _ else _)=_
    rw [hB]
    unfold xrD
    cases (!valF (col um[i] 0) (decL (col um[i] 1))||decide (col um[i] 0<1)||decide (col um[i] 0≤s)) with
    | true=>rw [if_pos rfl]; rfl
    | false=>rw [if_neg (by decide)]; rfl
   ·rw [if_neg (by omega),Nat.add_sub_cancel,xaz hi]
    unfold xrD at hs'
    split at hs'
    ·cases hs'
    ·cases hs'; rfl)
  (fun i s hi _=>by
   have:i=um.length:=by omega
   subst this
   unfold xdC
   simp only [gi_1,gi_z,gb_z,dnlt]) (s:=0) rfl
 have a3:(bif (xeB ow t dl uo um ul).fst.beq 1 then false else true)=risF 0 (xao um):=by
  show (bif (xaf (xdC ow t dl uo um ul) [.b false,.i ((0:Nat):Int)]).fst.beq 1 then false else true)=_
  rw [a2,List.drop_zero]
  exact xEB (fun s=>by simp) um 0 (by omega)
 have B:∀ b:Bool,xav (xbF ow t dl uo um ul) [.b b,.i ((0:Nat):Int)]∧(bif (xaf (xbF ow t dl uo um ul) [.b b,.i ((0:Nat):Int)]).fst.beq 1 then true else false)=ul.any fun c=>xbU (col c 0) um==0:=fun b =>
  xvf (step:=xbF ow t dl uo um ul) (l:=ul) (p:=fun c=>xbU (col c 0) um==0) b 1 (fun i hi=>by
   have hr:=xan hi
   unfold xbF
   simp only [gi_1,gi_z,gb_z]
   rw [dlt hi,xaa hr,xaa hr,xaa hr,xaC hi,xaa (show xff (ul[i].getD 0 0) um from h2),xbX (by omega)])
  (by unfold xbF; simp only [gi_1,gi_z,gb_z,dnlt]) rfl
 have B':=B (gb (xeB ow t dl uo um ul).snd 0)
 have B2:(xpn ow t dl uo um ul).fst.beq 1=ul.any fun c=>xbU (col c 0) um==0:=by
  rw [← B'.2]
  show (xaf (xbF ow t dl uo um ul) [.b (gb (xeB ow t dl uo um ul).snd 0),.i ((0:Nat):Int)]).fst.beq 1=_
  cases (xaf (xbF ow t dl uo um ul) [.b (gb (xeB ow t dl uo um ul).snd 0),.i ((0:Nat):Int)]).fst.beq 1<;>rfl
 unfold xd1 xb0
 rw [v2,c2,e,xwO]
 cases hok:xg8 ow t dl uo ul with
 | false=>exact ⟨⟨v1,c1,fun h=>by cases h⟩,rfl⟩
 | true =>
  refine ⟨⟨v1,c1,fun _=>⟨a1,fun _=>B'.1⟩⟩,?_⟩
  have hch:chF ul=true:=by
   unfold xg8 at hok
   simp only [Bool.and_eq_true] at hok
   exact hok.1.1.1.2
  have hany:(ul.any fun c=>xbU (col c 0) um==0)=ul.any (xlC (xao um)):=xrj fun c hc=>by
   obtain ⟨_,_,_,_,q5,_⟩:=(xjR hch).2 c hc
   have hf:=xtq (col c 0) um
   have e0:xbU (col c 0) um=((xeo (col c 0) (xao um)).getD (0,[])).1:=congrArg Prod.fst hf
   rw [e0]
   unfold xlC
   cases hfl:xeo (col c 0) (xao um) with
   | none=>rfl
   | some x =>
    have:x.1=col c 0:=by simpa using List.find?_some hfl
    show (x.1==0)=false
    rw [this]; exact bne (by omega)
  rw [B2,hany,← a3]
  cases (xeB ow t dl uo um ul).fst.beq 1<;>cases ul.any (xlC (xao um))<;>rfl
theorem xD2 {ow t dl:Int} {uo um ul:List (List Int)} (h1:uo.length≤9223372036854775807) (h2:um.length≤9223372036854775807) (h3:ul.length≤9223372036854775807) (hd:xoV um) :
  xfF ow t dl uo um ul∧xfg ow t dl uo um ul=(if xdS ow t dl uo (xao um) ul=true then xgK (xc6 uo (xao um) t dl ul) else [])∧xge ow t dl uo um ul=if xdS ow t dl uo (xao um) ul=true then 0 else 1:=by
 obtain ⟨c1,c2⟩:=xv7 (ow:=ow) (t:=t) (dl:=dl) h1 h2 h3 hd
 unfold xfF xfg xge
 rw [c2]
 cases hc:xdS ow t dl uo (xao um) ul with
 | false=>exact ⟨⟨c1,fun h=>by cases h⟩,rfl,rfl⟩
 | true =>
  obtain ⟨a1,a2,a3,a4,a5,a6,a7,a8⟩:=xp9 hc
  have hsl:um.length≤1000:=by
   have:=xyB (xao um) 0 (by omega) (by omega) a7
   unfold xao at this
   rw [List.length_map] at this
   omega
  have hcl:ul.length≤1000:=by have:=(xjR a3).1; omega
  obtain ⟨g1,g2⟩:=xzF (t:=t) (dl:=dl) hsl hcl hd
  obtain ⟨r1,r2⟩:=xu3 a1 a7 a3 a8 (xye (t:=t) a3 a5 a6)
  refine ⟨⟨c1,fun _=>g1⟩,?_,rfl⟩
  rw [if_pos rfl]
  show xaE t dl um ul=_
  rw [g2,r2]
end Go.Proofs.YtikhnofbbcmpeaaGreat
set_option linter.unusedVariables false
set_option maxRecDepth 100000
namespace Go.Proofs.YtikhnofbbcmpeaaGreat
open Go Go.Sy
def putL (o:List Int) (l:List (List Int)):List (List Int):=l.filter (fun x=>decide (cmp3 x o<0))++o::l.filter (fun x=>decide (cmp3 o x<0))
def nrm3 (x:List Int):List Int:=[col x 0,col x 1,col x 2]
theorem xFx {x:List Int} (h:x.length=3):nrm3 x=x:=xnn rfl h rfl rfl rfl
theorem xD8 {l:List (List Int)} (h:∀ x∈l,x.length=3):l.map nrm3=l:=by
 induction l with
 | nil=>rfl
 | cons x r ih=>rw [List.map_cons,xFx (h x List.mem_cons_self),ih fun y hy=>h y (List.mem_cons_of_mem _ hy)]
theorem xFB (x:List Int):¬ lt3 x x:=fun h=>by unfold lt3 at h; omega
theorem xzX (x y:List Int) (h:lt3 x y):¬ lt3 y x:=fun k=>by unfold lt3 at h k; omega
theorem xFA {x y:List Int} (hx:x.length=3) (hy:y.length=3):lt3 x y∨x=y∨lt3 y x:=by
 by_cases h:col x 0=col y 0∧col x 1=col y 1∧col x 2=col y 2
 ·exact .inr (.inl (xnn hx hy h.1 h.2.1 h.2.2))
 ·unfold lt3; omega
theorem xFr {l:List (List Int)} (h:l.Pairwise lt3) (o:List Int):(putL o l).Pairwise lt3:=by
 unfold putL
 rw [List.pairwise_append]
 refine ⟨h.filter _,List.pairwise_cons.2 ⟨fun x hx=>?_,h.filter _⟩,fun a ha b hb=>?_⟩
 ·have:=(List.mem_filter.1 hx).2
  simp only [decide_eq_true_eq] at this
  exact (xnc _ _).1 this
 ·have h1:=(List.mem_filter.1 ha).2
  simp only [decide_eq_true_eq] at h1
  have h1:=(xnc _ _).1 h1
  rcases List.mem_cons.1 hb with rfl | hb
  ·exact h1
  ·have h2:=(List.mem_filter.1 hb).2
   simp only [decide_eq_true_eq] at h2
   exact xCr h1 ((xnc _ _).1 h2)
theorem xv8 {l:List (List Int)} {o:List Int} (ho:o.length=3) (h3:∀ x∈l,x.length=3) (x:List Int):x∈putL o l↔x=o∨x∈l:=by
 unfold putL
 simp only [List.mem_append,List.mem_cons,List.mem_filter,decide_eq_true_eq,xnc]
 constructor
 ·rintro (⟨h,_⟩ | h | ⟨h,_⟩)
  ·exact .inr h
  ·exact .inl h
  ·exact .inr h
 ·rintro (h | h)
  ·exact .inr (.inl h)
  ·rcases xFA (h3 x h) ho with h' | h' | h'
   ·exact .inl ⟨h,h'⟩
   ·exact .inr (.inl h')
   ·exact .inr (.inr ⟨h,h'⟩)
theorem xzI (o:List Int) (l:List (List Int)):(putL o l).length≤l.length+1:=by
 have:(l.filter (fun x=>decide (cmp3 x o<0))).length+(l.filter (fun x=>decide (cmp3 o x<0))).length≤l.length:=by
  induction l with
  | nil=>simp
  | cons x r ih =>
   rw [List.filter_cons,List.filter_cons]
   by_cases h:cmp3 x o<0
   ·have h':¬ cmp3 o x<0:=fun k=>xzX _ _ ((xnc _ _).1 h) ((xnc _ _).1 k)
    rw [if_pos (decide_eq_true h),if_neg (by simpa using h')]; simp only [List.length_cons]; omega
   ·rw [if_neg (by simpa using h)]
    split<;>simp only [List.length_cons]<;>omega
 unfold putL
 rw [List.length_append,List.length_cons]
 omega
theorem xE6 (a b c:Int) (l:List (List Int)) (h3:∀ x∈l,x.length=3) (hl:l.length≤1000000):xdU a b c l∧xgd a b c l=putL [a,b,c] l:=by
 have fit:∀ (s:List (List Int)) (x:List Int),s.length≤2000000→xa5 24 (s.length+[x].length):=fun s x h=>by unfold xa5 maxLen; simp only [List.length_cons,List.length_nil]; omega
 have L:∀ (p:List Int→Bool) (step:List U→Option (Nat×List U)) (s0:List (List Int)),s0.length≤1000001 →
   (∀ i s (hi:i<l.length),s.length≤2000000→step [.i i,.r s]=bif p l[i] then some (0,[.i ((i+1:Nat):Int),.r (s++[nrm3 l[i]])]) else some (0,[.i ((i+1:Nat):Int),.r s])) →
   (∀ s,step [.i l.length,.r s]=some (3,[.i l.length,.r s])) →
   xav step [.i ((0:Nat):Int),.r s0]∧xaf step [.i ((0:Nat):Int),.r s0]=(3,[.i l.length,.r (s0++l.filter p)]):=fun p step s0 h0 h1 h2=>by
  obtain ⟨k1,k2⟩:=xbj (step:=step) l (fun i (s:List (List Int))=>[.i i,.r s]) (fun s x=>.inl (if p x=true then s++[nrm3 x] else s)) (fun i s=>s.length≤s0.length+i) (fun s=>(2,[.i l.length,.r s])) 0
   (fun i s hi _ hI=>⟨by
    rw [h1 i s hi (by omega)]
    cases p l[i]
    ·rw [if_neg (by decide)]; rfl
    ·rw [if_pos rfl]; rfl,fun s' hs'=>by
    cases hs'
    exact Nat.le_trans (xpD _ _ _) (by omega)⟩)
   (fun i s hi _=>by
    have:i=l.length:=by omega
    subst this
    exact h2 s) (s:=s0) (Nat.le_refl _)
  refine ⟨k1,?_⟩
  rw [k2,List.drop_zero,xdx,xgp,xD8 fun x hx=>h3 x (List.mem_filter.1 hx).1]
  rfl
 obtain ⟨a1,a2⟩:=L (fun x=>decide (cmp3 x [a,b,c]<0)) (xd2 a b c l) [] (by simp) (fun i s hi hs=>by
  unfold xd2 xmd
  simp only [gi_z,gr_1,gr_z]
  rw [dlt hi,xaa (xan hi),xaa (xan hi),xaa (xan hi),xaa (xan hi),xaa (fit _ _ hs),xaC hi,xbX (by omega)]
  rw [show xbT (l[i].getD 0 0) (l[i].getD 1 0) (l[i].getD 2 0) a b c=decide (cmp3 l[i] [a,b,c]<0) from xqd l[i] [a,b,c]]
  rfl) (fun s=>by
  unfold xd2
  simp only [gi_z,gr_1,gr_z,dnlt])
 have hf:∀ p:List Int→Bool,(l.filter p).length≤l.length:=fun p=>List.length_filter_le _ _
 have e1:gr (xme a b c l).snd 1=l.filter fun x=>decide (cmp3 x [a,b,c]<0):=by
  show gr (xaf (xd2 a b c l) [.i ((0:Nat):Int),.r []]).snd 1=_
  rw [a2]; rfl
 obtain ⟨b1,b2⟩:=L (fun x=>decide (cmp3 [a,b,c] x<0)) (xe1 a b c l) ((l.filter fun x=>decide (cmp3 x [a,b,c]<0))++[[a,b,c]]) (by
  have:=hf fun x=>decide (cmp3 x [a,b,c]<0)
  rw [List.length_append,List.length_cons,List.length_nil]; omega) (fun i s hi hs=>by
  unfold xe1 xmc
  simp only [gi_z,gr_1,gr_z]
  rw [dlt hi,xaa (xan hi),xaa (xan hi),xaa (xan hi),xaa (xan hi),xaa (fit _ _ hs),xaC hi,xbX (by omega)]
  rw [show xbT a b c (l[i].getD 0 0) (l[i].getD 1 0) (l[i].getD 2 0)=decide (cmp3 [a,b,c] l[i]<0) from xqd [a,b,c] l[i]]
  rfl) (fun s=>by
  unfold xe1
  simp only [gi_z,gr_1,gr_z,dnlt])
 have e2:xgv a b c l=[.i ((0:Nat):Int),.r ((l.filter fun x=>decide (cmp3 x [a,b,c]<0))++[[a,b,c]])]:=by
  unfold xgv; rw [e1]; rfl
 unfold xdU xgd xrp
 rw [e1,e2]
 refine ⟨⟨a1,fit _ _ (by have:=hf fun x=>decide (cmp3 x [a,b,c]<0); omega),b1⟩,?_⟩
 rw [b2]
 show (l.filter fun x=>decide (cmp3 x [a,b,c]<0))++[[a,b,c]]++(l.filter fun x=>decide (cmp3 [a,b,c] x<0))=_
 unfold putL
 rw [List.append_assoc]; rfl
def xnj (up:List (List Int)):Prop:=∀ g∈up,1≤col g 0∧col g 0≤8
theorem xnj.ok {up:List (List Int)} (h:xnj up):xep up:=fun g hg=>by have:=h g hg; omega
theorem xsT (m k:Nat):(2*m).testBit (k+1)=m.testBit k:=by rw [Nat.testBit_succ,Nat.mul_div_cancel_left _ (by omega)]
theorem xvD (m:Nat):(2*m).testBit 0=false:=by rw [Nat.testBit_zero]; simp
theorem cov2 {m:Nat} {g:List Int} (h:1≤col g 0):cov (2*m) g=(col g 3 !=0&&m.testBit ((col g 0).toNat-1)):=by
 unfold cov
 have:(col g 0).toNat=((col g 0).toNat-1)+1:=by omega
 rw [this,xsT,Nat.add_sub_cancel]
def xr6 (m:Nat) (s:List (List Int)) (g:List Int):List (List Int):=if cov (2*m) g=true then s else putL (lft g) s
theorem xBB (m:Nat):∀ (l s:List (List Int)),s.Pairwise lt3→(∀ x∈s,x.length=3)→(l.foldl (xr6 m) s).Pairwise lt3∧(∀ x∈l.foldl (xr6 m) s,x.length=3)∧(∀ x,x∈l.foldl (xr6 m) s↔x∈s∨∃ g∈l,cov (2*m) g=false∧x=lft g)∧(l.foldl (xr6 m) s).length≤s.length+l.length
 | [],s,h1,h2=>⟨h1,h2,fun x=>by simp,Nat.le_refl _⟩
 | g::r,s,h1,h2=>by
  rw [List.foldl_cons]
  by_cases hc:cov (2*m) g=true
  ·have e:xr6 m s g=s:=by unfold xr6; rw [if_pos hc]
   rw [e]
   obtain ⟨a1,a2,a3,a4⟩:=xBB m r s h1 h2
   refine ⟨a1,a2,fun x=>?_,by rw [List.length_cons]; omega⟩
   rw [a3]
   constructor
   ·rintro (h | ⟨d,hd,h⟩)
    ·exact .inl h
    ·exact .inr ⟨d,List.mem_cons_of_mem _ hd,h⟩
   ·rintro (h | ⟨d,hd,h⟩)
    ·exact .inl h
    ·rcases List.mem_cons.1 hd with e | hd
     ·rw [e,hc] at h; cases h.1
     ·exact .inr ⟨d,hd,h⟩
  ·have e:xr6 m s g=putL (lft g) s:=by unfold xr6; rw [if_neg hc]
   rw [e]
   have h3:∀ x∈putL (lft g) s,x.length=3:=fun x hx=>by
    rcases (xv8 (xqM g) h2 x).1 hx with rfl | hx
    ·exact xqM g
    ·exact h2 x hx
   obtain ⟨a1,a2,a3,a4⟩:=xBB m r _ (xFr h1 (lft g)) h3
   refine ⟨a1,a2,fun x=>?_,by have:=xzI (lft g) s; rw [List.length_cons]; omega⟩
   rw [a3,xv8 (xqM g) h2]
   constructor
   ·rintro ((h | h) | ⟨d,hd,h⟩)
    ·exact .inr ⟨g,List.mem_cons_self,by simpa using hc,h⟩
    ·exact .inl h
    ·exact .inr ⟨d,List.mem_cons_of_mem _ hd,h⟩
   ·rintro (h | ⟨d,hd,h⟩)
    ·exact .inl (.inr h)
    ·rcases List.mem_cons.1 hd with e | hd
     ·rw [e] at h; exact .inl (.inl h.2)
     ·exact .inr ⟨d,hd,h⟩
theorem xGT (m:Nat) (gs:List (List Int)):(byF m gs).Pairwise lt3:=(xsM m gs).1.imp fun {a b} h=>by rw [← xnc,← xyc,xAn]; exact h
theorem xBA {m:Nat} (hm:m<256) {up:List (List Int)} (hs:xnj up) (hl:up.length≤100000):xeL m up∧xci m up=byF (2*m) up:=by
 have hu:∀ n,upto (fun i (s:List (List Int))=>if m.testBit i=true then s++[rOn (i+1)] else s) n []=((List.range n).filter m.testBit).map fun k=>rOn (k+1):=by
  intro n
  induction n with
  | zero=>rfl
  | succ n ih =>
   show (if m.testBit n=true then upto _ n []++[rOn (n+1)] else upto _ n [])=_
   rw [ih,List.range_succ,List.filter_append,List.map_append]
   cases hb:m.testBit n
   ·simp [hb]
   ·simp [hb]
 obtain ⟨h1,h2,_⟩:=xmG (step:=xdy m up) 8 (fun i (s:List (List Int))=>[.i ((i+1:Nat):Int),.r s]) (fun i s=>if m.testBit i=true then s++[rOn (i+1)] else s) (fun i s=>s.length≤i) 2 (fun s=>[.i (9:Nat),.r s])
  (fun i s hi hI=>Nat.le_trans (xpD _ _ _) (by omega))
  (fun i s hi hI=>by
   have hfit:xa5 24 (s.length+[[(2:Int),((i+1:Nat):Int),0]].length):=by unfold xa5 maxLen; simp only [List.length_cons,List.length_nil]; omega
   have hw:IntKind.i64.wrap (((i+1:Nat):Int)-1)=(i:Int):=by rw [xcJ (by omega)]; omega
   unfold xdy
   simp only [gi_z,gr_1,gr_z,decide_eq_true (show ((i+1:Nat):Int)≤8 by omega),cond_true,hw,xaa (show (0:Int)≤(i:Int) by omega),Int.toNat_natCast,xAq (show m<512 by omega) (show i<9 by omega),xbX (show i+1<9223372036854775807 by omega)]
   rw [xaa hfit]
   cases m.testBit i
   ·rw [if_neg (by decide)]; rfl
   ·rw [if_pos rfl]; rfl)
  (fun s hI=>by
   unfold xdy
   simp only [gi_z,gr_1,gr_z]
   rfl) (s:=[]) (Nat.le_refl _)
 have e0:gr (xo9 m up).snd 1=((List.range 8).filter m.testBit).map fun k=>rOn (k+1):=by
  show gr (xaf (xdy m up) [.i ((0+1:Nat):Int),.r []]).snd 1=_
  rw [h2]
  show gr [.i (9:Nat),.r (upto _ 8 [])] 1=_
  rw [gr_1,gr_z,hu]
 generalize hR:((List.range 8).filter m.testBit).map (fun k=>rOn (k+1))=R0 at e0
 have hRpw:R0.Pairwise lt3:=by
  rw [← hR,List.pairwise_map]
  refine (List.Pairwise.filter _ List.pairwise_lt_range).imp fun {a b} h=>?_
  show lt3 [2,((a+1:Nat):Int),0] [2,((b+1:Nat):Int),0]
  unfold lt3
  show 2<2∨((2:Int)=2∧(((a+1:Nat):Int)<((b+1:Nat):Int)∨_))
  omega
 have hR3:∀ x∈R0,x.length=3:=fun x hx=>by
  rw [← hR] at hx
  obtain ⟨k,_,rfl⟩:=List.mem_map.1 hx
  rfl
 have hRlen:R0.length≤8:=by
  rw [← hR,List.length_map]
  exact Nat.le_trans (List.length_filter_le _ _) (by simp)
 obtain ⟨g1,g2⟩:=xbj (step:=xeu m up) up (fun i (s:List (List Int))=>[.i i,.r s]) (fun s g=>.inl (xr6 m s g)) (fun i s=>s.length≤8+i∧∀ x∈s,x.length=3) (fun s=>(3,[.i up.length,.r s])) 0
  (fun i s hi _ hI=>by
   obtain ⟨q1,q2⟩:=hs _ (List.getElem_mem hi)
   have hr:=xan hi
   have hw:IntKind.i64.wrap (col up[i] 0-1)=(((col up[i] 0).toNat-1:Nat):Int):=by rw [xcJ (by omega)]; omega
   have hp1:=xE6 1 0 (col up[i] 1) s hI.2 (by omega)
   have hp3:=xE6 3 (col up[i] 0) (col up[i] 1) s hI.2 (by omega)
   refine ⟨?_,fun s' hs'=>?_⟩
   ·have hc:(up[i].getD 3 0 !=0&&bAnd IntKind.i64 ((m:Int).fdiv ((2:Int) ^ min (IntKind.i64.wrap (up[i].getD 0 0-1)).toNat IntKind.i64.bits)) 1==1)=cov (2*m) up[i]:=by
     rw [cov2 q1,show IntKind.i64.wrap (up[i].getD 0 0-1)=_ from hw,Int.toNat_natCast,xAq (by omega) (by omega)]
    unfold xeu
    simp only [gi_z,gr_1,gr_z]
    rw [dlt hi,xaa hr,xaa hr,xaa hr,xaa hr,xaa hr,xaa hr,xaC hi,xaa (fun _=>by rw [show IntKind.i64.wrap (up[i].getD 0 0-1)=_ from hw]; omega),hc,xaa hr,xaa hr,xaa hr,xbX (by omega)]
    unfold xr6
    cases cov (2*m) up[i] with
    | true=>rw [if_pos rfl]; rfl
    | false =>
     rw [if_neg (by decide),cond_false]
     unfold lft
     by_cases h2:col up[i] 2=0
     ·rw [if_pos h2,show (up[i].getD 2 0 !=0)=false from by rw [show up[i].getD 2 0=0 from h2]; rfl,cond_false,xaa (show xdU 3 (up[i].getD 0 0) (up[i].getD 1 0) s from hp3.1),show xgd 3 (up[i].getD 0 0) (up[i].getD 1 0) s=_ from hp3.2]; rfl
     ·rw [if_neg h2,show (up[i].getD 2 0 !=0)=true from bne_iff_ne.2 h2,cond_true,xaa (show xdU 1 0 (up[i].getD 1 0) s from hp1.1),show xgd 1 0 (up[i].getD 1 0) s=_ from hp1.2]; rfl
   ·cases hs'
    unfold xr6
    split
    ·exact ⟨by omega,hI.2⟩
    ·refine ⟨by have:=xzI (lft up[i]) s; omega,fun x hx=>?_⟩
     rcases (xv8 (xqM _) hI.2 x).1 hx with rfl | hx
     ·exact xqM _
     ·exact hI.2 x hx)
  (fun i s hi _=>by
   have:i=up.length:=by omega
   subst this
   unfold xeu
   simp only [gi_z,gr_1,gr_z,dnlt]) (s:=R0) ⟨by omega,hR3⟩
 have ei:xf4 m up=[.i ((0:Nat):Int),.r R0]:=by unfold xf4; rw [e0]; rfl
 unfold xeL xci xo8
 rw [ei]
 refine ⟨⟨h1,g1⟩,?_⟩
 rw [g2,List.drop_zero,xdx]
 show up.foldl (xr6 m) R0=_
 obtain ⟨a1,a2,a3,a4⟩:=xBB m up R0 hRpw hR3
 refine xmt xFB xzX a1 (xGT _ _) fun x=>?_
 rw [a3,xh7,← hR]
 have:x∈((List.range 8).filter m.testBit).map (fun k=>rOn (k+1))↔∃ k,k<9∧(2*m).testBit k=true∧x=rOn k:=by
  rw [List.mem_map]
  constructor
  ·rintro ⟨k,hk,rfl⟩
   obtain ⟨k1,k2⟩:=List.mem_filter.1 hk
   have:=List.mem_range.1 k1
   exact ⟨k+1,by omega,by rw [xsT]; exact k2,rfl⟩
  ·rintro ⟨k,hk,hb,rfl⟩
   cases k with
   | zero=>rw [xvD] at hb; cases hb
   | succ k=>exact ⟨k,List.mem_filter.2 ⟨List.mem_range.2 (by omega),by rw [xsT] at hb; exact hb⟩,rfl⟩
 rw [this]
theorem xDB {x y:List (List Int)} (hl:x.length=y.length) (h1:∀ a∈x,a.length=3) (h2:∀ a∈y,a.length=3):xqg x y=decide (xwM x y<0):=by
 induction x generalizing y with
 | nil =>
  cases y with
  | nil=>rfl
  | cons=>simp at hl
 | cons a x ih =>
  cases y with
  | nil=>simp at hl
  | cons b y =>
   show (if eq3 a b=true then xqg x y else decide (cmp3 a b<0))=_
   unfold xwM
   by_cases e:eq3 a b=true
   ·rw [if_pos e,if_pos ((xDh a b).1 e)]
    exact ih (by simpa using hl) (fun c hc=>h1 c (List.mem_cons_of_mem _ hc)) (fun c hc=>h2 c (List.mem_cons_of_mem _ hc))
   ·rw [if_neg e,if_neg (fun h=>e ((xDh a b).2 h))]
noncomputable def xl9 (up:List (List Int)) (i:Nat) (s:List (List Int)):List (List Int):=if xek (byF (2*(i+1)) up) s=true then byF (2*(i+1)) up else s
theorem xxe (up:List (List Int)):∀ n,(∃ m,m≤n∧upto (xl9 up) n (byF 0 up)=byF (2*m) up)∧∀ m,m≤n→xek (byF (2*m) up) (upto (xl9 up) n (byF 0 up))=false
 | 0=>⟨⟨0,Nat.le_refl _,rfl⟩,fun m hm=>by
  have:m=0:=by omega
  subst this
  exact xrh _⟩
 | n+1=>by
  obtain ⟨⟨m0,hm0,e0⟩,h0⟩:=xxe up n
  have es:upto (xl9 up) (n+1) (byF 0 up)=xl9 up n (upto (xl9 up) n (byF 0 up)):=rfl
  rw [es]
  generalize hs:upto (xl9 up) n (byF 0 up)=s at e0 h0
  unfold xl9
  by_cases hb:xek (byF (2*(n+1)) up) s=true
  ·rw [if_pos hb]
   refine ⟨⟨n+1,Nat.le_refl _,rfl⟩,fun m hm=>?_⟩
   by_cases e:m=n+1
   ·rw [e]; exact xrh _
   ·cases hx:xek (byF (2*m) up) (byF (2*(n+1)) up) with
    | false=>rfl
    | true =>
     have:=xng hx hb
     rw [h0 m (by omega)] at this
     cases this
  ·rw [if_neg hb]
   refine ⟨⟨m0,by omega,e0⟩,fun m hm=>?_⟩
   by_cases e:m=n+1
   ·rw [e]; simpa using hb
   ·exact h0 m (by omega)
theorem xBt {x y:List (List Int)} (h1:∀ a∈x,a.length=3) (h2:∀ a∈y,a.length=3) (h:xek x y=false) (k:xek y x=false):x=y:=by
 rw [xt0] at h k
 unfold xt1 at h k
 rw [Bool.or_eq_false_iff] at h k
 have l1:=of_decide_eq_false h.1
 have l2:=of_decide_eq_false k.1
 have hl:x.length=y.length:=by omega
 have h':=h.2
 have k':=k.2
 rw [show (x.length==y.length)=true from beq_iff_eq.2 hl,Bool.true_and] at h'
 rw [show (y.length==x.length)=true from beq_iff_eq.2 hl.symm,Bool.true_and] at k'
 rcases xAk hl h1 h2 with h | h | h
 ·exact absurd h (of_decide_eq_false h')
 ·exact h
 ·exact absurd h (of_decide_eq_false k')
theorem xz9 (m k:Nat):(2*(m/2)).testBit (k+1)=m.testBit (k+1):=by rw [xsT,Nat.testBit_succ]
theorem xEl {up:List (List Int)} (hs:xnj up):∃ m,m<256∧fewF up=byF (2*m) up:=by
 obtain ⟨⟨m,hm,e⟩,hb⟩:=xp1 hs.ok
 cases h0:m.testBit 0 with
 | false =>
  refine ⟨m/2,by omega,?_⟩
  have:m%2=0:=by
   rw [Nat.testBit_zero] at h0
   have:=of_decide_eq_false h0
   omega
  rw [e,show 2*(m/2)=m by omega]
 | true =>
  exfalso
  have hlt:(byF (2*(m/2)) up).length<(byF m up).length:=by
   refine xmB (xnf _ _) (y:=rOn 0) ((xh7 m up _).2 (.inl ⟨0,by omega,h0,rfl⟩)) (fun h=>?_) fun x hx=>?_
   ·rcases (xh7 _ _ _).1 h with ⟨k,hk,hb,he⟩ | ⟨g,_,_,he⟩
    ·have:k=0:=by
      have h1:(0:Int)=(k:Int):=congrArg (fun z:List Int=>col z 1) he
      omega
     subst this
     rw [xvD] at hb; cases hb
    ·exact xCw g 0 he.symm
   ·rcases (xh7 _ _ _).1 hx with ⟨k,hk,hb,rfl⟩ | ⟨g,hg,hc,rfl⟩
    ·cases k with
     | zero=>rw [xvD] at hb; cases hb
     | succ k=>exact (xh7 _ _ _).2 (.inl ⟨k+1,hk,by rw [← xz9]; exact hb,rfl⟩)
    ·refine (xh7 _ _ _).2 (.inr ⟨g,hg,?_,rfl⟩)
     rw [cov2 (hs g hg).1] at hc
     unfold cov
     have h1:=(hs g hg).1
     have:(col g 0).toNat=((col g 0).toNat-1)+1:=by omega
     rw [this,← xz9,xsT]
     exact hc
  have hbb:=hb (2*(m/2)) (by omega)
  rw [e] at hbb
  unfold xek at hbb
  rw [Bool.or_eq_false_iff] at hbb
  exact of_decide_eq_false hbb.1 hlt
theorem xqz {up:List (List Int)} (hs:xnj up) (hl:up.length≤1000):xcN up∧xeO up=fewF up:=by
 obtain ⟨w1,w2⟩:=xBA (m:=0) (by omega) hs (by omega)
 have hlen:∀ m,(byF m up).length≤1100:=fun m=>by have:=xhJ m up; omega
 obtain ⟨h1,h2,_⟩:=xmG (step:=xdN up) 255 (fun i (s:List (List Int))=>[.i ((i+1:Nat):Int),.r s]) (xl9 up) (fun i s=>∃ m,s=byF m up) 2 (fun s=>[.i (256:Nat),.r s])
  (fun i s hi ⟨m,hm⟩=>by
   unfold xl9
   split
   ·exact ⟨_,rfl⟩
   ·exact ⟨m,hm⟩)
  (fun i s hi ⟨m,hm⟩=>by
   obtain ⟨x1,x2⟩:=xBA (m:=i+1) (by omega) hs (by omega)
   have hx:=hlen (2*(i+1))
   have hs3:∀ a∈s,a.length=3:=by rw [hm]; exact xsN m up
   unfold xdN
   simp only [gi_z,gr_1,gr_z]
   rw [decide_eq_true (show ((i+1:Nat):Int)<256 by omega),cond_true,xaa x1,x2]
   have hx3:=xsN (2*(i+1)) up
   unfold xl9
   generalize byF (2*(i+1)) up=x at hx hx3
   have hpre:(decide ((x.length:Int)<(s.length:Int))=false)→(((x.length:Int)==(s.length:Int))=true)→xe7 x s:=fun _ h=>(xAF x s (by have:=beq_iff_eq.1 h; omega) (by omega)).1
   have hb:(decide ((x.length:Int)<(s.length:Int))||(x.length:Int)==(s.length:Int)&&xhq x s)=xek x s:=by
    rw [xt0]
    unfold xt1
    have e1:decide ((x.length:Int)<(s.length:Int))=decide (x.length<s.length):=decide_eq_decide.2 (by omega)
    rw [e1]
    by_cases he:x.length=s.length
    ·rw [show ((x.length:Int)==(s.length:Int))=true from beq_iff_eq.2 (by omega),show (x.length==s.length)=true from beq_iff_eq.2 he,(xAF x s he (by omega)).2,xDB he hx3 hs3]
    ·rw [bne (show ¬ (x.length:Int)=(s.length:Int) by omega),show (x.length==s.length)=false from beq_eq_false_iff_ne.2 he]; rfl
   rw [xaa hpre,hb,xbX (by omega)]
   cases xek x s with
   | true=>rw [if_pos rfl]; rfl
   | false=>rw [if_neg (by decide)]; rfl)
  (fun s hI=>by
   unfold xdN
   simp only [gi_z,gr_1,gr_z]
   rfl) (s:=byF 0 up) ⟨0,rfl⟩
 have ei:xeY up=[.i ((0+1:Nat):Int),.r (byF 0 up)]:=by
  unfold xeY
  rw [show xci 0 up=_ from w2]; rfl
 unfold xcN xeO xmh
 rw [ei]
 refine ⟨⟨w1,h1⟩,?_⟩
 rw [h2]
 show upto (xl9 up) 255 (byF 0 up)=fewF up
 obtain ⟨⟨m0,hm0,e0⟩,hb0⟩:=xxe up 255
 obtain ⟨m1,hm1,e1⟩:=xEl hs
 have k1:=(xp1 hs.ok).2 (2*m0) (by omega)
 have k2:=hb0 m1 (by omega)
 rw [← e1] at k2
 rw [← e0] at k1
 exact xBt (by rw [e0]; exact xsN _ _) (by rw [e1]; exact xsN _ _) k1 k2
end Go.Proofs.YtikhnofbbcmpeaaGreat
set_option linter.unusedVariables false
set_option maxRecDepth 100000
namespace Go.Proofs.YtikhnofbbcmpeaaGreat
open Go Go.Sy
theorem xAs (g h:List Int):xeC (col g 0) (col g 1) (col g 2 !=0) (col g 3 !=0) (col h 0) (col h 1) (col h 2 !=0) (col h 3 !=0)=apF g h:=by
 unfold xeC apF
 cases (col g 2 !=0)<;>cases (col g 3 !=0)<;>cases (col h 2 !=0)<;>cases (col h 3 !=0)<;>cases (col g 0==col h 0)<;>cases (col g 1==col h 1)<;>rfl
theorem xF7 {up:List (List Int)} (hok:xr3 up) (hl:up.length≤100000) {i:Nat} (hi:i<up.length):xfE i up∧xgc i up=(up.drop (i+1)).filter (apF up[i]):=by
 have hw:IntKind.i64.wrap ((i:Int)+1)=((i+1:Nat):Int):=xbX (by omega)
 obtain ⟨h1,h2⟩:=xbj (step:=xey i up) up (fun j (s:List (List Int))=>[.i j,.r s]) (fun s x=>.inl (if apF up[i] x=true then s++[x] else s)) (fun j s=>s.length≤j) (fun s=>(2,[.i up.length,.r s])) (i+1)
  (fun j s hj _ hI=>by
   have hr:=xan hj
   have hn:=hok _ (List.getElem_mem hj)
   have hfit:∀ x:List Int,xa5 24 (s.length+[x].length):=fun x=>by unfold xa5 maxLen; simp only [List.length_cons,List.length_nil]; omega
   refine ⟨?_,fun s' hs'=>by cases hs'; exact Nat.le_trans (xpD _ _ _) (by omega)⟩
   unfold xey xpe xk8
   simp only [gi_z,gr_1,gr_z]
   rw [dlt hj,xaa (xan hi),xaa (xan hi),xaa hr,xaa hr,xaa hr,xaa hr,xaa (hfit _),xaC hi,xaC hj,xbX (by omega)]
   have hn':[up[j].getD 0 0,up[j].getD 1 0,bif up[j].getD 2 0 !=0 then 1 else 0,bif up[j].getD 3 0 !=0 then 1 else 0]=up[j]:=hn
   rw [hn',show xeC (up[i].getD 0 0) (up[i].getD 1 0) (up[i].getD 2 0 !=0) (up[i].getD 3 0 !=0) (up[j].getD 0 0) (up[j].getD 1 0) (up[j].getD 2 0 !=0) (up[j].getD 3 0 !=0)=_ from xAs up[i] up[j]]
   cases apF up[i] up[j] with
   | true=>rw [if_pos rfl]; rfl
   | false=>rw [if_neg (by decide)]; rfl)
  (fun j s hj _=>by
   have:j=up.length:=by omega
   subst this
   unfold xey
   simp only [gi_z,gr_1,gr_z,dnlt]) (s:=[]) (Nat.zero_le _)
 have ei:xf7 i up=[.i ((i+1:Nat):Int),.r []]:=by unfold xf7; rw [hw]
 unfold xfE xgc xpf
 rw [ei]
 refine ⟨h1,?_⟩
 rw [h2,xdx,xgp,List.nil_append]
 show gr [.i _,.r (((up.drop (i+1)).filter (apF up[i])).map fun x=>x)] 1=_
 rw [gr_1,gr_z,List.map_id']
theorem xxQ {k:Int→List (List Int)→List (List Int)} {n:Int}:∀ {l:List (List Int)},goP k n l≠[]→∃ i,∃ (h:i<l.length),((fewF ((l.drop (i+1)).filter (apF l[i]))).length:Int)=n-1∧(∀ j (hj:j<l.length),j<i→((fewF ((l.drop (j+1)).filter (apF l[j]))).length:Int)≠n-1) ∧
  goP k n l=[col l[i] 0,col l[i] 1]::k (n-1) ((l.drop (i+1)).filter (apF l[i]))
 | [],h=>absurd rfl h
 | g::r,h=>by
  unfold goP at h ⊢
  by_cases hc:((fewF (r.filter (apF g))).length:Int)=n-1
  ·rw [if_pos hc]
   exact ⟨0,by simp,hc,fun j _ hj=>absurd hj (by omega),rfl⟩
  ·rw [if_neg hc] at h ⊢
   obtain ⟨i,hi,h1,h2,h3⟩:=xxQ h
   refine ⟨i+1,by simpa using hi,h1,fun j hj hlt=>?_,h3⟩
   cases j with
   | zero=>exact hc
   | succ j=>exact h2 j (by simpa using hj) (by omega)
theorem xnj.sub {l l':List (List Int)} (h:xnj l) (hs:∀ x∈l',x∈l):xnj l':=fun g hg=>h g (hs g hg)
theorem xu6 {up:List (List Int)}:∀ (n K:Nat) (out left:List (List Int)),n<K→xnj left→xr3 left→xlY left→left.length≤1000→(fewF left).length=n→out.length+n≤2000 →
  ∃ left',xiK (xda up) (n+1) [.i n,.r out,.r left]=some (3,[.i 0,.r (out++prF K n left),.r left'])
 | 0,0,out,left,h,_,_,_,_,_,_=>by omega
 | n+1,0,out,left,h,_,_,_,_,_,_=>by omega
 | 0,K+1,out,left,_,_,_,_,_,_,_=>by
  refine ⟨left,xjD ?_⟩
  unfold xda
  simp only [gi_z,gr_1,gr_2,gr_z]
  rw [decide_eq_false (by decide:¬ ((0:Nat):Int)>0)]
  show some (3,_)=some (3,_)
  rw [show prF (K+1) ((0:Nat):Int) left=[] from rfl,List.append_nil]
  rfl
 | n+1,K+1,out,left,hK,hs,hok,hu,hl,hf,hout=>by
  obtain ⟨M,m1,m2,m3,m4⟩:=xzJ (K+1) left hs.ok hu (by omega)
  rw [hf] at m3 m4
  have hne:goP (prF K) ((n+1:Nat):Int) left≠[]:=by
   have e:prF (K+1) ((n+1:Nat):Int) left=goP (prF K) ((n+1:Nat):Int) left:=by
    show (if ((n+1:Nat):Int)=0 then [] else goP (prF K) ((n+1:Nat):Int) left)=_
    rw [if_neg (by omega)]
   rw [← e,m4]
   unfold xgK
   intro h
   have:=congrArg List.length h
   rw [List.length_map,m3] at this
   simp at this
  have e1:prF (K+1) ((n+1:Nat):Int) left=goP (prF K) ((n+1:Nat):Int) left:=by
   show (if ((n+1:Nat):Int)=0 then [] else goP (prF K) ((n+1:Nat):Int) left)=_
   rw [if_neg (by omega)]
  obtain ⟨i,hi,h1,h2,h3⟩:=xxQ hne
  have en:((n+1:Nat):Int)-1=(n:Int):=by omega
  have hwn:IntKind.i64.wrap (((n+1:Nat):Int)-1)=(n:Int):=by rw [xcJ (by omega)]; omega
  rw [en] at h1 h2 h3
  have fit:∀ x:List Int,xa5 16 (out.length+[x].length):=fun x=>by unfold xa5 maxLen; simp only [List.length_cons,List.length_nil]; omega
  have hsub:∀ j (hj:j<left.length),∀ x∈(left.drop (j+1)).filter (apF left[j]),x∈left:=fun j hj x hx=>List.mem_of_mem_drop (List.mem_filter.1 hx).1
  have hlen:∀ j (hj:j<left.length),((left.drop (j+1)).filter (apF left[j])).length≤1000:=fun j hj=>Nat.le_trans (List.length_filter_le _ _) (by rw [List.length_drop]; omega)
  obtain ⟨l1,l2⟩:=xcy (step:=xce up [.i ((n+1:Nat):Int),.r out,.r left]) left.length (fun j=>decide (((fewF ((left.drop (j+1)).filter (apF (left.getD j [])))).length:Int)=n)) (fun j=>[.i j])
   (fun j=>[.i j,.r (out++[[col (left.getD j []) 0,col (left.getD j []) 1]]),.r ((left.drop (j+1)).filter (apF (left.getD j [])))]) 0 2 [.i left.length]
   (fun j hj=>by
    obtain ⟨r1,r2⟩:=xF7 hok (by omega) hj
    obtain ⟨f1,f2⟩:=xqz (hs.sub (hsub j hj)) (hlen j hj)
    unfold xce xjV
    simp only [gi_z,gr_1,gr_2,gr_z,hwn]
    rw [r2,f2,dlt hj,xaa r1,xaa f1,xaa (xan hj),xaa (xan hj),xaa (xan hj),xaa (fit _),xaC hj,xaz hj,xbX (by omega)]
    by_cases h:((fewF ((left.drop (j+1)).filter (apF left[j]))).length:Int)=n
    ·rw [decide_eq_true h,h,beq_self_eq_true]
    ·rw [decide_eq_false h,bne h])
   (by
    unfold xce
    simp only [gi_z,gr_1,gr_2,gr_z,dnlt])
  have hfound:xaf (xce up [.i ((n+1:Nat):Int),.r out,.r left]) [.i ((0:Nat):Int)]=(1,[.i i,.r (out++[[col left[i] 0,col left[i] 1]]),.r ((left.drop (i+1)).filter (apF left[i]))]):=by
   rcases l2 with ⟨j,hj,hp,hq,hg⟩ | ⟨hn,hg⟩
   ·have hp:=of_decide_eq_true hp
    rw [xaz hj] at hp
    have:j=i:=by
     rcases Nat.lt_trichotomy j i with h | h | h
     ·exact absurd hp (h2 j hj h)
     ·exact h
     ·have:=of_decide_eq_false (hq i h)
      rw [xaz hi] at this
      exact absurd h1 this
    subst this
    rw [hg,xaz hj]
   ·have:=of_decide_eq_false (hn i hi)
    rw [xaz hi] at this
    exact absurd h1 this
  have hl1:xib up [.i ((n+1:Nat):Int),.r out,.r left]=(1,[.i i,.r (out++[[col left[i] 0,col left[i] 1]]),.r ((left.drop (i+1)).filter (apF left[i]))]):=hfound
  have hstep:xda up [.i ((n+1:Nat):Int),.r out,.r left]=some (0,[.i n,.r (out++[[col left[i] 0,col left[i] 1]]),.r ((left.drop (i+1)).filter (apF left[i]))]):=by
   unfold xda
   rw [hl1]
   simp only [gi_z,gr_1,gr_2,gr_z,hwn]
   rw [decide_eq_true (show ((n+1:Nat):Int)>0 by omega),cond_true,xaa (show xav (xce up [.i ((n+1:Nat):Int),.r out,.r left]) (xg1 up [.i ((n+1:Nat):Int),.r out,.r left]) from l1)]
   rfl
  obtain ⟨left',hi'⟩:=xu6 (up:=up) n K (out++[[col left[i] 0,col left[i] 1]]) ((left.drop (i+1)).filter (apF left[i])) (by omega) (hs.sub (hsub i hi)) (fun x hx=>hok x (hsub i hi x hx))
   (List.Pairwise.filter _ (hu.sublist (List.drop_sublist _ _))) (hlen i hi) (by omega) (by rw [List.length_append,List.length_cons,List.length_nil]; omega)
  refine ⟨left',xjc hstep ?_⟩
  rw [hi',e1,h3,List.append_assoc]
  rfl
theorem xBW {up:List (List Int)} (hs:xnj up) (hok:xr3 up) (hu:xlY up) (hl:up.length≤1000) (hf:(fewF up).length<100):xe2 up∧xhp up=prF 100 ((fewF up).length:Nat) up:=by
 obtain ⟨f1,f2⟩:=xqz hs hl
 obtain ⟨left',h⟩:=xu6 (up:=up) (fewF up).length 100 [] up hf hs hok hu hl rfl (by simp; omega)
 obtain ⟨l1,l2⟩:=xmF h
 have ei:xfj up=[.i ((fewF up).length:Nat),.r [],.r up]:=by unfold xfj; rw [f2]
 unfold xe2 xhp xnP
 rw [ei]
 refine ⟨⟨f1,l1⟩,?_⟩
 rw [l2,List.nil_append]
 rfl
theorem xy3 {uo:List (List Int)} {logs:List ALog} {t dl:Int} {ul:List (List Int)} (hch:chF ul=true):xnj (xc6 uo logs t dl ul):=fun g hg=>by
 obtain ⟨ks,k1,k2,k3⟩:=xnt uo logs t dl ul
 rw [k3] at hg
 obtain ⟨k,hk,rfl⟩:=List.mem_map.1 hg
 obtain ⟨c,hc,_,rfl⟩:=(k2 k).1 hk
 obtain ⟨_,_,_,_,q5,q6⟩:=(xjR hch).2 c hc
 exact ⟨q5,q6⟩
theorem xyD {ow t dl:Int} {uo um ul:List (List Int)} (h1:uo.length≤9223372036854775807) (h2:um.length≤9223372036854775807) (h3:ul.length≤9223372036854775807) (hd:xoV um) (h90:ul.length≤90∨200<ul.length) :
  xd7 ow t dl uo um ul∧xeg ow t dl uo um ul=(if xdS ow t dl uo (xao um) ul=true then fewF (xc6 uo (xao um) t dl ul) else []) ∧
  xe4 ow t dl uo um ul=(if xdS ow t dl uo (xao um) ul=true then prF 100 ((fewF (xc6 uo (xao um) t dl ul)).length:Nat) (xc6 uo (xao um) t dl ul) else []) ∧
  xgf ow t dl uo um ul=if xdS ow t dl uo (xao um) ul=true then 0 else 1:=by
 obtain ⟨c1,c2⟩:=xv7 (ow:=ow) (t:=t) (dl:=dl) h1 h2 h3 hd
 unfold xd7 xeg xe4 xgf
 rw [c2]
 cases hc:xdS ow t dl uo (xao um) ul with
 | false=>exact ⟨⟨c1,fun h=>by cases h⟩,rfl,rfl,rfl⟩
 | true =>
  obtain ⟨a1,a2⟩:=xAE h1 hd hc
  have hch:=(xp9 hc).2.2.1
  obtain ⟨k1,k2,k3⟩:=xpU (uo:=uo) (logs:=xao um) (tm:=t) (dl:=dl) hch
  have hup:=xCQ uo (xao um) t dl ul
  have hglen:=xtH (uo:=uo) (logs:=xao um) (t:=t) (dl:=dl) hch
  have hs1:=xy3 (uo:=uo) (logs:=xao um) (t:=t) (dl:=dl) hch
  have hcl:=(xjR hch).1
  rw [a2]
  generalize xc6 uo (xao um) t dl ul=gs at k1 k2 k3 hup hglen hs1
  have hf:(fewF gs).length<100:=by
   have e1:=xoO gs
   have e2:=xhJ 0 gs
   omega
  obtain ⟨f1,f2⟩:=xqz hs1 (by omega)
  obtain ⟨p1,p2⟩:=xBW hs1 k2 hup (by omega) hf
  refine ⟨⟨c1,fun _=>⟨a1,f1,p1⟩⟩,?_,?_,rfl⟩
  ·rw [if_pos rfl]; exact f2
  ·rw [if_pos rfl]; exact p2
end Go.Proofs.YtikhnofbbcmpeaaGreat
set_option linter.unusedVariables false
set_option maxRecDepth 100000
namespace Go.Proofs.YtikhnofbbcmpeaaGreat
open Go Go.Sy
theorem xEP (g h:List Int):(col g 0==col h 0&&(col g 1==col h 1&&true))=decide (kOf g=kOf h):=xmK g h
theorem xwU (y:List Int) (gs:List (List Int)) (hl:gs.length≤9223372036854775807):xfG (col y 0) (col y 1) gs ∧
  ((∃ i,∃ (h:i<gs.length),kOf gs[i]=kOf y∧xaA (col y 0) (col y 1) gs=(i:Int))∨((∀ g∈gs,kOf g≠kOf y)∧xaA (col y 0) (col y 1) gs = -1)):=by
 obtain ⟨h1,h2⟩:=xcy (step:=xcw (col y 0) (col y 1) gs) gs.length (fun i=>decide (kOf (gs.getD i [])=kOf y)) (fun i=>[.i 0,.i i]) (fun i=>[.i i]) 0 2 [.i 0,.i gs.length]
  (fun i hi=>by
   unfold xcw
   simp only [gi_1,gi_z]
   rw [dlt hi,xaa (xan hi),xaa (xan hi),xaa (xan hi),xaC hi,xaz hi,xbX (by omega)]
   rw [show (gs[i].getD 0 0==col y 0&&(gs[i].getD 1 0==col y 1&&true))=decide (kOf gs[i]=kOf y) from xEP gs[i] y])
  (by unfold xcw; simp only [gi_1,gi_z,dnlt])
 refine ⟨h1,?_⟩
 have e:xaA (col y 0) (col y 1) gs=bif (xaf (xcw (col y 0) (col y 1) gs) [.i 0,.i ((0:Nat):Int)]).fst.beq 1 then gi (xaf (xcw (col y 0) (col y 1) gs) [.i 0,.i ((0:Nat):Int)]).snd 0 else (-1:Int):=rfl
 rw [e]
 rcases h2 with ⟨i,hi,hp,_,hg⟩ | ⟨hn,hg⟩
 ·left
  rw [hg]
  have hp:=of_decide_eq_true hp
  rw [xaz hi] at hp
  exact ⟨i,hi,hp,by show gi [.i (i:Int)] 0=_; rw [gi_z]⟩
 ·right
  rw [hg]
  refine ⟨fun g hg=>?_,rfl⟩
  obtain ⟨i,hi,rfl⟩:=List.getElem_of_mem hg
  have:=of_decide_eq_false (hn i hi)
  rw [xaz hi] at this
  exact this
noncomputable def fI (gs:List (List Int)) (y:List Int):Int:=xaA (col y 0) (col y 1) gs
theorem xFY {gs:List (List Int)} {y:List Int} (hl:gs.length≤9223372036854775807) (h:0≤fI gs y):∃ i,∃ (hi:i<gs.length),fI gs y=(i:Int)∧kOf gs[i]=kOf y:=by
 rcases (xwU y gs hl).2 with ⟨i,hi,h1,h2⟩ | ⟨_,h2⟩
 ·exact ⟨i,hi,h2,h1⟩
 ·have:fI gs y = -1:=h2
  omega
theorem xsC {gs:List (List Int)} (hu:xlY gs) {i j:Nat} (hi:i<gs.length) (hj:j<gs.length):(i<j↔ltK (kOf gs[i]) (kOf gs[j])):=by
 constructor
 ·intro h
  exact List.pairwise_iff_getElem.1 hu i j hi hj h
 ·intro h
  rcases Nat.lt_trichotomy i j with h' | h' | h'
  ·exact h'
  ·subst h'; exact absurd h (xqI _)
  ·exact absurd h (xsA _ _ (List.pairwise_iff_getElem.1 hu j i hj hi h'))
theorem xIg {gs:List (List Int)} (hu:xlY gs) (hl:gs.length≤9223372036854775807) {y:List Int} {i:Nat} (hi:i<gs.length) (hk:kOf gs[i]=kOf y):fI gs y=(i:Int):=by
 rcases (xwU y gs hl).2 with ⟨j,hj,h1,h2⟩ | ⟨h1,_⟩
 ·have:¬ i<j:=fun h=>by have:=(xsC hu hi hj).1 h; rw [hk,h1] at this; exact xqI _ this
  have:¬ j<i:=fun h=>by have:=(xsC hu hj hi).1 h; rw [hk,h1] at this; exact xqI _ this
  have hij:j=i:=by omega
  rw [← hij]; exact h2
 ·exact absurd hk (h1 _ (List.getElem_mem hi))
def xDF (gs pr:List (List Int)):Prop:=∀ k (hk:k<pr.length),0≤fI gs pr[k]∧∀ i (hi:i<pr.length),i<k→fI gs pr[i]<fI gs pr[k]∧apF (gs.getD (fI gs pr[i]).toNat []) (gs.getD (fI gs pr[k]).toNat [])=true
noncomputable def bad2 (gs pr:List (List Int)) (k i:Nat):Bool:=decide (fI gs (pr.getD i [])≥fI gs (pr.getD k []))||!apF (gs.getD (fI gs (pr.getD i [])).toNat []) (gs.getD (fI gs (pr.getD k [])).toNat [])
theorem xDE {gs pr:List (List Int)} (hg:gs.length≤9223372036854775807) (hp:pr.length≤9223372036854775807) {k:Nat} (hk:k<pr.length) (hf:∀ j,j≤k→0≤fI gs (pr.getD j [])) :
  xav (xcK gs pr [.b false,.i k]) (xgI gs pr [.b false,.i k])∧((∃ i,i<k∧bad2 gs pr k i=true∧xho gs pr [.b false,.i k]=(1,[]))∨((∀ i,i<k→bad2 gs pr k i=false)∧xho gs pr [.b false,.i k]=(3,[.b false,.i k]))):=by
 obtain ⟨h1,h2⟩:=xcy (step:=xcK gs pr [.b false,.i k]) k (fun i=>bad2 gs pr k i) (fun i=>[.b false,.i i]) (fun i=>[]) 0 2 [.b false,.i k]
  (fun i hi=>by
   have hi':i<pr.length:=by omega
   have a1:=hf i (by omega)
   have a2:=hf k (Nat.le_refl _)
   rw [xaz hi'] at a1
   rw [xaz hk] at a2
   obtain ⟨x,hx,ex,_⟩:=xFY hg a1
   obtain ⟨z,hz,ez,_⟩:=xFY hg a2
   have r1:inR (fI gs pr[i]) gs:=by rw [ex]; exact xan hx
   have r2:inR (fI gs pr[k]) gs:=by rw [ez]; exact xan hz
   unfold xcK bad2
   simp only [gi_1,gi_z,gb_z]
   rw [decide_eq_true (show (i:Int)<(k:Int) by omega),cond_true,xaa (xan hi'),xaa (xan hi'),xaC hi',xaC hk,xaz hi',xaz hk,xaa (xwU pr[i] gs hg).1]
   have f1:xaA (pr[i].getD 0 0) (pr[i].getD 1 0) gs=fI gs pr[i]:=rfl
   have f2:xaA (pr[k].getD 0 0) (pr[k].getD 1 0) gs=fI gs pr[k]:=rfl
   rw [f1,f2,xaa (fun _=>r1),xaa (fun _=>r1),xaa (fun _=>r2),xaa (fun _=>r2),xbX (by omega)]
   rw [show ∀ g h:List Int,xeC (g.getD 0 0) (g.getD 1 0) (g.getD 2 0 !=0) (g.getD 3 0 !=0) (h.getD 0 0) (h.getD 1 0) (h.getD 2 0 !=0) (h.getD 3 0 !=0)=apF g h from xAs])
  (by
   unfold xcK
   simp only [gi_1,gi_z,gb_z]
   rw [decide_eq_false (show ¬ (k:Int)<(k:Int) by omega)]; rfl)
 refine ⟨h1,?_⟩
 rcases h2 with ⟨i,hi,hb,_,hg'⟩ | ⟨hn,hg'⟩
 ·exact .inl ⟨i,hi,hb,hg'⟩
 ·exact .inr ⟨hn,hg'⟩
open Classical in
noncomputable def xmu (gs pr:List (List Int)) (s:Nat) (x:List Int):Nat ⊕ (Nat×List U):=if fI gs x<0 then .inr (0,[]) else if ∃ i,i<s∧bad2 gs pr s i=true then .inr (1,[]) else .inl (s+1)
theorem xEC {gs pr:List (List Int)} {fin:Nat→Nat×List U} (hf:∀ s,1<(fin s).1):∀ (r:List (List Int)) (s:Nat),pr.drop s=r→((bif (endL fin (runL (xmu gs pr) s r)).1.beq 1 then false else bif (endL fin (runL (xmu gs pr) s r)).1.beq 2 then false else true)=true ↔
  ∀ k,s≤k→k<pr.length→0≤fI gs (pr.getD k [])∧∀ i,i<k→bad2 gs pr k i=false)
 | [],s,hd=>by
  have hs:pr.length≤s:=by
   have:=congrArg List.length hd
   rw [List.length_drop] at this
   simp at this; omega
  have h1:((fin s).1+1).beq 1=false:=xip (by have:=hf s; omega)
  have h2:((fin s).1+1).beq 2=false:=xip (by have:=hf s; omega)
  show (bif ((fin s).1+1).beq 1 then false else bif ((fin s).1+1).beq 2 then false else true)=true↔_
  rw [h1,h2]
  exact ⟨fun _ k h1 h2=>by omega,fun _=>rfl⟩
 | x::r,s,hd=>by
  have hs:s<pr.length:=by
   have:=congrArg List.length hd
   rw [List.length_drop,List.length_cons] at this
   omega
  rw [List.drop_eq_getElem_cons hs] at hd
  obtain ⟨hx,hr⟩:=List.cons.inj hd
  have hgx:pr.getD s []=x:=by rw [xaz hs]; exact hx
  unfold runL
  by_cases h1:fI gs x<0
  ·have e:xmu gs pr s x=.inr (0,[]):=by unfold xmu; rw [if_pos h1]
   rw [e]
   refine ⟨fun h=>(by cases h),fun h=>?_⟩
   have:=(h s (Nat.le_refl _) hs).1
   rw [hgx] at this
   omega
  ·by_cases h2:∃ i,i<s∧bad2 gs pr s i=true
   ·have e:xmu gs pr s x=.inr (1,[]):=by unfold xmu; rw [if_neg h1,if_pos h2]
    rw [e]
    refine ⟨fun h=>(by cases h),fun h=>?_⟩
    obtain ⟨i,hi,hb⟩:=h2
    rw [(h s (Nat.le_refl _) hs).2 i hi] at hb
    cases hb
   ·have e:xmu gs pr s x=.inl (s+1):=by unfold xmu; rw [if_neg h1,if_neg h2]
    rw [e]
    refine (xEC hf r (s+1) hr).trans ?_
    constructor
    ·intro h k hk hk'
     by_cases e:k=s
     ·subst e
      refine ⟨by rw [hgx]; omega,fun i hi=>?_⟩
      cases hb:bad2 gs pr k i with
      | false=>rfl
      | true=>exact absurd ⟨i,hi,hb⟩ h2
     ·exact h k (by omega) hk'
    ·intro h k hk hk'
     exact h k (by omega) hk'
theorem xyn {gs pr:List (List Int)} (hg:gs.length≤9223372036854775807) (hp:pr.length≤9223372036854775807):xfu gs pr∧(xeM gs pr=true↔xDF gs pr):=by
 obtain ⟨h1,h2⟩:=xbj (step:=xbY gs pr) pr (fun i (s:Nat)=>[.b false,.i i]) (xmu gs pr) (fun i s=>s=i∧∀ j,j<i→0≤fI gs (pr.getD j [])) (fun s=>(3,[.b false,.i pr.length])) 0
  (fun i s hi _ ⟨hs,hI⟩=>by
   subst hs
   have hr:=xan hi
   have hgx:pr.getD s []=pr[s]:=xaz hi
   have f2:xaA (pr[s].getD 0 0) (pr[s].getD 1 0) gs=fI gs pr[s]:=rfl
   refine ⟨?_,fun s' hs'=>?_⟩
   ·unfold xbY
    simp only [gi_1,gi_z,gb_z]
    rw [dlt hi,xaa hr,xaa hr,xaC hi,xaa (xwU pr[s] gs hg).1,f2,xbX (by omega)]
    unfold xmu
    by_cases h1:fI gs pr[s]<0
    ·rw [if_pos h1,decide_eq_true h1]; rfl
    ·rw [if_neg h1,decide_eq_false h1,cond_false]
     obtain ⟨l1,l2⟩:=xDE hg hp hi (fun j hj=>by
      by_cases e:j=s
      ·rw [e,hgx]; omega
      ·exact hI j (by omega))
     rw [xaa l1]
     rcases l2 with ⟨j,hj,hb,hq⟩ | ⟨hn,hq⟩
     ·rw [hq,if_pos ⟨j,hj,hb⟩]; rfl
     ·rw [hq,if_neg (fun ⟨j,hj,hb⟩=>by rw [hn j hj] at hb; cases hb)]; rfl
   ·unfold xmu at hs'
    split at hs'
    ·cases hs'
    ·rename_i h1
     split at hs'
     ·cases hs'
     ·cases hs'
      refine ⟨rfl,fun j hj=>?_⟩
      by_cases e:j=s
      ·rw [e,hgx]; omega
      ·exact hI j (by omega))
  (fun i s hi _=>by
   have:i=pr.length:=by omega
   subst this
   unfold xbY
   simp only [gi_1,gi_z,gb_z,dnlt]) (s:=0) ⟨rfl,fun j hj=>by omega⟩
 refine ⟨h1,?_⟩
 have e:xeM gs pr=bif (xaf (xbY gs pr) [.b false,.i ((0:Nat):Int)]).fst.beq 1 then false else bif (xaf (xbY gs pr) [.b false,.i ((0:Nat):Int)]).fst.beq 2 then false else true:=rfl
 rw [e,h2,List.drop_zero,xEC (fun s=>by simp) pr 0 List.drop_zero]
 constructor
 ·intro h k hk
  obtain ⟨g1,g2⟩:=h k (by omega) hk
  rw [xaz hk] at g1
  refine ⟨g1,fun i hi hik=>?_⟩
  have:=g2 i hik
  unfold bad2 at this
  rw [xaz hk,xaz hi,Bool.or_eq_false_iff,Bool.not_eq_false'] at this
  have h3:=of_decide_eq_false this.1
  exact ⟨by omega,this.2⟩
 ·intro h k _ hk
  obtain ⟨g1,g2⟩:=h k hk
  refine ⟨by rw [xaz hk]; exact g1,fun i hi=>?_⟩
  obtain ⟨q1,q2⟩:=g2 i (by omega) hi
  unfold bad2
  rw [xaz hk,xaz (show i<pr.length by omega),q2,decide_eq_false (by omega)]; rfl
theorem xyp {om pr:List (List Int)}:∀ (gs named0:List (List Int)),named0.Pairwise (fun a b=>apF a b=true)→verL om pr named0 gs=(open Classical in if (∀ g∈gs,om.any (canF g)=true)∧(named0++gs.filter fun g=>pr.any (keyB g)).Pairwise (fun a b=>apF a b=true) then some (named0++gs.filter fun g=>pr.any (keyB g)) else none)
 | [],named0,hp=>by
  show some named0=_
  rw [if_pos ⟨fun g hg=>(by cases hg),by simpa using hp⟩]
  simp
 | g::r,named0,hp=>by
  show (if (om.any (canF g))=true then (if pr.any (keyB g)=true then (if named0.any (fun h=>!apF g h)=true then none else verL om pr (named0++[g]) r) else verL om pr named0 r) else none)=_
  by_cases h1:om.any (canF g)=true
  ·rw [if_pos h1]
   have hall:(∀ x∈g::r,om.any (canF x)=true)↔∀ x∈r,om.any (canF x)=true:=⟨fun h x hx=>h x (List.mem_cons_of_mem _ hx),fun h x hx=>by
    rcases List.mem_cons.1 hx with e | hx
    ·rw [e]; exact h1
    ·exact h x hx⟩
   by_cases h2:pr.any (keyB g)=true
   ·rw [if_pos h2,List.filter_cons_of_pos (p:=fun g=>pr.any (keyB g)) h2]
    have happ:named0++g::r.filter (fun g=>pr.any (keyB g))=(named0++[g])++r.filter fun g=>pr.any (keyB g):=by simp
    by_cases h3:named0.any (fun h=>!apF g h)=true
    ·rw [if_pos h3,if_neg]
     rintro ⟨_,hpw⟩
     rw [happ] at hpw
     obtain ⟨h,hh,hb⟩:=List.any_eq_true.1 h3
     have:=(List.pairwise_append.1 (List.pairwise_append.1 hpw).1).2.2 h hh g (List.mem_singleton.2 rfl)
     rw [xAu,this] at hb
     cases hb
    ·rw [if_neg h3]
     have hp':(named0++[g]).Pairwise (fun a b=>apF a b=true):=List.pairwise_append.2 ⟨hp,List.pairwise_singleton _ _,fun a ha b hb=>by
      rw [List.mem_singleton.1 hb,xAu]
      cases hx:apF g a with
      | true=>rfl
      | false=>exact absurd (List.any_eq_true.2 ⟨a,ha,by rw [hx]; rfl⟩) h3⟩
     rw [xyp r (named0++[g]) hp',happ]
     simp only [hall]
   ·rw [if_neg h2,List.filter_cons_of_neg (p:=fun g=>pr.any (keyB g)) h2,xyp r named0 hp]
    simp only [hall]
  ·rw [if_neg h1,if_neg (fun h=>h1 (h.1 g List.mem_cons_self))]
theorem xDu (x y:List Int):cmp2 x y<0↔ltK (kOf x) (kOf y):=by
 unfold cmp2 ltK kOf
 generalize col x 0=a
 generalize col x 1=b
 generalize col y 0=d
 generalize col y 1=e
 show _↔(a<d∨(a=d∧b<e))
 split
 ·omega
 ·split
  ·omega
  ·split
   ·omega
   ·split<;>omega
theorem xxb {pr:List (List Int)}:xjT cfG pr=true↔(pr.map kOf).Pairwise ltK:=by
 rw [xE3]
 constructor
 ·intro h
  have h':=(xkl _ _).1 h
  rw [List.pairwise_map]
  induction pr with
  | nil=>exact List.Pairwise.nil
  | cons x r ih =>
   have ihr:=ih ((xkl _ _).2 fun i hi=>h' (i+1) (by simpa using hi)) fun i hi=>h' (i+1) (by simpa using hi)
   refine List.pairwise_cons.2 ⟨fun y hy=>?_,ihr⟩
   cases r with
   | nil=>cases hy
   | cons z r =>
    have hz:ltK (kOf x) (kOf z):=(xDu _ _).1 (h' 0 (by simp))
    rcases List.mem_cons.1 hy with rfl | hy
    ·exact hz
    ·have:=(List.pairwise_cons.1 ihr).1 y hy
     unfold ltK at *
     omega
 ·intro h
  rw [List.pairwise_map] at h
  exact (xkl _ _).2 fun i hi=>(xDu _ _).2 (xxp h hi)
theorem xCE (g p:List Int):keyB g p=decide (kOf g=kOf p):=xEP g p
theorem xua (g:List Int) (pr:List (List Int)):pr.any (keyB g)=true↔kOf g∈pr.map kOf:=by
 rw [List.any_eq_true,List.mem_map]
 constructor
 ·rintro ⟨p,hp,h⟩
  rw [xCE] at h
  exact ⟨p,hp,(of_decide_eq_true h).symm⟩
 ·rintro ⟨p,hp,h⟩
  exact ⟨p,hp,by rw [xCE,h]; simp⟩
theorem xAV {gs pr:List (List Int)} (hu:xlY gs) (hg:gs.length≤9223372036854775807):xDF gs pr↔(xjT cfG pr=true∧(gs.filter fun g=>pr.any (keyB g)).Pairwise (fun a b=>apF a b=true)∧(gs.filter fun g=>pr.any (keyB g)).length=pr.length):=by
 have hMup:(gs.filter fun g=>pr.any (keyB g)).Pairwise fun a b=>ltK (kOf a) (kOf b):=List.Pairwise.filter _ hu
 have hMk:((gs.filter fun g=>pr.any (keyB g)).map kOf).Pairwise ltK:=List.pairwise_map.2 hMup
 have nd:∀ {l:List Key},l.Pairwise ltK→l.Nodup:=fun h=>h.imp fun h=>xxB h
 constructor
 ·intro h
  have each:∀ k (hk:k<pr.length),∃ i,∃ (hi:i<gs.length),fI gs pr[k]=(i:Int)∧kOf gs[i]=kOf pr[k]:=fun k hk=>xFY hg (h k hk).1
  have hrise:(pr.map kOf).Pairwise ltK:=by
   rw [List.pairwise_map,List.pairwise_iff_getElem]
   intro i k hi hk hik
   obtain ⟨a,ha,ea,ka⟩:=each i hi
   obtain ⟨b,hb,eb,kb⟩:=each k hk
   have:=((h k hk).2 i hi hik).1
   rw [ea,eb] at this
   have:=(xsC hu ha hb).1 (by omega)
   rw [ka,kb] at this
   exact this
  refine ⟨xxb.2 hrise,?_,?_⟩
  ·rw [List.pairwise_iff_getElem]
   intro x y hx hy hxy
   have hlt:=List.pairwise_iff_getElem.1 hMup x y hx hy hxy
   have mx:=List.mem_filter.1 (List.getElem_mem hx)
   have my:=List.mem_filter.1 (List.getElem_mem hy)
   generalize (gs.filter fun g=>pr.any (keyB g))[x]=g at hlt mx ⊢
   generalize (gs.filter fun g=>pr.any (keyB g))[y]=g' at hlt my ⊢
   obtain ⟨p,hp,ep⟩:=List.mem_map.1 ((xua _ _).1 mx.2)
   obtain ⟨p',hp',ep'⟩:=List.mem_map.1 ((xua _ _).1 my.2)
   obtain ⟨i,hi,rfl⟩:=List.getElem_of_mem hp
   obtain ⟨k,hk,rfl⟩:=List.getElem_of_mem hp'
   obtain ⟨a,ha,ea,ka⟩:=each i hi
   obtain ⟨b,hb,eb,kb⟩:=each k hk
   have ga:gs[a]=g:=xz2 hu (List.getElem_mem ha) mx.1 (by rw [ka,ep])
   have gb':gs[b]=g':=xz2 hu (List.getElem_mem hb) my.1 (by rw [kb,ep'])
   have hik:i<k:=by
    rcases Nat.lt_trichotomy i k with h' | h' | h'
    ·exact h'
    ·subst h'
     rw [← ep,← ep'] at hlt
     exact absurd hlt (xqI _)
    ·have:=List.pairwise_iff_getElem.1 hrise k i (by rw [List.length_map]; exact hk) (by rw [List.length_map]; exact hi) h'
     rw [List.getElem_map,List.getElem_map,ep,ep'] at this
     exact absurd hlt (xsA _ _ this)
   have:=((h k hk).2 i hi hik).2
   rw [ea,eb,Int.toNat_natCast,Int.toNat_natCast,xaz ha,xaz hb,ga,gb'] at this
   exact this
  ·have l1:=xrG (nd hMk) (nd hrise) fun x=>?_
   ·rwa [List.length_map,List.length_map] at l1
   ·rw [List.mem_map]
    constructor
    ·rintro ⟨g,hg',rfl⟩
     exact (xua _ _).1 (List.mem_filter.1 hg').2
    ·intro hx
     obtain ⟨p,hp,rfl⟩:=List.mem_map.1 hx
     obtain ⟨k,hk,rfl⟩:=List.getElem_of_mem hp
     obtain ⟨b,hb,eb,kb⟩:=each k hk
     exact ⟨gs[b],List.mem_filter.2 ⟨List.getElem_mem hb,(xua _ _).2 (by rw [kb]; exact hx)⟩,kb⟩
 ·rintro ⟨h1,h2,h3⟩
  have hrise:=xxb.1 h1
  have hkeys:(gs.filter fun g=>pr.any (keyB g)).map kOf=pr.map kOf:=by
   have hsub:∀ x∈(gs.filter fun g=>pr.any (keyB g)).map kOf,x∈pr.map kOf:=fun x hx=>by
    obtain ⟨g,hg',rfl⟩:=List.mem_map.1 hx
    exact (xua _ _).1 (List.mem_filter.1 hg').2
   refine xmt xqI xsA hMk hrise fun x=>⟨hsub x,fun hx=>?_⟩
   refine Classical.byContradiction fun hn=>?_
   have:=xmB (nd hMk) hx hn hsub
   rw [List.length_map,List.length_map,h3] at this
   omega
  have each:∀ k (hk:k<pr.length),∃ i,∃ (hi:i<gs.length),∃ (hM:k<(gs.filter fun g=>pr.any (keyB g)).length),fI gs pr[k]=(i:Int)∧gs[i]=(gs.filter fun g=>pr.any (keyB g))[k]:=fun k hk=>by
   have hM:k<(gs.filter fun g=>pr.any (keyB g)).length:=by omega
   have mm:=(List.mem_filter.1 (List.getElem_mem hM)).1
   obtain ⟨i,hi,ei⟩:=List.getElem_of_mem mm
   have hk':kOf (gs.filter fun g=>pr.any (keyB g))[k]=kOf pr[k]:=by
    have:=List.getElem_map kOf (l:=gs.filter fun g=>pr.any (keyB g)) (h:=by rw [List.length_map]; exact hM)
    rw [← this]
    have e2:=List.getElem_map kOf (l:=pr) (i:=k) (h:=by rw [List.length_map]; exact hk)
    rw [← e2]
    simp only [hkeys]
   exact ⟨i,hi,hM,xIg hu hg hi (by rw [ei]; exact hk'),ei⟩
  intro k hk
  obtain ⟨b,hb,hMb,eb,gb'⟩:=each k hk
  refine ⟨by rw [eb]; omega,fun i hi hik=>?_⟩
  obtain ⟨a,ha,hMa,ea,ga⟩:=each i hi
  have hlt:=List.pairwise_iff_getElem.1 hMup i k hMa hMb hik
  rw [← ga,← gb'] at hlt
  have:=(xsC hu ha hb).2 hlt
  refine ⟨by rw [ea,eb]; omega,?_⟩
  rw [ea,eb,Int.toNat_natCast,Int.toNat_natCast,xaz ha,xaz hb,ga,gb']
  exact List.pairwise_iff_getElem.1 h2 i k hMa hMb hik
theorem xDK {gs om pr:List (List Int)} (hu:xlY gs) (hg:gs.length≤9223372036854775807) (hp:pr.length≤9223372036854775807):(expF gs om&&xeM gs pr&&(om.length:Int)==(pr.length:Int))=verF gs om pr:=by
 have hP:=(xyn (gs:=gs) hg hp).2
 rw [xAV hu hg] at hP
 have hexp:expF gs om=true↔(xjT cfO om=true∧∀ g∈gs,om.any (canF g)=true):=by
  unfold expF
  rw [xyc,Bool.and_eq_true,Bool.not_eq_true',List.any_eq_false]
  constructor
  ·rintro ⟨a,b⟩
   exact ⟨a,fun g hg=>by simpa using b g hg⟩
  ·rintro ⟨a,b⟩
   exact ⟨a,fun g hg=>by rw [b g hg]; decide⟩
 rw [Bool.eq_iff_iff,Bool.and_eq_true,Bool.and_eq_true,hexp,hP,beq_iff_eq]
 unfold verF
 rw [Bool.and_eq_true,Bool.and_eq_true,Bool.and_eq_true,beq_iff_eq,xyp gs [] List.Pairwise.nil]
 by_cases hc:(∀ g∈gs,om.any (canF g)=true)∧([]++gs.filter fun g=>pr.any (keyB g)).Pairwise (fun a b=>apF a b=true)
 ·rw [if_pos hc]
  have hc2:=hc.2
  rw [List.nil_append] at hc2
  simp only [List.nil_append,beq_iff_eq]
  constructor
  ·rintro ⟨⟨⟨a,b⟩,c,d,e⟩,f⟩
   exact ⟨⟨⟨by omega,a⟩,c⟩,e⟩
  ·rintro ⟨⟨⟨a,b⟩,c⟩,d⟩
   exact ⟨⟨⟨b,hc.1⟩,c,hc2,d⟩,by omega⟩
 ·rw [if_neg hc]
  constructor
  ·rintro ⟨⟨⟨a,b⟩,c,d,e⟩,f⟩
   exact absurd ⟨b,by rw [List.nil_append]; exact d⟩ hc
  ·rintro ⟨_,h⟩
   cases h
theorem xAU {ow t dl:Int} {uo um ul om pr:List (List Int)} (h1:uo.length≤9223372036854775807) (h2:um.length≤9223372036854775807) (h3:ul.length≤9223372036854775807) (hd:xoV um) (h4:om.length≤9223372036854775807) (h5:pr.length≤9223372036854775807) :
  xes ow t dl uo um ul om pr∧xgP ow t dl uo um ul om pr=(xdS ow t dl uo (xao um) ul&&verF (xc6 uo (xao um) t dl ul) om pr)∧xgO ow t dl uo um ul om pr=if xdS ow t dl uo (xao um) ul=true then 0 else 1:=by
 obtain ⟨c1,c2⟩:=xv7 (ow:=ow) (t:=t) (dl:=dl) h1 h2 h3 hd
 unfold xes xgP xgO
 rw [c2]
 cases hc:xdS ow t dl uo (xao um) ul with
 | false=>exact ⟨⟨c1,fun h=>by cases h⟩,rfl,rfl⟩
 | true =>
  obtain ⟨a1,a2⟩:=xAE h1 hd hc
  have hch:=(xp9 hc).2.2.1
  have hup:=xCQ uo (xao um) t dl ul
  have hglen:=xtH (uo:=uo) (logs:=xao um) (t:=t) (dl:=dl) hch
  rw [a2]
  obtain ⟨x1,x2⟩:=xzv (xc6 uo (xao um) t dl ul) om (by omega) h4
  refine ⟨⟨c1,fun _=>⟨a1,x1,(xyn (by omega) h5).1⟩⟩,?_,rfl⟩
  rw [x2]
  show (expF (xc6 uo (xao um) t dl ul) om&&xeM (xc6 uo (xao um) t dl ul) pr&&(om.length:Int)==(pr.length:Int))=_
  rw [xDK hup (by omega) h5,Bool.true_and]
end Go.Proofs.YtikhnofbbcmpeaaGreat
set_option linter.unusedVariables false
set_option maxRecDepth 100000
namespace Go.Proofs.YtikhnofbbcmpeaaGreat
open Go Go.Sy
theorem xFa (o:Int) (uo um ul:List (List Int)) (hs:um.length≤9223372036854775807):xgw o uo um ul∧(xdH o uo um ul=true→(ul.length≤16∨200<ul.length)):=by
 have hloop:xav (xd5 o uo um ul) (xhW o uo um ul):=by
  refine (xcy (step:=xd5 o uo um ul) um.length (fun i=>decide (((decL (col (um.getD i []) 1)).length:Int)>40)&&decide (((decL (col (um.getD i []) 1)).length:Int)≤200)) (fun i=>[.b false,.i i]) (fun i=>[]) 0 3 [.b false,.i um.length] (fun i hi=>?_) ?_).1
  ·have hr:=xan hi
   unfold xd5
   simp only [gi_1,gi_z,gb_z]
   rw [dlt hi,xaa hr,xaa hr,xaa hr,xaa (fun _=>hr),xaa (fun _=>hr),xaa hr,xbX (by omega),Int.toNat_natCast]
   show (bif decide (((decL (col (um.getD i []) 1)).length:Int)>40)==true then (bif decide (((decL (col (um.getD i []) 1)).length:Int)≤200) then _ else _) else _)=_
   cases decide (((decL (col (um.getD i []) 1)).length:Int)>40)<;>cases decide (((decL (col (um.getD i []) 1)).length:Int)≤200)<;>rfl
  ·unfold xd5
   simp only [gi_1,gi_z,gb_z,dnlt]
 refine ⟨fun _=>hloop,fun h=>?_⟩
 unfold xdH at h
 by_cases h1:ul.length≤16
 ·exact .inl h1
 ·by_cases h2:200<ul.length
  ·exact .inr h2
  ·have e1:decide ((ul.length:Int)>16)=true:=decide_eq_true (by omega)
   have e2:decide ((ul.length:Int)≤200)=true:=decide_eq_true (by omega)
   rw [e1,e2] at h
   cases h
end Go.Proofs.YtikhnofbbcmpeaaGreat
set_option linter.unusedVariables false
set_option maxRecDepth 100000
namespace Go.Proofs.YtikhnofbbcmpeaaGreat
open Go Go.Sy
theorem xBd {k0 k1 k2 k3 k4 k5 k6 k7 k8 k9:VK} {vs:List Value} {W:World} (h:xf3 W [k0,k1,k2,k3,k4,k5,k6,k7,k8,k9] vs):∃ v0 v1 v2 v3 v4 v5 v6 v7 v8 v9,vs=[v0,v1,v2,v3,v4,v5,v6,v7,v8,v9]∧xbM W k0 v0∧xbM W k1 v1∧xbM W k2 v2∧xbM W k3 v3∧xbM W k4 v4∧xbM W k5 v5∧xbM W k6 v6∧xbM W k7 v7∧xbM W k8 v8∧xbM W k9 v9:=by
 obtain ⟨v,vs',rfl,h0,h⟩:=xgq h
 obtain ⟨u0,u1,u2,u3,u4,u5,u6,u7,u8,rfl,g0,g1,g2,g3,g4,g5,g6,g7,g8⟩:=xC3 h
 exact ⟨v,u0,u1,u2,u3,u4,u5,u6,u7,u8,rfl,h0,g0,g1,g2,g3,g4,g5,g6,g7,g8⟩
theorem xBc {k0 k1 k2 k3 k4 k5 k6 k7 k8 k9 k10:VK} {vs:List Value} {W:World} (h:xf3 W [k0,k1,k2,k3,k4,k5,k6,k7,k8,k9,k10] vs):∃ v0 v1 v2 v3 v4 v5 v6 v7 v8 v9 v10,vs=[v0,v1,v2,v3,v4,v5,v6,v7,v8,v9,v10]∧xbM W k0 v0∧xbM W k1 v1∧xbM W k2 v2∧xbM W k3 v3∧xbM W k4 v4∧xbM W k5 v5∧xbM W k6 v6∧xbM W k7 v7∧xbM W k8 v8∧xbM W k9 v9∧xbM W k10 v10:=by
 obtain ⟨v,vs',rfl,h0,h⟩:=xgq h
 obtain ⟨u0,u1,u2,u3,u4,u5,u6,u7,u8,u9,rfl,g0,g1,g2,g3,g4,g5,g6,g7,g8,g9⟩:=xBd h
 exact ⟨v,u0,u1,u2,u3,u4,u5,u6,u7,u8,u9,rfl,h0,g0,g1,g2,g3,g4,g5,g6,g7,g8,g9⟩
theorem xl8 {eq:List Int→List Int→Bool} (h:∀ x,eq x x=true):∀ l,xl1 eq l l=true
 | []=>rfl
 | x::r=>by show (eq x x&&xl1 eq r r)=true; rw [h x,xl8 h r]; rfl
theorem xF2 (x:List Int):eq1 x x=true:=by unfold eq1; simp
theorem xF1 (x:List Int):eq2 x x=true:=by unfold eq2; simp
theorem xF0 (x:List Int):eq3 x x=true:=by unfold eq3; simp
theorem xDY (o:Int) (l:List (List Int)) (hl:l.length≤9223372036854775807):xgQ o o l l∧xd0 o o l l=true:=by
 obtain ⟨h1,h2⟩:=xo3 (step:=xdB o o l l) (a:=l) (b:=l) (eq:=fun x y=>col x 0==col y 0&&(col x 1==col y 1&&(col x 2==col y 2&&(col x 3==col y 3&&true)))) 1 rfl
  (fun i hi _=>by
   unfold xdB
   simp only [gi_1,gi_z,gb_z]
   rw [dlt hi,xaa (xan hi),xaa (xan hi),xaa (xan hi),xaa (xan hi),xaC hi,xbX (by omega)]
   show (bif !(col l[i] 0==col l[i] 0&&(col l[i] 1==col l[i] 1&&(col l[i] 2==col l[i] 2&&(col l[i] 3==col l[i] 3&&true)))) then _ else _)=_
   cases (col l[i] 0==col l[i] 0&&(col l[i] 1==col l[i] 1&&(col l[i] 2==col l[i] 2&&(col l[i] 3==col l[i] 3&&true))))<;>rfl)
  (by unfold xdB; simp only [gi_1,gi_z,gb_z,dnlt]) (init:=xf6 o o l l) rfl
 refine ⟨fun _=>h1,?_⟩
 unfold xd0
 rw [show (o !=o)=false from bne_self_eq_false' _,show ((l.length:Int) !=(l.length:Int))=false from bne_self_eq_false' _]
 show (bif (xaf (xdB o o l l) (xf6 o o l l)).fst.beq 1 then false else true)=true
 rw [h2]
 exact xl8 (fun x=>by simp) l
theorem xA3 (ow t dl o k n so st sc ss:Int) (uo um ul L om pr:List (List Int)) (h1:uo.length≤9223372036854775807) (h2:um.length≤9223372036854775807) (h3:ul.length≤9223372036854775807) (hL:L.length≤9223372036854775807) (h4:om.length≤9223372036854775807) (h5:pr.length≤9223372036854775807) (hd:xoV um) :
  xbk ow t dl o k n so st sc ss uo um ul L om pr=true∧xaV ow t dl o k n so st sc ss uo um ul L om pr:=by
 obtain ⟨f1,f2⟩:=xFa ow uo um ul h2
 obtain ⟨f3,f4⟩:=xFa o L [] [] (by simp)
 unfold xbk xaV
 rw [xCJ]
 cases hg:(!xdH ow uo um ul||!xdH o L [] []||decide ((om.length:Int)>100)||decide ((pr.length:Int)>100)) with
 | true=>exact ⟨rfl,xz8,f1,fun _=>f3,fun h=>by cases h⟩
 | false =>
  have hfew:xdH ow uo um ul=true:=by
   simp only [Bool.or_eq_false_iff,Bool.not_eq_false'] at hg
   exact hg.1.1.1
  have h90:ul.length≤90∨200<ul.length:=(f2 hfew).imp (fun h=>by omega) id
  obtain ⟨v1,v2⟩:=xgu o L hL
  obtain ⟨rv1,rv2⟩:=xij o L hL
  obtain ⟨a1,a2,a3,a4⟩:=xFb o t k n L hL
  obtain ⟨ra1,ra2,ra3,ra4⟩:=xFq o t k n L hL
  obtain ⟨c1,c2,c3⟩:=xEx o so st sc ss L hL
  obtain ⟨rc1,rc2,rc3⟩:=xBV o so st sc ss L hL
  obtain ⟨d1,d2,d3⟩:=xwV ow o t uo L ul h1 hL h3
  obtain ⟨rd1,rd2,rd3⟩:=xBU ow o t uo L ul h1 hL h3
  obtain ⟨s1,s2,s3⟩:=xAB o t L hL
  obtain ⟨rs1,rs2,rs3⟩:=xBO o t L hL
  obtain ⟨g1,g2,g3⟩:=xDI (ow:=ow) (t:=t) (un:=dl) h1 h2 h3 hd
  obtain ⟨rg1,rg2,rg3⟩:=xD2 (ow:=ow) (t:=t) (dl:=dl) h1 h2 h3 hd
  obtain ⟨e1,e2,e3,e4⟩:=xvB (ow:=ow) (t:=t) (un:=dl) h1 h2 h3 hd h90
  obtain ⟨re1,re2,re3,re4⟩:=xyD (ow:=ow) (t:=t) (dl:=dl) h1 h2 h3 hd h90
  obtain ⟨w1,w2,w3⟩:=xym (ow:=ow) (t:=t) (un:=dl) (om:=om) (pr:=pr) h1 h2 h3 hd h4 h5
  obtain ⟨rw1,rw2,rw3⟩:=xAU (ow:=ow) (t:=t) (dl:=dl) (om:=om) (pr:=pr) h1 h2 h3 hd h4 h5
  have q1:(addL o t k n L).length≤9223372036854775807:=by
   unfold addL
   by_cases h:addE o t k n L=0
   ·rw [if_pos h,List.length_append,List.length_cons,List.length_nil]
    have:L.length<200:=by
     unfold addE at h
     by_cases x1:(valF o L&&lnF t k n)=false
     ·rw [if_pos x1] at h; cases h
     ·rw [if_neg x1] at h
      by_cases x2:ownF o k=false
      ·rw [if_pos x2] at h; cases h
      ·rw [if_neg x2] at h
       by_cases x3:200≤L.length
       ·rw [if_pos x3] at h; cases h
       ·omega
    omega
   ·rw [if_neg h]; simp
  have q2:(if coOk ow o t uo L ul=true then xaD (xnB (xnD o t uo L ul)) else []).length≤9223372036854775807:=by
   by_cases h:coOk ow o t uo L ul=true
   ·rw [if_pos h]
    unfold xaD
    rw [List.length_map]
    have x1:=xmx (xnD o t uo L ul)
    have x2:(xnD o t uo L ul).length≤ul.length:=by
     unfold xnD
     rw [List.length_map]
     exact List.length_filter_le _ _
    omega
   ·rw [if_neg h]; simp
  have q3:(if (valF o L&&tmF t)=true then xaD (xlu t L) else []).length≤9223372036854775807:=by
   by_cases h:(valF o L&&tmF t)=true
   ·rw [if_pos h]
    unfold xaD xlu
    rw [List.length_map]
    have x1:=xmx (xk3 t L)
    have x2:=xjs t L
    omega
   ·rw [if_neg h]; simp
  have qg:∀ h:xdS ow t dl uo (xao um) ul=true,(xc6 uo (xao um) t dl ul).length≤200:=fun h=>xtH (xp9 h).2.2.1
  have q4:(if xdS ow t dl uo (xao um) ul=true then xgK (xc6 uo (xao um) t dl ul) else []).length≤9223372036854775807:=by
   by_cases h:xdS ow t dl uo (xao um) ul=true
   ·rw [if_pos h]
    unfold xgK
    rw [List.length_map]
    have:=qg h
    omega
   ·rw [if_neg h]; simp
  have q5:(if xdS ow t dl uo (xao um) ul=true then fewF (xc6 uo (xao um) t dl ul) else []).length≤9223372036854775807:=by
   by_cases h:xdS ow t dl uo (xao um) ul=true
   ·rw [if_pos h]
    have:=qg h
    have x1:=xoO (xc6 uo (xao um) t dl ul)
    have x2:=xhJ 0 (xc6 uo (xao um) t dl ul)
    omega
   ·rw [if_neg h]; simp
  have q6:(if xdS ow t dl uo (xao um) ul=true then prF 100 ((fewF (xc6 uo (xao um) t dl ul)).length:Nat) (xc6 uo (xao um) t dl ul) else []).length≤9223372036854775807:=by
   by_cases h:xdS ow t dl uo (xao um) ul=true
   ·rw [if_pos h]
    have:=qg h
    have x1:=xqA 100 ((fewF (xc6 uo (xao um) t dl ul)).length:Nat) (xc6 uo (xao um) t dl ul)
    omega
   ·rw [if_neg h]; simp
  have y1:=xDY (if addE o t k n L=0 then o else 0) (addL o t k n L) q1
  have y2:=xug _ (if coOk ow o t uo L ul=true then xaD (xnB (xnD o t uo L ul)) else []) q2
  have y3:=xug _ (if (valF o L&&tmF t)=true then xaD (xlu t L) else []) q3
  have y4:=xh9 _ (if xdS ow t dl uo (xao um) ul=true then xgK (xc6 uo (xao um) t dl ul) else []) q4
  have y5:=xuf _ (if xdS ow t dl uo (xao um) ul=true then fewF (xc6 uo (xao um) t dl ul) else []) q5
  have y6:=xh9 _ (if xdS ow t dl uo (xao um) ul=true then prF 100 ((fewF (xc6 uo (xao um) t dl ul)).length:Nat) (xc6 uo (xao um) t dl ul) else []) q6
  rw [xl8 xF2] at y2 y3
  rw [xl8 xF1] at y4 y6
  rw [xl8 xF0] at y5
  rw [v2,rv2,a2,a3,a4,ra2,ra3,ra4,c2,c3,rc2,rc3,d2,d3,rd2,rd3,s2,s3,rs2,rs3,g2,g3,rg2,rg3,e2,e3,e4,re2,re3,re4,w2,w3,rw2,rw3,y1.2,y2.2,y3.2,y4.2,y5.2,y6.2]
  simp only [beq_self_eq_true,Bool.and_true,cond_false]
  exact ⟨trivial,xz8,f1,fun _=>f3,fun _=>⟨fun _=>v1,fun _=>rv1,a1,ra1,fun _=>y1.1,c1,rc1,d1,rd1,fun _=>y2.1,s1,rs1,fun _=>y3.1,g1,rg1,fun _=>y4.1,e1,re1,fun _=>y5.1,fun _=>y6.1,w1,rw1⟩⟩
end Go.Proofs.YtikhnofbbcmpeaaGreat
