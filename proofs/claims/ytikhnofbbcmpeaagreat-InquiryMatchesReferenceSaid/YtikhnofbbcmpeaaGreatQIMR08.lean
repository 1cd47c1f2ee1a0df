/- Several texts in one (wip/pack.py): XInqLMatchesReferenceD XInqLMatchesReference XInqPa XInqPb XInqPc XInqPd XInqPe XInqPf XInqPg XInqPh XInqPi XInqPj XInqPk XInqPl XInqPm XKoen XInqPn. -/
import Derived.Test.YtikhnofbbcmpeaaGreatRows
import Derived.Test.YtikhnofbbcmpeaaGreatQIMR05
import Derived.Test.YtikhnofbbcmpeaaGreatQIMR07
set_option maxRecDepth 100000
set_option linter.unusedVariables false
namespace Go.Proofs.YtikhnofbbcmpeaaGreat
open Go Go.Sy
noncomputable def xbk (ua uq un ue uu ut ug uh ui uj:Int) (ub um ul uf uk ur:List (List Int)):Bool :=
 bif !xdH ua ub um ul||!xdH ue uf [] []||decide ((↑uk.length:Int)>(100:Int))||decide ((↑ur.length:Int)>(100:Int)) then
 xb1
else
 xb1&&xac ue uf==xaq ue uf &&
                xd0 (xcc ue uq uu ut uf) (xeh ue uq uu ut uf) (xcd ue uq uu ut uf)
                 (xei ue uq uu ut uf) &&
               xcI ue uq uu ut uf==xeP ue uq uu ut uf &&
              xb8 ue ug uh ui uj uf==xdj ue ug uh ui uj uf &&
             xb7 ue ug uh ui uj uf==xdi ue ug uh ui uj uf &&
            xbq (xbf ua ue uq ub uf ul) (xdh ua ue uq ub uf ul) &&
           xbn ua ue uq ub uf ul==xdV ua ue uq ub uf ul &&
          xbq (xbm ue uq uf) (xdT ue uq uf) &&
         xbR ue uq uf==xex ue uq uf &&
        xbe (xcq ua uq un ub um ul) (xfg ua uq un ub um ul) &&
       xdn ua uq un ub um ul==xge ua uq un ub um ul &&
      xbp (xbV ua uq un ub um ul) (xeg ua uq un ub um ul) &&
     xbe (xcn ua uq un ub um ul) (xe4 ua uq un ub um ul) &&
    xde ua uq un ub um ul==xgf ua uq un ub um ul &&
   xcR ua uq un ub um ul uk ur==xgP ua uq un ub um ul uk ur &&
  xdJ ua uq un ub um ul uk ur==xgO ua uq un ub um ul uk ur
def xaV (ua uq un ue uu ut ug uh ui uj:Int) (ub um ul uf uk ur:List (List Int)):Prop :=
 ((xfI)∧((xgw ua ub um ul)∧((((!xdH ua ub um ul)=false)→(xgw ue uf [] []))∧(((!xdH ua ub um ul||!xdH ue uf [] []||decide ((↑uk.length:Int)>(100:Int))||decide ((↑ur.length:Int)>(100:Int)))=false)→(((xb1=true)→(xaJ ue uf))∧(((xb1=true)→(xbs ue uf))∧((xfc ue uq uu ut uf)∧((xhr ue uq uu ut uf)∧((((xb1&&xac ue uf==xaq ue uf)=true)→(xgQ (xcc ue uq uu ut uf) (xeh ue uq uu ut uf) (xcd ue uq uu ut uf) (xei ue uq uu ut uf)))∧((xed ue ug uh ui uj uf)∧((xe6 ue ug uh ui uj uf)∧((xbv ua ue uq ub uf ul)∧((xe5 ua ue uq ub uf ul)∧((((xb1&&xac ue uf==xaq ue uf &&
     xd0 (xcc ue uq uu ut uf) (xeh ue uq uu ut uf) (xcd ue uq uu ut uf)
      (xei ue uq uu ut uf) &&
    xcI ue uq uu ut uf==xeP ue uq uu ut uf &&
   xb8 ue ug uh ui uj uf==xdj ue ug uh ui uj uf &&
  xb7 ue ug uh ui uj uf==xdi ue ug uh ui uj uf) =
 true)→(xdk (xbf ua ue uq ub uf ul) (xdh ua ue uq ub uf ul)))∧((xcm ue uq uf)∧((xe0 ue uq uf)∧((((xb1&&xac ue uf==xaq ue uf &&
       xd0 (xcc ue uq uu ut uf) (xeh ue uq uu ut uf) (xcd ue uq uu ut uf)
        (xei ue uq uu ut uf) &&
      xcI ue uq uu ut uf==xeP ue uq uu ut uf &&
     xb8 ue ug uh ui uj uf==xdj ue ug uh ui uj uf &&
    xb7 ue ug uh ui uj uf==xdi ue ug uh ui uj uf &&
   xbq (xbf ua ue uq ub uf ul) (xdh ua ue uq ub uf ul) &&
  xbn ua ue uq ub uf ul==xdV ua ue uq ub uf ul) =
 true)→(xdk (xbm ue uq uf) (xdT ue uq uf)))∧((xcS ua uq un ub um ul)∧((xfF ua uq un ub um ul)∧((((xb1&&xac ue uf==xaq ue uf &&
         xd0 (xcc ue uq uu ut uf) (xeh ue uq uu ut uf) (xcd ue uq uu ut uf)
          (xei ue uq uu ut uf) &&
        xcI ue uq uu ut uf==xeP ue uq uu ut uf &&
       xb8 ue ug uh ui uj uf==xdj ue ug uh ui uj uf &&
      xb7 ue ug uh ui uj uf==xdi ue ug uh ui uj uf &&
     xbq (xbf ua ue uq ub uf ul) (xdh ua ue uq ub uf ul) &&
    xbn ua ue uq ub uf ul==xdV ua ue uq ub uf ul &&
   xbq (xbm ue uq uf) (xdT ue uq uf) &&
  xbR ue uq uf==xex ue uq uf) =
 true)→(xbE (xcq ua uq un ub um ul) (xfg ua uq un ub um ul)))∧((xbS ua uq un ub um ul)∧((xd7 ua uq un ub um ul)∧((((xb1&&xac ue uf==xaq ue uf &&
           xd0 (xcc ue uq uu ut uf) (xeh ue uq uu ut uf) (xcd ue uq uu ut uf)
            (xei ue uq uu ut uf) &&
          xcI ue uq uu ut uf==xeP ue uq uu ut uf &&
         xb8 ue ug uh ui uj uf==xdj ue ug uh ui uj uf &&
        xb7 ue ug uh ui uj uf==xdi ue ug uh ui uj uf &&
       xbq (xbf ua ue uq ub uf ul) (xdh ua ue uq ub uf ul) &&
      xbn ua ue uq ub uf ul==xdV ua ue uq ub uf ul &&
     xbq (xbm ue uq uf) (xdT ue uq uf) &&
    xbR ue uq uf==xex ue uq uf &&
   xbe (xcq ua uq un ub um ul) (xfg ua uq un ub um ul) &&
  xdn ua uq un ub um ul==xge ua uq un ub um ul) =
 true)→(xbr (xbV ua uq un ub um ul) (xeg ua uq un ub um ul)))∧((((xb1&&xac ue uf==xaq ue uf &&
            xd0 (xcc ue uq uu ut uf) (xeh ue uq uu ut uf) (xcd ue uq uu ut uf)
             (xei ue uq uu ut uf) &&
           xcI ue uq uu ut uf==xeP ue uq uu ut uf &&
          xb8 ue ug uh ui uj uf==xdj ue ug uh ui uj uf &&
         xb7 ue ug uh ui uj uf==xdi ue ug uh ui uj uf &&
        xbq (xbf ua ue uq ub uf ul) (xdh ua ue uq ub uf ul) &&
       xbn ua ue uq ub uf ul==xdV ua ue uq ub uf ul &&
      xbq (xbm ue uq uf) (xdT ue uq uf) &&
     xbR ue uq uf==xex ue uq uf &&
    xbe (xcq ua uq un ub um ul) (xfg ua uq un ub um ul) &&
   xdn ua uq un ub um ul==xge ua uq un ub um ul &&
  xbp (xbV ua uq un ub um ul) (xeg ua uq un ub um ul)) =
 true)→(xbE (xcn ua uq un ub um ul) (xe4 ua uq un ub um ul)))∧((xb2 ua uq un ub um ul uk ur)∧(xes ua uq un ub um ul uk ur))))))))))))))))))))))))))
end Go.Proofs.YtikhnofbbcmpeaaGreat
set_option maxRecDepth 100000
set_option linter.unusedVariables false
namespace Go.Proofs.YtikhnofbbcmpeaaGreat
open Go Go.Sy
theorem xhw (ua uq un ue uu ut ug uh ui uj:Int) (ub um ul uf uk ur:List (List Int)):xam Tryz.prog 6 (xaG Tryz.prog K78 xbt 9 10 [.agg [.int .i64 ua,.sl 0],.sl 1,.sl 2,.int .i64 uq,.int .i64 un,.agg [.int .i64 ue,.sl 3],.int .i64 uu,.int .i64 ut,.agg [.int .i64 ug,.int .i64 uh,.int .i64 ui,.int .u64 uj],.sl 4,.sl 5] ⟨[⟨0,6,false,.row 29 [.int .i64,.int .i64,.int .i64,.int .u64] ub⟩,⟨1,6,false,.nst 24 [.c (.int .i64),.s 29 [.int .i64,.int .i64,.int .i64,.int .u64]] um⟩,⟨2,6,false,.row 41 [.int .i64,.int .i64,.int .i64] ul⟩,⟨3,6,false,.row 29 [.int .i64,.int .i64,.int .i64,.int .u64] uf⟩,⟨4,6,false,.row 80 [.int .i64,.int .i64,.int .i64] uk⟩,⟨5,6,false,.row 52 [.int .i64,.int .i64] ur⟩],6⟩)=some ⟨some (xaV ua uq un ue uu ut ug uh ui uj ub um ul uf uk ur),[],0,[],.bool (xbk ua uq un ue uu ut ug uh ui uj ub um ul uf uk ur)⟩:=by kernel_rfl
noncomputable def xeF:List U→Option Eff
 | [.i ua,.i uq,.i un,.i ue,.i uu,.i ut,.i ug,.i uh,.i ui,.i uj,.r ub,.r um,.r ul,.r uf,.r uk,.r ur]=>some ⟨some (xaV ua uq un ue uu ut ug uh ui uj ub um ul uf uk ur),[],0,[],.bool (xbk ua uq un ue uu ut ug uh ui uj ub um ul uf uk ur)⟩
 | _=>Option.none
noncomputable def K79:Con:=ext Tryz.prog K78 10 [.agg [.int .i64 0,.sl 0],.sl 1,.sl 2,.int .i64 0,.int .i64 0,.agg [.int .i64 0,.sl 3],.int .i64 0,.int .i64 0,.agg [.int .i64 0,.int .i64 0,.int .i64 0,.int .u64 0],.sl 4,.sl 5] [⟨0,0,false,.row 29 [.int .i64,.int .i64,.int .i64,.int .u64] []⟩,⟨1,0,false,.nst 24 [.c (.int .i64),.s 29 [.int .i64,.int .i64,.int .i64,.int .u64]] []⟩,⟨2,0,false,.row 41 [.int .i64,.int .i64,.int .i64] []⟩,⟨3,0,false,.row 29 [.int .i64,.int .i64,.int .i64,.int .u64] []⟩,⟨4,0,false,.row 80 [.int .i64,.int .i64,.int .i64] []⟩,⟨5,0,false,.row 52 [.int .i64,.int .i64] []⟩] xeF
theorem xG4:xaT Tryz.prog K79:=xak xar xG5 (n:=9) rfl rfl fun us x h=>by
 unfold xeF at h
 split at h
 ·cases h; exact ⟨some (xaV _ _ _ _ _ _ _ _ _ _ _ _ _ _ _ _),xhw _ _ _ _ _ _ _ _ _ _ _ _ _ _ _ _,fun h=>h⟩
 ·cases h
end Go.Proofs.YtikhnofbbcmpeaaGreat
set_option linter.unusedVariables false
set_option maxRecDepth 100000
namespace Go.Proofs.YtikhnofbbcmpeaaGreat
open Go Go.Sy
def runL {σ:Type} (f:σ→List Int→σ ⊕ (Nat×List U)):σ→List (List Int)→σ ⊕ (Nat×List U)
 | s,[]=>.inl s
 | s,x::r=>match f s x with
  | .inl s'=>runL f s' r
  | .inr o=>.inr o
def goOn {σ:Type} (mk:σ→List U):σ ⊕ (Nat×List U)→Option (Nat×List U)
 | .inl s=>some (0,mk s)
 | .inr o=>some (o.1+1,o.2)
def endL {σ:Type} (fin:σ→Nat×List U):σ ⊕ (Nat×List U)→Nat×List U
 | .inl s=>((fin s).1+1,(fin s).2)
 | .inr o=>(o.1+1,o.2)
theorem xbj {σ:Type} {step:List U→Option (Nat×List U)} (l:List (List Int)) (mk:Nat→σ→List U) (f:σ→List Int→σ ⊕ (Nat×List U)) (I:Nat→σ→Prop) (fin:σ→Nat×List U) (k0:Nat)
  (hs:∀ i s (hi:i<l.length),k0≤i→I i s→step (mk i s)=goOn (mk (i+1)) (f s l[i])∧∀ s',f s l[i]=.inl s'→I (i+1) s')
  (he:∀ i s,i=max k0 l.length→I i s→step (mk i s)=some ((fin s).1+1,(fin s).2)) {s:σ} (h0:I k0 s) :
  xav step (mk k0 s)∧xaf step (mk k0 s)=endL fin (runL f s (l.drop k0)):=by
 have key:∀ m i s,i+m=l.length→k0≤i→I i s→xiK step (m+1) (mk i s)=some (endL fin (runL f s (l.drop i))):=by
  intro m
  induction m with
  | zero =>
   intro i s hi hk h
   rw [List.drop_eq_nil_of_le (by omega)]
   exact xjD (he i s (by omega) h)
  | succ m ih =>
   intro i s hi hk h
   obtain ⟨h1,h2⟩:=hs i s (by omega) hk h
   rw [List.drop_eq_getElem_cons (by omega:i<l.length)]
   unfold runL
   cases hf:f s l[i] with
   | inl s' =>
    rw [hf] at h1
    exact xjc h1 (ih (i+1) s' (by omega) (by omega) (h2 s' hf))
   | inr o =>
    rw [hf] at h1
    unfold xiK
    rw [h1]; rfl
 by_cases hk:k0≤l.length
 ·exact xmF (key (l.length-k0) k0 s (by omega) (Nat.le_refl _) h0)
 ·rw [List.drop_eq_nil_of_le (by omega)]
  exact xmF (xjD (he k0 s (by omega) h0))
theorem xaz {l:List (List Int)} {i:Nat} (hi:i<l.length):l.getD i []=l[i]:=by rw [List.getD_eq_getElem?_getD,List.getElem?_eq_getElem hi]; rfl
theorem xaC {l:List (List Int)} {i:Nat} (hi:i<l.length):l.getD (i:Int).toNat []=l[i]:=by rw [Int.toNat_natCast]; exact xaz hi
theorem xbX {i:Nat} (h:i<9223372036854775807):IntKind.i64.wrap ((i:Int)+1)=((i+1:Nat):Int):=by
 rw [xcJ (by omega)]; rfl
theorem xlc {step:List U→Option (Nat×List U)} {l:List (List Int)} {p:List Int→Bool} (m:Nat) (hs:∀ i (hi:i<l.length),step [.i 0,.i i]=bif p l[i] then some (1,[.i i]) else some (0,[.i 0,.i ((i+1:Nat):Int)]))
  (he:step [.i 0,.i l.length]=some (m+2,[.i 0,.i l.length])) {init:List U} (hi:init=[.i 0,.i ((0:Nat):Int)]) :
  xav step init∧decide ((bif (xaf step init).fst.beq 1 then gi (xaf step init).snd 0 else (-1:Int))≥0)=l.any p:=by
 subst hi
 obtain ⟨h1,h2⟩:=xcy (step:=step) l.length (fun i=>p (l.getD i [])) (fun i=>[.i 0,.i i]) (fun i=>[.i i]) 0 (m+1) [.i 0,.i l.length]
  (fun i hi=>by rw [hs i hi,xaz hi]) he
 refine ⟨h1,?_⟩
 rcases h2 with ⟨i,hi,hp,_,hg⟩ | ⟨hn,hg⟩
 ·rw [hg]
  have:l.any p=true:=List.any_eq_true.2 ⟨l[i],List.getElem_mem hi,by rw [← xaz hi]; exact hp⟩
  rw [this]
  show decide ((bif true then gi [.i (i:Int)] 0 else (-1:Int))≥0)=true
  rw [cond_true,gi_z]
  exact decide_eq_true (by omega)
 ·rw [hg]
  have:l.any p=false:=List.any_eq_false.2 fun x hx=>by
   obtain ⟨i,hi,rfl⟩:=List.getElem_of_mem hx
   have:=hn i hi
   simp only [xaz hi] at this
   simp [this]
  rw [this]
  show decide ((bif Nat.beq (m+1+1) 1 then gi [.i 0,.i (l.length:Int)] 0 else (-1:Int))≥0)=false
  rfl
def mixD (h x:Int):Int :=
 bXor IntKind.u64 (IntKind.u64.wrap (bXor IntKind.u64 h (IntKind.u64.wrap x)*11507291218515648293)) ((IntKind.u64.wrap (bXor IntKind.u64 h (IntKind.u64.wrap x)*11507291218515648293)).fdiv ((2:Int) ^ min (Int.toNat (32:Int)) IntKind.u64.bits))
def digF (l:List Int):Int:=l.foldl mixD (IntKind.u64.wrap (11400714819323198485+IntKind.u64.wrap l.length))
theorem xdx {σ:Type} (g:σ→List Int→σ):∀ (l:List (List Int)) (s:σ),runL (fun s x=>.inl (g s x)) s l=.inl (l.foldl g s)
 | [],s=>rfl
 | x::r,s=>xdx g r (g s x)
theorem xDm (l:List (List Int)) (hl:l.length≤9223372036854775807):xfC l∧xgW l=digF (l.map fun x=>x.getD 0 0):=by
 obtain ⟨h1,h2⟩:=xbj (step:=xdR l) l (fun i (s:Int)=>[.i s,.i i]) (fun s x=>.inl (mixD s (x.getD 0 0))) (fun _ _=>True) (fun s=>(1,[.i s,.i (l.length:Int)])) 0
  (fun i s hi _ _=>⟨by
   unfold xdR xm8
   simp only [gi_z,gi_1,dlt hi,xaa (xan hi),xaa (show (0:Int)≤32 by decide),xbX (show i<9223372036854775807 by omega),xaC hi]
   rfl,fun _ _=>trivial⟩)
  (fun i s hi _=>by
   have:i=l.length:=by omega
   subst this
   unfold xdR
   simp only [gi_z,gi_1,dnlt]) (s:=IntKind.u64.wrap (11400714819323198485+IntKind.u64.wrap l.length)) trivial
 refine ⟨h1,?_⟩
 unfold xgW xm9
 have hi:xgL l=[.i (IntKind.u64.wrap (11400714819323198485+IntKind.u64.wrap l.length)),.i ((0:Nat):Int)]:=rfl
 rw [hi,h2,List.drop_zero,xdx]
 unfold digF
 rw [List.foldl_map,List.length_map]
 rfl
def sumF (owner last t k n:Int):Int:=digF [owner,IntKind.i64.wrap last,t,k,n]
theorem xzx (owner last t k n s:Int):xb5 owner last t k n s∧xcA owner last t k n s=sumF owner last t k n:=xDm _ (by simp)
def clsF (k:Int):Int:=if k=1 then 1 else if k=2∨k=3 then 2 else if k=4∨k=5 then 3 else 0
theorem bne {a b:Int} (h:¬ a=b):(a==b)=false:=beq_eq_false_iff_ne.2 h
theorem xsK (k:Int):xcC k=clsF k:=by
 unfold xcC xlL xlK clsF
 by_cases h1:k=1
 ·subst h1; rfl
 by_cases h2:k=2
 ·subst h2; rfl
 by_cases h3:k=3
 ·subst h3; rfl
 by_cases h4:k=4
 ·subst h4; rfl
 by_cases h5:k=5
 ·subst h5; rfl
 rw [bne h1,bne h2,bne h3,bne h4,bne h5,if_neg h1,if_neg (by simp [h2,h3]),if_neg (by simp [h4,h5])]
 rfl
def tmF (t:Int):Bool:=decide (0≤t)&&decide (t≤10000000)
def itF (n:Int):Bool:=decide (1≤n)&&decide (n≤10000)
def lnF (t k n:Int):Bool:=if clsF k=0 then false else if clsF k=3 then tmF t&&n==0 else tmF t&&itF n
def ownF (owner k:Int):Bool:=(owner==0)==(clsF k==1)
theorem xqm (t:Int):xaB t=tmF t:=rfl
theorem xCI (t:Int):xgU t=itF t:=rfl
theorem xCv (t k n:Int):xcp t k n=lnF t k n:=by
 unfold xcp lnF
 rw [xsK,xqm,xCI]
 by_cases h0:clsF k=0
 ·rw [h0]; rfl
 ·by_cases h3:clsF k=3
  ·rw [h3]; rfl
  ·rw [bne h0,bne h3,if_neg h0,if_neg h3]; rfl
theorem xEJ (o k:Int):xbH o k=ownF o k:=by unfold xbH ownF; rw [xsK]
end Go.Proofs.YtikhnofbbcmpeaaGreat
set_option linter.unusedVariables false
set_option maxRecDepth 100000
namespace Go.Proofs.YtikhnofbbcmpeaaGreat
open Go Go.Sy
abbrev col (x:List Int) (j:Nat):Int:=x.getD j 0
def vldF (o:Int):Bool→Int→Int→List (List Int)→Bool
 | _,_,_,[]=>true
 | off,last,now,x::r =>
  if (!lnF (col x 0) (col x 1) (col x 2)||!ownF o (col x 1)||decide (col x 0<now)||col x 3 !=sumF o last (col x 0) (col x 1) (col x 2))=true then false
  else if clsF (col x 1)=3 then (if off=(col x 1==4) then false else vldF o (!off) (col x 3) (col x 0) r)
  else vldF o off (col x 3) (col x 0) r
def valF (o:Int) (l:List (List Int)):Bool:=decide (0≤o)&&decide (o≤8)&&decide (l.length≤200)&&vldF o false 0 0 l
def xl0 (o:Int) (s:Bool×Int×Int) (x:List Int):(Bool×Int×Int) ⊕ (Nat×List U) :=
 if (!lnF (col x 0) (col x 1) (col x 2)||!ownF o (col x 1)||decide (col x 0<s.2.2)||col x 3 !=sumF o s.2.1 (col x 0) (col x 1) (col x 2))=true then .inr (0,[])
 else if clsF (col x 1)=3 then (if s.1=(col x 1==4) then .inr (1,[]) else .inl (!s.1,col x 3,col x 0))
 else .inl (s.1,col x 3,col x 0)
theorem xoY (o:Int) (n:Int):∀ (l:List (List Int)) (s:Bool×Int×Int),
  (bif (endL (fun s:Bool×Int×Int=>(4,[.b false,.b s.1,.i s.2.1,.i s.2.2,.i n])) (runL (xl0 o) s l)).1.beq 1 then false else bif (endL (fun s:Bool×Int×Int=>(4,[.b false,.b s.1,.i s.2.1,.i s.2.2,.i n])) (runL (xl0 o) s l)).1.beq 2 then false else true)=vldF o s.1 s.2.1 s.2.2 l
 | [],s=>rfl
 | x::r,s=>by
  unfold runL vldF
  by_cases h1:(!lnF (col x 0) (col x 1) (col x 2)||!ownF o (col x 1)||decide (col x 0<s.2.2)||col x 3 !=sumF o s.2.1 (col x 0) (col x 1) (col x 2))=true
  ·have e:xl0 o s x=.inr (0,[]):=by unfold xl0; rw [if_pos h1]
   rw [e,if_pos h1]; rfl
  ·rw [if_neg h1]
   by_cases h2:clsF (col x 1)=3
   ·rw [if_pos h2]
    by_cases h3:s.1=(col x 1==4)
    ·have e:xl0 o s x=.inr (1,[]):=by unfold xl0; rw [if_neg h1,if_pos h2,if_pos h3]
     rw [e,if_pos h3]; rfl
    ·have e:xl0 o s x=.inl (!s.1,col x 3,col x 0):=by unfold xl0; rw [if_neg h1,if_pos h2,if_neg h3]
     rw [e,if_neg h3]
     exact xoY o n r _
   ·have e:xl0 o s x=.inl (s.1,col x 3,col x 0):=by unfold xl0; rw [if_neg h1,if_neg h2]
    rw [e,if_neg h2]
    exact xoY o n r _
theorem xAH (o:Int) (l:List (List Int)) (hl:l.length≤9223372036854775807):xav (xcl o l) (xgn o l)∧xiw o l=endL (fun s:Bool×Int×Int=>(4,[.b false,.b s.1,.i s.2.1,.i s.2.2,.i l.length])) (runL (xl0 o) (false,0,0) l):=by
 have h:=xbj (step:=xcl o l) l (fun i (s:Bool×Int×Int)=>[.b false,.b s.1,.i s.2.1,.i s.2.2,.i i]) (xl0 o) (fun _ _=>True) (fun s=>(4,[.b false,.b s.1,.i s.2.1,.i s.2.2,.i l.length])) 0
  (fun i s hi _ _=>⟨by
   unfold xcl xlM
   simp only [gi_4,gi_3,gi_2,gi_1,gi_z,gb_1,gb_z,dlt hi,xaa (xan hi),xbX (show i<9223372036854775807 by omega),xaC hi,xCv,xEJ,(xzx _ _ _ _ _ _).2,xsK]
   rw [xaa (fun _=>(xzx _ _ _ _ _ _).1)]
   generalize l[i]=x
   unfold xl0
   cases h1:(!lnF (col x 0) (col x 1) (col x 2)||!ownF o (col x 1)||decide (col x 0<s.2.2)||col x 3 !=sumF o s.2.1 (col x 0) (col x 1) (col x 2)) with
   | true=>rw [if_pos rfl]; rfl
   | false =>
    rw [if_neg (by decide),cond_false]
    by_cases h2:clsF (col x 1)=3
    ·rw [if_pos h2,h2]
     by_cases h3:s.1=(col x 1==4)
     ·rw [if_pos h3,h3]; simp only [beq_self_eq_true,cond_true]; rfl
     ·rw [if_neg h3]
      have:(s.1==(col x 1==4))=false:=by simpa using h3
      rw [this]; rfl
    ·rw [if_neg h2]
     rw [bne h2]; rfl,fun _ _=>trivial⟩)
  (fun i s hi _=>by
   have:i=l.length:=by omega
   subst this
   unfold xcl
   simp only [gi_4,gi_3,gi_2,gi_1,gi_z,gb_1,gb_z,dnlt]) (s:=(false,0,0)) trivial
 rw [List.drop_zero] at h
 exact h
theorem xgu (o:Int) (l:List (List Int)) (hl:l.length≤9223372036854775807):xaJ o l∧xac o l=valF o l:=by
 obtain ⟨h1,h2⟩:=xAH o l hl
 refine ⟨fun _=>h1,?_⟩
 unfold xac valF
 rw [h2]
 have:=xoY o l.length l (false,0,0)
 rw [this]
 by_cases h0:0≤o
 ·by_cases h8:o≤8
  ·by_cases h200:l.length≤200
   ·simp [h0,h8,h200,show ¬ o<0 by omega,show ¬ o>8 by omega,show ¬ ((l.length:Int)>200) by omega]
   ·simp [h0,h8,h200,show ((l.length:Int)>200) by omega]
  ·simp [h8,show o>8 by omega]
 ·simp [h0,show o<0 by omega]
def onF (t:Int):Bool→List (List Int)→Bool
 | b,[]=>b
 | b,x::r=>if col x 0>t then b else onF t (if clsF (col x 1)=3 then col x 1==5 else b) r
def xpu (t:Int) (s:Bool) (x:List Int):Bool ⊕ (Nat×List U):=if col x 0>t then .inr (2,[.b s]) else .inl (if clsF (col x 1)=3 then col x 1==5 else s)
theorem xva (t n:Int):∀ (l:List (List Int)) (s:Bool),
  (bif (endL (fun s:Bool=>(3,[.i n,.b s])) (runL (xpu t) s l)).1.beq 3 then gb (endL (fun s:Bool=>(3,[.i n,.b s])) (runL (xpu t) s l)).2 0 else gb (endL (fun s:Bool=>(3,[.i n,.b s])) (runL (xpu t) s l)).2 1)=onF t s l
 | [],s=>rfl
 | x::r,s=>by
  unfold runL onF
  by_cases h:col x 0>t
  ·have e:xpu t s x=.inr (2,[.b s]):=by unfold xpu; rw [if_pos h]
   rw [e,if_pos h]; rfl
  ·have e:xpu t s x=.inl (if clsF (col x 1)=3 then col x 1==5 else s):=by unfold xpu; rw [if_neg h]
   rw [e,if_neg h]
   exact xva t n r _
theorem xCa (o t:Int) (l:List (List Int)) (hl:l.length≤9223372036854775807):xdm o t l∧xaN o t l=onF t true l:=by
 obtain ⟨h1,h2⟩:=xbj (step:=xeG o t l) l (fun i (s:Bool)=>[.i i,.b s]) (xpu t) (fun _ _=>True) (fun s=>(3,[.i l.length,.b s])) 0
  (fun i s hi _ _=>⟨by
   unfold xeG xpu
   simp only [gi_z,gb_1,gb_z,dlt hi,xaa (xan hi),xbX (show i<9223372036854775807 by omega),xaC hi,xsK]
   generalize l[i]=x
   by_cases h1:col x 0>t
   ·rw [if_pos h1,decide_eq_true h1]; rfl
   ·rw [if_neg h1,decide_eq_false h1]
    by_cases h2:clsF (col x 1)=3
    ·rw [if_pos h2,h2]; rfl
    ·rw [if_neg h2,bne h2]; rfl,fun _ _=>trivial⟩)
  (fun i s hi _=>by
   have:i=l.length:=by omega
   subst this
   unfold xeG
   simp only [gi_z,gb_1,gb_z,dnlt]) (s:=true) trivial
 rw [List.drop_zero] at h2
 refine ⟨h1,?_⟩
 unfold xaN xiL
 have hi:xhx o t l=[.i ((0:Nat):Int),.b true]:=rfl
 rw [hi,h2]
 exact xva t l.length l true
def xl3 (j:Nat) (d:Int) (l:List (List Int)):Int:=match l.getLast? with | some x=>col x j | none=>d
theorem xyT (o:Int) (l:List (List Int)) (hl:l.length≤9223372036854775807):xcb o l∧xbb o l=xl3 0 (-1) l∧xba o l=xl3 3 0 l:=by
 unfold xcb xbb xmQ xba xmP xl3
 by_cases h:l.length=0
 ·have:l=[]:=List.eq_nil_of_length_eq_zero h
  subst this
  refine ⟨fun h=>?_,rfl,rfl⟩
  simp at h
 ·have hw:IntKind.i64.wrap ((l.length:Int)-1)=((l.length-1:Nat):Int):=by rw [xcJ (by omega)]; omega
  have hr:inR (IntKind.i64.wrap ((l.length:Int)-1)) l:=by rw [hw]; exact xan (by omega)
  have hd:decide ((l.length:Int)>0)=true:=decide_eq_true (by omega)
  have hg:l.getLast?=some l[l.length-1]:=by rw [List.getLast?_eq_getElem?,List.getElem?_eq_getElem (by omega)]
  refine ⟨fun _=>⟨hr,hr,hr,hr,hr,hr⟩,?_,?_⟩
  ·rw [hd,cond_true,hw,xaC (by omega),hg]
  ·rw [hd,cond_true,hw,xaC (by omega),hg]
def xw9 (n t:Int) (l:List (List Int)):Bool:=l.any fun x=>col x 2==n&&(decide (t<0)||col x 0==t)
theorem xvP (o n t:Int) (l:List (List Int)) (hl:l.length≤9223372036854775807):xcP o n t l∧xaS o n t l=xw9 n t l :=
 xlc (step:=xdP o n t l) (p:=fun x=>col x 2==n&&(decide (t<0)||col x 0==t)) 1
  (fun i hi=>by
   unfold xdP
   simp only [gi_z,gi_1,dlt hi,xaa (xan hi),xbX (show i<9223372036854775807 by omega),xaC hi])
  (by unfold xdP; simp only [gi_z,gi_1,dnlt]) rfl
def badC (x:List Int):Bool:=!tmF (col x 2)||!itF (col x 1)||decide (col x 0<1)||decide (col x 0>8)
def chF (l:List (List Int)):Bool:=decide (l.length≤200)&&!l.any badC
theorem xkZ (l:List (List Int)) (hl:l.length≤9223372036854775807):xbQ l∧xaH l=chF l:=by
 obtain ⟨h1,h2⟩:=xlc (step:=xcD l) (l:=l) (p:=badC) 1
  (fun i hi=>by
   unfold xcD
   simp only [gi_z,gi_1,dlt hi,xaa (xan hi),xbX (show i<9223372036854775807 by omega),xaC hi,xqm,xCI]
   rfl)
  (by unfold xcD; simp only [gi_z,gi_1,dnlt]) (init:=xfn l) rfl
 refine ⟨fun _=>h1,?_⟩
 unfold xaH chF xhy
 rw [h2]
 congr 1
 exact decide_eq_decide.2 (by omega)
def hasN (n:Int) (l:List (List Int)):Bool:=l.any fun x=>n==col x 0
theorem xzc (n:Int) (l:List (List Int)) (hl:l.length≤9223372036854775807):xbh n l∧xb4 n l=hasN n l :=
 xlc (step:=xbi n l) (p:=fun x=>n==col x 0) 1
  (fun i hi=>by
   unfold xbi
   simp only [gi_z,gi_1,dlt hi,xaa (xan hi),xbX (show i<9223372036854775807 by omega),xaC hi])
  (by unfold xbi; simp only [gi_z,gi_1,dnlt]) rfl
end Go.Proofs.YtikhnofbbcmpeaaGreat
set_option linter.unusedVariables false
set_option maxRecDepth 100000
namespace Go.Proofs.YtikhnofbbcmpeaaGreat
open Go Go.Sy
theorem xmt {α:Type} {lt:α→α→Prop} (irr:∀ a,¬ lt a a) (asym:∀ a b,lt a b→¬ lt b a):∀ {l l':List α},l.Pairwise lt→l'.Pairwise lt→(∀ x,x∈l↔x∈l')→l=l'
 | [],[],_,_,_=>rfl
 | [],y::r,_,_,h=>by have:=(h y).2 List.mem_cons_self; cases this
 | x::r,[],_,_,h=>by have:=(h x).1 List.mem_cons_self; cases this
 | x::r,y::r',h1,h2,h=>by
  obtain ⟨a1,a2⟩:=List.pairwise_cons.1 h1
  obtain ⟨b1,b2⟩:=List.pairwise_cons.1 h2
  have e:x=y:=by
   rcases List.mem_cons.1 ((h x).1 List.mem_cons_self) with e | hx
   ·exact e
   ·rcases List.mem_cons.1 ((h y).2 List.mem_cons_self) with e | hy
    ·exact e.symm
    ·exact absurd (b1 x hx) (asym _ _ (a1 y hy))
  subst e
  rw [xmt irr asym a2 b2 fun z=>⟨fun hz=>?_,fun hz=>?_⟩]
  ·rcases List.mem_cons.1 ((h z).1 (List.mem_cons_of_mem _ hz)) with e | h'
   ·exact absurd (a1 z hz) (e▸irr z)
   ·exact h'
  ·rcases List.mem_cons.1 ((h z).2 (List.mem_cons_of_mem _ hz)) with e | h'
   ·exact absurd (b1 z hz) (e▸irr z)
   ·exact h'
theorem xyA {l l':List Int} (h1:l.Pairwise (·<·)) (h2:l'.Pairwise (·<·)) (h:∀ x,x∈l↔x∈l'):l=l':=xmt (fun a=>Int.lt_irrefl a) (fun a b h=>by omega) h1 h2 h
theorem xy9:∀ (l:List Int) (p:Option Int),l.Pairwise (·≤·)→(∀ y,p=some y→∀ x∈l,y≤x)→(dd p l).Pairwise (·<·)∧(∀ y,p=some y→∀ x∈dd p l,y<x)∧∀ x,x∈dd p l↔x∈l∧p≠some x
 | [],p,_,_=>⟨List.Pairwise.nil,(fun y _ x hx=>by cases hx),fun x=>⟨(fun h=>by cases h),fun h=>by cases h.1⟩⟩
 | x::r,p,h,hp=>by
  obtain ⟨a1,a2⟩:=List.pairwise_cons.1 h
  obtain ⟨b1,b2,b3⟩:=xy9 r (some x) a2 (fun y hy z hz=>by cases hy; exact a1 z hz)
  unfold dd
  by_cases e:p=some x
  ·rw [if_pos e]
   refine ⟨b1,fun y hy z hz=>?_,fun z=>?_⟩
   ·rw [e] at hy; cases hy
    exact b2 x rfl z hz
   ·rw [b3,e]
    refine ⟨fun h=>⟨List.mem_cons_of_mem _ h.1,h.2⟩,fun h=>⟨?_,h.2⟩⟩
    rcases List.mem_cons.1 h.1 with e' | h'
    ·exact absurd (by rw [e']) h.2
    ·exact h'
  ·rw [if_neg e]
   refine ⟨List.pairwise_cons.2 ⟨fun z hz=>b2 x rfl z hz,b1⟩,fun y hy z hz=>?_,fun z=>?_⟩
   ·have hyx:y<x:=by
     have h1:=hp y hy x List.mem_cons_self
     have h2:y≠x:=fun e'=>e (by rw [hy,e'])
     omega
    rcases List.mem_cons.1 hz with e' | hz
    ·omega
    ·have:=b2 x rfl z hz
     omega
   ·constructor
    ·intro hz
     rcases List.mem_cons.1 hz with e' | hz
     ·subst e'; exact ⟨List.mem_cons_self,e⟩
     ·refine ⟨List.mem_cons_of_mem _ ((b3 z).1 hz).1,fun e'=>?_⟩
      have h1:=hp z e' x List.mem_cons_self
      have h2:=b2 x rfl z hz
      omega
    ·rintro ⟨h1,h2⟩
     by_cases e':z=x
     ·rw [e']; exact List.mem_cons_self
     ·refine List.mem_cons_of_mem _ ((b3 z).2 ⟨?_,fun h=>e' (by cases h; rfl)⟩)
      rcases List.mem_cons.1 h1 with h | h
      ·exact absurd h e'
      ·exact h
def xnB (l:List Int):List Int:=dd none (xhh leI l)
theorem xA0 (l:List Int):(xnB l).Pairwise (·<·):=(xy9 _ none ((xhc xpF xpE l).imp fun h=>by simpa [leI] using h) (fun y hy=>by cases hy)).1
theorem xxt (l:List Int) (x:Int):x∈xnB l↔x∈l:=by
 have:=(xy9 _ none ((xhc xpF xpE l).imp fun h=>by simpa [leI] using h) (fun y hy=>by cases hy)).2.2 x
 unfold xnB
 rw [this,xpI]
 simp
theorem xmx (l:List Int):(xnB l).length≤l.length:=by
 unfold xnB
 refine Nat.le_trans (xp5 _ _) ?_
 rw [xgk]; exact Nat.le_refl _
theorem xB8 (s:List (List Int)):List.take (xgs (xbD s)).toNat (xeI (xbD s))=xaD (xnB (nums s))∧0≤xgs (xbD s)∧xgs (xbD s)≤((xeI (xbD s)).length:Int):=by
 have e1:nums (xbD s)=xhh leI (nums s):=by unfold xbD; rw [xi9]
 have hle:=xp5 (xhh leI (nums s)) none
 unfold xgs xeI
 rw [e1]
 refine ⟨?_,by omega,?_⟩
 ·unfold xaD xnB
  rw [Int.toNat_natCast,List.map_append,List.take_left' (by simp)]
 ·simp [xaD]
  omega
theorem xgp {α β:Type} (p:α→Bool) (g:α→β):∀ (l:List α) (s:List β),l.foldl (fun s x=>if p x=true then s++[g x] else s) s=s++(l.filter p).map g
 | [],s=>by simp
 | x::r,s=>by
  rw [List.foldl_cons,xgp p g r]
  by_cases h:p x=true
  ·rw [if_pos h,List.filter_cons_of_pos h]; simp
  ·rw [if_neg h,List.filter_cons_of_neg h]
theorem xpD {α:Type} (c:Prop) [Decidable c] (s:List α) (a:α):(if c then s++[a] else s).length≤s.length+1:=by
 split
 ·simp
 ·omega
def xk3 (t:Int):List (List Int)→List Int
 | []=>[]
 | x::r=>if col x 0>t then [] else if col x 1=3 then col x 2::xk3 t r else xk3 t r
theorem xjs (t:Int):∀ l,(xk3 t l).length≤l.length
 | []=>Nat.le_refl _
 | x::r=>by
  have:=xjs t r
  unfold xk3
  split
  ·exact Nat.zero_le _
  ·split<;>simp<;>omega
def xrn (t:Int) (s:List (List Int)) (x:List Int):List (List Int) ⊕ (Nat×List U):=if col x 0>t then .inr (2,[.r s]) else .inl (if col x 1=3 then s++[[col x 2]] else s)
theorem xu0 (t n:Int):∀ (l:List (List Int)) (s:List (List Int)),
  (∃ b,endL (fun s:List (List Int)=>(3,[.i n,.r s])) (runL (xrn t) s l)=if b=true then (3,[.r (s++xaD (xk3 t l))]) else (4,[.i n,.r (s++xaD (xk3 t l))]))
 | [],s=>⟨false,by simp [runL,endL,xk3,xaD]⟩
 | x::r,s=>by
  unfold runL xk3
  by_cases h:col x 0>t
  ·have e:xrn t s x=.inr (2,[.r s]):=by unfold xrn; rw [if_pos h]
   exact ⟨true,by rw [e,if_pos h]; simp [endL,xaD]⟩
  ·have e:xrn t s x=.inl (if col x 1=3 then s++[[col x 2]] else s):=by unfold xrn; rw [if_neg h]
   rw [e,if_neg h]
   obtain ⟨b,hb⟩:=xu0 t n r (if col x 1=3 then s++[[col x 2]] else s)
   refine ⟨b,?_⟩
   simp only [hb]
   by_cases h3:col x 1=3
   ·simp only [if_pos h3,xaD,List.map_cons,List.append_assoc,List.cons_append,List.nil_append]
   ·simp only [if_neg h3]
theorem xzy (o t:Int) (l:List (List Int)) (hl:l.length≤1000000):xck o t l∧xdu o t l=xaD (xnB (xk3 t l)):=by
 obtain ⟨h1,h2⟩:=xbj (step:=xdt o t l) l (fun i (s:List (List Int))=>[.i i,.r s]) (xrn t) (fun i s=>s.length≤i) (fun s=>(3,[.i l.length,.r s])) 0
  (fun i s hi _ hI=>by
   have hfit:xa5 8 (s.length+[[col l[i] 2]].length):=by unfold xa5 maxLen; simp only [List.length_cons,List.length_nil]; omega
   refine ⟨?_,fun s' hs'=>?_⟩
   ·unfold xdt xrn
    simp only [gi_z,gr_1,gr_z,dlt hi,xaa (xan hi),xbX (show i<9223372036854775807 by omega),xaC hi]
    rw [xaa hfit]
    generalize l[i]=x
    by_cases h1:col x 0>t
    ·rw [if_pos h1,decide_eq_true h1]; rfl
    ·rw [if_neg h1,decide_eq_false h1]
     by_cases h2:x.getD 1 0=3
     ·rw [if_pos h2,h2]; rfl
     ·rw [if_neg h2,bne h2]; rfl
   ·unfold xrn at hs'
    split at hs'
    ·cases hs'
    ·cases hs'
     exact Nat.le_trans (xpD _ _ _) (by omega))
  (fun i s hi _=>by
   have:i=l.length:=by omega
   subst this
   unfold xdt
   simp only [gi_z,gr_1,gr_z,dnlt]) (s:=[]) (Nat.zero_le _)
 rw [List.drop_zero] at h2
 obtain ⟨b,hb⟩:=xu0 t l.length l []
 have hg:xaM o t l=if b=true then (3,[.r (xaD (xk3 t l))]) else (4,[.i l.length,.r (xaD (xk3 t l))]):=by
  unfold xaM
  have hi:xgl o t l=[.i ((0:Nat):Int),.r []]:=rfl
  rw [hi,h2,hb,List.nil_append]
 have hlen:(xaD (xk3 t l)).length<4611686018427387904:=by
  have:=xjs t l
  simp [xaD]; omega
 obtain ⟨o1,o2,o3⟩:=xB8 (xaD (xk3 t l))
 rw [xi9] at o1
 unfold xck xdu xlF
 rw [hg]
 cases b with
 | true =>
  rw [if_pos rfl]
  exact ⟨⟨h1,fun _=>⟨hlen,o2,o3⟩,fun h=>by cases h⟩,o1⟩
 | false =>
  rw [if_neg (by decide)]
  exact ⟨⟨h1,(fun h=>by cases h),fun _=>⟨hlen,o2,o3⟩⟩,o1⟩
def xlu (t:Int) (l:List (List Int)):List Int:=xnB (xk3 t l)
theorem xAB (o t:Int) (l:List (List Int)) (hl:l.length≤9223372036854775807):xcm o t l∧xbm o t l=(if (valF o l&&tmF t)=true then xaD (xlu t l) else [])∧xbR o t l=if (valF o l&&tmF t)=true then 0 else 1:=by
 obtain ⟨v1,v2⟩:=xgu o l hl
 unfold xcm xbm xbR
 rw [v2,xqm]
 cases hv:valF o l with
 | false=>exact ⟨⟨v1,fun h=>by cases h⟩,rfl,rfl⟩
 | true =>
  have h200:l.length≤200:=by
   unfold valF at hv
   simp only [Bool.and_eq_true,decide_eq_true_eq] at hv
   exact hv.1.2
  obtain ⟨s1,s2⟩:=xzy o t l (by omega)
  cases ht:tmF t with
  | false=>exact ⟨⟨v1,fun h=>by cases h⟩,rfl,rfl⟩
  | true=>exact ⟨⟨v1,fun _=>s1⟩,s2,rfl⟩
theorem xql {o:Int} {l:List (List Int)} (h:valF o l=true):l.length≤200∧0≤o∧o≤8:=by
 unfold valF at h
 simp only [Bool.and_eq_true,decide_eq_true_eq] at h
 exact ⟨h.1.2,h.1.1.1,h.1.1.2⟩
def coP (so t:Int) (uo ship:List (List Int)) (c:List Int):Bool:=col c 0==so&&decide (col c 2≤t)&&xw9 (col c 1) (col c 2) uo&&onF (col c 2) true ship
def xnD (so t:Int) (uo ship up:List (List Int)):List Int:=(up.filter (coP so t uo ship)).map fun c=>col c 1
def coOk (oo so t:Int) (uo ship up:List (List Int)):Bool:=valF oo uo&&valF so ship&&chF up&&tmF t&&oo==0&&so !=0
theorem xwV (oo so t:Int) (uo ship up:List (List Int)) (h1:uo.length≤9223372036854775807) (h2:ship.length≤9223372036854775807) (h3:up.length≤9223372036854775807) :
  xbv oo so t uo ship up∧xbf oo so t uo ship up=(if coOk oo so t uo ship up=true then xaD (xnB (xnD so t uo ship up)) else [])∧xbn oo so t uo ship up=if coOk oo so t uo ship up=true then 0 else 1:=by
 obtain ⟨a1,a2⟩:=xgu oo uo h1
 obtain ⟨b1,b2⟩:=xgu so ship h2
 obtain ⟨c1,c2⟩:=xkZ up h3
 unfold xbv xbf xlO xbn
 rw [a2,b2,c2,xqm]
 have e:(!valF oo uo||!valF so ship||!chF up||!tmF t||oo !=0||so==0)=!coOk oo so t uo ship up:=by
  unfold coOk
  show (!valF oo uo||!valF so ship||!chF up||!tmF t||!(oo==0)||so==0)=!(valF oo uo&&valF so ship&&chF up&&tmF t&&oo==0&&!(so==0))
  cases valF oo uo<;>cases valF so ship<;>cases chF up<;>cases tmF t<;>cases (oo==0)<;>cases (so==0)<;>rfl
 rw [e]
 cases hok:coOk oo so t uo ship up with
 | false=>exact ⟨⟨a1,fun _=>b1,fun _=>c1,fun h=>by cases h⟩,rfl,rfl⟩
 | true =>
  have hlist:up.length≤200:=by
   unfold coOk chF at hok
   simp only [Bool.and_eq_true,decide_eq_true_eq] at hok
   exact hok.1.1.1.2.1
  obtain ⟨g1,g2⟩:=xbj (step:=xdv oo so t uo ship up) up (fun i (s:List (List Int))=>[.i i,.r s]) (fun s x=>.inl (if coP so t uo ship x=true then s++[[col x 1]] else s)) (fun i s=>s.length≤i) (fun s=>(2,[.i up.length,.r s])) 0
   (fun i s hi _ hI=>by
    have hfit:xa5 8 (s.length+[[col up[i] 1]].length):=by unfold xa5 maxLen; simp only [List.length_cons,List.length_nil]; omega
    refine ⟨?_,fun s' hs'=>?_⟩
    ·unfold xdv
     simp only [gi_z,gr_1,gr_z,dlt hi,xaa (xan hi),xbX (show i<9223372036854775807 by omega),xaC hi,(xvP _ _ _ uo h1).2,(xCa _ _ ship h2).2]
     rw [xaa (fun _=>(xvP _ _ _ uo h1).1),xaa (fun _=>(xCa _ _ ship h2).1),xaa hfit]
     generalize up[i]=x
     show (bif coP so t uo ship x then _ else _)=_
     cases coP so t uo ship x
     ·rw [if_neg (by decide)]; rfl
     ·rw [if_pos rfl]; rfl
    ·cases hs'
     exact Nat.le_trans (xpD _ _ _) (by omega))
   (fun i s hi _=>by
    have:i=up.length:=by omega
    subst this
    unfold xdv
    simp only [gi_z,gr_1,gr_z,dnlt]) (s:=[]) (Nat.zero_le _)
  rw [List.drop_zero,xdx,xgp,List.nil_append] at g2
  have hg:xcT oo so t uo ship up=(3,[.i up.length,.r (xaD (xnD so t uo ship up))]):=by
   unfold xcT
   have hi:xgo oo so t uo ship up=[.i ((0:Nat):Int),.r []]:=rfl
   rw [hi,g2]
   unfold xnD xaD
   rw [List.map_map]
   rfl
  have hlen:(xaD (xnD so t uo ship up)).length<4611686018427387904:=by
   have:=List.length_filter_le (coP so t uo ship) up
   simp [xaD,xnD]; omega
  obtain ⟨o1,o2,o3⟩:=xB8 (xaD (xnD so t uo ship up))
  rw [xi9] at o1
  rw [hg]
  exact ⟨⟨a1,fun _=>b1,fun _=>c1,fun _=>⟨g1,hlen,o2,o3⟩⟩,o1,rfl⟩
end Go.Proofs.YtikhnofbbcmpeaaGreat
set_option linter.unusedVariables false
set_option maxRecDepth 100000
namespace Go.Proofs.YtikhnofbbcmpeaaGreat
open Go Go.Sy
def xIh (m k:Nat):Bool:=(bAnd IntKind.i64 ((m:Int).fdiv ((2:Int) ^ min k IntKind.i64.bits)) 1==1)==m.testBit k
theorem xF4:(List.range 512).all (fun m=>(List.range 9).all fun k=>xIh m k)=true:=by decide +kernel
theorem xAq {m k:Nat} (hm:m<512) (hk:k<9):(bAnd IntKind.i64 ((m:Int).fdiv ((2:Int) ^ min k IntKind.i64.bits)) 1==1)=m.testBit k:=by
 have:=List.all_eq_true.1 (List.all_eq_true.1 xF4 m (List.mem_range.2 hm)) k (List.mem_range.2 hk)
 exact eq_of_beq this
def orOk (m k:Nat):Bool:=bOr IntKind.i64 (m:Int) (bShl IntKind.i64 1 (k:Int))==((m ||| 2 ^ k:Nat):Int)
theorem xGk:(List.range 512).all (fun m=>(List.range 9).all fun k=>orOk m k)=true:=by decide +kernel
theorem xGi {m k:Nat} (hm:m<512) (hk:k<9):bOr IntKind.i64 (m:Int) (bShl IntKind.i64 1 (k:Int))=((m ||| 2 ^ k:Nat):Int):=by
 have:=List.all_eq_true.1 (List.all_eq_true.1 xGk m (List.mem_range.2 hm)) k (List.mem_range.2 hk)
 exact eq_of_beq this
def subB (m a:Nat):Bool:=(List.range 9).all fun k=>!m.testBit k||a.testBit k
theorem xpx {m:Nat} (hm:m<512) (i:Nat):(BitVec.ofInt 64 (m:Int)).getLsbD i=(decide (i<64)&&m.testBit i):=by
 have:BitVec.ofInt 64 (m:Int)=BitVec.ofNat 64 m:=by
  apply BitVec.eq_of_toNat_eq
  simp
 rw [this,BitVec.getLsbD_ofNat]
theorem xuY {m:Nat} (hm:m<512) {i:Nat} (hi:9≤i):m.testBit i=false:=by
 refine Nat.testBit_lt_two_pow (Nat.lt_of_lt_of_le hm ?_)
 exact Nat.pow_le_pow_right (n:=2) (by omega) hi
theorem xBz {n:Nat} (h:n<18446744073709551616):IntKind.i64.wrap (n:Int)=0↔n=0:=by
 constructor
 ·intro hw
  simp only [IntKind.wrap,IntKind.bits,IntKind.signed] at hw
  simp at hw
  split at hw<;>omega
 ·rintro rfl; decide
theorem xGq {m a:Nat} (hm:m<512) (ha:a<512):(bNot IntKind.i64 (m:Int) (a:Int) !=0)=!subB m a:=by
 have key:(BitVec.ofInt 64 (m:Int) &&& ~~~(BitVec.ofInt 64 (a:Int)))=0#64↔subB m a=true:=by
  constructor
  ·intro h
   refine List.all_eq_true.2 fun k hk=>?_
   have hk:=List.mem_range.1 hk
   have h1:=congrArg (fun v=>v.getLsbD k) h
   simp only [BitVec.getLsbD_and,BitVec.getLsbD_not,xpx hm,xpx ha,BitVec.getLsbD_zero] at h1
   have h64:k<64:=by omega
   simp only [h64,decide_true,Bool.true_and] at h1
   cases h2:m.testBit k<;>cases h3:a.testBit k<;>simp_all
  ·intro h
   apply BitVec.eq_of_getLsbD_eq
   intro i hi
   simp only [BitVec.getLsbD_and,BitVec.getLsbD_not,xpx hm,xpx ha,BitVec.getLsbD_zero]
   by_cases h9:i<9
   ·have:=List.all_eq_true.1 h i (List.mem_range.2 h9)
    cases h2:m.testBit i<;>cases h3:a.testBit i<;>simp_all
   ·rw [xuY hm (by omega)]; simp
 have hlt:(BitVec.ofInt 64 (m:Int) &&& ~~~(BitVec.ofInt 64 (a:Int))).toNat<18446744073709551616:=BitVec.isLt _
 have e:bNot IntKind.i64 (m:Int) (a:Int)=IntKind.i64.wrap ((BitVec.ofInt 64 (m:Int) &&& ~~~(BitVec.ofInt 64 (a:Int))).toNat:Int):=rfl
 cases hs:subB m a with
 | true =>
  have:=key.2 hs
  rw [e,this]; decide
 | false =>
  have hne:¬ (BitVec.ofInt 64 (m:Int) &&& ~~~(BitVec.ofInt 64 (a:Int)))=0#64:=fun h=>by rw [key.1 h] at hs; cases hs
  have h0:¬ (BitVec.ofInt 64 (m:Int) &&& ~~~(BitVec.ofInt 64 (a:Int))).toNat=0:=fun h=>hne (BitVec.eq_of_toNat_eq h)
  have:¬ bNot IntKind.i64 (m:Int) (a:Int)=0:=fun h=>h0 ((xBz hlt).1 (e▸h))
  simp [this]
def ddF (p:List Int):List (List Int)→List (List Int)
 | []=>[]
 | x::r=>if x=p then ddF p r else x::ddF x r
def ddR:List (List Int)→List (List Int)
 | []=>[]
 | x::r=>x::ddF x r
theorem xwI (x:List Int):∀ (l:List (List Int)) (p:List Int),ddF p (l++[x])=if (l.getLast?.getD p)=x then ddF p l else ddF p l++[x]
 | [],p=>by
  show (if x=p then ddF p [] else x::ddF x [])=if p=x then ddF p [] else ddF p []++[x]
  by_cases h:x=p
  ·rw [if_pos h,if_pos h.symm]
  ·rw [if_neg h,if_neg (fun e=>h e.symm)]; rfl
 | y::r,p=>by
  have e:(y::r).getLast?.getD p=r.getLast?.getD y:=by
   cases r with
   | nil=>rfl
   | cons a b=>rw [List.getLast?_cons_cons]; cases h:(a::b).getLast? with
    | none=>simp at h
    | some z=>rfl
  rw [List.cons_append,e]
  unfold ddF
  by_cases h:y=p
  ·subst h
   rw [if_pos rfl,if_pos rfl]
   exact xwI x r y
  ·rw [if_neg h,if_neg h,xwI x r y]
   split<;>rfl
theorem xsJ {l:List (List Int)} {j:Nat} (h0:0<j) (hj:j<l.length):ddR (l.take (j+1))=if l[j]=l[j-1] then ddR (l.take j) else ddR (l.take j)++[l[j]]:=by
 cases l with
 | nil=>simp at hj
 | cons x r =>
  obtain ⟨i,rfl⟩:∃ i,j=i+1:=⟨j-1,by omega⟩
  have hi:i<r.length:=by simpa using hj
  simp only [List.take_succ_cons,ddR]
  rw [List.take_succ_eq_append_getElem hi,xwI]
  have e1:(x::r)[i+1]=r[i]:=rfl
  have e2:((r.take i).getLast?.getD x)=(x::r)[i+1-1]:=by
   cases i with
   | zero=>rfl
   | succ i =>
    have hi':i<r.length:=by omega
    rw [List.take_succ_eq_append_getElem hi',List.getLast?_concat]
    rfl
  rw [e1,e2]
  by_cases h:r[i]=(x::r)[i+1-1]
  ·rw [if_pos h,if_pos h.symm]
  ·rw [if_neg h,if_neg (fun e=>h e.symm)]; rfl
theorem xDo {l:List (List Int)} (h:0<l.length):ddR (l.take 1)=[l[0]]:=by
 cases l with
 | nil=>simp at h
 | cons x r=>rfl
theorem xgr (l:List (List Int)):∀ j,0<j→j≤l.length→(ddR (l.take j)).length≤j∧0<(ddR (l.take j)).length
 | 0,h,_=>by omega
 | 1,_,h=>by rw [xDo (by omega)]; simp
 | j+2,_,h=>by
  obtain ⟨ih1,ih2⟩:=xgr l (j+1) (by omega) (by omega)
  rw [xsJ (by omega) (by omega)]
  split
  ·omega
  ·simp; omega
theorem xwG {l:List (List Int)}:∀ j,0<j→j≤l.length→(∀ i (hi:i<l.length),0<i→i<j→l[i]≠l[i-1])→ddR (l.take j)=l.take j
 | 0,h,_,_=>by omega
 | 1,_,h,_=>by rw [xDo (by omega),List.take_succ_eq_append_getElem (by omega)]; simp
 | j+2,_,h,hne=>by
  rw [xsJ (by omega) (by omega),if_neg (hne (j+1) (by omega) (by omega) (by omega)),xwG (j+1) (by omega) (by omega) (fun i hi h0 h1=>hne i hi h0 (by omega)),← List.take_succ_eq_append_getElem]
theorem xwH:∀ (l:List (List Int)) (p:List Int),l.Pairwise (fun a b=>leL [0,1,2] a b=true)→(∀ x∈l,leL [0,1,2] p x=true)→(∀ x∈p::l,∀ y∈p::l,leL [0,1,2] x y=true→leL [0,1,2] y x=true→x=y) →
  (ddF p l).Pairwise (fun a b=>leL [0,1,2] b a=false)∧(∀ x∈ddF p l,leL [0,1,2] x p=false)∧∀ x,x∈p::ddF p l↔x∈p::l
 | [],p,_,_,_=>⟨List.Pairwise.nil,(fun x hx=>by cases hx),fun x=>Iff.rfl⟩
 | x::r,p,h,hp,ha=>by
  obtain ⟨a1,a2⟩:=List.pairwise_cons.1 h
  by_cases e:x=p
  ·subst e
   have hd:ddF x (x::r)=ddF x r:=by show (if x=x then ddF x r else _)=_; rw [if_pos rfl]
   obtain ⟨b1,b2,b3⟩:=xwH r x a2 a1 (fun y hy z hz=>ha y (List.mem_cons_of_mem _ hy) z (List.mem_cons_of_mem _ hz))
   rw [hd]
   refine ⟨b1,b2,fun z=>?_⟩
   rw [b3 z]
   simp
  ·have hd:ddF p (x::r)=x::ddF x r:=by show (if x=p then ddF p r else _)=_; rw [if_neg e]
   obtain ⟨b1,b2,b3⟩:=xwH r x a2 a1 (fun y hy z hz=>ha y (List.mem_cons_of_mem _ hy) z (List.mem_cons_of_mem _ hz))
   have hxp:leL [0,1,2] x p=false:=by
    cases hx:leL [0,1,2] x p with
    | false=>rfl
    | true=>exact absurd (ha x (by simp) p (by simp) hx (hp x (by simp))) e
   rw [hd]
   refine ⟨List.pairwise_cons.2 ⟨fun z hz=>b2 z hz,b1⟩,fun z hz=>?_,fun z=>?_⟩
   ·rcases List.mem_cons.1 hz with rfl | hz
    ·exact hxp
    ·cases hzp:leL [0,1,2] z p with
     | false=>rfl
     | true =>
      have:=xgi _ _ _ _ hzp (hp x (by simp))
      rw [b2 z hz] at this
      cases this
   ·rw [List.mem_cons,b3 z,← List.mem_cons]
theorem xEn {l:List (List Int)} (h:l.Pairwise (fun a b=>leL [0,1,2] a b=true)) (ha:∀ x∈l,∀ y∈l,leL [0,1,2] x y=true→leL [0,1,2] y x=true→x=y):(ddR l).Pairwise (fun a b=>leL [0,1,2] b a=false)∧∀ x,x∈ddR l↔x∈l:=by
 cases l with
 | nil=>exact ⟨List.Pairwise.nil,fun x=>Iff.rfl⟩
 | cons x r =>
  obtain ⟨a1,a2⟩:=List.pairwise_cons.1 h
  obtain ⟨b1,b2,b3⟩:=xwH r x a2 a1 ha
  exact ⟨List.pairwise_cons.2 ⟨b2,b1⟩,b3⟩
end Go.Proofs.YtikhnofbbcmpeaaGreat
set_option linter.unusedVariables false
set_option maxRecDepth 100000
namespace Go.Proofs.YtikhnofbbcmpeaaGreat
open Go Go.Sy
def rOn (k:Nat):List Int:=[2,(k:Int),0]
def lft (g:List Int):List Int:=if col g 2=0 then [3,col g 0,col g 1] else [1,0,col g 1]
def cov (m:Nat) (g:List Int):Bool:=col g 3 !=0&&m.testBit (col g 0).toNat
def xkb (m:Nat) (up:List (List Int)):List (List Int):=((List.range 9).filter m.testBit).map rOn++(up.filter fun g=>!cov m g).map lft
def byF (m:Nat) (up:List (List Int)):List (List Int):=ddR (xhh (leL [0,1,2]) (xkb m up))
def xep (up:List (List Int)):Prop:=∀ g∈up,0≤col g 0∧col g 0≤8
theorem xqM (g:List Int):(lft g).length=3:=by unfold lft; split<;>rfl
theorem xny (m:Nat) (up:List (List Int)):∀ x∈xkb m up,x.length=3:=by
 intro x hx
 rcases List.mem_append.1 hx with hx | hx
 ·obtain ⟨k,_,rfl⟩:=List.mem_map.1 hx; rfl
 ·obtain ⟨g,_,rfl⟩:=List.mem_map.1 hx; exact xqM g
theorem xnn {a b:List Int} (ha:a.length=3) (hb:b.length=3) (h0:col a 0=col b 0) (h1:col a 1=col b 1) (h2:col a 2=col b 2):a=b:=by
 match a,b,ha,hb with
 | [a0,a1,a2],[b0,b1,b2],_,_ =>
  have h0:a0=b0:=h0
  have h1:a1=b1:=h1
  have h2:a2=b2:=h2
  rw [h0,h1,h2]
theorem xzD {a b:List Int} (ha:a.length=3) (hb:b.length=3):(col a 0==col b 0&&(col a 1==col b 1&&(col a 2==col b 2&&true)))=decide (a=b):=by
 by_cases h:a=b
 ·subst h; simp
 ·rw [decide_eq_false h]
  cases hq:(col a 0==col b 0&&(col a 1==col b 1&&(col a 2==col b 2&&true))) with
  | false=>rfl
  | true =>
   simp only [Bool.and_eq_true,beq_iff_eq] at hq
   exact absurd (xnn ha hb hq.1 hq.2.1 hq.2.2.1) h
theorem xE4 {m:Nat} (hm:m<512) (up:List (List Int)):xav (xcH m up) (xhB m up)∧gr (xlg m up).snd 1=((List.range 9).filter m.testBit).map rOn:=by
 have hu:∀ n,upto (fun i (s:List (List Int))=>if m.testBit i=true then s++[rOn i] else s) n []=((List.range n).filter m.testBit).map rOn:=by
  intro n
  induction n with
  | zero=>rfl
  | succ n ih =>
   show (if m.testBit n=true then upto _ n []++[rOn n] else upto _ n [])=_
   rw [ih,List.range_succ,List.filter_append,List.map_append]
   cases hb:m.testBit n
   ·simp [hb]
   ·simp [hb]
 obtain ⟨h1,h2,_⟩:=xmG (step:=xcH m up) 9 (fun i (s:List (List Int))=>[.i i,.r s]) (fun i s=>if m.testBit i=true then s++[rOn i] else s) (fun i s=>s.length≤i) 2 (fun s=>[.i (9:Nat),.r s])
  (fun i s hi hI=>Nat.le_trans (xpD _ _ _) (by omega))
  (fun i s hi hI=>by
   have hfit:xa5 24 (s.length+[[(2:Int),(i:Int),0]].length):=by unfold xa5 maxLen; simp only [List.length_cons,List.length_nil]; omega
   unfold xcH
   simp only [gi_z,gr_1,gr_z,decide_eq_true (show (i:Int)<9 by omega),cond_true,xaa (show (0:Int)≤(i:Int) by omega),Int.toNat_natCast,xAq hm hi,xbX (show i<9223372036854775807 by omega)]
   rw [xaa hfit]
   cases m.testBit i
   ·rw [if_neg (by decide)]; rfl
   ·rw [if_pos rfl]; rfl)
  (fun s hI=>by
   unfold xcH
   simp only [gi_z,gr_1,gr_z]
   rfl) (s:=[]) (Nat.le_refl _)
 refine ⟨h1,?_⟩
 have:xlg m up=xaf (xcH m up) [.i ((0:Nat):Int),.r []]:=rfl
 rw [this,h2]
 show gr [.i (9:Nat),.r (upto _ 9 [])] 1=_
 rw [gr_1,gr_z,hu]
theorem xGW {m:Nat} (hm:m<512) {up:List (List Int)} (hs:xep up) (hl:up.length≤1000000):xav (xdE m up) (xeH m up)∧gr (xat m up).snd 1=xkb m up:=by
 have h9:(((List.range 9).filter m.testBit).map rOn).length≤9:=by
  rw [List.length_map]
  exact Nat.le_trans (List.length_filter_le _ _) (by simp)
 obtain ⟨h1,h2⟩:=xbj (step:=xdE m up) up (fun i (s:List (List Int))=>[.i i,.r s]) (fun s x=>.inl (if (!cov m x)=true then s++[lft x] else s)) (fun i s=>s.length≤9+i) (fun s=>(3,[.i up.length,.r s])) 0
  (fun i s hi _ hI=>by
   have hfit:∀ x:List Int,xa5 24 (s.length+[x].length):=fun x=>by unfold xa5 maxLen; simp only [List.length_cons,List.length_nil]; omega
   refine ⟨?_,fun s' hs'=>?_⟩
   ·obtain ⟨q1,q2⟩:=hs _ (List.getElem_mem hi)
    unfold xdE xpP
    simp only [gi_z,gr_1,gr_z,dlt hi,xaa (xan hi),xbX (show i<9223372036854775807 by omega),xaC hi]
    generalize hx:up[i]=x at *
    rw [xaa (fun _=>q1),xaa (hfit _),xaa (hfit _)]
    have hb:=xAq hm (show (col x 0).toNat<9 by omega)
    have hb':(bAnd IntKind.i64 ((m:Int).fdiv ((2:Int) ^ min (x.getD 0 0).toNat IntKind.i64.bits)) 1==1)=m.testBit (col x 0).toNat:=hb
    rw [hb']
    show (bif cov m x then _ else _)=_
    cases cov m x with
    | true=>rw [if_neg (by decide)]; rfl
    | false =>
     rw [if_pos (show (!false)=true from rfl)]
     unfold lft
     by_cases h2:x.getD 2 0=0
     ·rw [if_pos h2,h2]; rfl
     ·rw [if_neg h2]
      have:(x.getD 2 0 !=0)=true:=by simpa using h2
      rw [this]; rfl
   ·cases hs'
    exact Nat.le_trans (xpD _ _ _) (by omega))
  (fun i s hi _=>by
   have:i=up.length:=by omega
   subst this
   unfold xdE
   simp only [gi_z,gr_1,gr_z,dnlt]) (s:=((List.range 9).filter m.testBit).map rOn) (by omega)
 have e:xeH m up=[.i ((0:Nat):Int),.r (((List.range 9).filter m.testBit).map rOn)]:=by
  unfold xeH
  rw [(xE4 hm up).2]; rfl
 unfold xat
 rw [e]
 refine ⟨h1,?_⟩
 rw [h2,List.drop_zero,xdx,xgp]
 show gr [.i up.length,.r _] 1=_
 rw [gr_1,gr_z]
 rfl
theorem xGd {a:List Int} (x y z:Int):xr7 3 a 0 [x,y,z]=[x,y,z]:=rfl
theorem xGU {set:Int} {up T:List (List Int)} (hT:xa1 3 [0,1,2] (gr (xat set up).snd 1)=T) (h3:∀ x∈T,x.length=3) {k0:Nat} (hk:0<k0) (hk':k0<T.length) (hlen:T.length≤10000000) (hd:ddR (T.take (k0+1))=T.take k0) :
  xav (xcF set up [.i k0]) (xdD set up [.i k0])∧∃ (k:Nat) (S:List (List Int)),xax set up [.i k0]=(3,[.i k,.i (T.length-k0:Nat),.r S])∧k≤T.length∧S.length=T.length∧S.take k=ddR T:=by
 have h3at:∀ j (hj:j<T.length),T[j].length=3:=fun j hj=>h3 _ (List.getElem_mem hj)
 let f:Nat→Nat×List (List Int)→Nat×List (List Int):=fun i s=>if T.getD (k0+(i+1)) []=T.getD (k0+i) [] then s else (s.1+1,s.2.set s.1 (T.getD (k0+(i+1)) []))
 let I:Nat→Nat×List (List Int)→Prop:=fun i s=>s.1=(ddR (T.take (k0+i+1))).length∧s.2.length=T.length∧s.2.take s.1=ddR (T.take (k0+i+1))∧(∀ p,k0+i≤p→s.2[p]?=T[p]?)∧s.1≤k0+i
 have hI:∀ i s,i<T.length-k0-1→I i s→I (i+1) (f i s):=by
  rintro i ⟨k,S⟩ hi ⟨q1,q2,q3,q4,q5⟩
  have q5:k≤k0+i:=q5
  have q4:∀ p,k0+i≤p→S[p]?=T[p]?:=q4
  have hj:k0+i+1<T.length:=by omega
  have e1:T.getD (k0+(i+1)) []=T[k0+i+1]:=xaz (i:=k0+i+1) hj
  have e2:T.getD (k0+i) []=T[k0+i]:=xaz (by omega)
  have hdt:=xsJ (l:=T) (j:=k0+i+1) (by omega) hj
  have hdl:=xgr T (k0+i+1) (by omega) (by omega)
  show I (i+1) (if T.getD (k0+(i+1)) []=T.getD (k0+i) [] then (k,S) else (k+1,S.set k (T.getD (k0+(i+1)) [])))
  rw [e1,e2]
  have e3:k0+i+1-1=k0+i:=rfl
  by_cases h:T[k0+i+1]=T[k0+i]
  ·rw [if_pos h]
   rw [if_pos (by simpa using h)] at hdt
   refine ⟨?_,q2,?_,fun p hp=>q4 p (by omega),by show k≤k0+(i+1); omega⟩
   ·rw [show k0+(i+1)+1=k0+i+1+1 by omega,hdt]; exact q1
   ·rw [show k0+(i+1)+1=k0+i+1+1 by omega,hdt]; exact q3
  ·rw [if_neg h]
   rw [if_neg (by simpa using h)] at hdt
   have q1:k=_:=q1
   have q2:S.length=T.length:=q2
   have q3:S.take k=_:=q3
   refine ⟨?_,by simp [q2],?_,fun p hp=>?_,by show k+1≤k0+(i+1); omega⟩
   ·rw [show k0+(i+1)+1=k0+i+1+1 by omega,hdt,List.length_append,← q1]; rfl
   ·show (S.set k T[k0+i+1]).take (k+1)=_
    rw [show k0+(i+1)+1=k0+i+1+1 by omega,hdt,List.take_succ_eq_append_getElem (by simp; omega)]
    congr 1
    ·rw [List.take_set_of_le (Nat.le_refl _),q3]
    ·simp
   ·show (S.set k T[k0+i+1])[p]?=_
    rw [List.getElem?_set_ne (by omega)]
    exact q4 p (by omega)
 obtain ⟨g1,g2,g3⟩:=xmG (step:=xcF set up [.i k0]) (T.length-k0-1) (fun i (s:Nat×List (List Int))=>[.i s.1,.i ((i+1:Nat):Int),.r s.2]) f I 2 (fun s=>[.i s.1,.i (T.length-k0:Nat),.r s.2]) hI
  (fun i s hi hIs=>by
   obtain ⟨k,S⟩:=s
   obtain ⟨q1,q2,q3,q4,q5⟩:=hIs
   have q1:k=_:=q1
   have q2:S.length=T.length:=q2
   have q4:∀ p,k0+i≤p→S[p]?=T[p]?:=q4
   have hj:k0+i+1<T.length:=by omega
   have hdl:=xgr T (k0+i+1) (by omega) (by omega)
   have e1:T.getD (k0+(i+1)) []=T[k0+i+1]:=xaz (i:=k0+i+1) hj
   have e2:T.getD (k0+i) []=T[k0+i]:=xaz (by omega)
   have s1:S.getD (k0+i+1) []=T[k0+i+1]:=by rw [List.getD_eq_getElem?_getD,q4 _ (by omega),List.getElem?_eq_getElem hj]; rfl
   have s2:S.getD (k0+i) []=T[k0+i]:=by rw [List.getD_eq_getElem?_getD,q4 _ (by omega),List.getElem?_eq_getElem (by omega)]; rfl
   have hw1:IntKind.i64.wrap (((i+1:Nat):Int)-1)=((i:Nat):Int):=by rw [xcJ (by omega)]; omega
   have hw2:IntKind.i64.wrap ((k:Int)+1)=((k+1:Nat):Int):=xbX (by omega)
   have hw3:IntKind.i64.wrap (((i+1:Nat):Int)+1)=((i+1+1:Nat):Int):=xbX (by omega)
   unfold xcF xpL xlf xiM xdX xhz
   rw [hT]
   simp only [gi_z,gi_1,gr_2,gr_1,gr_z,xaF,shI,loN,Int.toNat_natCast,hw1,hw2,hw3]
   rw [decide_eq_true (by omega),cond_true,xaa (by omega),xaa (by unfold inR; omega),xaa (by omega),xaa (by unfold inR; omega)]
   rw [show ((k0:Int)+((i+1:Nat):Int)).toNat=k0+i+1 by omega,show ((k0:Int)+((i:Nat):Int)).toNat=k0+i by omega,s1,s2]
   have hq:=xzD (h3at (k0+i+1) hj) (h3at (k0+i) (by omega))
   rw [hq]
   show _=some (0,[U.i (f i (k,S)).1,U.i ((i+1+1:Nat):Int),U.r (f i (k,S)).2])
   have ef:f i (k,S)=if T.getD (k0+(i+1)) []=T.getD (k0+i) [] then (k,S) else (k+1,S.set k (T.getD (k0+(i+1)) [])):=rfl
   rw [ef,e1,e2]
   by_cases h:T[k0+i+1]=T[k0+i]
   ·rw [if_pos h,decide_eq_true h]; rfl
   ·rw [if_neg h,decide_eq_false h]
    simp only [Bool.not_false,cond_true]
    rw [xaa (by omega),xaa (by unfold inR; omega),xaa (by unfold inR; omega),xaa (by unfold inR; omega),xGd]
    rw [xnn (a:=[col T[k0+i+1] 0,col T[k0+i+1] 1,col T[k0+i+1] 2]) (b:=T[k0+i+1]) rfl (h3at _ hj) rfl rfl rfl])
  (fun s hIs=>by
   obtain ⟨k,S⟩:=s
   unfold xcF xlf
   rw [hT]
   simp only [gi_z,gi_1,gr_2,gr_1,gr_z,xaF,loN,Int.toNat_natCast]
   rw [decide_eq_false (by omega),cond_false,show T.length-k0-1+1=T.length-k0 by omega]) (s:=(k0,T))
  ⟨by rw [Nat.add_zero,hd,List.length_take]; show k0=_; omega,rfl,by rw [Nat.add_zero,hd],fun p _=>rfl,Nat.le_refl _⟩
 have ei:xdD set up [.i k0]=[.i k0,.i ((0+1:Nat):Int),.r T]:=by
  unfold xdD
  rw [hT]; rfl
 unfold xax
 rw [ei]
 refine ⟨g1,_,_,g2,?_,g3.2.1,?_⟩
 ·have:=g3.1
  rw [this]
  rw [show k0+(T.length-k0-1)+1=T.length by omega]
  exact (xgr T T.length (by omega) (Nat.le_refl _)).1
 ·have:=g3.2.2.1
  rw [show k0+(T.length-k0-1)+1=T.length by omega,List.take_length] at this
  exact this
theorem xGV {set:Int} {up T:List (List Int)} (hT:xa1 3 [0,1,2] (gr (xat set up).snd 1)=T) (h3:∀ x∈T,x.length=3) (h2:2≤T.length) (hlen:T.length≤10000000) :
  xav (xcG set up) (xhA set up) ∧
  (((xbI set up).1=1∧0≤gi (xbI set up).2 0∧gi (xbI set up).2 0≤((gr (xbI set up).2 1).length:Int)∧(gr (xbI set up).2 1).take (gi (xbI set up).2 0).toNat=ddR T)∨((xbI set up).1=3∧ddR T=T)):=by
 have h3at:∀ j (hj:j<T.length),T[j].length=3:=fun j hj=>h3 _ (List.getElem_mem hj)
 refine xEa (step:=xcG set up) (T.length-1) (fun i xs=>xs=[.i ((i+1:Nat):Int)]∧∀ j (hj:j<T.length),0<j→j<i+1→T[j]≠T[j-1])
  (fun r=>(r.1=1∧0≤gi r.2 0∧gi r.2 0≤((gr r.2 1).length:Int)∧(gr r.2 1).take (gi r.2 0).toNat=ddR T)∨(r.1=3∧ddR T=T)) (fun i xs hi hinv=>?_) (fun xs hinv=>?_) ⟨rfl,fun j hj h0 h1=>by omega⟩
 ·obtain ⟨rfl,hne⟩:=hinv
  have hj:i+1<T.length:=by omega
  have hw1:IntKind.i64.wrap (((i+1:Nat):Int)-1)=((i:Nat):Int):=by rw [xcJ (by omega)]; omega
  have hw3:IntKind.i64.wrap (((i+1:Nat):Int)+1)=((i+1+1:Nat):Int):=xbX (by omega)
  have hstep:xcG set up [.i ((i+1:Nat):Int)]=bif decide (T[i+1]=T[i]) then xab ((0:Int)≤((i+1:Nat):Int)∧((i+1:Nat):Int)≤(T.length:Int)) (xab ((xav (xcF set up [.i ((i+1:Nat):Int)]) (xdD set up [.i ((i+1:Nat):Int)]))) (xab (((0:Int)≤gi (xax set up [.i ((i+1:Nat):Int)]).snd 0)∧(gi (xax set up [.i ((i+1:Nat):Int)]).snd 0≤(↑(gr (xax set up [.i ((i+1:Nat):Int)]).snd 2).length:Int))) (xab (((↑(loN (xaF (↑(gr (xax set up [.i ((i+1:Nat):Int)]).snd 2).length:Int) (some (gi (xax set up [.i ((i+1:Nat):Int)]).snd 0)) none).snd.fst):Int)≤(xcE set up [.i ((i+1:Nat):Int)]))∧((xcE set up [.i ((i+1:Nat):Int)])≤(↑(gr (xax set up [.i ((i+1:Nat):Int)]).snd 2).length:Int))) (xab (((0:Int)≤gi (xax set up [.i ((i+1:Nat):Int)]).snd 0)∧(gi (xax set up [.i ((i+1:Nat):Int)]).snd 0≤(↑((xfJ set up [.i ((i+1:Nat):Int)])++List.drop ((xcE set up [.i ((i+1:Nat):Int)])).toNat (gr (xax set up [.i ((i+1:Nat):Int)]).snd 2)).length:Int))) (some (1,[U.i ((xj3 set up [.i ((i+1:Nat):Int)])),U.r ((xfJ set up [.i ((i+1:Nat):Int)])++List.drop ((xcE set up [.i ((i+1:Nat):Int)])).toNat (gr (xax set up [.i ((i+1:Nat):Int)]).snd 2))])))))) else some (0,[U.i ((i+1+1:Nat):Int)]):=by
   unfold xcG xpO xpN xpM
   rw [hT]
   simp only [gi_z,hw1,hw3]
   rw [decide_eq_true (by omega),cond_true,xaa (xan hj),xaa (xan hj),xaa (xan (by omega)),xaa (xan (by omega)),xaC hj,xaC (show i<T.length by omega),xzD (h3at _ hj) (h3at _ (by omega))]
  by_cases h:T[i+1]=T[i]
  ·right
   have hd:ddR (T.take (i+1+1))=T.take (i+1):=by
    rw [xsJ (by omega) hj,if_pos (by simpa using h)]
    exact xwG (i+1) (by omega) (by omega) hne
   obtain ⟨g1,k,S,g2,g3,g4,g5⟩:=xGU hT h3 (by omega) hj hlen hd
   refine ⟨0,[.i k,.r (S.take k++List.replicate (S.length-k) [0,0,0]++S.drop S.length)],?_,.inl ⟨rfl,?_,?_,?_⟩⟩
   ·rw [hstep,decide_eq_true h,cond_true,xaa (by omega),xaa g1]
    unfold xj3 xfJ xn5 xcE
    rw [g2]
    simp only [gi_z,gr_2,gr_1,gr_z,xaF,loN,Option.getD_some,Int.toNat_natCast]
    rw [xaa (by omega),xaa (by omega),xaa (by simp; omega)]
   ·rw [gi_z]; omega
   ·rw [gi_z,gr_1,gr_z]; simp; omega
   ·rw [gi_z,gr_1,gr_z,Int.toNat_natCast,List.append_assoc,List.take_append_of_le_length (by simp; omega),List.take_take,Nat.min_self,g5]
  ·left
   refine ⟨[.i ((i+1+1:Nat):Int)],?_,rfl,fun j hj' h0 h1=>?_⟩
   ·rw [hstep,decide_eq_false h]; rfl
   ·by_cases e:j=i+1
    ·subst e; simpa using h
    ·exact hne j hj' h0 (by omega)
 ·obtain ⟨rfl,hne⟩:=hinv
  refine ⟨2,[.i ((T.length-1+1:Nat):Int)],?_,.inr ⟨rfl,?_⟩⟩
  ·unfold xcG
   rw [hT]
   simp only [gi_z]
   rw [decide_eq_false (by omega)]; rfl
  ·have:=xwG T.length (by omega) (Nat.le_refl _) (fun j hj h0 h1=>hne j hj h0 (by omega))
   rwa [List.take_length] at this
theorem xGS {m:Nat} (hm:m<512) {up:List (List Int)} (hs:xep up) (hl:up.length≤1000000):xeS m up∧xa0 m up=byF m up:=by
 obtain ⟨a1,_⟩:=xE4 hm up
 obtain ⟨b1,b2⟩:=xGW hm hs hl
 have hraw:(xkb m up).length≤1000009:=by
  unfold xkb
  rw [List.length_append,List.length_map,List.length_map]
  have h1:((List.range 9).filter m.testBit).length≤9:=Nat.le_trans (List.length_filter_le _ _) (by simp)
  have h2:=List.length_filter_le (fun g=>!cov m g) up
  omega
 have hT:xa1 3 [0,1,2] (gr (xat m up).snd 1)=xhh (leL [0,1,2]) (xkb m up):=by
  rw [b2]
  unfold xa1
  rw [xD9 (xny m up)]
 have h3:∀ x∈xhh (leL [0,1,2]) (xkb m up),x.length=3:=fun x hx=>xny m up x (xpI.1 hx)
 have hTl:(xhh (leL [0,1,2]) (xkb m up)).length=(xkb m up).length:=xgk _
 unfold xeS xa0 xn3 xn4
 rw [hT]
 have key:(xhh (leL [0,1,2]) (xkb m up)).length<2→ddR (xhh (leL [0,1,2]) (xkb m up))=xhh (leL [0,1,2]) (xkb m up):=by
  intro h
  generalize xhh (leL [0,1,2]) (xkb m up)=T at *
  match T,h with
  | [],_=>rfl
  | [x],_=>rfl
 by_cases h2:(xhh (leL [0,1,2]) (xkb m up)).length<2
 ·refine ⟨⟨a1,b1,by rw [b2]; omega,fun h=>?_⟩,?_⟩
  ·rw [decide_eq_true (by omega)] at h; cases h
  ·rw [decide_eq_true (by omega),cond_true]
   exact (key h2).symm
 ·obtain ⟨c1,c2⟩:=xGV hT h3 (by omega) (by omega)
  rw [decide_eq_false (by omega),cond_false]
  rcases c2 with ⟨d1,d2,d3,d4⟩ | ⟨d1,d2⟩
  ·refine ⟨⟨a1,b1,by rw [b2]; omega,fun _=>⟨c1,fun _=>⟨d2,d3⟩⟩⟩,?_⟩
   rw [d1]
   exact d4
  ·refine ⟨⟨a1,b1,by rw [b2]; omega,fun _=>⟨c1,fun h=>by rw [d1] at h; cases h⟩⟩,?_⟩
   rw [d1]
   exact d2.symm
theorem xCx {l:List (List Int)} (h3:∀ x∈l,x.length=3):∀ x∈l,∀ y∈l,leL [0,1,2] x y=true→leL [0,1,2] y x=true→x=y:=fun x hx y hy h1 h2=>by
 have:=xsB _ _ _ h1 h2
 exact xnn (h3 x hx) (h3 y hy) (this 0 (by simp)) (this 1 (by simp)) (this 2 (by simp))
theorem xsM (m:Nat) (up:List (List Int)):(byF m up).Pairwise (fun a b=>leL [0,1,2] b a=false)∧∀ x,x∈byF m up↔x∈xkb m up:=by
 have h3:∀ x∈xhh (leL [0,1,2]) (xkb m up),x.length=3:=fun x hx=>xny m up x (xpI.1 hx)
 obtain ⟨h1,h2⟩:=xEn (xhc (xgj _) (xgi _) (xkb m up)) (xCx h3)
 exact ⟨h1,fun x=>by rw [show byF m up=ddR (xhh (leL [0,1,2]) (xkb m up)) from rfl,h2,xpI]⟩
theorem xsN (m:Nat) (up:List (List Int)):∀ x∈byF m up,x.length=3:=fun x hx=>xny m up x (((xsM m up).2 x).1 hx)
end Go.Proofs.YtikhnofbbcmpeaaGreat
set_option linter.unusedVariables false
set_option maxRecDepth 100000
namespace Go.Proofs.YtikhnofbbcmpeaaGreat
open Go Go.Sy
theorem xAn (x y:List Int):cfO x y<0↔leL [0,1,2] y x=false:=by
 have:=xze x y
 constructor
 ·intro h; rw [decide_eq_true h] at this; simpa using this.symm
 ·intro h; rw [h] at this; simpa using this
theorem xsL (x y:List Int):cfO x y=0↔(col x 0=col y 0∧col x 1=col y 1∧col x 2=col y 2):=by
 show cfO x y=0↔(x.getD 0 0=y.getD 0 0∧x.getD 1 0=y.getD 1 0∧x.getD 2 0=y.getD 2 0)
 unfold cfO
 rw [(xiW _ _ _ _ _ _).2]
 simp only [cmpC,orL]
 generalize x.getD 0 0=a
 generalize x.getD 1 0=b
 generalize x.getD 2 0=c
 generalize y.getD 0 0=d
 generalize y.getD 1 0=e
 generalize y.getD 2 0=f
 have one:∀ u v:Int,(if u<v then (-1:Int) else if v<u then 1 else 0)=0↔u=v:=fun u v=>by
  by_cases h1:u<v
  ·rw [if_pos h1]; omega
  ·rw [if_neg h1]
   by_cases h2:v<u
   ·rw [if_pos h2]; omega
   ·rw [if_neg h2]; omega
 by_cases h1:(if a<d then (-1:Int) else if d<a then 1 else 0)=0
 ·rw [if_pos h1]
  by_cases h2:(if b<e then (-1:Int) else if e<b then 1 else 0)=0
  ·rw [if_pos h2]
   by_cases h3:(if c<f then (-1:Int) else if f<c then 1 else 0)=0
   ·rw [if_pos h3]
    exact ⟨fun _=>⟨(one _ _).1 h1,(one _ _).1 h2,(one _ _).1 h3⟩,fun _=>rfl⟩
   ·rw [if_neg h3]
    exact ⟨fun h=>absurd h h3,fun h=>absurd ((one _ _).2 h.2.2) h3⟩
  ·rw [if_neg h2]
   exact ⟨fun h=>absurd h h2,fun h=>absurd ((one _ _).2 h.2.1) h2⟩
 ·rw [if_neg h1]
  exact ⟨fun h=>absurd h h1,fun h=>absurd ((one _ _).2 h.1) h1⟩
noncomputable def cmpL:List (List Int)→List (List Int)→Int
 | [],[]=>0
 | [],_::_ => -1
 | _::_,[]=>1
 | x::r,y::r'=>if cfO x y=0 then cmpL r r' else cfO x y
noncomputable def xek (x b:List (List Int)):Bool:=decide (x.length<b.length)||(x.length==b.length&&decide (cmpL x b<0))
theorem xAl:∀ x,cmpL x x=0
 | []=>rfl
 | x::r=>by
  unfold cmpL
  rw [if_pos ((xsL x x).2 ⟨rfl,rfl,rfl⟩)]
  exact xAl r
theorem xzf {x x' y:List Int} (h:cfO x x'=0):cfO x y=cfO x' y:=by
 obtain ⟨h0,h1,h2⟩:=(xsL x x').1 h
 have h0:x.getD 0 0=x'.getD 0 0:=h0
 have h1:x.getD 1 0=x'.getD 1 0:=h1
 have h2:x.getD 2 0=x'.getD 2 0:=h2
 unfold cfO
 rw [h0,h1,h2]
theorem xtS {x y y':List Int} (h:cfO y y'=0):cfO x y=cfO x y':=by
 obtain ⟨h0,h1,h2⟩:=(xsL y y').1 h
 have h0:y.getD 0 0=y'.getD 0 0:=h0
 have h1:y.getD 1 0=y'.getD 1 0:=h1
 have h2:y.getD 2 0=y'.getD 2 0:=h2
 unfold cfO
 rw [h0,h1,h2]
theorem xCq {x y z:List Int} (h:leL [0,1,2] y x=false) (k:leL [0,1,2] z y=false):leL [0,1,2] z x=false:=by
 have le_ne:∀ {a b:List Int},leL [0,1,2] a b=false→leL [0,1,2] b a=true:=fun {a b} h=>(xgj _ a b).resolve_left (by simp [h])
 cases hz:leL [0,1,2] z x with
 | false=>rfl
 | true =>
  have:=xgi _ _ _ _ hz (le_ne h)
  rw [k] at this
  cases this
theorem xvu:∀ {x y z:List (List Int)},x.length=y.length→y.length=z.length→cmpL x y<0→cmpL y z<0→cmpL x z<0
 | [],[],[],_,_,h,_=>by simp [cmpL] at h
 | x::r,y::r',z::r'',h1,h2,h,k=>by
  unfold cmpL at h k ⊢
  by_cases e1:cfO x y=0
  ·rw [if_pos e1] at h
   by_cases e2:cfO y z=0
   ·rw [if_pos e2] at k
    rw [if_pos ((xtS e2).symm.trans e1)]
    exact xvu (by simpa using h1) (by simpa using h2) h k
   ·rw [if_neg e2] at k
    have e3:cfO x z=cfO y z:=xzf e1
    rw [e3,if_neg e2]; exact k
  ·rw [if_neg e1] at h
   by_cases e2:cfO y z=0
   ·have e3:cfO x y=cfO x z:=xtS e2
    rw [← e3,if_neg e1]; exact h
   ·rw [if_neg e2] at k
    have e3:=(xAn x z).2 (xCq ((xAn x y).1 h) ((xAn y z).1 k))
    rw [if_neg (by omega)]; exact e3
 | [],[],_::_,_,h,_,_=>by simp at h
 | [],_::_,_,h,_,_,_=>by simp at h
 | _::_,[],_,h,_,_,_=>by simp at h
 | _::_,_::_,[],_,h,_,_=>by simp at h
theorem xng {x y z:List (List Int)} (h:xek x y=true) (k:xek y z=true):xek x z=true:=by
 unfold xek at *
 simp only [Bool.or_eq_true,Bool.and_eq_true,decide_eq_true_eq,beq_iff_eq] at *
 rcases h with h | ⟨h1,h2⟩<;>rcases k with k | ⟨k1,k2⟩
 ·left; omega
 ·left; omega
 ·left; omega
 ·right; exact ⟨by omega,xvu h1 k1 h2 k2⟩
theorem xrh (x:List (List Int)):xek x x=false:=by
 unfold xek
 rw [xAl]
 simp
def allF (up:List (List Int)):Nat:=up.foldl (fun a g=>if col g 3 !=0 then a ||| 2 ^ (col g 0).toNat else a) 0
theorem xzs:∀ (up:List (List Int)) (a:Nat),xep up→a<512→(up.foldl (fun a g=>if col g 3 !=0 then a ||| 2 ^ (col g 0).toNat else a) a)<512∧∀ k,(up.foldl (fun a g=>if col g 3 !=0 then a ||| 2 ^ (col g 0).toNat else a) a).testBit k=(a.testBit k||up.any fun g=>col g 3 !=0&&decide ((col g 0).toNat=k))
 | [],a,_,ha=>⟨ha,fun k=>by simp⟩
 | g::r,a,hs,ha=>by
  obtain ⟨q1,q2⟩:=hs g List.mem_cons_self
  have hr:xep r:=fun x hx=>hs x (List.mem_cons_of_mem _ hx)
  rw [List.foldl_cons]
  cases h3:(col g 3 !=0) with
  | false =>
   rw [if_neg (by decide)]
   obtain ⟨g1,g2⟩:=xzs r a hr ha
   refine ⟨g1,fun k=>?_⟩
   rw [g2,List.any_cons,h3,Bool.false_and,Bool.false_or]
  | true =>
   rw [if_pos rfl]
   have hlt:a ||| 2 ^ (col g 0).toNat<512:=Nat.or_lt_two_pow (n:=9) ha (Nat.pow_lt_pow_right (by omega) (by omega))
   obtain ⟨g1,g2⟩:=xzs r _ hr hlt
   refine ⟨g1,fun k=>?_⟩
   rw [g2,List.any_cons,h3,Bool.true_and,Nat.testBit_or,Nat.testBit_two_pow,Bool.or_assoc]
theorem xAv {up:List (List Int)} (hs:xep up):allF up<512∧∀ k,(allF up).testBit k=up.any fun g=>col g 3 !=0&&decide ((col g 0).toNat=k):=by
 obtain ⟨h1,h2⟩:=xzs up 0 hs (by omega)
 refine ⟨h1,fun k=>?_⟩
 have:=h2 k
 rw [Nat.zero_testBit,Bool.false_or] at this
 exact this
theorem xFX {up:List (List Int)} (hs:xep up) (hl:up.length≤1000000):xav (xbB up) (xfQ up)∧gi (xfa up).snd 0=((allF up:Nat):Int):=by
 have hin:∀ (l:List (List Int)) (a:Nat),xep l→a<512→runL (fun (s:Nat) x=>.inl (if col x 3 !=0 then s ||| 2 ^ (col x 0).toNat else s)) a l=(.inl (l.foldl (fun a g=>if col g 3 !=0 then a ||| 2 ^ (col g 0).toNat else a) a):Nat ⊕ (Nat×List U)):=fun l a _ _=>xdx _ l a
 obtain ⟨h1,h2⟩:=xbj (step:=xbB up) up (fun i (s:Nat)=>[.i (s:Int),.i i]) (fun s x=>.inl (if col x 3 !=0 then s ||| 2 ^ (col x 0).toNat else s)) (fun i s=>s<512) (fun s=>(2,[.i (s:Int),.i up.length])) 0
  (fun i s hi _ hI=>by
   obtain ⟨q1,q2⟩:=hs _ (List.getElem_mem hi)
   refine ⟨?_,fun s' hs'=>?_⟩
   ·unfold xbB
    simp only [gi_z,gi_1,dlt hi,xaa (xan hi),xbX (show i<9223372036854775807 by omega),xaC hi]
    generalize hx:up[i]=x at *
    rw [xaa q1]
    have hb:=xGi hI (show (col x 0).toNat<9 by omega)
    rw [Int.toNat_of_nonneg q1] at hb
    have hb':bOr IntKind.i64 (s:Int) (bShl IntKind.i64 1 (x.getD 0 0))=((s ||| 2 ^ (col x 0).toNat:Nat):Int):=hb
    rw [hb']
    show (bif col x 3 !=0 then _ else _)=_
    cases (col x 3 !=0)
    ·rw [if_neg (by decide)]; rfl
    ·rw [if_pos rfl]; rfl
   ·cases hs'
    split
    ·exact Nat.or_lt_two_pow (n:=9) hI (Nat.pow_lt_pow_right (by omega) (by omega))
    ·exact hI)
  (fun i s hi _=>by
   have:i=up.length:=by omega
   subst this
   unfold xbB
   simp only [gi_z,gi_1,dnlt]) (s:=0) (by omega)
 refine ⟨h1,?_⟩
 have:xfa up=xaf (xbB up) [.i ((0:Nat):Int),.i ((0:Nat):Int)]:=rfl
 rw [this,h2,List.drop_zero,xdx]
 exact gi_z _ _
theorem xvv:∀ {x b:List (List Int)} {i:Nat} (hx:i<x.length) (hb:i<b.length),(∀ j (h1:j<x.length) (h2:j<b.length),j<i→cfO x[j] b[j]=0)→cfO x[i] b[i]≠0→cmpL x b=cfO x[i] b[i]
 | x::r,y::r',0,_,_,_,h=>by
  unfold cmpL
  exact if_neg h
 | x::r,y::r',i+1,hx,hb,h0,h=>by
  unfold cmpL
  have e:cfO x y=0:=h0 0 (by simp) (by simp) (by omega)
  rw [if_pos e]
  exact xvv (by simpa using hx) (by simpa using hb) (fun j h1 h2 h3=>h0 (j+1) (by simpa using h1) (by simpa using h2) (by omega)) h
theorem xx8:∀ {x b:List (List Int)},x.length=b.length→(∀ j (h1:j<x.length) (h2:j<b.length),cfO x[j] b[j]=0)→cmpL x b=0
 | [],[],_,_=>rfl
 | x::r,y::r',hl,h0=>by
  unfold cmpL
  have e:cfO x y=0:=h0 0 (by simp) (by simp)
  rw [if_pos e]
  exact xx8 (by simpa using hl) fun j h1 h2=>h0 (j+1) (by simpa using h1) (by simpa using h2)
theorem xDg {up:List (List Int)} {m:Nat} {b x:List (List Int)} (hby:xa0 m up=x) (hl:x.length≤9223372036854775807) (hlen:x.length=b.length) :
  xav (xbA up [.i m,.r b]) (xcZ up [.i m,.r b]) ∧
  (bif (xbu up [.i m,.r b]).fst.beq 1 then (1:Int) else bif (xbu up [.i m,.r b]).fst.beq 2 then gi (xbu up [.i m,.r b]).snd 0 else (xe9 up [.i m,.r b]))=cmpL x b:=by
 have hs1:xe9 up [.i m,.r b]=0:=by
  unfold xe9
  simp only [gi_z,gr_1,gr_z,hby]
  rw [decide_eq_false (by omega)]; rfl
 rw [hs1]
 obtain ⟨h1,h2⟩:=xcy (step:=xbA up [.i m,.r b]) x.length (fun i=>cfO (x.getD i []) (b.getD i []) !=0) (fun i=>[.i 0,.i i]) (fun i=>[.i (cfO (x.getD i []) (b.getD i []))]) 1 3 [.i 0,.i x.length]
  (fun i hi=>by
   unfold xbA xh4
   simp only [gi_z,gi_1,gr_1,gr_z]
   rw [hby,dlt hi,xaa (xan hi),xaa (xan hi),decide_eq_false (show ¬ ((i:Int)≥(b.length:Int)) by omega),cond_false,xaa (xan (by omega)),xaa (xan (by omega)),xaa (xiW _ _ _ _ _ _).1,xbX (show i<9223372036854775807 by omega),Int.toNat_natCast]
   rfl)
  (by
   unfold xbA
   simp only [gi_z,gi_1]
   rw [hby,dnlt])
 have hi:xcZ up [.i m,.r b]=[.i 0,.i ((0:Nat):Int)]:=rfl
 unfold xbu
 rw [hi]
 refine ⟨h1,?_⟩
 rcases h2 with ⟨i,hi,hp,hn,hg⟩ | ⟨hn,hg⟩
 ·rw [hg]
  show gi [.i (cfO (x.getD i []) (b.getD i []))] 0=_
  rw [gi_z,xaz hi,xaz (by omega)]
  refine (xvv hi (by omega) (fun j q1 q2 q3=>?_) ?_).symm
  ·have:=hn j q3
   rw [xaz q1,xaz q2] at this
   simpa using this
  ·rw [xaz hi,xaz (show i<b.length by omega)] at hp
   simpa using hp
 ·rw [hg]
  show (0:Int)=_
  refine (xx8 hlen fun j q1 q2=>?_).symm
  have:=hn j q1
  rw [xaz q1,xaz q2] at this
  simpa using this
noncomputable def xfs (up:List (List Int)) (i:Nat) (b:List (List Int)):List (List Int):=if subB i (allF up)=true then (if xek (byF i up) b=true then byF i up else b) else b
noncomputable def fewF (up:List (List Int)):List (List Int):=upto (xfs up) (allF up+1) (byF 0 up)
theorem cmpI (a b:Nat):(xal (a:Int) (b:Int)<0↔a<b)∧(xal (a:Int) (b:Int)=0↔a=b):=by
 rw [cmpC]
 by_cases h1:a<b
 ·rw [if_pos (by omega)]; omega
 ·rw [if_neg (by omega)]
  by_cases h2:b<a
  ·rw [if_pos (by omega)]; omega
  ·rw [if_neg (by omega)]; omega
theorem xhJ (m:Nat) (up:List (List Int)):(byF m up).length≤up.length+9:=by
 unfold byF
 have h1:∀ l:List (List Int),(ddR l).length≤l.length:=fun l=>by
  cases l with
  | nil=>exact Nat.le_refl _
  | cons x r =>
   have:=(xgr (x::r) (x::r).length (by simp) (Nat.le_refl _)).1
   rwa [List.take_length] at this
 refine Nat.le_trans (h1 _) ?_
 rw [xgk]
 unfold xkb
 rw [List.length_append,List.length_map,List.length_map]
 have h1:((List.range 9).filter m.testBit).length≤9:=Nat.le_trans (List.length_filter_le _ _) (by simp)
 have h2:=List.length_filter_le (fun g=>!cov m g) up
 omega
theorem xxZ {up:List (List Int)} (hs:xep up) (hl:up.length≤1000000):xcB up∧xcQ up=fewF up:=by
 obtain ⟨a1,a2⟩:=xFX hs hl
 obtain ⟨hall,_⟩:=xAv hs
 obtain ⟨b1,b2⟩:=xGS (m:=0) (by omega) hs hl
 have hw:IntKind.i64.wrap (gi (xfa up).snd 0+1)=((allF up+1:Nat):Int):=by rw [a2]; exact xbX (by omega)
 obtain ⟨g1,g2,_⟩:=xmG (step:=xc0 up) (allF up+1) (fun i (b:List (List Int))=>[.i i,.r b]) (xfs up) (fun _ _=>True) 3 (fun b=>[.i (allF up+1:Nat),.r b]) (fun _ _ _ _=>trivial)
  (fun i b hi _=>by
   have hi5:i<512:=by omega
   obtain ⟨c1,c2⟩:=xGS hi5 hs hl
   have hxl:=xhJ i up
   unfold xc0
   simp only [gi_z,gr_1,gr_z]
   rw [hw,decide_eq_true (by omega),cond_true,a2,xGq hi5 hall,xbX (by omega)]
   unfold xfs
   cases hsub:subB i (allF up) with
   | false=>rw [if_neg (by decide)]; rfl
   | true =>
    rw [if_pos rfl,Bool.not_true,cond_false,xaa c1,c2]
    have hloop:(decide (xal (↑(byF i up).length:Int) (↑b.length:Int)<(0:Int))=false)→(((xal (↑(byF i up).length:Int) (↑b.length:Int)==(0:Int))=true)→((xav (xbA up [.i i,.r b]) (xcZ up [.i i,.r b])))):=fun _ he=>by
     have:=(cmpI _ _).2.1 (by simpa using he)
     exact (xDg c2 (by omega) this).1
    rw [xaa hloop]
    have hcond:(decide (xal (↑(byF i up).length:Int) (↑b.length:Int)<(0:Int))||xal (↑(byF i up).length:Int) (↑b.length:Int)==(0:Int)&&decide ((bif (xbu up [.i i,.r b]).fst.beq 1 then (1:Int) else bif (xbu up [.i i,.r b]).fst.beq 2 then gi (xbu up [.i i,.r b]).snd 0 else (xe9 up [.i i,.r b]))<(0:Int)))=xek (byF i up) b:=by
     unfold xek
     by_cases he:(byF i up).length=b.length
     ·rw [(xDg c2 (by omega) he).2]
      have e1:(xal (↑(byF i up).length:Int) (↑b.length:Int)==0)=((byF i up).length==b.length):=by rw [(cmpI _ _).2.2 he,he]; simp
      rw [e1]
      congr 1
      exact decide_eq_decide.2 (cmpI _ _).1
     ·have e1:(xal (↑(byF i up).length:Int) (↑b.length:Int)==0)=false:=by
       simpa using fun h=>he ((cmpI _ _).2.1 h)
      have e2:((byF i up).length==b.length)=false:=by simpa using he
      rw [e1,e2,Bool.false_and,Bool.false_and]
      congr 1
      exact decide_eq_decide.2 (cmpI _ _).1
    rw [hcond]
    cases xek (byF i up) b
    ·rw [if_neg (by decide)]; rfl
    ·rw [if_pos rfl]; rfl)
  (fun b _=>by
   unfold xc0
   simp only [gi_z,gr_1,gr_z]
   rw [hw,decide_eq_false (by omega)]; rfl) (s:=byF 0 up) trivial
 have hi:xel up=[.i ((0:Nat):Int),.r (byF 0 up)]:=by
  unfold xel
  have:=b2
  rw [show (xa0 (0:Int) up)=byF 0 up from this]; rfl
 unfold xcB xcQ xkF
 rw [hi]
 refine ⟨⟨a1,b1,g1⟩,?_⟩
 rw [g2]
 show gr [.i (allF up+1:Nat),.r (upto (xfs up) (allF up+1) (byF 0 up))] 1=_
 rw [gr_1,gr_z]
 rfl
end Go.Proofs.YtikhnofbbcmpeaaGreat
set_option linter.unusedVariables false
set_option maxRecDepth 100000
namespace Go.Proofs.YtikhnofbbcmpeaaGreat
open Go Go.Sy
abbrev ALog:=Int×List (List Int)
noncomputable def xj0 (x:List Int):ALog:=(col x 0,decL (col x 1))
noncomputable def xao (um:List (List Int)):List ALog:=um.map xj0
def xoV (um:List (List Int)):Prop:=∀ x∈um,(decL (col x 1)).length≤9223372036854775807
def risF:Int→List ALog→Bool
 | _,[]=>true
 | b,x::r=>valF x.1 x.2&&decide (b<x.1)&&risF x.1 r
noncomputable def rowO (x:List Int):List Int:=[col x 0,col x 0,encL (decL (col x 1))]
def xeo (s:Int) (logs:List ALog):Option ALog:=logs.find? fun x=>x.1==s
theorem xjN (s:Int):∀ um:List (List Int),xco 1 [s] (um.map rowO)=(xeo s (xao um)).map fun x=>[x.1,encL x.2]
 | []=>rfl
 | x::r=>by
  have ih:=xjN s r
  unfold xco xeo xao at *
  rw [List.map_cons,List.map_cons,List.find?_cons,List.find?_cons]
  by_cases h:col x 0=s
  ·have e1:decide (List.take 1 (rowO x)=[s])=true:=decide_eq_true (by show [col x 0]=[s]; rw [h])
   have e2:((xj0 x).1==s)=true:=by show (col x 0==s)=true; rw [h]; simp
   rw [e1,e2]; rfl
  ·have e1:decide (List.take 1 (rowO x)=[s])=false:=decide_eq_false (by show ¬ [col x 0]=[s]; simpa using h)
   have e2:((xj0 x).1==s)=false:=by show (col x 0==s)=false; simpa using h
   rw [e1,e2]; exact ih
noncomputable def xnZ (ow t un:Int) (s:Int×List (List Int)) (x:List Int):(Int×List (List Int)) ⊕ (Nat×List U) :=
 if (!valF (col x 0) (decL (col x 1))||decide (col x 0≤s.1))=true then .inr (0,[.i ow,.i t,.i un,.r s.2]) else .inl (col x 0,putRow 1 [col x 0] [col x 0,encL (decL (col x 1))] s.2)
theorem xEL (ow t un:Int):∀ (r pre:List (List Int)) (b:Int),(∀ x∈pre,col x 0≤b) →
  (risF b (xao r)=true→∃ b',runL (xnZ ow t un) (b,pre.map rowO) r=.inl (b',(pre++r).map rowO)) ∧
  (risF b (xao r)=false→∃ rows,runL (xnZ ow t un) (b,pre.map rowO) r=.inr (0,[.i ow,.i t,.i un,.r rows]))
 | [],pre,b,_=>⟨fun _=>⟨b,by simp [runL]⟩,fun h=>by simp [xao,risF] at h⟩
 | x::r,pre,b,hpre=>by
  have ex:xao (x::r)=xj0 x::xao r:=rfl
  have er:risF b (xj0 x::xao r)=(valF (col x 0) (decL (col x 1))&&decide (b<col x 0)&&risF (col x 0) (xao r)):=rfl
  rw [ex,er]
  by_cases hv:(!valF (col x 0) (decL (col x 1))||decide (col x 0≤b))=true
  ·have e:xnZ ow t un (b,pre.map rowO) x=.inr (0,[.i ow,.i t,.i un,.r (pre.map rowO)]):=by unfold xnZ; rw [if_pos hv]
   have hf:(valF (col x 0) (decL (col x 1))&&decide (b<col x 0))=false:=by
    rcases Bool.or_eq_true_iff.1 hv with h | h
    ·have:valF (col x 0) (decL (col x 1))=false:=by simpa using h
     rw [this]; rfl
    ·have:decide (b<col x 0)=false:=decide_eq_false (by have:=of_decide_eq_true h; omega)
     rw [this,Bool.and_false]
   rw [hf]
   refine ⟨(fun h=>by cases h),fun _=>⟨pre.map rowO,?_⟩⟩
   unfold runL
   rw [e]
  ·have e0:xnZ ow t un (b,pre.map rowO) x=.inl (col x 0,putRow 1 [col x 0] [col x 0,encL (decL (col x 1))] (pre.map rowO)):=by unfold xnZ; rw [if_neg hv]
   have hv':valF (col x 0) (decL (col x 1))=true∧b<col x 0:=by
    simp only [Bool.or_eq_true,Bool.not_eq_true',decide_eq_true_eq,not_or] at hv
    exact ⟨by simpa using hv.1,by omega⟩
   have hno:(xco 1 [col x 0] (pre.map rowO)).isSome=false:=by
    rw [xjN]
    have:xeo (col x 0) (xao pre)=none:=by
     unfold xeo xao
     rw [List.find?_eq_none]
     intro y hy
     obtain ⟨z,hz,rfl⟩:=List.mem_map.1 hy
     have:=hpre z hz
     show ¬ (col z 0==col x 0)=true
     intro h
     have h:=eq_of_beq h
     omega
    rw [this]; rfl
   have e:xnZ ow t un (b,pre.map rowO) x=.inl (col x 0,(pre++[x]).map rowO):=by
    rw [e0]
    unfold putRow
    rw [hno,cond_false,List.map_append]
    rfl
   have hf:(valF (col x 0) (decL (col x 1))&&decide (b<col x 0))=true:=by rw [hv'.1,decide_eq_true hv'.2]; rfl
   rw [hf,Bool.true_and]
   obtain ⟨i1,i2⟩:=xEL ow t un r (pre++[x]) (col x 0) (fun y hy=>by
    rcases List.mem_append.1 hy with hy | hy
    ·have:=hpre y hy; omega
    ·rw [List.mem_singleton.1 hy]; exact Int.le_refl _)
   unfold runL
   rw [e]
   refine ⟨fun h=>?_,fun h=>i2 h⟩
   obtain ⟨b',hb⟩:=i1 h
   exact ⟨b',by show runL (xnZ ow t un) (col x 0,(pre++[x]).map rowO) r=_; rw [hb,List.append_assoc]; rfl⟩
theorem xzN {ow t un:Int} {uo um up:List (List Int)} (hs:um.length≤9223372036854775807) (hd:xoV um) :
  xav (xby ow t un uo um up) (xcM ow t un uo um up) ∧
  (risF 0 (xao um)=true→(xaw ow t un uo um up).1.beq 1=false∧gr (xaw ow t un uo um up).2 3=um.map rowO) ∧
  (risF 0 (xao um)=false→(xaw ow t un uo um up).1.beq 1=true):=by
 obtain ⟨h1,h2⟩:=xbj (step:=xby ow t un uo um up) um (fun i (s:Int×List (List Int))=>[.b false,.i s.1,.i i,.r s.2]) (xnZ ow t un) (fun _ _=>True) (fun s=>(2,[.b false,.i s.1,.i um.length,.r s.2])) 0
  (fun i s hi _ _=>⟨by
   unfold xby xmV
   simp only [gi_2,gi_1,gi_z,gb_z,gr_3,gr_z,dlt hi,xaa (xan hi),xbX (show i<9223372036854775807 by omega),xaC hi]
   have hx:=hd _ (List.getElem_mem hi)
   generalize um[i]=x at *
   obtain ⟨v1,v2⟩:=xgu (col x 0) (decL (col x 1)) hx
   rw [xaa v1,v2]
   unfold xnZ
   cases h:(!valF (col x 0) (decL (col x 1))||decide (col x 0≤s.1)) with
   | true=>rw [if_pos rfl]; rfl
   | false=>rw [if_neg (by decide)]; rfl,fun _ _=>trivial⟩)
  (fun i s hi _=>by
   have:i=um.length:=by omega
   subst this
   unfold xby
   simp only [gi_2,gi_1,gi_z,gb_z,gr_3,gr_z,dnlt]) (s:=(0,[])) trivial
 have hi:xcM ow t un uo um up=[.b false,.i 0,.i ((0:Nat):Int),.r []]:=rfl
 unfold xaw
 rw [hi]
 have g:=xEL ow t un um [] 0 (fun x hx=>by cases hx)
 simp only [List.map_nil,List.nil_append] at g
 obtain ⟨g1,g2⟩:=g
 refine ⟨h1,fun h=>?_,fun h=>?_⟩
 ·obtain ⟨b',hb⟩:=g1 h
  rw [h2,List.drop_zero,hb]
  refine ⟨rfl,?_⟩
  show gr [.b false,.i b',.i um.length,.r (um.map rowO)] 3=_
  rw [gr_3,gr_z]
 ·obtain ⟨rows,hr⟩:=g2 h
  rw [h2,List.drop_zero,hr]; rfl
def xlC (logs:List ALog) (c:List Int):Bool:=!(xeo (col c 0) logs).isSome
theorem xB7 {ow t un:Int} {uo um up:List (List Int)} (hl:up.length≤9223372036854775807) (hs:um.length≤9223372036854775807) (hd:xoV um) (hr:risF 0 (xao um)=true) :
  xav (xbx ow t un uo um up) (xdQ ow t un uo um up) ∧
  decide ((bif (xb6 ow t un uo um up).fst.beq 1 then gi (xb6 ow t un uo um up).snd 0 else (-1:Int))≥(0:Int))=up.any (xlC (xao um)):=by
 have hrows:=((xzN (ow:=ow) (t:=t) (un:=un) (uo:=uo) (up:=up) hs hd).2.1 hr).2
 refine xlc (step:=xbx ow t un uo um up) (l:=up) (p:=xlC (xao um)) 1 (fun i hi=>?_) ?_ rfl
 ·unfold xbx
  simp only [gi_1,gi_z,dlt hi,xaa (xan hi),xbX (show i<9223372036854775807 by omega),xaC hi]
  rw [show (xaw ow t un uo um up).snd=(xaw ow t un uo um up).2 from rfl,hrows,xjN]
  unfold xlC
  rw [Option.isSome_map]
 ·unfold xbx
  simp only [gi_1,gi_z,dnlt]
def xdS (ow t un:Int) (uo:List (List Int)) (logs:List ALog) (up:List (List Int)):Bool :=
 valF ow uo&&ow==0&&chF up&&tmF t&&decide (0≤un)&&decide (un≤100000)&&risF 0 logs&&!up.any (xlC logs)
def xg8 (ow t un:Int) (uo up:List (List Int)):Bool:=valF ow uo&&ow==0&&chF up&&tmF t&&decide (0≤un)&&decide (un≤100000)
theorem xwO (ow t un:Int) (uo:List (List Int)) (logs:List ALog) (up:List (List Int)):xdS ow t un uo logs up=(xg8 ow t un uo up&&risF 0 logs&&!up.any (xlC logs)):=rfl
theorem xwP {ow t un:Int} {uo up:List (List Int)} (ho:uo.length≤9223372036854775807) (hl:up.length≤9223372036854775807) :
  (!xac ow uo||ow !=(0:Int)||!xaH up||!xaB t||decide (un<(0:Int))||decide (un>(100000:Int)))=!xg8 ow t un uo up:=by
 rw [(xgu ow uo ho).2,(xkZ up hl).2,xqm]
 have e1:decide (un<0)=!decide (0≤un):=by
  by_cases h:un<0
  ·rw [decide_eq_true h,decide_eq_false (by omega)]; rfl
  ·rw [decide_eq_false h,decide_eq_true (by omega)]; rfl
 have e2:decide (un>100000)=!decide (un≤100000):=by
  by_cases h:un>100000
  ·rw [decide_eq_true h,decide_eq_false (by omega)]; rfl
  ·rw [decide_eq_false h,decide_eq_true (by omega)]; rfl
 rw [e1,e2]
 unfold xg8
 show (!valF ow uo||!(ow==0)||!chF up||!tmF t||!decide (0≤un)||!decide (un≤100000))=_
 cases valF ow uo<;>cases (ow==0)<;>cases chF up<;>cases tmF t<;>cases decide (0≤un)<;>cases decide (un≤100000)<;>rfl
theorem xGa {n:Int} (h0 : -1000000000≤n) (h1:n≤1000000000):(Lit.int .i64 n).wf=true:=by
 have e1:IntKind.i64.min = -9223372036854775808:=by decide
 have e2:IntKind.i64.max=9223372036854775807:=by decide
 unfold Lit.wf
 simp only [e1,e2,Bool.and_eq_true,decide_eq_true_eq]
 omega
def xl6 (logs:List ALog) (c:List Int):List (List Int):=((xeo (col c 0) logs).getD (0,[])).2
def xvL (logs:List ALog) (tm dl:Int) (c:List Int):Bool:=decide (col c 2+dl>tm)||(xlu tm (xl6 logs c)).contains (col c 1)
def offF (logs:List ALog) (c:List Int):Bool:=decide (xl3 0 (-1) (xl6 logs c)<col c 2)||!onF (col c 2) true (xl6 logs c)
def updF (logs:List ALog) (c g:List Int):List Int:=[col g 0,col g 1,b2 (col g 2 !=0),b2 (col g 3 !=0&&offF logs c)]
def xop (uo:List (List Int)) (logs:List ALog) (tm dl:Int) (gs:List (List Int)) (c:List Int):List (List Int) :=
 bif xvL logs tm dl c then gs else
 bif gs.any (xgV c) then gs.map fun g=>bif xgV c g then updF logs c g else g
 else gs++[updF logs c [col c 0,col c 1,b2 (!xw9 (col c 1) (-1) uo),1]]
def xc6 (uo:List (List Int)) (logs:List ALog) (tm dl:Int) (up:List (List Int)):List (List Int):=(xo1 (up.foldl (xop uo logs tm dl) [])).map xoK
theorem xCM (n:Int) (l:List Int):hasN n (xaD l)=l.contains n:=by
 unfold hasN xaD
 rw [List.any_map,List.contains_eq_any_beq]
 rfl
theorem xov:∀ {logs:List ALog} {b:Int},risF b logs=true→∀ x∈logs,valF x.1 x.2=true∧b<x.1
 | [],_,_,x,hx=>by cases hx
 | y::r,b,h,x,hx=>by
  unfold risF at h
  simp only [Bool.and_eq_true,decide_eq_true_eq] at h
  rcases List.mem_cons.1 hx with rfl | hx
  ·exact h.1
  ·have:=xov h.2 x hx
   exact ⟨this.1,by omega⟩
theorem xw6 {logs:List ALog} (h:risF 0 logs=true) (c:List Int):(xl6 logs c).length≤200:=by
 unfold xl6 xeo
 cases hf:logs.find? fun x=>x.1==col c 0 with
 | none=>simp
 | some x=>exact (xql (xov h x (List.mem_of_find?_eq_some hf)).1).1
theorem xsG (um:List (List Int)) (c:List Int):gSl (um.map rowO) c=xl6 (xao um) c:=by
 unfold gSl xFV xl6
 rw [xjN]
 cases xeo (c.getD 0 0) (xao um) with
 | none=>exact xg7 _
 | some x=>exact xg7 _
theorem xjR {up:List (List Int)} (h:chF up=true):up.length≤200∧∀ c∈up,0≤col c 2∧col c 2≤10000000∧1≤col c 1∧col c 1≤10000∧1≤col c 0∧col c 0≤8:=by
 unfold chF at h
 simp only [Bool.and_eq_true,decide_eq_true_eq,Bool.not_eq_true'] at h
 refine ⟨h.1,fun c hc=>?_⟩
 have:=List.any_eq_false.1 h.2 c hc
 unfold badC tmF itF at this
 simp only [Bool.not_eq_true,Bool.or_eq_false_iff,Bool.not_eq_false',Bool.and_eq_true,decide_eq_true_eq,decide_eq_false_iff_not] at this
 omega
theorem xy4 {ow t un:Int} {uo um up:List (List Int)} (ho:uo.length≤9223372036854775807) (hc:xg8 ow t un uo up=true) (hr:risF 0 (xao um)=true) :
  xdK ow t un uo (um.map rowO) up∧xas ow t un uo (um.map rowO) up=xc6 uo (xao um) t un up:=by
 unfold xg8 at hc
 simp only [Bool.and_eq_true,decide_eq_true_eq] at hc
 obtain ⟨⟨⟨⟨⟨hv,h0⟩,hch⟩,htm⟩,hd0⟩,hd1⟩:=hc
 obtain ⟨hlen,hcs⟩:=xjR hch
 have eskip:∀ c∈up,xuO (um.map rowO) t un c=xvL (xao um) t un c∧GPre uo (um.map rowO) ow t un c:=by
  intro c hc
  obtain ⟨q1,q2,q3,q4,q5,q6⟩:=hcs c hc
  have hsl:=xw6 hr c
  have hsh:=xzy (gSo (um.map rowO) c) t (xl6 (xao um) c) (by omega)
  have hcn:=xzc (col c 1) (xaD (xlu t (xl6 (xao um) c))) (by
   have h1:=xmx (xk3 t (xl6 (xao um) c))
   have h2:=xjs t (xl6 (xao um) c)
   unfold xaD xlu
   rw [List.length_map]
   omega)
  have elate:xC1 t un c=decide (col c 2+un>t):=by
   unfold xC1
   have q1':0≤c.getD 2 0:=q1
   have q2':c.getD 2 0≤10000000:=q2
   rw [xcJ (by omega)]
  have e:xuO (um.map rowO) t un c=xvL (xao um) t un c:=by
   unfold xuO xvL
   rw [elate,xsG,hsh.2]
   congr 1
   exact hcn.2.trans (xCM _ _)
  refine ⟨e,⟨xGa (n:=col c 0) (by omega) (by omega),xGa (n:=col c 1) (by omega) (by omega),fun _=>?_,fun _=>?_⟩⟩
  ·rw [xsG]
   exact ⟨hsh.1,by rw [hsh.2]; exact hcn.1⟩
  ·rw [xsG]
   exact ⟨(xvP _ _ _ uo ho).1,(xyT _ _ (by omega)).1,(xCa _ _ _ (by omega)).1⟩
 refine ⟨⟨by omega,fun c hc=>(eskip c hc).2⟩,?_⟩
 unfold xas xc6
 congr 2
 have key:∀ (l:List (List Int)) (gs:List (List Int)),(∀ c∈l,c∈up)→l.foldl (xoJ uo (um.map rowO) ow t un) gs=l.foldl (xop uo (xao um) t un) gs:=by
  intro l
  induction l with
  | nil=>intro gs _; rfl
  | cons c r ih =>
   intro gs hl
   rw [List.foldl_cons,List.foldl_cons]
   have hcm:=hl c List.mem_cons_self
   have hsl:=xw6 hr c
   have e:xoJ uo (um.map rowO) ow t un gs c=xop uo (xao um) t un gs c:=by
    have eu:∀ g,gUpd (um.map rowO) c g=updF (xao um) c g:=fun g=>by
     unfold gUpd updF offF
     rw [xsG,(xyT _ _ (by omega)).2.1,(xCa _ _ _ (by omega)).2]
    unfold xoJ xop
    rw [(eskip c hcm).1,(xvP _ _ _ uo ho).2]
    simp only [eu]
   rw [e]
   exact ih _ fun x hx=>hl x (List.mem_cons_of_mem _ hx)
 exact key up [] fun c h=>h
end Go.Proofs.YtikhnofbbcmpeaaGreat
set_option linter.unusedVariables false
set_option maxRecDepth 100000
namespace Go.Proofs.YtikhnofbbcmpeaaGreat
open Go Go.Sy
abbrev Key:=Int×Int
def kOf (g:List Int):Key:=(col g 0,col g 1)
def ltK (a b:Key):Prop:=a.1<b.1∨(a.1=b.1∧a.2<b.2)
def cntF (logs:List ALog) (tm dl:Int) (c:List Int):Bool:=!xvL logs tm dl c
def mkG (uo:List (List Int)) (logs:List ALog) (tm dl:Int) (up:List (List Int)) (k:Key):List Int :=
 [k.1,k.2,b2 (!xw9 k.2 (-1) uo),b2 (up.all fun c=>!(cntF logs tm dl c&&decide (kOf c=k))||offF logs c)]
theorem b2_b (b:Bool):b2 (b2 b !=0)=b2 b:=by cases b<;>rfl
theorem xq0 (c g:List Int):xgV c g=decide (kOf c=kOf g):=by
 unfold xgV kOf
 by_cases h:(col c 0,col c 1)=(col g 0,col g 1)
 ·rw [decide_eq_true h]
  obtain ⟨h1,h2⟩:=Prod.mk.inj h
  rw [show g.getD 0 0=c.getD 0 0 from h1.symm,show g.getD 1 0=c.getD 1 0 from h2.symm]
  simp
 ·rw [decide_eq_false h]
  cases hb:(g.getD 0 0==c.getD 0 0&&g.getD 1 0==c.getD 1 0) with
  | false=>rfl
  | true =>
   rw [Bool.and_eq_true,beq_iff_eq,beq_iff_eq] at hb
   exact absurd (Prod.ext hb.1.symm hb.2.symm) h
theorem xpW (uo:List (List Int)) (logs:List ALog) (tm dl:Int):∀ (r done:List (List Int)) (ks:List Key),ks.Nodup→(∀ k,k∈ks↔∃ c∈done,cntF logs tm dl c=true∧kOf c=k) →
  ∃ ks':List Key,ks'.Nodup∧(∀ k,k∈ks'↔∃ c∈done++r,cntF logs tm dl c=true∧kOf c=k)∧r.foldl (xop uo logs tm dl) (ks.map (mkG uo logs tm dl done))=ks'.map (mkG uo logs tm dl (done++r))
 | [],done,ks,hn,hk=>⟨ks,hn,by simpa using hk,by simp⟩
 | c::r,done,ks,hn,hk=>by
  rw [List.foldl_cons]
  have emk:∀ k,cntF logs tm dl c=false∨kOf c≠k→mkG uo logs tm dl (done++[c]) k=mkG uo logs tm dl done k:=fun k h=>by
   unfold mkG
   have:(!(cntF logs tm dl c&&decide (kOf c=k))||offF logs c)=true:=by
    rcases h with h | h
    ·rw [h]; rfl
    ·rw [decide_eq_false h,Bool.and_false]; rfl
   rw [List.all_append,List.all_cons,List.all_nil,this,Bool.true_and,Bool.and_true]
  cases hs:xvL logs tm dl c with
  | true =>
   have hc:cntF logs tm dl c=false:=by unfold cntF; rw [hs]; rfl
   have e:xop uo logs tm dl (ks.map (mkG uo logs tm dl done)) c=ks.map (mkG uo logs tm dl (done++[c])):=by
    unfold xop
    rw [hs,cond_true]
    exact List.map_congr_left fun k _=>(emk k (.inl hc)).symm
   rw [e]
   have hk':∀ k,k∈ks↔∃ x∈done++[c],cntF logs tm dl x=true∧kOf x=k:=fun k=>by
    rw [hk]
    constructor
    ·rintro ⟨x,hx,h⟩; exact ⟨x,List.mem_append.2 (.inl hx),h⟩
    ·rintro ⟨x,hx,h⟩
     rcases List.mem_append.1 hx with hx | hx
     ·exact ⟨x,hx,h⟩
     ·rw [List.mem_singleton.1 hx,hc] at h
      cases h.1
   have:=xpW uo logs tm dl r (done++[c]) ks hn hk'
   simpa [List.append_assoc] using this
  | false =>
   have hc:cntF logs tm dl c=true:=by unfold cntF; rw [hs]; rfl
   have hkey:∀ k,kOf (mkG uo logs tm dl done k)=k:=fun k=>rfl
   have hany:(ks.map (mkG uo logs tm dl done)).any (xgV c)=decide (kOf c∈ks):=by
    rw [List.any_map]
    by_cases h:kOf c∈ks
    ·rw [decide_eq_true h,List.any_eq_true]
     exact ⟨kOf c,h,by show xgV c (mkG uo logs tm dl done (kOf c))=true; rw [xq0,hkey]; exact decide_eq_true rfl⟩
    ·rw [decide_eq_false h,List.any_eq_false]
     intro k hk'
     show ¬ xgV c (mkG uo logs tm dl done k)=true
     rw [xq0,hkey]
     intro h'
     exact h ((of_decide_eq_true h')▸hk')
   by_cases hin:kOf c∈ks
   ·have e:xop uo logs tm dl (ks.map (mkG uo logs tm dl done)) c=ks.map (mkG uo logs tm dl (done++[c])):=by
     unfold xop
     rw [hs,cond_false,hany,decide_eq_true hin,cond_true,List.map_map]
     refine List.map_congr_left fun k _=>?_
     show (bif xgV c (mkG uo logs tm dl done k) then updF logs c (mkG uo logs tm dl done k) else mkG uo logs tm dl done k)=_
     rw [xq0,hkey]
     by_cases h:kOf c=k
     ·rw [decide_eq_true h,cond_true]
      show [k.1,k.2,b2 (b2 (!xw9 k.2 (-1) uo) !=0),b2 (b2 (done.all fun c=>!(cntF logs tm dl c&&decide (kOf c=k))||offF logs c) !=0&&offF logs c)]=_
      rw [b2_b,xGX]
      unfold mkG
      rw [List.all_append,List.all_cons,List.all_nil,hc,decide_eq_true h,Bool.and_true]
      rfl
     ·rw [decide_eq_false h,cond_false]
      exact (emk k (.inr h)).symm
    rw [e]
    have hk':∀ k,k∈ks↔∃ x∈done++[c],cntF logs tm dl x=true∧kOf x=k:=fun k=>by
     constructor
     ·intro h
      obtain ⟨x,hx,h⟩:=(hk k).1 h
      exact ⟨x,List.mem_append.2 (.inl hx),h⟩
     ·rintro ⟨x,hx,h⟩
      rcases List.mem_append.1 hx with hx | hx
      ·exact (hk k).2 ⟨x,hx,h⟩
      ·rw [List.mem_singleton.1 hx] at h
       exact h.2▸hin
    have:=xpW uo logs tm dl r (done++[c]) ks hn hk'
    simpa [List.append_assoc] using this
   ·have e:xop uo logs tm dl (ks.map (mkG uo logs tm dl done)) c=(ks++[kOf c]).map (mkG uo logs tm dl (done++[c])):=by
     unfold xop
     rw [hs,cond_false,hany,decide_eq_false hin,cond_false,List.map_append]
     congr 1
     ·exact List.map_congr_left fun k hk'=>(emk k (.inr fun h=>hin (h▸hk'))).symm
     ·show [[col c 0,col c 1,b2 (b2 (!xw9 (col c 1) (-1) uo) !=0),b2 (true&&offF logs c)]]=[mkG uo logs tm dl (done++[c]) (kOf c)]
      rw [b2_b]
      unfold mkG
      have hall:(done.all fun c'=>!(cntF logs tm dl c'&&decide (kOf c'=kOf c))||offF logs c')=true:=by
       rw [List.all_eq_true]
       intro x hx
       cases h1:cntF logs tm dl x with
       | false=>rfl
       | true =>
        have:¬ kOf x=kOf c:=fun h=>hin ((hk _).2 ⟨x,hx,h1,h⟩)
        rw [decide_eq_false this]; rfl
      rw [List.all_append,List.all_cons,List.all_nil,hall,hc,decide_eq_true rfl]
      simp [kOf]
    rw [e]
    have hk':∀ k,k∈ks++[kOf c]↔∃ x∈done++[c],cntF logs tm dl x=true∧kOf x=k:=fun k=>by
     rw [List.mem_append,hk,List.mem_singleton]
     constructor
     ·rintro (⟨x,hx,h⟩ | h)
      ·exact ⟨x,List.mem_append.2 (.inl hx),h⟩
      ·exact ⟨c,by simp,hc,h.symm⟩
     ·rintro ⟨x,hx,h⟩
      rcases List.mem_append.1 hx with hx | hx
      ·exact .inl ⟨x,hx,h⟩
      ·rw [List.mem_singleton.1 hx] at h
       exact .inr h.2.symm
    have hn':(ks++[kOf c]).Nodup:=List.nodup_append.2 ⟨hn,by simp,fun a ha b hb e=>hin (by rw [List.mem_singleton.1 hb] at e; exact e▸ha)⟩
    have:=xpW uo logs tm dl r (done++[c]) (ks++[kOf c]) hn' hk'
    simpa [List.append_assoc] using this
theorem xnt (uo:List (List Int)) (logs:List ALog) (tm dl:Int) (up:List (List Int)):∃ ks:List Key,ks.Pairwise ltK∧(∀ k,k∈ks↔∃ c∈up,cntF logs tm dl c=true∧kOf c=k)∧xc6 uo logs tm dl up=ks.map (mkG uo logs tm dl up):=by
 obtain ⟨ks,h1,h2,h3⟩:=xpW uo logs tm dl up [] [] List.nodup_nil (by simp)
 have h2:∀ k,k∈ks↔∃ c∈up,cntF logs tm dl c=true∧kOf c=k:=h2
 have h3:up.foldl (xop uo logs tm dl) []=ks.map (mkG uo logs tm dl up):=h3
 have hp:=xiS (le:=leL [0,1]) (ks.map (mkG uo logs tm dl up))
 have hsort:=xhc (xgj [0,1]) (xgi [0,1]) (ks.map (mkG uo logs tm dl up))
 have hmem:∀ g∈xhh (leL [0,1]) (ks.map (mkG uo logs tm dl up)),mkG uo logs tm dl up (kOf g)=g∧kOf g∈ks:=fun g hg=>by
  obtain ⟨k,hk,rfl⟩:=List.mem_map.1 (hp.mem_iff.1 hg)
  exact ⟨rfl,hk⟩
 have hks:((xhh (leL [0,1]) (ks.map (mkG uo logs tm dl up))).map kOf).Perm ks:=by
  have:=hp.map kOf
  rw [List.map_map] at this
  have e:ks.map (kOf∘mkG uo logs tm dl up)=ks:=(List.map_congr_left fun k _=>rfl).trans (List.map_id ks)
  rwa [e] at this
 refine ⟨(xhh (leL [0,1]) (ks.map (mkG uo logs tm dl up))).map kOf,?_,fun k=>by rw [hks.mem_iff,h2],?_⟩
 ·have hnd:((xhh (leL [0,1]) (ks.map (mkG uo logs tm dl up))).map kOf).Nodup:=hks.nodup_iff.2 h1
  rw [List.pairwise_map]
  have hne:(xhh (leL [0,1]) (ks.map (mkG uo logs tm dl up))).Pairwise fun a b=>kOf a≠kOf b:=by
   rw [← List.pairwise_map]
   exact hnd
  refine (List.Pairwise.and hsort hne).imp fun {a b} h=>?_
  obtain ⟨h1,h2⟩:=h
  unfold leL at h1
  show col a 0<col b 0∨(col a 0=col b 0∧col a 1<col b 1)
  by_cases e0:a.getD 0 0=b.getD 0 0
  ·rw [if_pos e0] at h1
   unfold leL at h1
   by_cases e1:a.getD 1 0=b.getD 1 0
   ·exact absurd (Prod.ext e0 e1) h2
   ·rw [if_neg e1] at h1
    exact .inr ⟨e0,of_decide_eq_true h1⟩
  ·rw [if_neg e0] at h1
   exact .inl (of_decide_eq_true h1)
 ·unfold xc6 xo1
  rw [h3,List.map_map]
  refine List.map_congr_left fun g hg=>?_
  obtain ⟨e,_⟩:=hmem g hg
  show xoK g=mkG uo logs tm dl up (kOf g)
  rw [e]
  rw [← e]
  show [_,_,b2 (b2 _ !=0),b2 (b2 _ !=0)]=_
  rw [b2_b,b2_b]
  rfl
def xr3 (gs:List (List Int)):Prop:=∀ g∈gs,xoK g=g
theorem xpU {uo:List (List Int)} {logs:List ALog} {tm dl:Int} {up:List (List Int)} (hch:chF up=true):xep (xc6 uo logs tm dl up)∧xr3 (xc6 uo logs tm dl up)∧(xc6 uo logs tm dl up).length≤up.length:=by
 obtain ⟨ks,h1,h2,h3⟩:=xnt uo logs tm dl up
 obtain ⟨hlen,hcs⟩:=xjR hch
 rw [h3]
 refine ⟨fun g hg=>?_,fun g hg=>?_,?_⟩
 ·obtain ⟨k,hk,rfl⟩:=List.mem_map.1 hg
  obtain ⟨c,hc,_,rfl⟩:=(h2 k).1 hk
  have:=hcs c hc
  show 0≤col c 0∧col c 0≤8
  omega
 ·obtain ⟨k,hk,rfl⟩:=List.mem_map.1 hg
  show [_,_,b2 (b2 _ !=0),b2 (b2 _ !=0)]=_
  rw [b2_b,b2_b]
  rfl
 ·have hl:∀ (l:List (List Int)) (gs:List (List Int)),(l.foldl (xop uo logs tm dl) gs).length≤gs.length+l.length:=by
   intro l
   induction l with
   | nil=>intro gs; simp
   | cons c r ih =>
    intro gs
    rw [List.foldl_cons]
    refine Nat.le_trans (ih _) ?_
    have:(xop uo logs tm dl gs c).length≤gs.length+1:=by
     unfold xop
     cases xvL logs tm dl c
     ·rw [cond_false]
      cases gs.any (xgV c)
      ·rw [cond_false]; simp
      ·rw [cond_true]; simp
     ·rw [cond_true]; omega
    simp only [List.length_cons]
    omega
  rw [← h3]
  unfold xc6 xo1
  rw [List.length_map,xgk]
  simpa using hl up []
end Go.Proofs.YtikhnofbbcmpeaaGreat
set_option linter.unusedVariables false
set_option maxRecDepth 100000
namespace Go.Proofs.YtikhnofbbcmpeaaGreat
open Go Go.Sy
def apF (g h:List Int):Bool:=!(col g 0==col h 0&&(col g 1==col h 1&&true))&&!((col g 2 !=0)&&(col h 2 !=0)&&col g 1==col h 1)&&!((col g 3 !=0)&&(col h 3 !=0)&&col g 0==col h 0)
noncomputable def goP (k:Int→List (List Int)→List (List Int)) (n:Int):List (List Int)→List (List Int)
 | []=>[]
 | g::r=>if ((fewF (r.filter (apF g))).length:Int)=n-1 then [col g 0,col g 1]::k (n-1) (r.filter (apF g)) else goP k n r
noncomputable def prF:Nat→Int→List (List Int)→List (List Int)
 | 0,_,_=>[]
 | m+1,n,up=>if n=0 then [] else goP (prF m) n up
theorem xvj {k:Int→List (List Int)→List (List Int)} (hk:∀ n l,(k n l).length≤l.length) (n:Int):∀ l,(goP k n l).length≤l.length
 | []=>Nat.le_refl _
 | g::r=>by
  unfold goP
  split
  ·have h1:=hk (n-1) (r.filter (apF g))
   have h2:=List.length_filter_le (apF g) r
   simp only [List.length_cons]
   omega
  ·have:=xvj hk n r
   simp only [List.length_cons]
   omega
theorem xqA:∀ (m:Nat) (n:Int) (l:List (List Int)),(prF m n l).length≤l.length
 | 0,_,_=>Nat.zero_le _
 | m+1,n,l=>by
  unfold prF
  split
  ·exact Nat.zero_le _
  ·exact xvj (xqA m) n l
theorem xFt {pr:Int→List (List Int)→Prop} {g:Int→List (List Int)→List (List Int)} {n:Int} {up:List (List Int)} (hok:xr3 up) (hl:up.length≤1000000) {i:Nat} (hi:i<up.length) :
  xav (xg3 pr g n up [.i i]) (xow pr g n up [.i i])∧gr (xtj pr g n up [.i i]).snd 1=(up.drop (i+1)).filter (apF up[i]):=by
 have hw:IntKind.i64.wrap ((i:Int)+1)=((i+1:Nat):Int):=xbX (by omega)
 have hld:(up.drop (i+1)).length=up.length-(i+1):=List.length_drop
 obtain ⟨h1,h2⟩:=xbj (step:=xg3 pr g n up [.i i]) (up.drop (i+1)) (fun j (s:List (List Int))=>[.i j,.r s]) (fun s x=>.inl (if apF up[i] x=true then s++[x] else s)) (fun j s=>s.length≤j) (fun s=>(2,[.i ((up.drop (i+1)).length:Nat),.r s])) 0
  (fun j s hj _ hI=>by
   have hj':i+1+j<up.length:=by omega
   have he:(up.drop (i+1))[j]=up[i+1+j]:=List.getElem_drop
   have hfit:∀ x:List Int,xa5 24 (s.length+[x].length):=fun x=>by unfold xa5 maxLen; simp only [List.length_cons,List.length_nil]; omega
   refine ⟨?_,fun s' hs'=>by cases hs'; exact Nat.le_trans (xpD _ _ _) (by omega)⟩
   rw [he]
   have hn:=hok _ (List.getElem_mem hj')
   unfold xg3 xBY xBX xEF xEH xEG
   simp only [gi_z,gr_1,gr_z,hw,xaF,loN,shI,Int.toNat_natCast,xbX (show j<9223372036854775807 by omega)]
   rw [decide_eq_true (by omega),cond_true,xaa (by omega),xaa (by unfold inR; omega),show (((i+1:Nat):Int)+(j:Int)).toNat=i+1+j by omega,xaz hj',xaz hi,xaa (hfit _)]
   have hn':[up[i+1+j].getD 0 0,up[i+1+j].getD 1 0,bif up[i+1+j].getD 2 0 !=0 then 1 else 0,bif up[i+1+j].getD 3 0 !=0 then 1 else 0]=up[i+1+j]:=hn
   rw [hn']
   show (bif apF up[i] up[i+1+j] then _ else _)=_
   cases apF up[i] up[i+1+j]
   ·rw [if_neg (by decide)]; rfl
   ·rw [if_pos rfl]; rfl)
  (fun j s hj _=>by
   have:j=(up.drop (i+1)).length:=by omega
   subst this
   unfold xg3 xBY
   simp only [gi_z,gr_1,gr_z,hw,xaF,loN,Int.toNat_natCast,hld]
   rw [decide_eq_false (by omega)]; rfl) (s:=[]) (Nat.zero_le _)
 refine ⟨h1,?_⟩
 have:xtj pr g n up [.i i]=xaf (xg3 pr g n up [.i i]) [.i ((0:Nat):Int),.r []]:=rfl
 rw [this,h2,List.drop_zero,xdx,xgp,List.nil_append]
 show gr [.i _,.r (((up.drop (i+1)).filter (apF up[i])).map fun x=>x)] 1=_
 rw [gr_1,gr_z,List.map_id']
theorem xED:∀ (k n:Nat) (up:List (List Int)),n<k→n≤1000000→xep up→xr3 up→up.length≤1000000→(prx k).1 n up∧(prx k).2 n up=prF k n up
 | 0,n,up,hn,_,_,_,_=>by omega
 | k+1,n,up,hn,hnb,hs,hok,hl=>by
  show xyE (prx k).1 (prx k).2 n up∧xD3 (prx k).1 (prx k).2 n up=prF (k+1) n up
  by_cases h0:n=0
  ·subst h0
   exact ⟨(fun h=>by cases h),rfl⟩
  ·have hn0:((n:Int)==0)=false:=by simpa using h0
   have key:∀ m i,i+m=up.length→∃ q r,xiK (xhZ (prx k).1 (prx k).2 n up) q [.i i]=some r∧(bif r.1.beq 1 then gr r.2 0 else [])=goP (prF k) n (up.drop i):=by
    intro m
    induction m with
    | zero =>
     intro i hi
     have hi:i=up.length:=by omega
     subst hi
     refine ⟨1,(3,[.i up.length]),xjD ?_,?_⟩
     ·unfold xhZ
      simp only [gi_z,dnlt]
     ·rw [List.drop_length]; rfl
    | succ m ih =>
     intro i hi
     have hi':i<up.length:=by omega
     have hw:IntKind.i64.wrap ((i:Int)+1)=((i+1:Nat):Int):=xbX (by omega)
     have hwn:IntKind.i64.wrap ((n:Int)-1)=((n-1:Nat):Int):=by rw [xcJ (by omega)]; omega
     obtain ⟨q1,q2⟩:=xFt (pr:=(prx k).1) (g:=(prx k).2) (n:=(n:Int)) hok hl hi'
     have hsub:∀ x∈(up.drop (i+1)).filter (apF up[i]),x∈up:=fun x hx=>List.mem_of_mem_drop (List.mem_filter.1 hx).1
     have hlr:((up.drop (i+1)).filter (apF up[i])).length≤1000000:=Nat.le_trans (List.length_filter_le _ _) (by rw [List.length_drop]; omega)
     have hs':xep ((up.drop (i+1)).filter (apF up[i])):=fun x hx=>hs x (hsub x hx)
     have hok':xr3 ((up.drop (i+1)).filter (apF up[i])):=fun x hx=>hok x (hsub x hx)
     obtain ⟨f1,f2⟩:=xxZ hs' hlr
     obtain ⟨p1,p2⟩:=xED k (n-1) _ (by omega) (by omega) hs' hok' hlr
     have hplen:=xqA k ((n-1:Nat):Int) ((up.drop (i+1)).filter (apF up[i]))
     have hstep:xhZ (prx k).1 (prx k).2 n up [.i i]=if ((fewF ((up.drop (i+1)).filter (apF up[i]))).length:Int)=n-1 then some (1,[.r ([col up[i] 0,col up[i] 1]::prF k (n-1) ((up.drop (i+1)).filter (apF up[i])))]) else some (0,[.i ((i+1:Nat):Int)]):=by
      unfold xhZ xEE
      simp only [gi_z,hw,hwn]
      rw [q2,f2,p2,dlt hi',xaa (xan hi'),xaa (xan hi'),xaa (by omega),xaa q1,xaa f1,xaa p1,xaC hi',
       xaa (by unfold xa5 maxLen; simp only [List.length_cons,List.length_nil]; omega)]
      have en:((n-1:Nat):Int)=(n:Int)-1:=by omega
      rw [en]
      by_cases h:((fewF ((up.drop (i+1)).filter (apF up[i]))).length:Int)=n-1
      ·rw [if_pos h,h,beq_self_eq_true,cond_true]; rfl
      ·rw [if_neg h,bne h]; rfl
     rw [List.drop_eq_getElem_cons hi']
     unfold goP
     by_cases h:((fewF ((up.drop (i+1)).filter (apF up[i]))).length:Int)=n-1
     ·rw [if_pos h] at hstep
      rw [if_pos h]
      refine ⟨1,_,xjD hstep,?_⟩
      exact gr_z _ []
     ·rw [if_neg h] at hstep
      rw [if_neg h]
      obtain ⟨q,r,h1,h2⟩:=ih (i+1) (by omega)
      exact ⟨q+1,r,xjc hstep h1,h2⟩
   obtain ⟨q,r,h1,h2⟩:=key up.length 0 (by omega)
   have hinit:xox (prx k).1 (prx k).2 n up=[.i ((0:Nat):Int)]:=rfl
   obtain ⟨g1,g2⟩:=xmF h1
   refine ⟨fun _=>by rw [hinit]; exact g1,?_⟩
   unfold xD3 xBZ
   rw [hn0,cond_false,hinit,g2]
   show _=if (n:Int)=0 then [] else goP (prF k) n up
   rw [if_neg (by omega)]
   exact h2
theorem xjZ (b:Bool):(!!b)=b:=by cases b<;>rfl
def xgK (gs:List (List Int)):List (List Int):=gs.map fun g=>[col g 0,col g 1]
theorem xDI {ow t un:Int} {uo um up:List (List Int)} (ho:uo.length≤9223372036854775807) (hs:um.length≤9223372036854775807) (hl:up.length≤9223372036854775807) (hd:xoV um) :
  xcS ow t un uo um up∧xcq ow t un uo um up=(if xdS ow t un uo (xao um) up=true then xgK (xc6 uo (xao um) t un up) else [])∧xdn ow t un uo um up=if xdS ow t un uo (xao um) up=true then 0 else 1:=by
 have hv:=xgu ow uo ho
 have hc:=xkZ up hl
 obtain ⟨o1,o2,o3⟩:=xzN (ow:=ow) (t:=t) (un:=un) (uo:=uo) (up:=up) hs hd
 unfold xcS xcq xmT xmU xdn xmR xmS
 rw [xwP ho hl,xwO]
 cases h1:xg8 ow t un uo up with
 | false=>exact ⟨⟨hv.1,fun _=>hc.1,fun h=>by cases h⟩,rfl,rfl⟩
 | true =>
  cases h2:risF 0 (xao um) with
  | false =>
   have e:=o3 h2
   rw [e]
   exact ⟨⟨hv.1,fun _=>hc.1,fun _=>⟨o1,fun h=>by cases h⟩⟩,rfl,rfl⟩
  | true =>
   obtain ⟨e,er⟩:=o2 h2
   obtain ⟨p1,p2⟩:=xB7 (ow:=ow) (t:=t) (un:=un) (uo:=uo) hl hs hd h2
   obtain ⟨g1,g2⟩:=xy4 (t:=t) ho h1 h2
   rw [e,xjZ,p2]
   rw [show (xaw ow t un uo um up).snd=(xaw ow t un uo um up).2 from rfl,er]
   cases h3:up.any (xlC (xao um)) with
   | true=>exact ⟨⟨hv.1,fun _=>hc.1,fun _=>⟨o1,fun _=>⟨p1,fun h=>by cases h⟩⟩⟩,rfl,rfl⟩
   | false =>
    have hch:chF up=true:=by
     unfold xg8 at h1
     simp only [Bool.and_eq_true] at h1
     exact h1.1.1.1.2
    obtain ⟨k1,k2,k3⟩:=xpU (uo:=uo) (logs:=xao um) (tm:=t) (dl:=un) hch
    have hl200:=(xjR hch).1
    obtain ⟨q1,q2⟩:=xbj (step:=xcL ow t un uo um up) (xc6 uo (xao um) t un up) (fun i (s:List (List Int))=>[.i i,.r s]) (fun s x=>.inl (s++[[col x 0,col x 1]])) (fun i s=>s.length≤i) (fun s=>(1,[.i ((xc6 uo (xao um) t un up).length:Nat),.r s])) 0
     (fun i s hi _ hI=>by
      refine ⟨?_,fun s' hs'=>by cases hs'; simp; exact hI⟩
      unfold xcL xjh
      simp only [gi_z,gr_1,gr_z]
      rw [show (xaw ow t un uo um up).snd=(xaw ow t un uo um up).2 from rfl,er,g2,dlt hi,xaa (xan hi),xaa (xan hi),xaC hi,xbX (by omega),xaa (by unfold xa5 maxLen; simp only [List.length_cons,List.length_nil]; omega)]
      rfl)
     (fun i s hi _=>by
      have:i=(xc6 uo (xao um) t un up).length:=by omega
      subst this
      unfold xcL
      simp only [gi_z,gr_1,gr_z]
      rw [show (xaw ow t un uo um up).snd=(xaw ow t un uo um up).2 from rfl,er,g2,dnlt]) (s:=[]) (Nat.zero_le _)
    refine ⟨⟨hv.1,fun _=>hc.1,fun _=>⟨o1,fun _=>⟨p1,fun _=>⟨g1,q1⟩⟩⟩⟩,?_,rfl⟩
    have el:xmW ow t un uo um up=xaf (xcL ow t un uo um up) [.i ((0:Nat):Int),.r []]:=rfl
    have ef:∀ (l s:List (List Int)),l.foldl (fun s x=>s++[[col x 0,col x 1]]) s=s++xgK l:=by
     intro l
     induction l with
     | nil=>intro s; simp [xgK]
     | cons x r ih=>intro s; rw [List.foldl_cons,ih]; simp [xgK]
    rw [el,q2,List.drop_zero,xdx,ef,List.nil_append]
    show gr [U.i ((xc6 uo (xao um) t un up).length:Nat),U.r (xgK (xc6 uo (xao um) t un up))] 1=xgK (xc6 uo (xao um) t un up)
    rw [gr_1,gr_z]
theorem xoO (up:List (List Int)):(fewF up).length≤(byF 0 up).length:=by
 have:∀ n,(upto (xfs up) n (byF 0 up)).length≤(byF 0 up).length:=by
  intro n
  induction n with
  | zero=>exact Nat.le_refl _
  | succ n ih =>
   have e:upto (xfs up) (n+1) (byF 0 up)=xfs up n (upto (xfs up) n (byF 0 up)):=rfl
   rw [e]
   generalize upto (xfs up) n (byF 0 up)=b at *
   unfold xfs
   split
   ·split
    ·rename_i hb
     unfold xek at hb
     simp only [Bool.or_eq_true,Bool.and_eq_true,decide_eq_true_eq,beq_iff_eq] at hb
     rcases hb with hb | hb
     ·omega
     ·have:=hb.1; omega
    ·exact ih
   ·exact ih
 exact this _
theorem xvB {ow t un:Int} {uo um up:List (List Int)} (ho:uo.length≤9223372036854775807) (hs:um.length≤9223372036854775807) (hl:up.length≤9223372036854775807) (hd:xoV um) (h90:up.length≤90∨200<up.length) :
  xbS ow t un uo um up∧xbV ow t un uo um up=(if xdS ow t un uo (xao um) up=true then fewF (xc6 uo (xao um) t un up) else []) ∧
  xcn ow t un uo um up=(if xdS ow t un uo (xao um) up=true then prF 100 ((fewF (xc6 uo (xao um) t un up)).length:Nat) (xc6 uo (xao um) t un up) else []) ∧
  xde ow t un uo um up=if xdS ow t un uo (xao um) up=true then 0 else 1:=by
 have hv:=xgu ow uo ho
 have hc:=xkZ up hl
 obtain ⟨o1,o2,o3⟩:=xzN (ow:=ow) (t:=t) (un:=un) (uo:=uo) (up:=up) hs hd
 have es0:xfq ow t un uo um up=xby ow t un uo um up:=rfl
 have ei0:xfr ow t un uo um up=xcM ow t un uo um up:=rfl
 have el0:xaW ow t un uo um up=xaw ow t un uo um up:=rfl
 have es1:xfo ow t un uo um up=xbx ow t un uo um up:=rfl
 have ei1:xfp ow t un uo um up=xdQ ow t un uo um up:=rfl
 have el1:xbJ ow t un uo um up=xb6 ow t un uo um up:=rfl
 unfold xbS xbV xjK xjL xcn xjI xjJ xde xjG xjH
 rw [es0,ei0,el0,es1,ei1,el1,xwP ho hl,xwO]
 cases h1:xg8 ow t un uo up with
 | false=>exact ⟨⟨hv.1,fun _=>hc.1,fun h=>by cases h⟩,rfl,rfl,rfl⟩
 | true =>
  cases h2:risF 0 (xao um) with
  | false =>
   have e:=o3 h2
   rw [e]
   exact ⟨⟨hv.1,fun _=>hc.1,fun _=>⟨o1,fun h=>by cases h⟩⟩,rfl,rfl,rfl⟩
  | true =>
   obtain ⟨e,er⟩:=o2 h2
   obtain ⟨p1,p2⟩:=xB7 (ow:=ow) (t:=t) (un:=un) (uo:=uo) hl hs hd h2
   obtain ⟨g1,g2⟩:=xy4 (t:=t) ho h1 h2
   rw [e,xjZ,p2]
   rw [show (xaw ow t un uo um up).snd=(xaw ow t un uo um up).2 from rfl,er]
   cases h3:up.any (xlC (xao um)) with
   | true=>exact ⟨⟨hv.1,fun _=>hc.1,fun _=>⟨o1,fun _=>⟨p1,fun h=>by cases h⟩⟩⟩,rfl,rfl,rfl⟩
   | false =>
    have hch:chF up=true:=by
     unfold xg8 at h1
     simp only [Bool.and_eq_true] at h1
     exact h1.1.1.1.2
    obtain ⟨k1,k2,k3⟩:=xpU (uo:=uo) (logs:=xao um) (tm:=t) (dl:=un) hch
    have hl200:=(xjR hch).1
    have hl90:up.length≤90:=by omega
    obtain ⟨f1,f2⟩:=xxZ k1 (by omega)
    have hfl:(fewF (xc6 uo (xao um) t un up)).length<100:=by
     have h0:=xoO (xc6 uo (xao um) t un up)
     have:=xhJ 0 (xc6 uo (xao um) t un up)
     omega
    obtain ⟨x1,x2⟩:=xED 100 (fewF (xc6 uo (xao um) t un up)).length _ hfl (by omega) k1 k2 (by omega)
    rw [g2,f2]
    exact ⟨⟨hv.1,fun _=>hc.1,fun _=>⟨o1,fun _=>⟨p1,fun _=>⟨g1,f1,x1⟩⟩⟩⟩,rfl,x2,rfl⟩
end Go.Proofs.YtikhnofbbcmpeaaGreat
set_option linter.unusedVariables false
set_option maxRecDepth 100000
namespace Go.Proofs.YtikhnofbbcmpeaaGreat
open Go Go.Sy
def xjT (cf:List Int→List Int→Int):List (List Int)→Bool
 | x::y::r=>decide (cf x y<0)&&xjT cf (y::r)
 | _=>true
theorem xkl (cf:List Int→List Int→Int):∀ l:List (List Int),xjT cf l=true↔∀ i (h:i+1<l.length),cf l[i] l[i+1]<0
 | []=>⟨fun _ i h=>by simp at h,fun _=>rfl⟩
 | [x]=>⟨fun _ i h=>by simp at h,fun _=>rfl⟩
 | x::y::r=>by
  show (decide (cf x y<0)&&xjT cf (y::r))=true↔_
  rw [Bool.and_eq_true,decide_eq_true_eq,xkl cf (y::r)]
  constructor
  ·rintro ⟨h1,h2⟩ i hi
   cases i with
   | zero=>exact h1
   | succ i=>exact h2 i (by simpa using hi)
  ·intro h
   exact ⟨h 0 (by simp),fun i hi=>h (i+1) (by simpa using hi)⟩
theorem xs5 {step:List U→Option (Nat×List U)} {l:List (List Int)} {cf:List Int→List Int→Int} (m:Nat) (hs:∀ i (hi:i+1<l.length),step [.b false,.i ((i+1:Nat):Int)]=bif decide (cf l[i] l[i+1]≥0) then some (1,[]) else some (0,[.b false,.i ((i+1+1:Nat):Int)]))
  (he:∀ n:Nat,¬ ((n:Int)<(l.length:Int))→step [.b false,.i n]=some (m+2,[.b false,.i n])) {init:List U} (hi:init=[.b false,.i ((0+1:Nat):Int)]) :
  xav step init∧(bif (xaf step init).fst.beq 1 then false else true)=xjT cf l:=by
 subst hi
 obtain ⟨h1,h2⟩:=xcy (step:=step) (l.length-1) (fun i=>decide (cf (l.getD i []) (l.getD (i+1) [])≥0)) (fun i=>[.b false,.i ((i+1:Nat):Int)]) (fun i=>[]) 0 (m+1) [.b false,.i ((l.length-1+1:Nat):Int)]
  (fun i hi=>by rw [hs i (by omega),xaz (by omega),xaz (by omega)]) (he _ (by omega))
 refine ⟨h1,?_⟩
 rcases h2 with ⟨i,hi,hp,_,hg⟩ | ⟨hn,hg⟩
 ·rw [hg]
  rw [xaz (by omega),xaz (by omega)] at hp
  have:xjT cf l=false:=by
   cases hr:xjT cf l with
   | false=>rfl
   | true =>
    have:=(xkl cf l).1 hr i (by omega)
    have:=of_decide_eq_true hp
    omega
  rw [this]; rfl
 ·rw [hg]
  have:xjT cf l=true:=(xkl cf l).2 fun i hi=>by
   have:=hn i (by omega)
   rw [xaz (by omega),xaz hi] at this
   have:=of_decide_eq_false this
   omega
  rw [this]; rfl
def canF (g o:List Int):Bool :=
 bif col o 0==1&&(col o 1==0&&(col o 2==col g 1&&true)) then col g 2 !=0 else bif col o 0==2&&(col o 1==col g 0&&(col o 2==0&&true)) then col g 3 !=0 else col o 0==3&&(col o 1==col g 0&&(col o 2==col g 1&&true))
def keyB (g p:List Int):Bool:=col g 0==col p 0&&(col g 1==col p 1&&true)
def verL (om pr:List (List Int)):List (List Int)→List (List Int)→Option (List (List Int))
 | named,[]=>some named
 | named,g::r=>if (om.any (canF g))=true then (if pr.any (keyB g)=true then (if named.any (fun h=>!apF g h)=true then none else verL om pr (named++[g]) r) else verL om pr named r) else none
noncomputable def verF (gs om pr:List (List Int)):Bool:=om.length==pr.length&&xjT cfO om&&xjT cfG pr&&(match verL om pr [] gs with | some named=>named.length==pr.length | none=>false)
section
variable {ow t un:Int} {uo um up om pr:List (List Int)}
theorem xDL:xfZ ow t un uo um up om pr=xby ow t un uo um up∧xf0 ow t un uo um up om pr=xcM ow t un uo um up∧xau ow t un uo um up om pr=xaw ow t un uo um up ∧
  xfX ow t un uo um up om pr=xbx ow t un uo um up∧xfY ow t un uo um up om pr=xdQ ow t un uo um up∧xdd ow t un uo um up om pr=xb6 ow t un uo um up:=⟨rfl,rfl,rfl,rfl,rfl,rfl⟩
theorem xFg (hom:om.length≤9223372036854775807):xav (xc5 ow t un uo um up om pr) (xfW ow t un uo um up om pr)∧(bif (xfb ow t un uo um up om pr).fst.beq 1 then false else true)=xjT cfO om :=
 xs5 (cf:=cfO) 1 (fun i hi=>by
   unfold xc5 xkN
   have hw:IntKind.i64.wrap (((i+1:Nat):Int)-1)=((i:Nat):Int):=by rw [xcJ (by omega)]; omega
   simp only [gi_1,gi_z,gb_z,hw]
   rw [decide_eq_true (by omega),cond_true,xaa (xan (by omega)),xaa (xan (by omega)),xaa (xan hi),xaa (xan hi),xaa (xiW _ _ _ _ _ _).1,xaC hi,xaC (show i<om.length by omega),xbX (by omega)]
   rfl)
  (fun n hn=>by
   unfold xc5
   simp only [gi_1,gi_z,gb_z]
   rw [decide_eq_false hn]; rfl) rfl
theorem xFf (hpr:pr.length≤9223372036854775807):xav (xc4 ow t un uo um up om pr) (xfV ow t un uo um up om pr)∧(bif (xgD ow t un uo um up om pr).fst.beq 1 then false else true)=xjT cfG pr :=
 xs5 (cf:=cfG) 1 (fun i hi=>by
   unfold xc4 xkM
   have hw:IntKind.i64.wrap (((i+1:Nat):Int)-1)=((i:Nat):Int):=by rw [xcJ (by omega)]; omega
   simp only [gi_1,gi_z,gb_z,hw]
   rw [decide_eq_true (by omega),cond_true,xaa (xan (by omega)),xaa (xan (by omega)),xaa (xan hi),xaa (xan hi),xaa (xsz _ _ _ _).1,xaC hi,xaC (show i<pr.length by omega),xbX (by omega)]
   rfl)
  (fun n hn=>by
   unfold xc4
   simp only [gi_1,gi_z,gb_z]
   rw [decide_eq_false hn]; rfl) rfl
theorem xFe {gs:List (List Int)} (hg:xas ow t un uo (gr (xau ow t un uo um up om pr).snd 3) up=gs) (hok:xr3 gs) (hgs:gs.length≤1000000) (hom:om.length≤9223372036854775807) (hpr:pr.length≤9223372036854775807) :
  xav (xbC ow t un uo um up om pr) (xfU ow t un uo um up om pr) ∧
  (bif (xbl ow t un uo um up om pr).fst.beq 1 then false else bif (xbl ow t un uo um up om pr).fst.beq 2 then false else (↑(gr (xbl ow t un uo um up om pr).snd 3).length:Int)==(↑pr.length:Int))=(match verL om pr [] gs with | some named=>named.length==pr.length | none=>false):=by
 have inner:∀ (i:Nat) (hi:i<gs.length) (named:List (List Int)),named.length≤9223372036854775807 →
   (xav (xc3 ow t un uo um up om pr [.b false,.i 0,.i i,.r named]) (xfT ow t un uo um up om pr [.b false,.i 0,.i i,.r named])∧decide ((bif (xgC ow t un uo um up om pr [.b false,.i 0,.i i,.r named]).fst.beq 1 then gi (xgC ow t un uo um up om pr [.b false,.i 0,.i i,.r named]).snd 0 else (-1:Int))≥0)=om.any (canF gs[i])) ∧
   (xav (xc2 ow t un uo um up om pr [.b false,.i 0,.i i,.r named]) (xfS ow t un uo um up om pr [.b false,.i 0,.i i,.r named])∧decide ((bif (xgB ow t un uo um up om pr [.b false,.i 0,.i i,.r named]).fst.beq 1 then gi (xgB ow t un uo um up om pr [.b false,.i 0,.i i,.r named]).snd 0 else (-1:Int))≥0)=pr.any (keyB gs[i])) ∧
   (xav (xc1 ow t un uo um up om pr [.b false,.i 0,.i i,.r named]) (xfR ow t un uo um up om pr [.b false,.i 0,.i i,.r named])∧decide ((bif (xgA ow t un uo um up om pr [.b false,.i 0,.i i,.r named]).fst.beq 1 then gi (xgA ow t un uo um up om pr [.b false,.i 0,.i i,.r named]).snd 0 else (-1:Int))≥0)=named.any fun h=>!apF gs[i] h):=by
  intro i hi named hnm
  refine ⟨xlc (l:=om) (p:=canF gs[i]) 1 (fun j hj=>?_) ?_ rfl,xlc (l:=pr) (p:=keyB gs[i]) 1 (fun j hj=>?_) ?_ rfl,xlc (l:=named) (p:=fun h=>!apF gs[i] h) 1 (fun j hj=>?_) ?_ rfl⟩
  ·unfold xc3
   simp only [gi_2,gi_1,gi_z]
   rw [hg,dlt hj,xaa (xan hj),xaa (xan hj),xaC hj,xaC hi,xbX (by omega)]
   rfl
  ·unfold xc3
   simp only [gi_1,gi_z,dnlt]
  ·unfold xc2
   simp only [gi_2,gi_1,gi_z]
   rw [hg,dlt hj,xaa (xan hj),xaa (xan hj),xaC hj,xaC hi,xbX (by omega)]
   rfl
  ·unfold xc2
   simp only [gi_1,gi_z,dnlt]
  ·unfold xc1
   simp only [gi_2,gi_1,gi_z,gr_3,gr_z]
   rw [hg,dlt hj,xaa (xan hj),xaa (xan hj),xaC hj,xaC hi,xbX (by omega)]
   rfl
  ·unfold xc1
   simp only [gi_1,gi_z,gr_3,gr_z,dnlt]
 let f:List (List Int)→List Int→List (List Int) ⊕ (Nat×List U):=fun named g=>if (om.any (canF g))=true then (if pr.any (keyB g)=true then (if named.any (fun h=>!apF g h)=true then .inr (1,[]) else .inl (named++[g])) else .inl named) else .inr (0,[])
 obtain ⟨h1,h2⟩:=xbj (step:=xbC ow t un uo um up om pr) gs (fun i (s:List (List Int))=>[.b false,.i 0,.i i,.r s]) f (fun i s=>s.length≤i) (fun s=>(4,[.b false,.i 0,.i gs.length,.r s])) 0
  (fun i s hi _ hI=>by
   obtain ⟨⟨a1,a2⟩,⟨b1,b2⟩,⟨c1,c2⟩⟩:=inner i hi s (by omega)
   refine ⟨?_,fun s' hs'=>?_⟩
   ·have hn:[gs[i].getD 0 0,gs[i].getD 1 0,bif gs[i].getD 2 0 !=0 then 1 else 0,bif gs[i].getD 3 0 !=0 then 1 else 0]=gs[i]:=hok _ (List.getElem_mem hi)
    have hn4:xgz ow t un uo um up om pr [.b false,.i 0,.i i,.r s]=gs[i]:=by
     unfold xgz xkL
     simp only [gi_2,gi_1,gi_z]
     rw [hg,xaC hi]
     exact hn
    unfold xbC
    simp only [gi_2,gi_1,gi_z,gb_z,gr_3,gr_z]
    rw [a2,b2,c2,hn4,hg,dlt hi,xaa (xan hi),xaa (xan hi),xaa a1,xaa b1,xaa c1,xbX (by omega),xaa (by unfold xa5 maxLen; simp only [List.length_cons,List.length_nil]; omega)]
    show _=goOn _ (if (om.any (canF gs[i]))=true then (if pr.any (keyB gs[i])=true then (if s.any (fun h=>!apF gs[i] h)=true then .inr (1,[]) else .inl (s++[gs[i]])) else .inl s) else .inr (0,[]))
    cases om.any (canF gs[i])
    ·rw [if_neg (by decide)]; rfl
    ·rw [if_pos rfl]
     cases pr.any (keyB gs[i])
     ·rw [if_neg (by decide)]; rfl
     ·rw [if_pos rfl]
      cases s.any fun h=>!apF gs[i] h
      ·rw [if_neg (by decide)]; rfl
      ·rw [if_pos rfl]; rfl
   ·have hs':(if (om.any (canF gs[i]))=true then (if pr.any (keyB gs[i])=true then (if s.any (fun h=>!apF gs[i] h)=true then .inr (1,[]) else .inl (s++[gs[i]])) else .inl s) else .inr (0,[]):List (List Int) ⊕ (Nat×List U))=.inl s':=hs'
    split at hs'
    ·split at hs'
     ·split at hs'
      ·cases hs'
      ·cases hs'; simp; omega
     ·cases hs'; omega
    ·cases hs')
  (fun i s hi _=>by
   have:i=gs.length:=by omega
   subst this
   unfold xbC
   simp only [gi_2,gi_1,gi_z,gb_z,gr_3,gr_z]
   rw [hg,dnlt]) (s:=[]) (Nat.zero_le _)
 refine ⟨h1,?_⟩
 have el:xbl ow t un uo um up om pr=xaf (xbC ow t un uo um up om pr) [.b false,.i 0,.i ((0:Nat):Int),.r []]:=rfl
 rw [el,h2,List.drop_zero]
 have run:∀ (r:List (List Int)) (named:List (List Int)),(bif (endL (fun s:List (List Int)=>(4,[.b false,.i 0,.i gs.length,.r s])) (runL f named r)).1.beq 1 then false else bif (endL (fun s:List (List Int)=>(4,[.b false,.i 0,.i gs.length,.r s])) (runL f named r)).1.beq 2 then false else (↑(gr (endL (fun s:List (List Int)=>(4,[.b false,.i 0,.i gs.length,.r s])) (runL f named r)).2 3).length:Int)==(↑pr.length:Int))=(match verL om pr named r with | some named=>named.length==pr.length | none=>false):=by
  intro r
  induction r with
  | nil =>
   intro named
   show ((↑(gr [.b false,.i 0,.i gs.length,.r named] 3).length:Int)==(↑pr.length:Int))=(named.length==pr.length)
   rw [gr_3,gr_z]
   by_cases h:named.length=pr.length
   ·rw [h]; simp
   ·have h1:¬ (named.length:Int)=(pr.length:Int):=by omega
    rw [bne h1]
    simpa using h
  | cons g r ih =>
   intro named
   have ef:f named g=if (om.any (canF g))=true then (if pr.any (keyB g)=true then (if named.any (fun h=>!apF g h)=true then .inr (1,[]) else .inl (named++[g])) else .inl named) else .inr (0,[]):=rfl
   unfold runL verL
   by_cases h1:om.any (canF g)=true
   ·rw [if_pos h1] at ef
    rw [if_pos h1]
    by_cases h2:pr.any (keyB g)=true
    ·rw [if_pos h2] at ef
     rw [if_pos h2]
     by_cases h3:named.any (fun h=>!apF g h)=true
     ·rw [if_pos h3] at ef
      rw [if_pos h3,ef]; rfl
     ·rw [if_neg h3] at ef
      rw [if_neg h3,ef]
      exact ih _
    ·rw [if_neg h2] at ef
     rw [if_neg h2,ef]
     exact ih _
   ·rw [if_neg h1] at ef
    rw [if_neg h1,ef]; rfl
 exact run gs []
theorem xym (ho:uo.length≤9223372036854775807) (hs:um.length≤9223372036854775807) (hl:up.length≤9223372036854775807) (hd:xoV um) (hom:om.length≤9223372036854775807) (hpr:pr.length≤9223372036854775807) :
  xb2 ow t un uo um up om pr∧xcR ow t un uo um up om pr=(xdS ow t un uo (xao um) up&&verF (xc6 uo (xao um) t un up) om pr)∧xdJ ow t un uo um up om pr=if xdS ow t un uo (xao um) up=true then 0 else 1:=by
 have hv:=xgu ow uo ho
 have hc:=xkZ up hl
 obtain ⟨o1,o2,o3⟩:=xzN (ow:=ow) (t:=t) (un:=un) (uo:=uo) (up:=up) hs hd
 obtain ⟨es0,ei0,el0,es1,ei1,el1⟩:=xDL (ow:=ow) (t:=t) (un:=un) (uo:=uo) (um:=um) (up:=up) (om:=om) (pr:=pr)
 obtain ⟨r1,r2⟩:=xFg (ow:=ow) (t:=t) (un:=un) (uo:=uo) (um:=um) (up:=up) (pr:=pr) hom
 obtain ⟨s1,s2⟩:=xFf (ow:=ow) (t:=t) (un:=un) (uo:=uo) (um:=um) (up:=up) (om:=om) hpr
 have elen:((om.length:Int) !=(pr.length:Int))=!(om.length==pr.length):=by
  by_cases h:om.length=pr.length
  ·rw [h]; simp
  ·have h1:¬ (om.length:Int)=(pr.length:Int):=by omega
   show (!((om.length:Int)==(pr.length:Int)))=_
   rw [bne h1]
   simpa using h
 unfold xb2 xcR xdJ xkI xkJ xkK
 rw [r2,s2,elen]
 rw [es0,ei0,el0,es1,ei1,el1,xwP ho hl,xwO]
 cases h1:xg8 ow t un uo up with
 | false=>exact ⟨⟨hv.1,fun _=>hc.1,fun h=>by cases h⟩,rfl,rfl⟩
 | true =>
  cases h2:risF 0 (xao um) with
  | false =>
   have e:=o3 h2
   rw [e]
   exact ⟨⟨hv.1,fun _=>hc.1,fun _=>⟨o1,fun h=>by cases h⟩⟩,rfl,rfl⟩
  | true =>
   obtain ⟨e,er⟩:=o2 h2
   obtain ⟨p1,p2⟩:=xB7 (ow:=ow) (t:=t) (un:=un) (uo:=uo) hl hs hd h2
   obtain ⟨g1,g2⟩:=xy4 (t:=t) ho h1 h2
   rw [e,xjZ,p2]
   have er':gr (xaw ow t un uo um up).snd 3=um.map rowO:=er
   cases h3:up.any (xlC (xao um)) with
   | true=>exact ⟨⟨hv.1,fun _=>hc.1,fun _=>⟨o1,fun _=>⟨p1,fun h=>by cases h⟩⟩⟩,rfl,rfl⟩
   | false =>
    have hch:chF up=true:=by
     unfold xg8 at h1
     simp only [Bool.and_eq_true] at h1
     exact h1.1.1.1.2
    obtain ⟨k1,k2,k3⟩:=xpU (uo:=uo) (logs:=xao um) (tm:=t) (dl:=un) hch
    have hl200:=(xjR hch).1
    obtain ⟨v1,v2⟩:=xFe (ow:=ow) (t:=t) (un:=un) (uo:=uo) (um:=um) (up:=up) (om:=om) (pr:=pr) (gs:=xc6 uo (xao um) t un up) (by rw [el0,er',g2]) k2 (by omega) hom hpr
    rw [er']
    refine ⟨⟨hv.1,fun _=>hc.1,fun _=>⟨o1,fun _=>⟨p1,fun _=>⟨fun _=>r1,fun _=>s1,fun _=>⟨g1,v1⟩⟩⟩⟩⟩,?_,?_⟩
    ·unfold verF
     rw [← v2]
     cases (om.length==pr.length)<;>cases xjT cfO om<;>cases xjT cfG pr<;>rfl
    ·cases (om.length==pr.length)<;>cases xjT cfO om<;>cases xjT cfG pr<;>cases (xbl ow t un uo um up om pr).fst.beq 1<;>cases (xbl ow t un uo um up om pr).fst.beq 2<;>rfl
end
end Go.Proofs.YtikhnofbbcmpeaaGreat
set_option linter.unusedVariables false
set_option maxRecDepth 100000
namespace Go.Proofs.YtikhnofbbcmpeaaGreat
open Go Go.Sy
def xl1 (eq:List Int→List Int→Bool):List (List Int)→List (List Int)→Bool
 | [],[]=>true
 | x::r,y::r'=>eq x y&&xl1 eq r r'
 | _,_=>false
theorem xo4 {eq:List Int→List Int→Bool}:∀ {a b:List (List Int)},a.length≠b.length→xl1 eq a b=false
 | [],[],h=>absurd rfl h
 | [],_::_,_=>rfl
 | _::_,[],_=>rfl
 | x::r,y::r',h=>by
  unfold xl1
  rw [xo4 (by simpa using h),Bool.and_false]
theorem xs1 {eq:List Int→List Int→Bool}:∀ {a b:List (List Int)},a.length=b.length→(xl1 eq a b=true↔∀ i (h:i<a.length) (h':i<b.length),eq a[i] b[i]=true)
 | [],[],_=>⟨(fun _ i h=>by cases h),fun _=>rfl⟩
 | x::r,y::r',h=>by
  show (eq x y&&xl1 eq r r')=true↔_
  rw [Bool.and_eq_true,xs1 (by simpa using h)]
  constructor
  ·rintro ⟨h1,h2⟩ i hi hi'
   cases i with
   | zero=>exact h1
   | succ i=>exact h2 i (by simpa using hi) (by simpa using hi')
  ·intro h
   exact ⟨h 0 (by simp) (by simp),fun i hi hi'=>h (i+1) (by simpa using hi) (by simpa using hi')⟩
theorem xo3 {step:List U→Option (Nat×List U)} {a b:List (List Int)} {eq:List Int→List Int→Bool} (m:Nat) (hlen:a.length=b.length)
  (hs:∀ i (h:i<a.length) (h':i<b.length),step [.b false,.i i]=bif eq a[i] b[i] then some (0,[.b false,.i ((i+1:Nat):Int)]) else some (1,[]))
  (he:step [.b false,.i a.length]=some (m+2,[.b false,.i a.length])) {init:List U} (hi:init=[.b false,.i ((0:Nat):Int)]) :
  xav step init∧(bif (xaf step init).fst.beq 1 then false else true)=xl1 eq a b:=by
 subst hi
 obtain ⟨h1,h2⟩:=xcy (step:=step) a.length (fun i=>!eq (a.getD i []) (b.getD i [])) (fun i=>[.b false,.i i]) (fun i=>[]) 0 (m+1) [.b false,.i a.length]
  (fun i hi=>by
   rw [hs i hi (by omega),xaz hi,xaz (by omega)]
   cases eq a[i] b[i]<;>rfl) he
 refine ⟨h1,?_⟩
 rcases h2 with ⟨i,hi,hp,_,hg⟩ | ⟨hn,hg⟩
 ·rw [hg]
  have:xl1 eq a b=false:=by
   cases hr:xl1 eq a b with
   | false=>rfl
   | true =>
    have h:=(xs1 hlen).1 hr i hi (by omega)
    rw [xaz hi,xaz (by omega),h] at hp
    cases hp
  rw [this]; rfl
 ·rw [hg]
  have:xl1 eq a b=true:=(xs1 hlen).2 fun i h h'=>by
   have:=hn i h
   rw [xaz h,xaz h'] at this
   simpa using this
  rw [this]; rfl
theorem lenI {a b:List (List Int)}:((a.length:Int) !=(b.length:Int))=!decide (a.length=b.length):=by
 by_cases h:a.length=b.length
 ·rw [h]; simp
 ·have h1:¬ (a.length:Int)=(b.length:Int):=by omega
  show (!((a.length:Int)==(b.length:Int)))=_
  rw [bne h1,decide_eq_false h]
def eq1 (x y:List Int):Bool:=col x 0==col y 0
def eq2 (x y:List Int):Bool:=col x 0==col y 0&&(col x 1==col y 1&&true)
def eq3 (x y:List Int):Bool:=col x 0==col y 0&&(col x 1==col y 1&&(col x 2==col y 2&&true))
theorem xug (a b:List (List Int)) (ha:a.length≤9223372036854775807):xdk a b∧xbq a b=xl1 eq1 a b:=by
 unfold xdk xbq
 rw [lenI]
 by_cases hlen:a.length=b.length
 ·obtain ⟨h1,h2⟩:=xo3 (step:=xeD a b) (a:=a) (b:=b) (eq:=eq1) 1 hlen (fun i h h'=>by
    unfold xeD
    simp only [gi_1,gi_z,gb_z]
    rw [dlt h,xaa (xan h),xaa (xan h),xaa (xan h'),xaa (xan h'),xaC h,xaC h',xbX (by omega)]
    show (bif !(eq1 a[i] b[i]) then _ else _)=_
    cases eq1 a[i] b[i]<;>rfl)
   (by
    unfold xeD
    simp only [gi_1,gi_z,gb_z,dnlt]) (init:=xhs a b) rfl
  rw [decide_eq_true hlen]
  exact ⟨fun _=>h1,h2⟩
 ·rw [decide_eq_false hlen,xo4 hlen]
  exact ⟨(fun h=>by cases h),rfl⟩
theorem xh9 (a b:List (List Int)) (ha:a.length≤9223372036854775807):xbE a b∧xbe a b=xl1 eq2 a b:=by
 unfold xbE xbe
 rw [lenI]
 by_cases hlen:a.length=b.length
 ·obtain ⟨h1,h2⟩:=xo3 (step:=xcW a b) (a:=a) (b:=b) (eq:=eq2) 1 hlen (fun i h h'=>by
    unfold xcW
    simp only [gi_1,gi_z,gb_z]
    rw [dlt h,xaa (xan h),xaa (xan h),xaa (xan h'),xaa (xan h'),xaC h,xaC h',xbX (by omega)]
    show (bif !(eq2 a[i] b[i]) then _ else _)=_
    cases eq2 a[i] b[i]<;>rfl)
   (by
    unfold xcW
    simp only [gi_1,gi_z,gb_z,dnlt]) (init:=xfM a b) rfl
  rw [decide_eq_true hlen]
  exact ⟨fun _=>h1,h2⟩
 ·rw [decide_eq_false hlen,xo4 hlen]
  exact ⟨(fun h=>by cases h),rfl⟩
theorem xuf (a b:List (List Int)) (ha:a.length≤9223372036854775807):xbr a b∧xbp a b=xl1 eq3 a b:=by
 unfold xbr xbp
 rw [lenI]
 by_cases hlen:a.length=b.length
 ·obtain ⟨h1,h2⟩:=xo3 (step:=xbO a b) (a:=a) (b:=b) (eq:=eq3) 1 hlen (fun i h h'=>by
    unfold xbO
    simp only [gi_1,gi_z,gb_z]
    rw [dlt h,xaa (xan h),xaa (xan h),xaa (xan h'),xaa (xan h'),xaC h,xaC h',xbX (by omega)]
    show (bif !(eq3 a[i] b[i]) then _ else _)=_
    cases eq3 a[i] b[i]<;>rfl)
   (by
    unfold xbO
    simp only [gi_1,gi_z,gb_z,dnlt]) (init:=xef a b) rfl
  rw [decide_eq_true hlen]
  exact ⟨fun _=>h1,h2⟩
 ·rw [decide_eq_false hlen,xo4 hlen]
  exact ⟨(fun h=>by cases h),rfl⟩
def addE (o t k n:Int) (l:List (List Int)):Int :=
 if (valF o l&&lnF t k n)=false then 1 else if ownF o k=false then 12 else if 200≤l.length then 2 else if t<xl3 0 (-1) l then 13 else if (k==4&&!onF 10000000 true l)=true then 6 else if (k==5&&onF 10000000 true l)=true then 6 else 0
def addL (o t k n:Int) (l:List (List Int)):List (List Int):=if addE o t k n l=0 then l++[[t,k,n,sumF o (xl3 3 0 l) t k n]] else []
theorem xFb (o t k n:Int) (l:List (List Int)) (hl:l.length≤9223372036854775807):xfc o t k n l∧xcd o t k n l=addL o t k n l∧xcc o t k n l=(if addE o t k n l=0 then o else 0)∧xcI o t k n l=addE o t k n l:=by
 obtain ⟨v1,v2⟩:=xgu o l hl
 obtain ⟨o1,o2⟩:=xCa o 10000000 l hl
 obtain ⟨l1,l2,l3⟩:=xyT o l hl
 have hQ:decide ((l.length:Int)≥(200:Int))=false→(xb5 o (xba o l) t k n (0:Int))∧((((l=[])→((True)∧(([]++l=[])∧(True))))∧(xa5 32 (0+l.length)))∧(xa5 32 (([]++l).length+[[t,k,n,xcA o (xba o l) t k n (0:Int)]].length))):=fun h=>by
  have:=of_decide_eq_false h
  refine ⟨(xzx _ _ _ _ _ _).1,⟨fun h=>⟨trivial,by rw [h]; rfl,trivial⟩,by unfold xa5 maxLen; omega⟩,?_⟩
  unfold xa5 maxLen
  simp only [List.nil_append,List.length_cons,List.length_nil]
  omega
 refine ⟨⟨l1,o1,v1,fun h1 h2=>?_,fun _ _ _ h4 _=>⟨fun a b=>?_,fun _ _=>hQ h4⟩⟩,?_⟩
 ·rw [h1] at h2; cases h2
 ·rw [a] at b; cases b
 ·unfold xcd xj6 xob xoc xcc xn9 xoa xj5 xcI xn7 xn8 xj4 addL addE
  rw [v2,o2,l2,l3,xCv,xEJ,(xzx _ _ _ _ _ _).2]
  have e200:decide ((l.length:Int)≥(200:Int))=decide (200≤l.length):=decide_eq_decide.2 (by omega)
  rw [e200]
  cases hv:valF o l
  ·simp
  ·cases hln:lnF t k n
   ·simp
   ·cases hown:ownF o k
    ·simp
    ·by_cases h2:200≤l.length
     ·simp [h2]
     ·by_cases h3:t<xl3 0 (-1) l
      ·simp [h2,h3]
      ·cases h4:(k==4&&!onF 10000000 true l)
       ·cases h5:(k==5&&onF 10000000 true l)
        ·simp [h2,h3]
        ·simp [h2,h3]
       ·simp [h2,h3]
theorem xEr (o t k n:Int) (l:List (List Int)):(addL o t k n l).length≤l.length+1:=by
 unfold addL
 by_cases h:addE o t k n l=0
 ·rw [if_pos h]; simp
 ·rw [if_neg h]; simp
def logF:Int×List (List Int)→List (List Int)→Int×List (List Int)
 | s,[]=>s
 | s,x::r=>if addE s.1 (col x 0) (col x 1) (col x 2) s.2=0 then logF (s.1,addL s.1 (col x 0) (col x 1) (col x 2) s.2) r else (0,[])
theorem xzY (o:Int) (lines:List (List Int)) (hl:lines.length≤1000000):xca o lines∧(xad o lines,xae o lines)=logF (o,[]) lines:=by
 let f:Int×List (List Int)→List Int→(Int×List (List Int)) ⊕ (Nat×List U):=fun s x=>if addE s.1 (col x 0) (col x 1) (col x 2) s.2=0 then .inl (s.1,addL s.1 (col x 0) (col x 1) (col x 2) s.2) else .inr (0,[.i s.1,.r s.2])
 obtain ⟨h1,h2⟩:=xbj (step:=xea o lines) lines (fun i (s:Int×List (List Int))=>[.i i,.i s.1,.r s.2]) f (fun i s=>s.2.length≤i) (fun s=>(2,[.i lines.length,.i s.1,.r s.2])) 0
  (fun i s hi _ hI=>by
   obtain ⟨a1,a2,a3,a4⟩:=xFb s.1 (col lines[i] 0) (col lines[i] 1) (col lines[i] 2) s.2 (by omega)
   refine ⟨?_,fun s' hs'=>?_⟩
   ·unfold xea xrO xrN xrM
    simp only [gi_z,gi_1,gr_2,gr_1,gr_z,dlt hi,xaa (xan hi),xaC hi,xbX (show i<9223372036854775807 by omega)]
    rw [xaa a1,a2,a3,a4]
    show _=goOn _ (if addE s.1 (col lines[i] 0) (col lines[i] 1) (col lines[i] 2) s.2=0 then .inl (s.1,addL s.1 (col lines[i] 0) (col lines[i] 1) (col lines[i] 2) s.2) else .inr (0,[.i s.1,.r s.2]))
    by_cases h:addE s.1 (col lines[i] 0) (col lines[i] 1) (col lines[i] 2) s.2=0
    ·rw [if_pos h,if_pos h,h]; rfl
    ·rw [if_neg h,if_neg h]
     have:(addE s.1 (col lines[i] 0) (col lines[i] 1) (col lines[i] 2) s.2 !=0)=true:=by simpa using h
     rw [this]; rfl
   ·have hs':(if addE s.1 (col lines[i] 0) (col lines[i] 1) (col lines[i] 2) s.2=0 then .inl (s.1,addL s.1 (col lines[i] 0) (col lines[i] 1) (col lines[i] 2) s.2) else .inr (0,[.i s.1,.r s.2]):(Int×List (List Int)) ⊕ (Nat×List U))=.inl s':=hs'
    split at hs'
    ·cases hs'
     exact Nat.le_trans (xEr _ _ _ _ _) (by omega)
    ·cases hs')
  (fun i s hi _=>by
   have:i=lines.length:=by omega
   subst this
   unfold xea
   simp only [gi_z,gi_1,gr_2,gr_1,gr_z,dnlt]) (s:=(o,[])) (Nat.zero_le _)
 refine ⟨h1,?_⟩
 have el:xin o lines=xaf (xea o lines) [.i ((0:Nat):Int),.i o,.r []]:=rfl
 unfold xad xae
 rw [el,h2,List.drop_zero]
 have run:∀ (r:List (List Int)) (s:Int×List (List Int)),((bif (endL (fun s:Int×List (List Int)=>(2,[.i lines.length,.i s.1,.r s.2])) (runL f s r)).1.beq 1 then (0:Int) else gi (endL (fun s:Int×List (List Int)=>(2,[.i lines.length,.i s.1,.r s.2])) (runL f s r)).2 1),(bif (endL (fun s:Int×List (List Int)=>(2,[.i lines.length,.i s.1,.r s.2])) (runL f s r)).1.beq 1 then [] else gr (endL (fun s:Int×List (List Int)=>(2,[.i lines.length,.i s.1,.r s.2])) (runL f s r)).2 2))=logF s r:=by
  intro r
  induction r with
  | nil=>intro s; rfl
  | cons x r ih =>
   intro s
   have ef:f s x=if addE s.1 (col x 0) (col x 1) (col x 2) s.2=0 then .inl (s.1,addL s.1 (col x 0) (col x 1) (col x 2) s.2) else .inr (0,[.i s.1,.r s.2]):=rfl
   unfold runL logF
   by_cases h:addE s.1 (col x 0) (col x 1) (col x 2) s.2=0
   ·rw [if_pos h] at ef
    rw [if_pos h,ef]
    exact ih _
   ·rw [if_neg h] at ef
    rw [if_neg h,ef]; rfl
 exact run lines (o,[])
end Go.Proofs.YtikhnofbbcmpeaaGreat
set_option linter.unusedVariables false
set_option maxRecDepth 100000
namespace Go.Proofs.YtikhnofbbcmpeaaGreat
open Go Go.Sy
def cmp3 (x y:List Int):Int:=if col x 0<col y 0 then -1 else if col y 0<col x 0 then 1 else if col x 1<col y 1 then -1 else if col y 1<col x 1 then 1 else if col x 2<col y 2 then -1 else if col y 2<col x 2 then 1 else 0
def cmp2 (x y:List Int):Int:=if col x 0<col y 0 then -1 else if col y 0<col x 0 then 1 else if col x 1<col y 1 then -1 else if col y 1<col x 1 then 1 else 0
theorem xtn (a b:Int) (r:List Int) (e:Int) (h:orL r=e):orL ((if a<b then -1 else if b<a then 1 else 0)::r)=if a<b then -1 else if b<a then 1 else e:=by
 unfold orL
 by_cases h1:a<b
 ·rw [if_pos h1,if_neg (by decide),if_pos h1]
 ·rw [if_neg h1,if_neg h1]
  by_cases h2:b<a
  ·rw [if_pos h2,if_neg (by decide),if_pos h2]
  ·rw [if_neg h2,if_pos rfl,if_neg h2,h]
theorem xyc:cfO=cmp3:=by
 funext x y
 unfold cfO cmp3
 rw [(xiW _ _ _ _ _ _).2]
 simp only [cmpC]
 exact xtn _ _ _ _ (xtn _ _ _ _ (xtn _ _ _ _ rfl))
theorem xE3:cfG=cmp2:=by
 funext x y
 unfold cfG cmp2
 rw [(xsz _ _ _ _).2]
 simp only [cmpC]
 exact xtn _ _ _ _ (xtn _ _ _ _ rfl)
def xwM:List (List Int)→List (List Int)→Int
 | [],[]=>0
 | [],_::_ => -1
 | _::_,[]=>1
 | x::r,y::r'=>if cmp3 x y=0 then xwM r r' else cmp3 x y
theorem xDt:∀ x y,cmpL x y=xwM x y
 | [],[]=>rfl
 | [],_::_=>rfl
 | _::_,[]=>rfl
 | x::r,y::r'=>by
  unfold cmpL xwM
  rw [xyc,xDt r r']
def xt1 (x b:List (List Int)):Bool:=decide (x.length<b.length)||(x.length==b.length&&decide (xwM x b<0))
theorem xt0:xek=xt1:=by funext x b; unfold xek xt1; rw [xDt]
def xwB (up:List (List Int)) (i:Nat) (b:List (List Int)):List (List Int):=if subB i (allF up)=true then (if xt1 (byF i up) b=true then byF i up else b) else b
def fewC (up:List (List Int)):List (List Int):=upto (xwB up) (allF up+1) (byF 0 up)
theorem xy6:fewF=fewC:=by
 funext up
 unfold fewF fewC
 have:xfs up=xwB up:=by funext i b; unfold xfs xwB; rw [xt0]
 rw [this]
def goC (k:Int→List (List Int)→List (List Int)) (n:Int):List (List Int)→List (List Int)
 | []=>[]
 | g::r=>if ((fewC (r.filter (apF g))).length:Int)=n-1 then [col g 0,col g 1]::k (n-1) (r.filter (apF g)) else goC k n r
def prC:Nat→Int→List (List Int)→List (List Int)
 | 0,_,_=>[]
 | m+1,n,up=>if n=0 then [] else goC (prC m) n up
theorem xEY (k:Int→List (List Int)→List (List Int)) (n:Int):∀ l,goP k n l=goC k n l
 | []=>rfl
 | g::r=>by unfold goP goC; rw [xy6,xEY k n r]
theorem xEI:∀ m n l,prF m n l=prC m n l
 | 0,_,_=>rfl
 | m+1,n,l=>by
  unfold prF prC
  rw [xEY,show prF m=prC m from by funext n l; exact xEI m n l]
def verC (gs om pr:List (List Int)):Bool:=om.length==pr.length&&xjT cmp3 om&&xjT cmp2 pr&&(match verL om pr [] gs with | some named=>named.length==pr.length | none=>false)
theorem xFd (gs om pr:List (List Int)):verF gs om pr=verC gs om pr:=by unfold verF verC; rw [xyc,xE3]<;>rfl
def hA0:List (List Int):=(logF (0,[]) [[10,1,7]]).2
def hA1:List (List Int):=(logF (1,[]) [[12,3,7]]).2
def hA3:List (List Int):=(logF (3,[]) [[5,4,0],[20,5,0],[40,2,9]]).2
noncomputable def xhP:List (List Int):=[[1,encL hA1],[2,encL []],[3,encL hA3]]
def xA9:List ALog:=[(1,hA1),(2,[]),(3,hA3)]
def hch:List (List Int):=[[1,7,10],[2,7,10],[3,7,10],[2,9,30],[3,9,30]]
theorem xix:xca 0 [[10,1,7]]∧xad 0 [[10,1,7]]=0∧xae 0 [[10,1,7]]=hA0:=by
 obtain ⟨h1,h2⟩:=xzY 0 [[10,1,7]] (by decide)
 exact ⟨h1,(congrArg Prod.fst h2).trans (by decide +kernel),congrArg Prod.snd h2⟩
theorem xFL:xca 1 [[12,3,7]]∧xad 1 [[12,3,7]]=1∧xae 1 [[12,3,7]]=hA1:=by
 obtain ⟨h1,h2⟩:=xzY 1 [[12,3,7]] (by decide)
 exact ⟨h1,(congrArg Prod.fst h2).trans (by decide +kernel),congrArg Prod.snd h2⟩
theorem xFK:xca 2 []∧xad 2 []=2∧xae 2 []=[]:=by
 obtain ⟨h1,h2⟩:=xzY 2 [] (by decide)
 exact ⟨h1,congrArg Prod.fst h2,congrArg Prod.snd h2⟩
theorem xFJ:xca 3 xah∧xad 3 xah=3∧xae 3 xah=hA3:=by
 obtain ⟨h1,h2⟩:=xzY 3 [[5,4,0],[20,5,0],[40,2,9]] (by decide)
 exact ⟨h1,(congrArg Prod.fst h2).trans (by decide +kernel),congrArg Prod.snd h2⟩
theorem xuM:[xaK,[xad (2:Int) [],encL (xae (2:Int) [])],[xad (3:Int) xah,encL (xae (3:Int) xah)]]=xhP:=by
 unfold xaK
 rw [xFL.2.1,xFL.2.2,xFK.2.1,xFK.2.2,xFJ.2.1,xFJ.2.2]
 rfl
theorem xlh:xao xhP=xA9:=by
 show [((1:Int),decL (encL hA1)),(2,decL (encL [])),(3,decL (encL hA3))]=_
 rw [xg7,xg7,xg7]
 rfl
theorem xyY:xoV xhP:=by
 intro x hx
 have hx:x=[1,encL hA1]∨x=[2,encL []]∨x=[3,encL hA3]:=by simpa [xhP] using hx
 have l1:hA1.length≤9223372036854775807:=by decide +kernel
 have l3:hA3.length≤9223372036854775807:=by decide +kernel
 rcases hx with rfl | rfl | rfl
 ·show (decL (encL hA1)).length≤_
  rw [xg7]; exact l1
 ·show (decL (encL [])).length≤_
  rw [xg7]; decide
 ·show (decL (encL hA3)).length≤_
  rw [xg7]; exact l3
theorem xyZ:xdS 0 50 5 hA0 xA9 hch=true:=by decide +kernel
theorem hco1:coOk 0 1 10 hA0 hA1 hch=true:=by decide +kernel
theorem hco3:coOk 0 3 10 hA0 hA3 hch=true:=by decide +kernel
theorem hfew:fewC (xc6 hA0 xA9 50 5 hch)=[[1,0,9],[2,2,0],[2,3,0]]:=by decide +kernel
theorem hprv:prC 100 3 (xc6 hA0 xA9 50 5 hch)=[[2,7],[3,7],[3,9]]:=by decide +kernel
theorem hgap:xgK (xc6 hA0 xA9 50 5 hch)=[[2,7],[2,9],[3,7],[3,9]]:=by decide +kernel
theorem hver:verC (xc6 hA0 xA9 50 5 hch) [[1,0,9],[2,2,0],[2,3,0]] [[2,7],[3,7],[3,9]]=true:=by decide +kernel
theorem hcr1:xnB (xnD 1 10 hA0 hA1 hch)=[7]:=by decide +kernel
theorem hcr3:xnB (xnD 3 10 hA0 hA3 hch)=[]:=by decide +kernel
theorem hsh1:(valF 1 hA1&&tmF 12)=true∧xlu 12 hA1=[7]:=by decide +kernel
theorem hva3:valF 3 hA3=true:=by decide +kernel
theorem xCA:hA0.length≤9223372036854775807:=by decide +kernel
theorem xGv:hA1.length≤9223372036854775807:=by decide +kernel
theorem xFE:hA3.length≤9223372036854775807:=by decide +kernel
theorem xFI:xhP.length≤9223372036854775807:=by show 3≤9223372036854775807; decide
theorem xCK:hch.length≤9223372036854775807:=by decide
theorem hE:xbS 0 50 5 hA0 xhP hch∧xbV 0 50 5 hA0 xhP hch=[[1,0,9],[2,2,0],[2,3,0]]∧xcn 0 50 5 hA0 xhP hch=[[2,7],[3,7],[3,9]]∧xde 0 50 5 hA0 xhP hch=0:=by
 obtain ⟨h1,h2,h3,h4⟩:=xvB (ow:=0) (t:=50) (un:=5) xCA xFI xCK xyY (.inl (by decide))
 rw [xlh,xyZ,if_pos rfl,xy6,hfew] at h2
 rw [xlh,xyZ,if_pos rfl,xy6,hfew,xEI] at h3
 rw [xlh,xyZ,if_pos rfl] at h4
 exact ⟨h1,h2,h3.trans hprv,h4⟩
theorem hG:xcS 0 50 5 hA0 xhP hch∧xcq 0 50 5 hA0 xhP hch=[[2,7],[2,9],[3,7],[3,9]]∧xdn 0 50 5 hA0 xhP hch=0:=by
 obtain ⟨h1,h2,h3⟩:=xDI (ow:=0) (t:=50) (un:=5) xCA xFI xCK xyY
 rw [xlh,xyZ,if_pos rfl,hgap] at h2
 rw [xlh,xyZ,if_pos rfl] at h3
 exact ⟨h1,h2,h3⟩
theorem hV:xb2 0 50 5 hA0 xhP hch [[1,0,9],[2,2,0],[2,3,0]] [[2,7],[3,7],[3,9]]∧xcR 0 50 5 hA0 xhP hch [[1,0,9],[2,2,0],[2,3,0]] [[2,7],[3,7],[3,9]]=true∧xdJ 0 50 5 hA0 xhP hch [[1,0,9],[2,2,0],[2,3,0]] [[2,7],[3,7],[3,9]]=0:=by
 obtain ⟨h1,h2,h3⟩:=xym (ow:=0) (t:=50) (un:=5) (uo:=hA0) (um:=xhP) (up:=hch) (om:=[[1,0,9],[2,2,0],[2,3,0]]) (pr:=[[2,7],[3,7],[3,9]]) xCA xFI xCK xyY (by decide) (by decide)
 rw [xlh,xyZ,xFd,hver] at h2
 rw [xlh,xyZ,if_pos rfl] at h3
 exact ⟨h1,h2,h3⟩
theorem hC1:xbv 0 1 10 hA0 hA1 hch∧xbf 0 1 10 hA0 hA1 hch=[[7]]∧xbn 0 1 10 hA0 hA1 hch=0:=by
 obtain ⟨h1,h2,h3⟩:=xwV 0 1 10 hA0 hA1 hch xCA xGv xCK
 rw [hco1,if_pos rfl,hcr1] at h2
 rw [hco1,if_pos rfl] at h3
 exact ⟨h1,h2,h3⟩
theorem hC3:xbv 0 3 10 hA0 hA3 hch∧xbf 0 3 10 hA0 hA3 hch=[]∧xbn 0 3 10 hA0 hA3 hch=0:=by
 obtain ⟨h1,h2,h3⟩:=xwV 0 3 10 hA0 hA3 hch xCA xFE xCK
 rw [hco3,if_pos rfl,hcr3] at h2
 rw [hco3,if_pos rfl] at h3
 exact ⟨h1,h2,h3⟩
theorem hS1:xcm 1 12 hA1∧xbm 1 12 hA1=[[7]]∧xbR 1 12 hA1=0:=by
 obtain ⟨h1,h2,h3⟩:=xAB 1 12 hA1 xGv
 rw [hsh1.1,if_pos rfl,hsh1.2] at h2
 rw [hsh1.1,if_pos rfl] at h3
 exact ⟨h1,h2,h3⟩
theorem xEV:xaP=[1,encL hA1]:=by unfold xaP; rw [xuM]; rfl
theorem xEU:xbG=[3,encL hA3]:=by unfold xbG; rw [xuM]; rfl
theorem xlS:([(1:Int),(7:Int),(10:Int)]::[(2:Int),(7:Int),(10:Int)]::xa8)=hch:=rfl
theorem g20:(xaP).getD 0 (0:Int)=1:=by rw [xEV]; rfl
theorem g21:decL ((xaP).getD 1 (0:Int))=hA1:=by rw [xEV]; exact xg7 _
theorem g40:(xbG).getD 0 (0:Int)=3:=by rw [xEU]; rfl
theorem g41:decL ((xbG).getD 1 (0:Int))=hA3:=by rw [xEU]; exact xg7 _
theorem hd5:xdW=[[1,0,9],[2,2,0],[2,3,0]]:=by
 unfold xdW
 rw [xix.2.1,xix.2.2,xuM,xlS,hE.2.1]
theorem hd6:xdl=[[2,7],[3,7],[3,9]]:=by
 unfold xdl
 rw [xix.2.1,xix.2.2,xuM,xlS,hE.2.2.1]
theorem hd7:xiJ=0:=by
 unfold xiJ
 rw [xix.2.1,xix.2.2,g20,g21,xlS,hC1.2.2]
theorem hd8:xiI=0:=by
 unfold xiI
 rw [xix.2.1,xix.2.2,g40,g41,xlS,hC3.2.2]
theorem hd9:xiH=0:=by
 unfold xiH
 rw [xix.2.1,xix.2.2,xuM,xlS,hG.2.2]
theorem hd10:xie=0:=by
 unfold xie
 rw [xix.2.1,xix.2.2,xuM,xlS,hE.2.2.2]
theorem hd11:xid=0:=by
 unfold xid
 rw [xix.2.1,xix.2.2,xuM,xlS,hd5,hd6,hV.2.2]
theorem hd12:xgT=[[7]]:=by
 unfold xgT
 rw [xix.2.1,xix.2.2,g20,g21,xlS,hC1.2.1]
theorem hd13:xic=[]:=by
 unfold xic
 rw [xix.2.1,xix.2.2,g40,g41,xlS,hC3.2.1]
theorem hd14:xgS=[[2,7],[2,9],[3,7],[3,9]]:=by
 unfold xgS
 rw [xix.2.1,xix.2.2,xuM,xlS,hG.2.1]
theorem xCJ:xb1=true:=by
 unfold xb1
 rw [xuM,xlS,xix.2.1,xix.2.2,hd5,hd6,hd7,hd8,hd9,hd10,hd11,hd12,hd13,hd14,g20,g21,g40,g41,hS1.2.1,hS1.2.2,hV.2.1,(xug _ _ (by decide)).2,(xh9 _ _ (by decide)).2,(xuf _ _ (by decide)).2,(xh9 _ _ (by decide)).2,(xgu 3 hA3 xFE).2,hva3]
 rfl
theorem xz8:xfI:=by
 unfold xfI
 rw [xuM,xlS,xix.2.1,xix.2.2,hd5,hd6,hd12,hd14,g20,g21,g40,g41,hS1.2.1]
 have r0:inR (0:Int) xhP:=⟨by decide,by show (0:Int)<3; decide⟩
 have r2:inR (2:Int) xhP:=⟨by decide,by show (2:Int)<3; decide⟩
 exact ⟨⟨xFL.1,xFK.1,xFJ.1,xix.1⟩,r0,r0,hC1.1,r2,r2,hC3.1,hG.1,hE.1,hV.1,r0,r0,hS1.1,fun _=>⟨(xug _ _ (by decide)).1,fun _=>⟨(xug _ _ (by decide)).1,fun _=>⟨(xh9 _ _ (by decide)).1,fun _=>⟨(xuf _ _ (by decide)).1,fun _=>⟨(xh9 _ _ (by decide)).1,fun _=>r2,fun _=>⟨r2,(xgu 3 hA3 xFE).1⟩⟩⟩⟩⟩⟩⟩
end Go.Proofs.YtikhnofbbcmpeaaGreat
set_option linter.unusedVariables false
set_option maxRecDepth 100000
namespace Go.Proofs.YtikhnofbbcmpeaaGreat
open Go Go.Sy
theorem xxC {step:List U→Option (Nat×List U)} {l:List (List Int)} {p:List Int→Bool} (m:Nat) (hs:∀ i (hi:i<l.length),step [.b false,.i i]=bif p l[i] then some (1,[]) else some (0,[.b false,.i ((i+1:Nat):Int)]))
  (he:step [.b false,.i l.length]=some (m+2,[.b false,.i l.length])) {init:List U} (hi:init=[.b false,.i ((0:Nat):Int)]) :
  xav step init∧(bif (xaf step init).fst.beq 1 then true else false)=l.any p:=by
 subst hi
 obtain ⟨h1,h2⟩:=xcy (step:=step) l.length (fun i=>p (l.getD i [])) (fun i=>[.b false,.i i]) (fun i=>[]) 0 (m+1) [.b false,.i l.length]
  (fun i hi=>by rw [hs i hi,xaz hi]) he
 refine ⟨h1,?_⟩
 rcases h2 with ⟨i,hi,hp,_,hg⟩ | ⟨hn,hg⟩
 ·rw [hg]
  have:l.any p=true:=List.any_eq_true.2 ⟨l[i],List.getElem_mem hi,by rw [← xaz hi]; exact hp⟩
  rw [this]; rfl
 ·rw [hg]
  have:l.any p=false:=List.any_eq_false.2 fun x hx=>by
   obtain ⟨i,hi,rfl⟩:=List.getElem_of_mem hx
   have:=hn i hi
   simp only [xaz hi] at this
   simp [this]
  rw [this]; rfl
theorem xFC {step:List U→Option (Nat×List U)} {l:List (List Int)} {p:List Int→Bool} (m:Nat) (hs:∀ i b (hi:i<l.length),step [.b b,.i i]=some (0,[.b (b||p l[i]),.i ((i+1:Nat):Int)]))
  (he:∀ b,step [.b b,.i l.length]=some (m+1,[.b b,.i l.length])) {init:List U} (hi:init=[.b false,.i ((0:Nat):Int)]):xav step init∧gb (xaf step init).snd 0=l.any p:=by
 subst hi
 obtain ⟨h1,h2⟩:=xbj (step:=step) l (fun i (s:Bool)=>[.b s,.i i]) (fun s x=>.inl (s||p x)) (fun _ _=>True) (fun s=>(m,[.b s,.i l.length])) 0 (fun i s hi _ _=>⟨hs i s hi,fun _ _=>trivial⟩)
  (fun i s hi _=>by
   have:i=l.length:=by omega
   subst this
   exact he s) (s:=false) trivial
 refine ⟨h1,?_⟩
 rw [h2,List.drop_zero,xdx]
 have:∀ (l:List (List Int)) (b:Bool),l.foldl (fun s x=>s||p x) b=(b||l.any p):=by
  intro l
  induction l with
  | nil=>intro b; simp
  | cons x r ih=>intro b; rw [List.foldl_cons,ih,List.any_cons,Bool.or_assoc]
 rw [this,Bool.false_or]
 exact gb_z _ _
def offR (t:Int) (l:List (List Int)):Bool:=l.foldl (fun off x=>if (decide (col x 0≤t)&&(col x 1==4||col x 1==5))=true then col x 1==4 else off) false
theorem xDG (o t:Int) (l:List (List Int)) (hl:l.length≤9223372036854775807):xez o t l∧xaR o t l=offR t l:=by
 obtain ⟨h1,h2⟩:=xbj (step:=xd3 o t l) l (fun i (s:Bool)=>[.b s,.i i]) (fun off x=>.inl (if (decide (col x 0≤t)&&(col x 1==4||col x 1==5))=true then col x 1==4 else off)) (fun _ _=>True) (fun s=>(2,[.b s,.i l.length])) 0
  (fun i s hi _ _=>⟨by
   have hr:=xan hi
   unfold xd3
   simp only [gi_1,gi_z,gb_z]
   rw [dlt hi,xaa hr,xaa hr,xaa hr,xaa (fun _=>hr),xaa (fun _=>hr),xaa (fun _=>hr),xaa (fun _ _=>hr),xaa (fun _ _=>hr),xaa (fun _ _=>hr),xaa hr,xaa hr,xaa hr,xaC hi,xbX (by omega)]
   show (bif (decide (col l[i] 0≤t)&&(col l[i] 1==4||col l[i] 1==5)) then _ else _)=_
   cases (decide (col l[i] 0≤t)&&(col l[i] 1==4||col l[i] 1==5))
   ·rw [if_neg (by decide)]; rfl
   ·rw [if_pos rfl]; rfl,fun _ _=>trivial⟩)
  (fun i s hi _=>by
   have:i=l.length:=by omega
   subst this
   unfold xd3
   simp only [gi_1,gi_z,gb_z,dnlt]) (s:=false) trivial
 refine ⟨h1,?_⟩
 have:xaR o t l=gb (xaf (xd3 o t l) [.b false,.i ((0:Nat):Int)]).snd 0:=rfl
 rw [this,h2,List.drop_zero,xdx]
 exact gb_z _ _
def hasR (k n a b:Int) (l:List (List Int)):Bool:=l.any fun x=>col x 1==k&&col x 2==n&&decide (a≤col x 0)&&decide (col x 0≤b)
theorem xDH (o k n a b:Int) (l:List (List Int)) (hl:l.length≤9223372036854775807):xfk o k n a b l∧xeN o k n a b l=hasR k n a b l :=
 xxC (step:=xe3 o k n a b l) 1 (fun i hi=>by
   unfold xe3
   simp only [gi_1,gi_z,gb_z]
   rw [dlt hi,xaa (xan hi),xaa (xan hi),xaC hi,xbX (by omega)])
  (by unfold xe3; simp only [gi_1,gi_z,gb_z,dnlt]) rfl
theorem xzw {o:Int}:∀ {l:List (List Int)} {off:Bool} {last now:Int},vldF o off last now l=true→(∀ x∈l,now≤col x 0∧lnF (col x 0) (col x 1) (col x 2)=true∧ownF o (col x 1)=true)∧l.Pairwise (fun a b=>col a 0≤col b 0)
 | [],_,_,_,_=>⟨(fun x hx=>by cases hx),List.Pairwise.nil⟩
 | x::r,off,last,now,h=>by
  unfold vldF at h
  split at h
  ·cases h
  ·rename_i h1
   have h1':(!lnF (col x 0) (col x 1) (col x 2)||!ownF o (col x 1)||decide (col x 0<now)||col x 3 !=sumF o last (col x 0) (col x 1) (col x 2))=false:=by simpa using h1
   rw [Bool.or_eq_false_iff,Bool.or_eq_false_iff,Bool.or_eq_false_iff] at h1'
   obtain ⟨⟨⟨a1,a2⟩,a3⟩,a4⟩:=h1'
   have a3:=of_decide_eq_false a3
   have hr:∃ off',vldF o off' (col x 3) (col x 0) r=true:=by
    split at h
    ·split at h
     ·cases h
     ·exact ⟨_,h⟩
    ·exact ⟨_,h⟩
   obtain ⟨off',hr⟩:=hr
   obtain ⟨b1,b2⟩:=xzw hr
   refine ⟨fun y hy=>?_,List.pairwise_cons.2 ⟨fun y hy=>(b1 y hy).1,b2⟩⟩
   rcases List.mem_cons.1 hy with rfl | hy
   ·exact ⟨by omega,by simpa using a1,by simpa using a2⟩
   ·have:=b1 y hy
    exact ⟨by omega,this.2⟩
theorem xnk {o:Int} {l:List (List Int)} (h:valF o l=true):(∀ x∈l,0≤col x 0∧lnF (col x 0) (col x 1) (col x 2)=true∧ownF o (col x 1)=true)∧l.Pairwise (fun a b=>col a 0≤col b 0):=by
 unfold valF at h
 rw [Bool.and_eq_true] at h
 exact xzw h.2
theorem cls3 (k:Int):clsF k=3↔(k=4∨k=5):=by
 unfold clsF
 by_cases h1:k=1
 ·rw [if_pos h1]; omega
 ·rw [if_neg h1]
  by_cases h2:k=2∨k=3
  ·rw [if_pos h2]; omega
  ·rw [if_neg h2]
   by_cases h3:k=4∨k=5
   ·rw [if_pos h3]; simp [h3]
   ·rw [if_neg h3]; simp [h3]
theorem xB9 (t:Int):∀ {l:List (List Int)} (b:Bool),l.Pairwise (fun a b=>col a 0≤col b 0)→onF t b l=!(l.foldl (fun off x=>if (decide (col x 0≤t)&&(col x 1==4||col x 1==5))=true then col x 1==4 else off) (!b))
 | [],b,_=>by simp [onF]
 | x::r,b,h=>by
  obtain ⟨h1,h2⟩:=List.pairwise_cons.1 h
  unfold onF
  rw [List.foldl_cons]
  by_cases ht:col x 0>t
  ·rw [if_pos ht]
   have key:∀ (l:List (List Int)) (c:Bool),(∀ y∈l,col y 0>t)→l.foldl (fun off x=>if (decide (col x 0≤t)&&(col x 1==4||col x 1==5))=true then col x 1==4 else off) c=c:=by
    intro l
    induction l with
    | nil=>intro c _; rfl
    | cons y r ih =>
     intro c hy
     rw [List.foldl_cons,decide_eq_false (show ¬ col y 0≤t by have:=hy y List.mem_cons_self; omega),Bool.false_and,if_neg (by decide)]
     exact ih c fun z hz=>hy z (List.mem_cons_of_mem _ hz)
   rw [decide_eq_false (show ¬ col x 0≤t by omega),Bool.false_and,if_neg (by decide),key r _ (fun y hy=>by have:=h1 y hy; omega),Bool.not_not]
  ·rw [if_neg ht,decide_eq_true (show col x 0≤t by omega),Bool.true_and]
   by_cases h3:clsF (col x 1)=3
   ·rw [if_pos h3]
    have e:(col x 1==4||col x 1==5)=true:=by
     rcases (cls3 _).1 h3 with h | h<;>rw [h]<;>rfl
    rw [if_pos e,xB9 t (col x 1==5) h2]
    have e2:(!(col x 1==5))=(col x 1==4):=by
     rcases (cls3 _).1 h3 with h | h<;>rw [h]<;>rfl
    rw [e2]
   ·rw [if_neg h3]
    have e:(col x 1==4||col x 1==5)=false:=by
     rw [bne fun h=>h3 ((cls3 _).2 (.inl h)),bne fun h=>h3 ((cls3 _).2 (.inr h))]; rfl
    rw [e,if_neg (by decide),xB9 t b h2]
theorem xCe {o:Int} {l:List (List Int)} (h:valF o l=true) (t:Int):offR t l=!onF t true l:=by
 rw [xB9 t true (xnk h).2,Bool.not_not]
 rfl
theorem xto {l:List (List Int)} (h:valF 0 l=true):∀ x∈l,col x 1=1:=by
 intro x hx
 have h3:=((xnk h).1 x hx).2.2
 unfold ownF clsF at h3
 by_cases h1:col x 1=1
 ·exact h1
 ·rw [if_neg h1] at h3
  exfalso
  by_cases h2:col x 1=2∨col x 1=3
  ·rw [if_pos h2] at h3; cases h3
  ·rw [if_neg h2] at h3
   by_cases h4:col x 1=4∨col x 1=5
   ·rw [if_pos h4] at h3; cases h3
   ·rw [if_neg h4] at h3; cases h3
theorem xrj {l:List (List Int)} {p q:List Int→Bool} (h:∀ x∈l,p x=q x):l.any p=l.any q:=by
 induction l with
 | nil=>rfl
 | cons x r ih=>rw [List.any_cons,List.any_cons,h x List.mem_cons_self,ih fun y hy=>h y (List.mem_cons_of_mem _ hy)]
theorem xFk {l:List (List Int)} (h:valF 0 l=true) {n t:Int} (ht:0≤t):hasR 1 n t t l=xw9 n t l:=by
 refine xrj fun x hx=>?_
 rw [xto h x hx,decide_eq_false (show ¬ t<0 by omega)]
 show (true&&col x 2==n&&decide (t≤col x 0)&&decide (col x 0≤t))=(col x 2==n&&(false||col x 0==t))
 by_cases e:col x 0=t
 ·rw [e]; simp
 ·have e1:(decide (t≤col x 0)&&decide (col x 0≤t))=false:=by
   rw [Bool.and_eq_false_iff,decide_eq_false_iff_not,decide_eq_false_iff_not]; omega
  rw [Bool.and_assoc,e1,bne e]; simp
end Go.Proofs.YtikhnofbbcmpeaaGreat
set_option linter.unusedVariables false
namespace Go.Koen
set_option linter.unusedSectionVars false
section
variable {ε α β:Type} [DecidableEq α] [DecidableEq β] (l:ε→α) (r:ε→Option β)
def Cov (A:α→Bool) (B:β→Bool) (e:ε):Prop:=A (l e)=true∨∃ b,r e=some b∧B b=true
def xuj (e f:ε):Prop:=l e≠l f∧∀ b,r e=some b→r f≠some b
def size (UA:List α) (UB:List β) (A:α→Bool) (B:β→Bool):Nat:=UA.countP A+UB.countP B
theorem xln {γ:Type} {p q:γ→Bool} (h:∀ x,p x=true→q x=true):∀ l:List γ,l.countP p≤l.countP q
 | []=>Nat.le_refl _
 | x::t=>by
  have:=xln h t
  rw [List.countP_cons,List.countP_cons]
  have h1:=h x
  cases hp:p x<;>cases hq:q x<;>simp_all<;>omega
theorem xra {γ:Type} [DecidableEq γ] {p:γ→Bool} {v:γ}:∀ {l:List γ},v∈l→p v=true→l.countP (fun x=>p x&&decide (x≠v))+1≤l.countP p
 | [],h,_=>by cases h
 | x::t,h,hp=>by
  rw [List.countP_cons,List.countP_cons]
  by_cases e:x=v
  ·subst e
   have:=xln (p:=fun y=>p y&&decide (y≠x)) (q:=p) (fun y hy=>by simp_all) t
   simp only [hp]
   simp
   simpa using this
  ·have hm:v∈t:=by
    rcases List.mem_cons.1 h with h | h
    ·exact absurd h.symm e
    ·exact h
   have:=xra hm hp
   cases hx:p x<;>simp_all<;>omega
theorem xnv {γ:Type} [DecidableEq γ] {p:γ→Bool} {v:γ}:∀ {l:List γ},l.Nodup→l.countP (fun x=>p x||decide (x=v))≤l.countP p+1
 | [],_=>Nat.zero_le _
 | x::t,h=>by
  rw [List.countP_cons,List.countP_cons]
  have ht:=(List.nodup_cons.1 h)
  by_cases e:x=v
  ·subst e
   have h0:t.countP (fun y=>p y||decide (y=x))=t.countP p:=by
    refine List.countP_congr fun y hy=>?_
    have:y≠x:=fun e=>ht.1 (e▸hy)
    simp [this]
   rw [h0]
   cases p x<;>simp
  ·have:=xnv (p:=p) (v:=v) ht.2
   cases hx:p x<;>simp_all<;>omega
theorem xq9 {γ:Type} (p q p' q':γ→Bool) (h:∀ x,(p' x).toNat+(q' x).toNat=(p x).toNat+(q x).toNat):∀ l:List γ,l.countP p'+l.countP q'=l.countP p+l.countP q
 | []=>rfl
 | x::t=>by
  have ih:=xq9 p q p' q' h t
  have h1:=h x
  simp only [List.countP_cons]
  cases hp:p x<;>cases hq:q x<;>cases hp':p' x<;>cases hq':q' x<;>simp_all<;>omega
variable {l r}
theorem weak {UA:List α} {UB:List β}:∀ {M:List ε} {A:α→Bool} {B:β→Bool},M.Pairwise (xuj l r)→(∀ e∈M,Cov l r A B e)→(∀ e∈M,l e∈UA∧∀ b,r e=some b→b∈UB)→M.length≤size UA UB A B
 | [],_,_,_,_,_=>Nat.zero_le _
 | e::M,A,B,hM,hC,hU=>by
  obtain ⟨h1,h2⟩:=List.pairwise_cons.1 hM
  have hU':∀ e∈M,l e∈UA∧∀ b,r e=some b→b∈UB:=fun f hf=>hU f (List.mem_cons_of_mem _ hf)
  rcases hC e List.mem_cons_self with hA | ⟨b,hb,hB⟩
  ·have:=weak (A:=fun x=>A x&&decide (x≠l e)) (B:=B) h2 (fun f hf=>by
    rcases hC f (List.mem_cons_of_mem _ hf) with h | h
    ·exact .inl (by simp [h,Ne.symm (h1 f hf).1])
    ·exact .inr h) hU'
   have hd:=xra (p:=A) (hU e List.mem_cons_self).1 hA
   simp only [List.length_cons]
   unfold size at *
   omega
  ·have:=weak (A:=A) (B:=fun x=>B x&&decide (x≠b)) h2 (fun f hf=>by
    rcases hC f (List.mem_cons_of_mem _ hf) with h | ⟨b',hb',hB'⟩
    ·exact .inl h
    ·refine .inr ⟨b',hb',?_⟩
     have:b'≠b:=fun e'=>(h1 f hf).2 b hb (by rw [hb',e'])
     simp [hB',this]) hU'
   have hd:=xra (p:=B) ((hU e List.mem_cons_self).2 b hb) hB
   simp only [List.length_cons]
   unfold size at *
   omega
theorem xIc (UA:List α) (UB:List β) (L:List ε):∃ A B,(∀ e∈L,Cov l r A B e)∧∀ A' B',(∀ e∈L,Cov l r A' B' e)→size UA UB A B≤size UA UB A' B':=by
 have key:∀ n,(∃ A B,(∀ e∈L,Cov l r A B e)∧size UA UB A B≤n)→∃ A B,(∀ e∈L,Cov l r A B e)∧∀ A' B',(∀ e∈L,Cov l r A' B' e)→size UA UB A B≤size UA UB A' B':=by
  intro n
  induction n with
  | zero =>
   rintro ⟨A,B,h1,h2⟩
   exact ⟨A,B,h1,fun A' B' _=>by omega⟩
  | succ n ih =>
   rintro ⟨A,B,h1,h2⟩
   by_cases h:∃ A B,(∀ e∈L,Cov l r A B e)∧size UA UB A B≤n
   ·exact ih h
   ·refine ⟨A,B,h1,fun A' B' h'=>?_⟩
    have:¬ size UA UB A' B'≤n:=fun h3=>h ⟨A',B',h',h3⟩
    omega
 exact key (size UA UB (fun _=>true) (fun _=>true)) ⟨fun _=>true,fun _=>true,fun e _=>.inl rfl,Nat.le_refl _⟩
theorem xzZ {UA:List α} {UB:List β} (hA:UA.Nodup):∀ L:List ε,size UA UB (fun x=>decide (x∈L.map l)) (fun _=>false)≤L.length
 | []=>by simp [size]
 | e::L=>by
  have ih:=xzZ (UB:=UB) hA L
  have h:=xnv (p:=fun x=>decide (x∈L.map l)) (v:=l e) hA
  have h2:UA.countP (fun x=>decide (x∈(e::L).map l))≤UA.countP (fun x=>decide (x∈L.map l)||decide (x=l e)):=xln (fun x hx=>by
   have:x∈(e::L).map l:=by simpa using hx
   rw [List.map_cons] at this
   rcases List.mem_cons.1 this with h | h
   ·simp [h]
   ·simp [h]) UA
  unfold size at *
  simp only [List.length_cons]
  omega
theorem xrF {ε:Type} {R:ε→ε→Prop} [∀ a b,Decidable (R a b)]:∀ {L:List ε},¬ L.Pairwise R→∃ L1 e L2 f L3,L=L1++e::(L2++f::L3)∧¬ R e f
 | [],h=>absurd List.Pairwise.nil h
 | x::t,h=>by
  by_cases h1:∀ y∈t,R x y
  ·obtain ⟨L1,e,L2,f,L3,h2,h3⟩:=xrF (L:=t) fun h2=>h (List.pairwise_cons.2 ⟨h1,h2⟩)
   exact ⟨x::L1,e,L2,f,L3,by rw [h2]; rfl,h3⟩
  ·have:∃ y∈t,¬ R x y:=Classical.byContradiction fun hn=>h1 fun y hy=>Classical.byContradiction fun hr=>hn ⟨y,hy,hr⟩
   obtain ⟨y,hy,hr⟩:=this
   obtain ⟨L2,L3,rfl⟩:=List.append_of_mem hy
   exact ⟨[],x,L2,y,L3,rfl,hr⟩
theorem xEO {UA:List α} {UB:List β} (hA:UA.Nodup) (hB:UB.Nodup):∀ (n:Nat) (L:List ε),L.length≤n→(∀ e∈L,l e∈UA∧∀ b,r e=some b→b∈UB) →
  ∃ M:List ε,M.Sublist L∧M.Pairwise (xuj l r)∧∃ A B,(∀ e∈L,Cov l r A B e)∧size UA UB A B=M.length
 | 0,L,hn,_=>by
  have:L=[]:=List.eq_nil_of_length_eq_zero (by omega)
  subst this
  exact ⟨[],List.Sublist.refl _,List.Pairwise.nil,fun _=>false,fun _=>false,(fun e he=>by cases he),by simp [size]⟩
 | n+1,L,hn,hU=>by
  obtain ⟨A0,B0,hc0,hmin⟩:=xIc (l:=l) (r:=r) UA UB L
  by_cases hcrit:∃ L1 e L2,L=L1++e::L2∧∀ A B,(∀ f∈L1++L2,Cov l r A B f)→size UA UB A0 B0≤size UA UB A B
  ·obtain ⟨L1,e,L2,rfl,hge⟩:=hcrit
   have hsub:(L1++L2).Sublist (L1++e::L2):=List.Sublist.append (List.Sublist.refl _) (List.sublist_cons_self _ _)
   obtain ⟨M,h1,h2,A,B,h3,h4⟩:=xEO hA hB n (L1++L2) (by simp at hn ⊢; omega) fun f hf=>hU f (hsub.subset hf)
   have hM:=h1.trans hsub
   refine ⟨M,hM,h2,A0,B0,hc0,?_⟩
   have:=weak h2 (fun f hf=>hc0 f (hM.subset hf)) fun f hf=>hU f (hM.subset hf)
   have:=hge A B h3
   omega
  ·have hcrit:∀ L1 e L2,L=L1++e::L2→∃ A B,(∀ f∈L1++L2,Cov l r A B f)∧size UA UB A B+1≤size UA UB A0 B0:=by
    intro L1 e L2 hL
    refine Classical.byContradiction fun hno=>hcrit ⟨L1,e,L2,hL,fun A B hAB=>?_⟩
    refine Classical.byContradiction fun hlt=>hno ⟨A,B,hAB,by omega⟩
   by_cases hp:L.Pairwise (xuj l r)
   ·refine ⟨L,List.Sublist.refl _,hp,A0,B0,hc0,?_⟩
    have h1:=weak hp hc0 hU
    have h2:=hmin (fun x=>decide (x∈L.map l)) (fun _=>false) fun e he=>.inl (by simpa using ⟨e,he,rfl⟩)
    have h3:=xzZ (l:=l) (UB:=UB) hA L
    omega
   ·exfalso
    have _inst:∀ a b:ε,Decidable (xuj l r a b):=fun a b=>Classical.propDecidable _
    obtain ⟨L1,e,L2,f,L3,rfl,hef⟩:=xrF hp
    obtain ⟨Ae,Be,he,hse⟩:=hcrit L1 e (L2++f::L3) rfl
    obtain ⟨Af,Bf,hf,hsf⟩:=hcrit (L1++e::L2) f L3 (by simp)
    have nte:¬ Cov l r Ae Be e:=fun hcv=>by
     have:=hmin Ae Be fun g hg=>by
      rcases List.mem_append.1 hg with hg | hg
      ·exact he g (List.mem_append.2 (.inl hg))
      ·rcases List.mem_cons.1 hg with rfl | hg
       ·exact hcv
       ·exact he g (List.mem_append.2 (.inr hg))
     omega
    have ntf:¬ Cov l r Af Bf f:=fun hcv=>by
     have:=hmin Af Bf fun g hg=>by
      rcases List.mem_append.1 hg with hg | hg
      ·exact hf g (by simp [hg])
      ·rcases List.mem_cons.1 hg with rfl | hg
       ·exact hf g (by simp)
       ·rcases List.mem_append.1 hg with hg | hg
        ·exact hf g (by simp [hg])
        ·rcases List.mem_cons.1 hg with rfl | hg
         ·exact hcv
         ·exact hf g (by simp [hg])
     omega
    have cfe:Cov l r Ae Be f:=he f (by simp)
    have cef:Cov l r Af Bf e:=hf e (by simp)
    have other:∀ g∈L1++e::(L2++f::L3),g=e∨g=f∨(Cov l r Ae Be g∧Cov l r Af Bf g):=fun g hg=>by
     simp only [List.mem_append,List.mem_cons] at hg
     rcases hg with hg | rfl | hg | rfl | hg
     ·exact .inr (.inr ⟨he g (by simp [hg]),hf g (by simp [hg])⟩)
     ·exact .inl rfl
     ·exact .inr (.inr ⟨he g (by simp [hg]),hf g (by simp [hg])⟩)
     ·exact .inr (.inl rfl)
     ·exact .inr (.inr ⟨he g (by simp [hg]),hf g (by simp [hg])⟩)
    have hsum:size UA UB (fun x=>Ae x||Af x) (fun x=>Be x&&Bf x)+size UA UB (fun x=>Ae x&&Af x) (fun x=>Be x||Bf x)=size UA UB Ae Be+size UA UB Af Bf:=by
     have h1:=xq9 Ae Af (fun x=>Ae x||Af x) (fun x=>Ae x&&Af x) (fun x=>by cases Ae x<;>cases Af x<;>rfl) UA
     have h2:=xq9 Be Bf (fun x=>Be x&&Bf x) (fun x=>Be x||Bf x) (fun x=>by cases Be x<;>cases Bf x<;>rfl) UB
     unfold size
     omega
    have both1:∀ g,Cov l r Ae Be g→Cov l r Af Bf g→Cov l r (fun x=>Ae x||Af x) (fun x=>Be x&&Bf x) g:=by
     intro g h1 h2
     rcases h1 with h1 | ⟨b,hb,h1⟩
     ·exact .inl (by simp [h1])
     ·rcases h2 with h2 | ⟨b',hb',h2⟩
      ·exact .inl (by simp [h2])
      ·rw [hb] at hb'; cases hb'
       exact .inr ⟨b,hb,by simp [h1,h2]⟩
    have both2:∀ g,Cov l r Ae Be g→Cov l r Af Bf g→Cov l r (fun x=>Ae x&&Af x) (fun x=>Be x||Bf x) g:=by
     intro g h1 h2
     rcases h1 with h1 | ⟨b,hb,h1⟩
     ·rcases h2 with h2 | ⟨b',hb',h2⟩
      ·exact .inl (by simp [h1,h2])
      ·exact .inr ⟨b',hb',by simp [h2]⟩
     ·exact .inr ⟨b,hb,by simp [h1]⟩
    have hshare:l e=l f∨∃ b,r e=some b∧r f=some b:=by
     refine Classical.byContradiction fun hn=>hef ⟨fun h=>hn (.inl h),fun b hb hb'=>hn (.inr ⟨b,hb,hb'⟩)⟩
    rcases hshare with hl | ⟨b,hbe,hbf⟩
    ·have a1:Ae (l e)=false:=by
      cases h:Ae (l e) with
      | false=>rfl
      | true=>exact absurd (.inl h) nte
     have a2:Af (l f)=false:=by
      cases h:Af (l f) with
      | false=>rfl
      | true=>exact absurd (.inl h) ntf
     have re:∃ b,r e=some b∧Bf b=true:=by
      rcases cef with h | h
      ·rw [hl,a2] at h; cases h
      ·exact h
     have rf':∃ b,r f=some b∧Be b=true:=by
      rcases cfe with h | h
      ·rw [← hl,a1] at h; cases h
      ·exact h
     have g1:=hmin (fun x=>Ae x&&Af x) (fun x=>Be x||Bf x) fun g hg=>by
      rcases other g hg with rfl | rfl | ⟨h1,h2⟩
      ·obtain ⟨b,hb,h⟩:=re
       exact .inr ⟨b,hb,by simp [h]⟩
      ·obtain ⟨b,hb,h⟩:=rf'
       exact .inr ⟨b,hb,by simp [h]⟩
      ·exact both2 g h1 h2
     have g2:=hmin (fun x=>(Ae x||Af x)||decide (x=l e)) (fun x=>Be x&&Bf x) fun g hg=>by
      rcases other g hg with rfl | rfl | ⟨h1,h2⟩
      ·exact .inl (by simp)
      ·exact .inl (by simp [hl])
      ·rcases both1 g h1 h2 with h | h
       ·exact .inl (by simp only [Bool.or_eq_true] at h ⊢; exact .inl h)
       ·exact .inr h
     have g3:=xnv (p:=fun x=>Ae x||Af x) (v:=l e) hA
     unfold size at *
     omega
    ·have b1:Be b=false:=by
      cases h:Be b with
      | false=>rfl
      | true=>exact absurd (.inr ⟨b,hbe,h⟩) nte
     have b2:Bf b=false:=by
      cases h:Bf b with
      | false=>rfl
      | true=>exact absurd (.inr ⟨b,hbf,h⟩) ntf
     have le:Af (l e)=true:=by
      rcases cef with h | ⟨b',hb',h⟩
      ·exact h
      ·rw [hbe] at hb'; cases hb'; rw [b2] at h; cases h
     have lf:Ae (l f)=true:=by
      rcases cfe with h | ⟨b',hb',h⟩
      ·exact h
      ·rw [hbf] at hb'; cases hb'; rw [b1] at h; cases h
     have g1:=hmin (fun x=>Ae x||Af x) (fun x=>Be x&&Bf x) fun g hg=>by
      rcases other g hg with rfl | rfl | ⟨h1,h2⟩
      ·exact .inl (by simp [le])
      ·exact .inl (by simp [lf])
      ·exact both1 g h1 h2
     have g2:=hmin (fun x=>Ae x&&Af x) (fun x=>(Be x||Bf x)||decide (x=b)) fun g hg=>by
      rcases other g hg with rfl | rfl | ⟨h1,h2⟩
      ·exact .inr ⟨b,hbe,by simp⟩
      ·exact .inr ⟨b,hbf,by simp⟩
      ·rcases both2 g h1 h2 with h | ⟨b',hb',h⟩
       ·exact .inl h
       ·exact .inr ⟨b',hb',by simp only [Bool.or_eq_true] at h ⊢; exact .inl h⟩
     have g3:=xnv (p:=fun x=>Be x||Bf x) (v:=b) hB
     unfold size at *
     omega
end
end Go.Koen
set_option linter.unusedVariables false
set_option maxRecDepth 100000
namespace Go.Proofs.YtikhnofbbcmpeaaGreat
open Go Go.Sy Go.Koen
theorem xiG {α:Type} [DecidableEq α]:∀ {l l':List α},l.Nodup→(∀ x∈l,x∈l')→l.length≤l'.length
 | [],_,_,_=>Nat.zero_le _
 | x::r,l',hn,hs=>by
  obtain ⟨h1,h2⟩:=List.nodup_cons.1 hn
  have hx:=hs x List.mem_cons_self
  have:=xiG (l:=r) (l':=l'.erase x) h2 fun y hy=>(List.mem_erase_of_ne (fun e:y=x=>h1 (by rw [← e]; exact hy))).2 (hs y (List.mem_cons_of_mem _ hy))
  rw [List.length_erase_of_mem hx] at this
  have:0<l'.length:=List.length_pos_of_mem hx
  simp only [List.length_cons]
  omega
theorem xrG {α:Type} [DecidableEq α] {l l':List α} (h:l.Nodup) (h':l'.Nodup) (hm:∀ x,x∈l↔x∈l'):l.length=l'.length :=
 Nat.le_antisymm (xiG h fun x hx=>(hm x).1 hx) (xiG h' fun x hx=>(hm x).2 hx)
theorem xmB {α:Type} [DecidableEq α] {l l':List α} (h:l.Nodup) {y:α} (hy:y∈l') (hy':y∉l) (hs:∀ x∈l,x∈l'):l.length<l'.length:=by
 have:=xiG (l:=y::l) (List.nodup_cons.2 ⟨hy',h⟩) (l':=l') fun x hx=>by
  rcases List.mem_cons.1 hx with rfl | hx
  ·exact hy
  ·exact hs x hx
 rw [List.length_cons] at this
 omega
theorem xnf (m:Nat) (up:List (List Int)):(byF m up).Nodup:=by
 refine List.nodup_iff_pairwise_ne.2 ((xsM m up).1.imp fun {a b} h e=>?_)
 subst e
 have:=xgj [0,1,2] a a
 rw [h] at this
 simp at this
theorem xDx (m:Nat) (up:List (List Int)) (x:List Int):x∈xkb m up↔(∃ k,k<9∧m.testBit k=true∧x=rOn k)∨∃ g∈up,cov m g=false∧x=lft g:=by
 unfold xkb
 rw [List.mem_append,List.mem_map,List.mem_map]
 constructor
 ·rintro (⟨k,hk,rfl⟩ | ⟨g,hg,rfl⟩)
  ·obtain ⟨h1,h2⟩:=List.mem_filter.1 hk
   exact .inl ⟨k,List.mem_range.1 h1,h2,rfl⟩
  ·obtain ⟨h1,h2⟩:=List.mem_filter.1 hg
   exact .inr ⟨g,h1,by simpa using h2,rfl⟩
 ·rintro (⟨k,h1,h2,rfl⟩ | ⟨g,h1,h2,rfl⟩)
  ·exact .inl ⟨k,List.mem_filter.2 ⟨List.mem_range.2 h1,h2⟩,rfl⟩
  ·exact .inr ⟨g,List.mem_filter.2 ⟨h1,by rw [h2]; rfl⟩,rfl⟩
theorem xh7 (m:Nat) (up:List (List Int)) (x:List Int):x∈byF m up↔(∃ k,k<9∧m.testBit k=true∧x=rOn k)∨∃ g∈up,cov m g=false∧x=lft g:=by
 rw [(xsM m up).2,xDx]
theorem xCw (g:List Int) (k:Nat):lft g≠rOn k:=by
 unfold lft rOn
 split<;>simp
theorem xAh (up:List (List Int)):∀ n,(∃ m,(m=0∨m<n)∧upto (xfs up) n (byF 0 up)=byF m up)∧∀ m,m<n→subB m (allF up)=true→xek (byF m up) (upto (xfs up) n (byF 0 up))=false
 | 0=>⟨⟨0,.inl rfl,rfl⟩,fun m h=>by omega⟩
 | n+1=>by
  obtain ⟨⟨m,hm,he⟩,h2⟩:=xAh up n
  have e:upto (xfs up) (n+1) (byF 0 up)=xfs up n (upto (xfs up) n (byF 0 up)):=rfl
  rw [e]
  generalize upto (xfs up) n (byF 0 up)=b at *
  unfold xfs
  by_cases hs:subB n (allF up)=true
  ·rw [if_pos hs]
   by_cases hb:xek (byF n up) b=true
   ·rw [if_pos hb]
    refine ⟨⟨n,.inr (by omega),rfl⟩,fun m' hm' hs'=>?_⟩
    by_cases e':m'=n
    ·rw [e']; exact xrh _
    ·cases hbb:xek (byF m' up) (byF n up) with
     | false=>rfl
     | true =>
      have:=xng hbb hb
      rw [h2 m' (by omega) hs'] at this
      cases this
   ·rw [if_neg hb]
    refine ⟨⟨m,hm.imp id fun h=>by omega,he⟩,fun m' hm' hs'=>?_⟩
    by_cases e':m'=n
    ·rw [e']; simpa using hb
    ·exact h2 m' (by omega) hs'
  ·rw [if_neg hs]
   refine ⟨⟨m,hm.imp id fun h=>by omega,he⟩,fun m' hm' hs'=>?_⟩
   by_cases e':m'=n
   ·rw [e'] at hs'; exact absurd hs' hs
   ·exact h2 m' (by omega) hs'
theorem xBD {m a:Nat} (hm:m<512) (h:subB m a=true):m≤a:=by
 have e:m &&& a=m:=by
  apply Nat.eq_of_testBit_eq
  intro i
  rw [Nat.testBit_and]
  by_cases h9:i<9
  ·have:=List.all_eq_true.1 h i (List.mem_range.2 h9)
   cases h1:m.testBit i<;>cases h2:a.testBit i<;>simp_all
  ·rw [xuY hm (by omega)]; rfl
 rw [← e]
 exact Nat.and_le_right
theorem xp1 {up:List (List Int)} (hs:xep up):(∃ m,m<512∧fewF up=byF m up)∧∀ m,m<512→xek (byF m up) (fewF up)=false:=by
 obtain ⟨hall,hbit⟩:=xAv hs
 obtain ⟨⟨m0,hm0,he⟩,hmin⟩:=xAh up (allF up+1)
 have he:fewF up=byF m0 up:=he
 have hmin:∀ m,m<allF up+1→subB m (allF up)=true→xek (byF m up) (fewF up)=false:=hmin
 refine ⟨⟨m0,by omega,he⟩,fun m hm=>?_⟩
 by_cases hsub:subB m (allF up)=true
 ·exact hmin m (by have:=xBD hm hsub; omega) hsub
 ·have hlt:m &&& allF up<512:=Nat.and_lt_two_pow (n:=9) _ hall
  have hsub':subB (m &&& allF up) (allF up)=true:=List.all_eq_true.2 fun k _=>by
   rw [Nat.testBit_and]
   cases m.testBit k<;>cases (allF up).testBit k<;>rfl
  have h1:=hmin (m &&& allF up) (by have:=xBD hlt hsub'; omega) hsub'
  obtain ⟨k,hk,hk'⟩:∃ k,k<9∧(!m.testBit k||(allF up).testBit k)=false:=by
   refine Classical.byContradiction fun hn=>hsub (List.all_eq_true.2 fun k hk=>?_)
   cases h:(!m.testBit k||(allF up).testBit k) with
   | true=>rfl
   | false=>exact absurd ⟨k,List.mem_range.1 hk,h⟩ hn
  have hk1:m.testBit k=true∧(allF up).testBit k=false:=by
   cases h1:m.testBit k<;>cases h2:(allF up).testBit k<;>simp_all
  have hcov:∀ g∈up,cov (m &&& allF up) g=cov m g:=fun g hg=>by
   unfold cov
   cases h3:(col g 3 !=0) with
   | false=>rfl
   | true =>
    have:(allF up).testBit (col g 0).toNat=true:=by
     rw [hbit,List.any_eq_true]
     exact ⟨g,hg,by rw [h3]; simp⟩
    rw [Nat.testBit_and,this,Bool.and_true]
  have hlen:(byF (m &&& allF up) up).length<(byF m up).length:=by
   refine xmB (xnf _ _) (y:=rOn k) ((xh7 _ _ _).2 (.inl ⟨k,hk,hk1.1,rfl⟩)) (fun h=>?_) fun x hx=>?_
   ·rcases (xh7 _ _ _).1 h with ⟨k',_,hb,e⟩ | ⟨g,_,_,e⟩
    ·have:k=k':=by
      have e1:((k:Nat):Int)=(k':Int):=by
       unfold rOn at e
       simpa using e
      omega
     subst this
     rw [Nat.testBit_and,hk1.2,Bool.and_false] at hb
     cases hb
    ·exact xCw g k e.symm
   ·rcases (xh7 _ _ _).1 hx with ⟨k',h1,hb,e⟩ | ⟨g,h1,h2,e⟩
    ·rw [Nat.testBit_and,Bool.and_eq_true] at hb
     exact (xh7 _ _ _).2 (.inl ⟨k',h1,hb.1,e⟩)
    ·exact (xh7 _ _ _).2 (.inr ⟨g,h1,by rw [← hcov g h1]; exact h2,e⟩)
  cases hb:xek (byF m up) (fewF up) with
  | false=>rfl
  | true =>
   have:xek (byF (m &&& allF up) up) (byF m up)=true:=by unfold xek; rw [decide_eq_true hlen]; rfl
   have:=xng this hb
   rw [h1] at this
   cases this
theorem xFW {up:List (List Int)} (hs:xep up) {m:Nat} (hm:m<512):(fewF up).length≤(byF m up).length:=by
 have:=(xp1 hs).2 m hm
 unfold xek at this
 simp only [Bool.or_eq_false_iff,decide_eq_false_iff_not] at this
 omega
def rt (g:List Int):Option Int:=if col g 3=0 then none else some (col g 0)
def uB:List Int:=[0,1,2,3,4,5,6,7,8]
theorem xEz (k:Int):k∈uB↔0≤k∧k≤8:=by
 unfold uB
 simp only [List.mem_cons,List.not_mem_nil,or_false]
 omega
theorem xDM:uB.Nodup:=by decide
theorem xBC (up:List (List Int)) (x:List Int):x∈byF 0 up↔∃ g∈up,x=lft g:=by
 rw [xh7]
 constructor
 ·rintro (⟨k,_,h,_⟩ | ⟨g,h,_,e⟩)
  ·simp at h
  ·exact ⟨g,h,e⟩
 ·rintro ⟨g,h,e⟩
  exact .inr ⟨g,h,by unfold cov; simp,e⟩
theorem xDj {up sub:List (List Int)} (hs:xep up) (h:∀ g∈sub,g∈up):∀ e∈sub,lft e∈byF 0 up∧∀ b,rt e=some b→b∈uB:=fun e he=>by
 refine ⟨(xBC _ _).2 ⟨e,h e he,rfl⟩,fun b hb=>?_⟩
 unfold rt at hb
 split at hb
 ·cases hb
 ·cases hb
  exact (xEz _).2 (hs e (h e he))
def aOf (m:Nat) (up:List (List Int)) (x:List Int):Bool:=decide (∃ g∈up,cov m g=false∧x=lft g)
def bOf (m:Nat) (k:Int):Bool:=m.testBit k.toNat
theorem xGO (m:Nat) (up:List (List Int)):∀ e∈up,Cov lft rt (aOf m up) (bOf m) e:=fun e he=>by
 cases hc:cov m e with
 | false=>exact .inl (decide_eq_true ⟨e,he,hc,rfl⟩)
 | true =>
  unfold cov at hc
  rw [Bool.and_eq_true] at hc
  refine .inr ⟨col e 0,?_,hc.2⟩
  unfold rt
  rw [if_neg (by simpa using hc.1)]
theorem xBG (m:Nat) (up:List (List Int)):size (byF 0 up) uB (aOf m up) (bOf m)=(byF m up).length:=by
 have hr:(((List.range 9).filter m.testBit).map rOn).Nodup:=by
  rw [List.nodup_iff_pairwise_ne,List.pairwise_map]
  refine ((List.nodup_iff_pairwise_ne.1 List.nodup_range).filter m.testBit).imp fun {a b} h e=>h ?_
  have e1:((a:Nat):Int)=(b:Int):=by
   unfold rOn at e
   simpa using e
  omega
 have h1:(byF m up).length=((byF 0 up).filter (aOf m up)++((List.range 9).filter m.testBit).map rOn).length:=by
  refine xrG (xnf m up) (List.nodup_append.2 ⟨(xnf 0 up).filter _,hr,fun a ha b hb e=>?_⟩) fun x=>?_
  ·obtain ⟨g,_,e1⟩:=(xBC _ _).1 (List.mem_filter.1 ha).1
   obtain ⟨k,_,e2⟩:=List.mem_map.1 hb
   exact xCw g k (by rw [← e1,e,e2])
  ·rw [xh7,List.mem_append,List.mem_filter,List.mem_map]
   constructor
   ·rintro (⟨k,h1,h2,h3⟩ | ⟨g,h1,h2,h3⟩)
    ·exact .inr ⟨k,List.mem_filter.2 ⟨List.mem_range.2 h1,h2⟩,h3.symm⟩
    ·exact .inl ⟨(xBC _ _).2 ⟨g,h1,h3⟩,decide_eq_true ⟨g,h1,h2,h3⟩⟩
   ·rintro (⟨_,h⟩ | ⟨k,h1,h2⟩)
    ·obtain ⟨g,h1,h2,h3⟩:=of_decide_eq_true h
     exact .inr ⟨g,h1,h2,h3⟩
    ·obtain ⟨h3,h4⟩:=List.mem_filter.1 h1
     exact .inl ⟨k,List.mem_range.1 h3,h4,h2.symm⟩
 have h2:uB.countP (bOf m)=((List.range 9).filter m.testBit).length:=by
  have e:uB=(List.range 9).map (fun k:Nat=>(k:Int)):=by decide
  rw [e,List.countP_map,← List.countP_eq_length_filter]
  exact List.countP_congr fun (k:Nat) _=>by show m.testBit (k:Int).toNat=true↔_; rw [Int.toNat_natCast]
 unfold size
 rw [h1,h2,List.length_append,List.length_map,List.countP_eq_length_filter]
def mask:List Bool→Nat
 | []=>0
 | b::r=>b.toNat+2*mask r
theorem xzU:∀ (l:List Bool) (k:Nat),(mask l).testBit k=l.getD k false
 | [],k=>by simp [mask]
 | b::r,0=>by
  unfold mask
  cases b<;>simp [Nat.testBit_zero]
 | b::r,k+1=>by
  have ih:=xzU r k
  unfold mask
  rw [Nat.testBit_succ]
  have:(b.toNat+2*mask r)/2=mask r:=by cases b<;>simp<;>omega
  rw [this,ih]; rfl
theorem xCp:∀ (l:List Bool),mask l<2 ^ l.length
 | []=>by simp [mask]
 | b::r=>by
  have:=xCp r
  unfold mask
  rw [List.length_cons,Nat.pow_succ]
  cases b<;>simp<;>omega
theorem xEo {up:List (List Int)} (hs:xep up) {A:List Int→Bool} {B:Int→Bool} (hc:∀ e∈up,Cov lft rt A B e):(fewF up).length≤size (byF 0 up) uB A B:=by
 let m:=mask ((List.range 9).map fun k:Nat=>B (k:Int))
 have hm:m<512:=by
  have:=xCp ((List.range 9).map fun k:Nat=>B (k:Int))
  simpa using this
 have hbit:∀ k,k<9→m.testBit k=B (k:Int):=fun k hk=>by
  show (mask _).testBit k=_
  rw [xzU,List.getD_eq_getElem?_getD,List.getElem?_map,List.getElem?_range hk]
  rfl
 refine Nat.le_trans (xFW hs hm) ?_
 rw [← xBG m up]
 have h1:(byF 0 up).countP (aOf m up)≤(byF 0 up).countP A:=by
  refine xln (fun x hx=>?_) _
  obtain ⟨g,hg,hcv,rfl⟩:=of_decide_eq_true hx
  rcases hc g hg with h | ⟨b,hb,hB⟩
  ·exact h
  ·exfalso
   unfold rt at hb
   split at hb
   ·cases hb
   ·rename_i h3
    cases hb
    have hsh:=hs g hg
    unfold cov at hcv
    rw [hbit _ (by omega),Int.toNat_of_nonneg hsh.1,hB] at hcv
    simp at hcv
    exact h3 hcv
 have h2:uB.countP (bOf m)≤uB.countP B:=by
  have:∀ l:List Int,(∀ k∈l,0≤k∧k≤8)→l.countP (bOf m)≤l.countP B:=fun l hl=>by
   refine Nat.le_of_eq (List.countP_congr fun k hk=>?_)
   have:=hl k hk
   unfold bOf
   rw [hbit _ (by omega),Int.toNat_of_nonneg this.1]
  exact this uB fun k hk=>(xEz k).1 hk
 unfold size
 omega
theorem xwS {up M:List (List Int)} (hs:xep up) (hsub:∀ g∈M,g∈up) (hM:M.Pairwise (xuj lft rt)):M.length≤(fewF up).length:=by
 obtain ⟨m,hm,he⟩:=(xp1 hs).1
 rw [he,← xBG m up]
 exact weak hM (fun e hh=>xGO m up e (hsub e hh)) (xDj hs hsub)
theorem xAt {up:List (List Int)} (hs:xep up):∃ M:List (List Int),M.Sublist up∧M.Pairwise (xuj lft rt)∧M.length=(fewF up).length:=by
 obtain ⟨M,h1,h2,A,B,h3,h4⟩:=xEO (l:=lft) (r:=rt) (xnf 0 up) xDM up.length up (Nat.le_refl _) (xDj hs fun g h=>h)
 refine ⟨M,h1,h2,Nat.le_antisymm (xwS hs (fun g hg=>h1.subset hg) h2) ?_⟩
 rw [← h4]
 exact xEo hs h3
end Go.Proofs.YtikhnofbbcmpeaaGreat
