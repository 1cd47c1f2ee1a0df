/- Several texts in one (wip/pack.py): XInqPf XInqPg XInqPh XInqPi XInqPj XInqPk XInqPl XInqPm XKoen XInqPn XInqPo XTqA XTqB XTqC XTqE XTqF. -/
import Derived.Test.YthfjhbbpdhjklaaGreatQTI05
import Derived.Test.YthfjhbbpdhjklaaGreatQTI07
set_option linter.unusedVariables false
set_option maxRecDepth 100000
namespace Go.Proofs.YthfjhbbpdhjklaaGreat
open Go Go.Sy
theorem xwH (x y:List Int):cfO x y<0↔leL [0,1,2] y x=false:=by
 have:=xvA x y
 constructor
 ·intro h; rw [decide_eq_true h] at this; simpa using this.symm
 ·intro h; rw [h] at this; simpa using this
theorem xtj (x y:List Int):cfO x y=0↔(col x 0=col y 0∧col x 1=col y 1∧col x 2=col y 2):=by
 show cfO x y=0↔(x.getD 0 0=y.getD 0 0∧x.getD 1 0=y.getD 1 0∧x.getD 2 0=y.getD 2 0)
 unfold cfO
 rw [(xhk _ _ _ _ _ _).2]
 simp only [cmpC,orL]
 generalize x.getD 0 0=a
 generalize x.getD 1 0=b
 generalize x.getD 2 0=c
 generalize y.getD 0 0=d
 generalize y.getD 1 0=e
 generalize y.getD 2 0=f
 have one:∀ u v:Int,(if u<v then (-1:Int) else if v<u then 1 else 0)=0↔u=v:=fun u v=>by
  by_cases h1:u<v
  ·rw [if_pos h1]; omega
  ·rw [if_neg h1]
   by_cases h2:v<u
   ·rw [if_pos h2]; omega
   ·rw [if_neg h2]; omega
 by_cases h1:(if a<d then (-1:Int) else if d<a then 1 else 0)=0
 ·rw [if_pos h1]
  by_cases h2:(if b<e then (-1:Int) else if e<b then 1 else 0)=0
  ·rw [if_pos h2]
   by_cases h3:(if c<f then (-1:Int) else if f<c then 1 else 0)=0
   ·rw [if_pos h3]
    exact ⟨fun _=>⟨(one _ _).1 h1,(one _ _).1 h2,(one _ _).1 h3⟩,fun _=>rfl⟩
   ·rw [if_neg h3]
    exact ⟨fun h=>absurd h h3,fun h=>absurd ((one _ _).2 h.2.2) h3⟩
  ·rw [if_neg h2]
   exact ⟨fun h=>absurd h h2,fun h=>absurd ((one _ _).2 h.2.1) h2⟩
 ·rw [if_neg h1]
  exact ⟨fun h=>absurd h h1,fun h=>absurd ((one _ _).2 h.1) h1⟩
noncomputable def cmpL:List (List Int)→List (List Int)→Int
 | [],[]=>0
 | [],_::_ => -1
 | _::_,[]=>1
 | x::r,y::r'=>if cfO x y=0 then cmpL r r' else cfO x y
noncomputable def xfj (x b:List (List Int)):Bool:=decide (x.length<b.length)||(x.length==b.length&&decide (cmpL x b<0))
theorem xwF:∀ x,cmpL x x=0
 | []=>rfl
 | x::r=>by
  unfold cmpL
  rw [if_pos ((xtj x x).2 ⟨rfl,rfl,rfl⟩)]
  exact xwF r
theorem xvB {x x' y:List Int} (h:cfO x x'=0):cfO x y=cfO x' y:=by
 obtain ⟨h0,h1,h2⟩:=(xtj x x').1 h
 have h0:x.getD 0 0=x'.getD 0 0:=h0
 have h1:x.getD 1 0=x'.getD 1 0:=h1
 have h2:x.getD 2 0=x'.getD 2 0:=h2
 unfold cfO
 rw [h0,h1,h2]
theorem xqX {x y y':List Int} (h:cfO y y'=0):cfO x y=cfO x y':=by
 obtain ⟨h0,h1,h2⟩:=(xtj y y').1 h
 have h0:y.getD 0 0=y'.getD 0 0:=h0
 have h1:y.getD 1 0=y'.getD 1 0:=h1
 have h2:y.getD 2 0=y'.getD 2 0:=h2
 unfold cfO
 rw [h0,h1,h2]
theorem xyD {x y z:List Int} (h:leL [0,1,2] y x=false) (k:leL [0,1,2] z y=false):leL [0,1,2] z x=false:=by
 have le_ne:∀ {a b:List Int},leL [0,1,2] a b=false→leL [0,1,2] b a=true:=fun {a b} h=>(xeQ _ a b).resolve_left (by simp [h])
 cases hz:leL [0,1,2] z x with
 | false=>rfl
 | true =>
  have:=xeP _ _ _ _ hz (le_ne h)
  rw [k] at this
  cases this
theorem xsg:∀ {x y z:List (List Int)},x.length=y.length→y.length=z.length→cmpL x y<0→cmpL y z<0→cmpL x z<0
 | [],[],[],_,_,h,_=>by simp [cmpL] at h
 | x::r,y::r',z::r'',h1,h2,h,k=>by
  unfold cmpL at h k ⊢
  by_cases e1:cfO x y=0
  ·rw [if_pos e1] at h
   by_cases e2:cfO y z=0
   ·rw [if_pos e2] at k
    rw [if_pos ((xqX e2).symm.trans e1)]
    exact xsg (by simpa using h1) (by simpa using h2) h k
   ·rw [if_neg e2] at k
    have e3:cfO x z=cfO y z:=xvB e1
    rw [e3,if_neg e2]; exact k
  ·rw [if_neg e1] at h
   by_cases e2:cfO y z=0
   ·have e3:cfO x y=cfO x z:=xqX e2
    rw [← e3,if_neg e1]; exact h
   ·rw [if_neg e2] at k
    have e3:=(xwH x z).2 (xyD ((xwH x y).1 h) ((xwH y z).1 k))
    rw [if_neg (by omega)]; exact e3
 | [],[],_::_,_,h,_,_=>by simp at h
 | [],_::_,_,h,_,_,_=>by simp at h
 | _::_,[],_,h,_,_,_=>by simp at h
 | _::_,_::_,[],_,h,_,_=>by simp at h
theorem xo0 {x y z:List (List Int)} (h:xfj x y=true) (k:xfj y z=true):xfj x z=true:=by
 unfold xfj at *
 simp only [Bool.or_eq_true,Bool.and_eq_true,decide_eq_true_eq,beq_iff_eq] at *
 rcases h with h | ⟨h1,h2⟩<;>rcases k with k | ⟨k1,k2⟩
 ·left; omega
 ·left; omega
 ·left; omega
 ·right; exact ⟨by omega,xsg h1 k1 h2 k2⟩
theorem xxA (x:List (List Int)):xfj x x=false:=by
 unfold xfj
 rw [xwF]
 simp
def allF (uk:List (List Int)):Nat:=uk.foldl (fun a g=>if col g 3 !=0 then a ||| 2 ^ (col g 0).toNat else a) 0
theorem xvQ:∀ (uk:List (List Int)) (a:Nat),xcY uk→a<512→(uk.foldl (fun a g=>if col g 3 !=0 then a ||| 2 ^ (col g 0).toNat else a) a)<512∧∀ k,(uk.foldl (fun a g=>if col g 3 !=0 then a ||| 2 ^ (col g 0).toNat else a) a).testBit k=(a.testBit k||uk.any fun g=>col g 3 !=0&&decide ((col g 0).toNat=k))
 | [],a,_,ha=>⟨ha,fun k=>by simp⟩
 | g::r,a,hs,ha=>by
  obtain ⟨q1,q2⟩:=hs g List.mem_cons_self
  have hr:xcY r:=fun x hx=>hs x (List.mem_cons_of_mem _ hx)
  rw [List.foldl_cons]
  cases h3:(col g 3 !=0) with
  | false =>
   rw [if_neg (by decide)]
   obtain ⟨g1,g2⟩:=xvQ r a hr ha
   refine ⟨g1,fun k=>?_⟩
   rw [g2,List.any_cons,h3,Bool.false_and,Bool.false_or]
  | true =>
   rw [if_pos rfl]
   have hlt:a ||| 2 ^ (col g 0).toNat<512:=Nat.or_lt_two_pow (n:=9) ha (Nat.pow_lt_pow_right (by omega) (by omega))
   obtain ⟨g1,g2⟩:=xvQ r _ hr hlt
   refine ⟨g1,fun k=>?_⟩
   rw [g2,List.any_cons,h3,Bool.true_and,Nat.testBit_or,Nat.testBit_two_pow,Bool.or_assoc]
theorem xwN {uk:List (List Int)} (hs:xcY uk):allF uk<512∧∀ k,(allF uk).testBit k=uk.any fun g=>col g 3 !=0&&decide ((col g 0).toNat=k):=by
 obtain ⟨h1,h2⟩:=xvQ uk 0 hs (by omega)
 refine ⟨h1,fun k=>?_⟩
 have:=h2 k
 rw [Nat.zero_testBit,Bool.false_or] at this
 exact this
theorem xB4 {uk:List (List Int)} (hs:xcY uk) (hl:uk.length≤1000000):xax (xbp uk) (xeo uk)∧gi (xdP uk).snd 0=((allF uk:Nat):Int):=by
 have hin:∀ (l:List (List Int)) (a:Nat),xcY l→a<512→runL (fun (s:Nat) x=>.inl (if col x 3 !=0 then s ||| 2 ^ (col x 0).toNat else s)) a l=(.inl (l.foldl (fun a g=>if col g 3 !=0 then a ||| 2 ^ (col g 0).toNat else a) a):Nat ⊕ (Nat×List U)):=fun l a _ _=>xhY _ l a
 obtain ⟨h1,h2⟩:=xeO (step:=xbp uk) uk (fun i (s:Nat)=>[.i (s:Int),.i i]) (fun s x=>.inl (if col x 3 !=0 then s ||| 2 ^ (col x 0).toNat else s)) (fun i s=>s<512) (fun s=>(2,[.i (s:Int),.i uk.length])) 0
  (fun i s hi _ hI=>by
   obtain ⟨q1,q2⟩:=hs _ (List.getElem_mem hi)
   refine ⟨?_,fun s' hs'=>?_⟩
   ·unfold xbp
    simp only [gi_z,gi_1,dlt hi,xaa (xaw hi),xcN (show i<9223372036854775807 by omega),xbb hi]
    generalize hx:uk[i]=x at *
    rw [xaa q1]
    have hb:=xCj hI (show (col x 0).toNat<9 by omega)
    rw [Int.toNat_of_nonneg q1] at hb
    have hb':bOr IntKind.i64 (s:Int) (bShl IntKind.i64 1 (x.getD 0 0))=((s ||| 2 ^ (col x 0).toNat:Nat):Int):=hb
    rw [hb']
    show (bif col x 3 !=0 then _ else _)=_
    cases (col x 3 !=0)
    ·rw [if_neg (by decide)]; rfl
    ·rw [if_pos rfl]; rfl
   ·cases hs'
    split
    ·exact Nat.or_lt_two_pow (n:=9) hI (Nat.pow_lt_pow_right (by omega) (by omega))
    ·exact hI)
  (fun i s hi _=>by
   have:i=uk.length:=by omega
   subst this
   unfold xbp
   simp only [gi_z,gi_1,dnlt]) (s:=0) (by omega)
 refine ⟨h1,?_⟩
 have:xdP uk=xat (xbp uk) [.i ((0:Nat):Int),.i ((0:Nat):Int)]:=rfl
 rw [this,h2,List.drop_zero,xhY]
 exact gi_z _ _
theorem xsh:∀ {x b:List (List Int)} {i:Nat} (hx:i<x.length) (hb:i<b.length),(∀ j (h1:j<x.length) (h2:j<b.length),j<i→cfO x[j] b[j]=0)→cfO x[i] b[i]≠0→cmpL x b=cfO x[i] b[i]
 | x::r,y::r',0,_,_,_,h=>by
  unfold cmpL
  exact if_neg h
 | x::r,y::r',i+1,hx,hb,h0,h=>by
  unfold cmpL
  have e:cfO x y=0:=h0 0 (by simp) (by simp) (by omega)
  rw [if_pos e]
  exact xsh (by simpa using hx) (by simpa using hb) (fun j h1 h2 h3=>h0 (j+1) (by simpa using h1) (by simpa using h2) (by omega)) h
theorem xuv:∀ {x b:List (List Int)},x.length=b.length→(∀ j (h1:j<x.length) (h2:j<b.length),cfO x[j] b[j]=0)→cmpL x b=0
 | [],[],_,_=>rfl
 | x::r,y::r',hl,h0=>by
  unfold cmpL
  have e:cfO x y=0:=h0 0 (by simp) (by simp)
  rw [if_pos e]
  exact xuv (by simpa using hl) fun j h1 h2=>h0 (j+1) (by simpa using h1) (by simpa using h2)
theorem xze {uk:List (List Int)} {m:Nat} {b x:List (List Int)} (hby:xaP m uk=x) (hl:x.length≤9223372036854775807) (hlen:x.length=b.length) :
  xax (xbo uk [.i m,.r b]) (xce uk [.i m,.r b]) ∧
  (bif (xbk uk [.i m,.r b]).fst.beq 1 then (1:Int) else bif (xbk uk [.i m,.r b]).fst.beq 2 then gi (xbk uk [.i m,.r b]).snd 0 else (xdO uk [.i m,.r b]))=cmpL x b:=by
 have hs1:xdO uk [.i m,.r b]=0:=by
  unfold xdO
  simp only [gi_z,gr_1,gr_z,hby]
  rw [decide_eq_false (by omega)]; rfl
 rw [hs1]
 obtain ⟨h1,h2⟩:=xgz (step:=xbo uk [.i m,.r b]) x.length (fun i=>cfO (x.getD i []) (b.getD i []) !=0) (fun i=>[.i 0,.i i]) (fun i=>[.i (cfO (x.getD i []) (b.getD i []))]) 1 3 [.i 0,.i x.length]
  (fun i hi=>by
   unfold xbo xgB
   simp only [gi_z,gi_1,gr_1,gr_z]
   rw [hby,dlt hi,xaa (xaw hi),xaa (xaw hi),decide_eq_false (show ¬ ((i:Int)≥(b.length:Int)) by omega),cond_false,xaa (xaw (by omega)),xaa (xaw (by omega)),xaa (xhk _ _ _ _ _ _).1,xcN (show i<9223372036854775807 by omega),Int.toNat_natCast]
   rfl)
  (by
   unfold xbo
   simp only [gi_z,gi_1]
   rw [hby,dnlt])
 have hi:xce uk [.i m,.r b]=[.i 0,.i ((0:Nat):Int)]:=rfl
 unfold xbk
 rw [hi]
 refine ⟨h1,?_⟩
 rcases h2 with ⟨i,hi,hp,hn,hg⟩ | ⟨hn,hg⟩
 ·rw [hg]
  show gi [.i (cfO (x.getD i []) (b.getD i []))] 0=_
  rw [gi_z,xbj hi,xbj (by omega)]
  refine (xsh hi (by omega) (fun j q1 q2 q3=>?_) ?_).symm
  ·have:=hn j q3
   rw [xbj q1,xbj q2] at this
   simpa using this
  ·rw [xbj hi,xbj (show i<b.length by omega)] at hp
   simpa using hp
 ·rw [hg]
  show (0:Int)=_
  refine (xuv hlen fun j q1 q2=>?_).symm
  have:=hn j q1
  rw [xbj q1,xbj q2] at this
  simpa using this
noncomputable def xd7 (uk:List (List Int)) (i:Nat) (b:List (List Int)):List (List Int):=if subB i (allF uk)=true then (if xfj (byF i uk) b=true then byF i uk else b) else b
noncomputable def fewF (uk:List (List Int)):List (List Int):=upto (xd7 uk) (allF uk+1) (byF 0 uk)
theorem cmpI (a b:Nat):(xak (a:Int) (b:Int)<0↔a<b)∧(xak (a:Int) (b:Int)=0↔a=b):=by
 rw [cmpC]
 by_cases h1:a<b
 ·rw [if_pos (by omega)]; omega
 ·rw [if_neg (by omega)]
  by_cases h2:b<a
  ·rw [if_pos (by omega)]; omega
  ·rw [if_neg (by omega)]; omega
theorem xnz (m:Nat) (uk:List (List Int)):(byF m uk).length≤uk.length+9:=by
 unfold byF
 have h1:∀ l:List (List Int),(ddR l).length≤l.length:=fun l=>by
  cases l with
  | nil=>exact Nat.le_refl _
  | cons x r =>
   have:=(xeY (x::r) (x::r).length (by simp) (Nat.le_refl _)).1
   rwa [List.take_length] at this
 refine Nat.le_trans (h1 _) ?_
 rw [xeR]
 unfold xiz
 rw [List.length_append,List.length_map,List.length_map]
 have h1:((List.range 9).filter m.testBit).length≤9:=Nat.le_trans (List.length_filter_le _ _) (by simp)
 have h2:=List.length_filter_le (fun g=>!cov m g) uk
 omega
theorem xul {uk:List (List Int)} (hs:xcY uk) (hl:uk.length≤1000000):xbX uk∧xb8 uk=fewF uk:=by
 obtain ⟨a1,a2⟩:=xB4 hs hl
 obtain ⟨hall,_⟩:=xwN hs
 obtain ⟨b1,b2⟩:=xCR (m:=0) (by omega) hs hl
 have hw:IntKind.i64.wrap (gi (xdP uk).snd 0+1)=((allF uk+1:Nat):Int):=by rw [a2]; exact xcN (by omega)
 obtain ⟨g1,g2,_⟩:=xm3 (step:=xcf uk) (allF uk+1) (fun i (b:List (List Int))=>[.i i,.r b]) (xd7 uk) (fun _ _=>True) 3 (fun b=>[.i (allF uk+1:Nat),.r b]) (fun _ _ _ _=>trivial)
  (fun i b hi _=>by
   have hi5:i<512:=by omega
   obtain ⟨c1,c2⟩:=xCR hi5 hs hl
   have hxl:=xnz i uk
   unfold xcf
   simp only [gi_z,gr_1,gr_z]
   rw [hw,decide_eq_true (by omega),cond_true,a2,xCp hi5 hall,xcN (by omega)]
   unfold xd7
   cases hsub:subB i (allF uk) with
   | false=>rw [if_neg (by decide)]; rfl
   | true =>
    rw [if_pos rfl,Bool.not_true,cond_false,xaa c1,c2]
    have hloop:(decide (xak (↑(byF i uk).length:Int) (↑b.length:Int)<(0:Int))=false)→(((xak (↑(byF i uk).length:Int) (↑b.length:Int)==(0:Int))=true)→((xax (xbo uk [.i i,.r b]) (xce uk [.i i,.r b])))):=fun _ he=>by
     have:=(cmpI _ _).2.1 (by simpa using he)
     exact (xze c2 (by omega) this).1
    rw [xaa hloop]
    have hcond:(decide (xak (↑(byF i uk).length:Int) (↑b.length:Int)<(0:Int))||xak (↑(byF i uk).length:Int) (↑b.length:Int)==(0:Int)&&decide ((bif (xbk uk [.i i,.r b]).fst.beq 1 then (1:Int) else bif (xbk uk [.i i,.r b]).fst.beq 2 then gi (xbk uk [.i i,.r b]).snd 0 else (xdO uk [.i i,.r b]))<(0:Int)))=xfj (byF i uk) b:=by
     unfold xfj
     by_cases he:(byF i uk).length=b.length
     ·rw [(xze c2 (by omega) he).2]
      have e1:(xak (↑(byF i uk).length:Int) (↑b.length:Int)==0)=((byF i uk).length==b.length):=by rw [(cmpI _ _).2.2 he,he]; simp
      rw [e1]
      congr 1
      exact decide_eq_decide.2 (cmpI _ _).1
     ·have e1:(xak (↑(byF i uk).length:Int) (↑b.length:Int)==0)=false:=by
       simpa using fun h=>he ((cmpI _ _).2.1 h)
      have e2:((byF i uk).length==b.length)=false:=by simpa using he
      rw [e1,e2,Bool.false_and,Bool.false_and]
      congr 1
      exact decide_eq_decide.2 (cmpI _ _).1
    rw [hcond]
    cases xfj (byF i uk) b
    ·rw [if_neg (by decide)]; rfl
    ·rw [if_pos rfl]; rfl)
  (fun b _=>by
   unfold xcf
   simp only [gi_z,gr_1,gr_z]
   rw [hw,decide_eq_false (by omega)]; rfl) (s:=byF 0 uk) trivial
 have hi:xdh uk=[.i ((0:Nat):Int),.r (byF 0 uk)]:=by
  unfold xdh
  have:=b2
  rw [show (xaP (0:Int) uk)=byF 0 uk from this]; rfl
 unfold xbX xb8 xi1
 rw [hi]
 refine ⟨⟨a1,b1,g1⟩,?_⟩
 rw [g2]
 show gr [.i (allF uk+1:Nat),.r (upto (xd7 uk) (allF uk+1) (byF 0 uk))] 1=_
 rw [gr_1,gr_z]
 rfl
end Go.Proofs.YthfjhbbpdhjklaaGreat
set_option linter.unusedVariables false
set_option maxRecDepth 100000
namespace Go.Proofs.YthfjhbbpdhjklaaGreat
open Go Go.Sy
abbrev ALog:=Int×List (List Int)
noncomputable def xt2 (x:List Int):ALog:=(col x 0,decL (col x 1))
noncomputable def xaC (uh:List (List Int)):List ALog:=uh.map xt2
def xuK (uh:List (List Int)):Prop:=∀ x∈uh,(decL (col x 1)).length≤9223372036854775807
def risF:Int→List ALog→Bool
 | _,[]=>true
 | b,x::r=>valF x.1 x.2&&decide (b<x.1)&&risF x.1 r
noncomputable def rowO (x:List Int):List Int:=[col x 0,col x 0,encL (decL (col x 1))]
def xez (s:Int) (logs:List ALog):Option ALog:=logs.find? fun x=>x.1==s
theorem xid (s:Int):∀ uh:List (List Int),xbO 1 [s] (uh.map rowO)=(xez s (xaC uh)).map fun x=>[x.1,encL x.2]
 | []=>rfl
 | x::r=>by
  have ih:=xid s r
  unfold xbO xez xaC at *
  rw [List.map_cons,List.map_cons,List.find?_cons,List.find?_cons]
  by_cases h:col x 0=s
  ·have e1:decide (List.take 1 (rowO x)=[s])=true:=decide_eq_true (by show [col x 0]=[s]; rw [h])
   have e2:((xt2 x).1==s)=true:=by show (col x 0==s)=true; rw [h]; simp
   rw [e1,e2]; rfl
  ·have e1:decide (List.take 1 (rowO x)=[s])=false:=decide_eq_false (by show ¬ [col x 0]=[s]; simpa using h)
   have e2:((xt2 x).1==s)=false:=by show (col x 0==s)=false; simpa using h
   rw [e1,e2]; exact ih
noncomputable def xlK (ow t ui:Int) (s:Int×List (List Int)) (x:List Int):(Int×List (List Int)) ⊕ (Nat×List U) :=
 if (!valF (col x 0) (decL (col x 1))||decide (col x 0≤s.1))=true then .inr (0,[.i ow,.i t,.i ui,.r s.2]) else .inl (col x 0,putRow 1 [col x 0] [col x 0,encL (decL (col x 1))] s.2)
theorem xAR (ow t ui:Int):∀ (r pre:List (List Int)) (b:Int),(∀ x∈pre,col x 0≤b) →
  (risF b (xaC r)=true→∃ b',runL (xlK ow t ui) (b,pre.map rowO) r=.inl (b',(pre++r).map rowO)) ∧
  (risF b (xaC r)=false→∃ rows,runL (xlK ow t ui) (b,pre.map rowO) r=.inr (0,[.i ow,.i t,.i ui,.r rows]))
 | [],pre,b,_=>⟨fun _=>⟨b,by simp [runL]⟩,fun h=>by simp [xaC,risF] at h⟩
 | x::r,pre,b,hpre=>by
  have ex:xaC (x::r)=xt2 x::xaC r:=rfl
  have er:risF b (xt2 x::xaC r)=(valF (col x 0) (decL (col x 1))&&decide (b<col x 0)&&risF (col x 0) (xaC r)):=rfl
  rw [ex,er]
  by_cases hv:(!valF (col x 0) (decL (col x 1))||decide (col x 0≤b))=true
  ·have e:xlK ow t ui (b,pre.map rowO) x=.inr (0,[.i ow,.i t,.i ui,.r (pre.map rowO)]):=by unfold xlK; rw [if_pos hv]
   have hf:(valF (col x 0) (decL (col x 1))&&decide (b<col x 0))=false:=by
    rcases Bool.or_eq_true_iff.1 hv with h | h
    ·have:valF (col x 0) (decL (col x 1))=false:=by simpa using h
     rw [this]; rfl
    ·have:decide (b<col x 0)=false:=decide_eq_false (by have:=of_decide_eq_true h; omega)
     rw [this,Bool.and_false]
   rw [hf]
   refine ⟨(fun h=>by cases h),fun _=>⟨pre.map rowO,?_⟩⟩
   unfold runL
   rw [e]
  ·have e0:xlK ow t ui (b,pre.map rowO) x=.inl (col x 0,putRow 1 [col x 0] [col x 0,encL (decL (col x 1))] (pre.map rowO)):=by unfold xlK; rw [if_neg hv]
   have hv':valF (col x 0) (decL (col x 1))=true∧b<col x 0:=by
    simp only [Bool.or_eq_true,Bool.not_eq_true',decide_eq_true_eq,not_or] at hv
    exact ⟨by simpa using hv.1,by omega⟩
   have hno:(xbO 1 [col x 0] (pre.map rowO)).isSome=false:=by
    rw [xid]
    have:xez (col x 0) (xaC pre)=none:=by
     unfold xez xaC
     rw [List.find?_eq_none]
     intro y hy
     obtain ⟨z,hz,rfl⟩:=List.mem_map.1 hy
     have:=hpre z hz
     show ¬ (col z 0==col x 0)=true
     intro h
     have h:=eq_of_beq h
     omega
    rw [this]; rfl
   have e:xlK ow t ui (b,pre.map rowO) x=.inl (col x 0,(pre++[x]).map rowO):=by
    rw [e0]
    unfold putRow
    rw [hno,cond_false,List.map_append]
    rfl
   have hf:(valF (col x 0) (decL (col x 1))&&decide (b<col x 0))=true:=by rw [hv'.1,decide_eq_true hv'.2]; rfl
   rw [hf,Bool.true_and]
   obtain ⟨i1,i2⟩:=xAR ow t ui r (pre++[x]) (col x 0) (fun y hy=>by
    rcases List.mem_append.1 hy with hy | hy
    ·have:=hpre y hy; omega
    ·rw [List.mem_singleton.1 hy]; exact Int.le_refl _)
   unfold runL
   rw [e]
   refine ⟨fun h=>?_,fun h=>i2 h⟩
   obtain ⟨b',hb⟩:=i1 h
   exact ⟨b',by show runL (xlK ow t ui) (col x 0,(pre++[x]).map rowO) r=_; rw [hb,List.append_assoc]; rfl⟩
theorem xwb {ow t ui:Int} {uj uh uk:List (List Int)} (hs:uh.length≤9223372036854775807) (hd:xuK uh) :
  xax (xbn ow t ui uj uh uk) (xb6 ow t ui uj uh uk) ∧
  (risF 0 (xaC uh)=true→(xap ow t ui uj uh uk).1.beq 1=false∧gr (xap ow t ui uj uh uk).2 3=uh.map rowO) ∧
  (risF 0 (xaC uh)=false→(xap ow t ui uj uh uk).1.beq 1=true):=by
 obtain ⟨h1,h2⟩:=xeO (step:=xbn ow t ui uj uh uk) uh (fun i (s:Int×List (List Int))=>[.b false,.i s.1,.i i,.r s.2]) (xlK ow t ui) (fun _ _=>True) (fun s=>(2,[.b false,.i s.1,.i uh.length,.r s.2])) 0
  (fun i s hi _ _=>⟨by
   unfold xbn xkT
   simp only [gi_2,gi_1,gi_z,gb_z,gr_3,gr_z,dlt hi,xaa (xaw hi),xcN (show i<9223372036854775807 by omega),xbb hi]
   have hx:=hd _ (List.getElem_mem hi)
   generalize uh[i]=x at *
   obtain ⟨v1,v2⟩:=xg5 (col x 0) (decL (col x 1)) hx
   rw [xaa v1,v2]
   unfold xlK
   cases h:(!valF (col x 0) (decL (col x 1))||decide (col x 0≤s.1)) with
   | true=>rw [if_pos rfl]; rfl
   | false=>rw [if_neg (by decide)]; rfl,fun _ _=>trivial⟩)
  (fun i s hi _=>by
   have:i=uh.length:=by omega
   subst this
   unfold xbn
   simp only [gi_2,gi_1,gi_z,gb_z,gr_3,gr_z,dnlt]) (s:=(0,[])) trivial
 have hi:xb6 ow t ui uj uh uk=[.b false,.i 0,.i ((0:Nat):Int),.r []]:=rfl
 unfold xap
 rw [hi]
 have g:=xAR ow t ui uh [] 0 (fun x hx=>by cases hx)
 simp only [List.map_nil,List.nil_append] at g
 obtain ⟨g1,g2⟩:=g
 refine ⟨h1,fun h=>?_,fun h=>?_⟩
 ·obtain ⟨b',hb⟩:=g1 h
  rw [h2,List.drop_zero,hb]
  refine ⟨rfl,?_⟩
  show gr [.b false,.i b',.i uh.length,.r (uh.map rowO)] 3=_
  rw [gr_3,gr_z]
 ·obtain ⟨rows,hr⟩:=g2 h
  rw [h2,List.drop_zero,hr]; rfl
def xlL (logs:List ALog) (c:List Int):Bool:=!(xez (col c 0) logs).isSome
theorem xym {ow t ui:Int} {uj uh uk:List (List Int)} (hl:uk.length≤9223372036854775807) (hs:uh.length≤9223372036854775807) (hd:xuK uh) (hr:risF 0 (xaC uh)=true) :
  xax (xbm ow t ui uj uh uk) (xcU ow t ui uj uh uk) ∧
  decide ((bif (xbG ow t ui uj uh uk).fst.beq 1 then gi (xbG ow t ui uj uh uk).snd 0 else (-1:Int))≥(0:Int))=uk.any (xlL (xaC uh)):=by
 have hrows:=((xwb (ow:=ow) (t:=t) (ui:=ui) (uj:=uj) (uk:=uk) hs hd).2.1 hr).2
 refine xju (step:=xbm ow t ui uj uh uk) (l:=uk) (p:=xlL (xaC uh)) 1 (fun i hi=>?_) ?_ rfl
 ·unfold xbm
  simp only [gi_1,gi_z,dlt hi,xaa (xaw hi),xcN (show i<9223372036854775807 by omega),xbb hi]
  rw [show (xap ow t ui uj uh uk).snd=(xap ow t ui uj uh uk).2 from rfl,hrows,xid]
  unfold xlL
  rw [Option.isSome_map]
 ·unfold xbm
  simp only [gi_1,gi_z,dnlt]
def xjk (ow t ui:Int) (uj:List (List Int)) (logs:List ALog) (uk:List (List Int)):Bool :=
 valF ow uj&&ow==0&&chF uk&&tmF t&&decide (0≤ui)&&decide (ui≤100000)&&risF 0 logs&&!uk.any (xlL logs)
def xhP (ow t ui:Int) (uj uk:List (List Int)):Bool:=valF ow uj&&ow==0&&chF uk&&tmF t&&decide (0≤ui)&&decide (ui≤100000)
theorem xvC (ow t ui:Int) (uj:List (List Int)) (logs:List ALog) (uk:List (List Int)):xjk ow t ui uj logs uk=(xhP ow t ui uj uk&&risF 0 logs&&!uk.any (xlL logs)):=rfl
theorem xtl {ow t ui:Int} {uj uk:List (List Int)} (ho:uj.length≤9223372036854775807) (hl:uk.length≤9223372036854775807) :
  (!xag ow uj||ow !=(0:Int)||!xay uk||!xaz t||decide (ui<(0:Int))||decide (ui>(100000:Int)))=!xhP ow t ui uj uk:=by
 rw [(xg5 ow uj ho).2,(xjj uk hl).2,xpQ]
 have e1:decide (ui<0)=!decide (0≤ui):=by
  by_cases h:ui<0
  ·rw [decide_eq_true h,decide_eq_false (by omega)]; rfl
  ·rw [decide_eq_false h,decide_eq_true (by omega)]; rfl
 have e2:decide (ui>100000)=!decide (ui≤100000):=by
  by_cases h:ui>100000
  ·rw [decide_eq_true h,decide_eq_false (by omega)]; rfl
  ·rw [decide_eq_false h,decide_eq_true (by omega)]; rfl
 rw [e1,e2]
 unfold xhP
 show (!valF ow uj||!(ow==0)||!chF uk||!tmF t||!decide (0≤ui)||!decide (ui≤100000))=_
 cases valF ow uj<;>cases (ow==0)<;>cases chF uk<;>cases tmF t<;>cases decide (0≤ui)<;>cases decide (ui≤100000)<;>rfl
theorem xCe {n:Int} (h0 : -1000000000≤n) (h1:n≤1000000000):(Lit.int .i64 n).wf=true:=by
 have e1:IntKind.i64.min = -9223372036854775808:=by decide
 have e2:IntKind.i64.max=9223372036854775807:=by decide
 unfold Lit.wf
 simp only [e1,e2,Bool.and_eq_true,decide_eq_true_eq]
 omega
def xij (logs:List ALog) (c:List Int):List (List Int):=((xez (col c 0) logs).getD (0,[])).2
def xrn (logs:List ALog) (tm dl:Int) (c:List Int):Bool:=decide (col c 2+dl>tm)||(xlE tm (xij logs c)).contains (col c 1)
def offF (logs:List ALog) (c:List Int):Bool:=decide (xgS 0 (-1) (xij logs c)<col c 2)||!onF (col c 2) true (xij logs c)
def updF (logs:List ALog) (c g:List Int):List Int:=[col g 0,col g 1,b2 (col g 2 !=0),b2 (col g 3 !=0&&offF logs c)]
def xka (uj:List (List Int)) (logs:List ALog) (tm dl:Int) (gs:List (List Int)) (c:List Int):List (List Int) :=
 bif xrn logs tm dl c then gs else
 bif gs.any (xfr c) then gs.map fun g=>bif xfr c g then updF logs c g else g
 else gs++[updF logs c [col c 0,col c 1,b2 (!xmK (col c 1) (-1) uj),1]]
def xdj (uj:List (List Int)) (logs:List ALog) (tm dl:Int) (uk:List (List Int)):List (List Int):=(xmJ (uk.foldl (xka uj logs tm dl) [])).map xmt
theorem xyP (n:Int) (l:List Int):hasN n (xcu l)=l.contains n:=by
 unfold hasN xcu
 rw [List.any_map,List.contains_eq_any_beq]
 rfl
theorem xx6:∀ {logs:List ALog} {b:Int},risF b logs=true→∀ x∈logs,valF x.1 x.2=true∧b<x.1
 | [],_,_,x,hx=>by cases hx
 | y::r,b,h,x,hx=>by
  unfold risF at h
  simp only [Bool.and_eq_true,decide_eq_true_eq] at h
  rcases List.mem_cons.1 hx with rfl | hx
  ·exact h.1
  ·have:=xx6 h.2 x hx
   exact ⟨this.1,by omega⟩
theorem xtA {logs:List ALog} (h:risF 0 logs=true) (c:List Int):(xij logs c).length≤200:=by
 unfold xij xez
 cases hf:logs.find? fun x=>x.1==col c 0 with
 | none=>simp
 | some x=>exact (xpN (xx6 h x (List.mem_of_find?_eq_some hf)).1).1
theorem xpE (uh:List (List Int)) (c:List Int):gSl (uh.map rowO) c=xij (xaC uh) c:=by
 unfold gSl xB2 xij
 rw [xid]
 cases xez (c.getD 0 0) (xaC uh) with
 | none=>exact xdD _
 | some x=>exact xdD _
theorem xuz {uk:List (List Int)} (h:chF uk=true):uk.length≤200∧∀ c∈uk,0≤col c 2∧col c 2≤10000000∧1≤col c 1∧col c 1≤10000∧1≤col c 0∧col c 0≤8:=by
 unfold chF at h
 simp only [Bool.and_eq_true,decide_eq_true_eq,Bool.not_eq_true'] at h
 refine ⟨h.1,fun c hc=>?_⟩
 have:=List.any_eq_false.1 h.2 c hc
 unfold badC tmF itF at this
 simp only [Bool.not_eq_true,Bool.or_eq_false_iff,Bool.not_eq_false',Bool.and_eq_true,decide_eq_true_eq,decide_eq_false_iff_not] at this
 omega
theorem xvo {ow t ui:Int} {uj uh uk:List (List Int)} (ho:uj.length≤9223372036854775807) (hc:xhP ow t ui uj uk=true) (hr:risF 0 (xaC uh)=true) :
  xcQ ow t ui uj (uh.map rowO) uk∧xam ow t ui uj (uh.map rowO) uk=xdj uj (xaC uh) t ui uk:=by
 unfold xhP at hc
 simp only [Bool.and_eq_true,decide_eq_true_eq] at hc
 obtain ⟨⟨⟨⟨⟨hv,h0⟩,hch⟩,htm⟩,hd0⟩,hd1⟩:=hc
 obtain ⟨hlen,hcs⟩:=xuz hch
 have eskip:∀ c∈uk,xrE (uh.map rowO) t ui c=xrn (xaC uh) t ui c∧GPre uj (uh.map rowO) ow t ui c:=by
  intro c hc
  obtain ⟨q1,q2,q3,q4,q5,q6⟩:=hcs c hc
  have hsl:=xtA hr c
  have hsh:=xvY (gSo (uh.map rowO) c) t (xij (xaC uh) c) (by omega)
  have hcn:=xvx (col c 1) (xcu (xlE t (xij (xaC uh) c))) (by
   have h1:=xtR (xiM t (xij (xaC uh) c))
   have h2:=xkh t (xij (xaC uh) c)
   unfold xcu xlE
   rw [List.length_map]
   omega)
  have elate:xy4 t ui c=decide (col c 2+ui>t):=by
   unfold xy4
   have q1':0≤c.getD 2 0:=q1
   have q2':c.getD 2 0≤10000000:=q2
   rw [xfv (by omega)]
  have e:xrE (uh.map rowO) t ui c=xrn (xaC uh) t ui c:=by
   unfold xrE xrn
   rw [elate,xpE,hsh.2]
   congr 1
   exact hcn.2.trans (xyP _ _)
  refine ⟨e,⟨xCe (n:=col c 0) (by omega) (by omega),xCe (n:=col c 1) (by omega) (by omega),fun _=>?_,fun _=>?_⟩⟩
  ·rw [xpE]
   exact ⟨hsh.1,by rw [hsh.2]; exact hcn.1⟩
  ·rw [xpE]
   exact ⟨(xsz _ _ _ uj ho).1,(xve _ _ (by omega)).1,(xyo _ _ _ (by omega)).1⟩
 refine ⟨⟨by omega,fun c hc=>(eskip c hc).2⟩,?_⟩
 unfold xam xdj
 congr 2
 have key:∀ (l:List (List Int)) (gs:List (List Int)),(∀ c∈l,c∈uk)→l.foldl (xms uj (uh.map rowO) ow t ui) gs=l.foldl (xka uj (xaC uh) t ui) gs:=by
  intro l
  induction l with
  | nil=>intro gs _; rfl
  | cons c r ih =>
   intro gs hl
   rw [List.foldl_cons,List.foldl_cons]
   have hcm:=hl c List.mem_cons_self
   have hsl:=xtA hr c
   have e:xms uj (uh.map rowO) ow t ui gs c=xka uj (xaC uh) t ui gs c:=by
    have eu:∀ g,gUpd (uh.map rowO) c g=updF (xaC uh) c g:=fun g=>by
     unfold gUpd updF offF
     rw [xpE,(xve _ _ (by omega)).2.1,(xyo _ _ _ (by omega)).2]
    unfold xms xka
    rw [(eskip c hcm).1,(xsz _ _ _ uj ho).2]
    simp only [eu]
   rw [e]
   exact ih _ fun x hx=>hl x (List.mem_cons_of_mem _ hx)
 exact key uk [] fun c h=>h
end Go.Proofs.YthfjhbbpdhjklaaGreat
set_option linter.unusedVariables false
set_option maxRecDepth 100000
namespace Go.Proofs.YthfjhbbpdhjklaaGreat
open Go Go.Sy
abbrev Key:=Int×Int
def kOf (g:List Int):Key:=(col g 0,col g 1)
def ltK (a b:Key):Prop:=a.1<b.1∨(a.1=b.1∧a.2<b.2)
def cntF (logs:List ALog) (tm dl:Int) (c:List Int):Bool:=!xrn logs tm dl c
def mkG (uj:List (List Int)) (logs:List ALog) (tm dl:Int) (uk:List (List Int)) (k:Key):List Int :=
 [k.1,k.2,b2 (!xmK k.2 (-1) uj),b2 (uk.all fun c=>!(cntF logs tm dl c&&decide (kOf c=k))||offF logs c)]
theorem b2_b (b:Bool):b2 (b2 b !=0)=b2 b:=by cases b<;>rfl
theorem xof (c g:List Int):xfr c g=decide (kOf c=kOf g):=by
 unfold xfr kOf
 by_cases h:(col c 0,col c 1)=(col g 0,col g 1)
 ·rw [decide_eq_true h]
  obtain ⟨h1,h2⟩:=Prod.mk.inj h
  rw [show g.getD 0 0=c.getD 0 0 from h1.symm,show g.getD 1 0=c.getD 1 0 from h2.symm]
  simp
 ·rw [decide_eq_false h]
  cases hb:(g.getD 0 0==c.getD 0 0&&g.getD 1 0==c.getD 1 0) with
  | false=>rfl
  | true =>
   rw [Bool.and_eq_true,beq_iff_eq,beq_iff_eq] at hb
   exact absurd (Prod.ext hb.1.symm hb.2.symm) h
theorem xnk (uj:List (List Int)) (logs:List ALog) (tm dl:Int):∀ (r done:List (List Int)) (ks:List Key),ks.Nodup→(∀ k,k∈ks↔∃ c∈done,cntF logs tm dl c=true∧kOf c=k) →
  ∃ ks':List Key,ks'.Nodup∧(∀ k,k∈ks'↔∃ c∈done++r,cntF logs tm dl c=true∧kOf c=k)∧r.foldl (xka uj logs tm dl) (ks.map (mkG uj logs tm dl done))=ks'.map (mkG uj logs tm dl (done++r))
 | [],done,ks,hn,hk=>⟨ks,hn,by simpa using hk,by simp⟩
 | c::r,done,ks,hn,hk=>by
  rw [List.foldl_cons]
  have emk:∀ k,cntF logs tm dl c=false∨kOf c≠k→mkG uj logs tm dl (done++[c]) k=mkG uj logs tm dl done k:=fun k h=>by
   unfold mkG
   have:(!(cntF logs tm dl c&&decide (kOf c=k))||offF logs c)=true:=by
    rcases h with h | h
    ·rw [h]; rfl
    ·rw [decide_eq_false h,Bool.and_false]; rfl
   rw [List.all_append,List.all_cons,List.all_nil,this,Bool.true_and,Bool.and_true]
  cases hs:xrn logs tm dl c with
  | true =>
   have hc:cntF logs tm dl c=false:=by unfold cntF; rw [hs]; rfl
   have e:xka uj logs tm dl (ks.map (mkG uj logs tm dl done)) c=ks.map (mkG uj logs tm dl (done++[c])):=by
    unfold xka
    rw [hs,cond_true]
    exact List.map_congr_left fun k _=>(emk k (.inl hc)).symm
   rw [e]
   have hk':∀ k,k∈ks↔∃ x∈done++[c],cntF logs tm dl x=true∧kOf x=k:=fun k=>by
    rw [hk]
    constructor
    ·rintro ⟨x,hx,h⟩; exact ⟨x,List.mem_append.2 (.inl hx),h⟩
    ·rintro ⟨x,hx,h⟩
     rcases List.mem_append.1 hx with hx | hx
     ·exact ⟨x,hx,h⟩
     ·rw [List.mem_singleton.1 hx,hc] at h
      cases h.1
   have:=xnk uj logs tm dl r (done++[c]) ks hn hk'
   simpa [List.append_assoc] using this
  | false =>
   have hc:cntF logs tm dl c=true:=by unfold cntF; rw [hs]; rfl
   have hkey:∀ k,kOf (mkG uj logs tm dl done k)=k:=fun k=>rfl
   have hany:(ks.map (mkG uj logs tm dl done)).any (xfr c)=decide (kOf c∈ks):=by
    rw [List.any_map]
    by_cases h:kOf c∈ks
    ·rw [decide_eq_true h,List.any_eq_true]
     exact ⟨kOf c,h,by show xfr c (mkG uj logs tm dl done (kOf c))=true; rw [xof,hkey]; exact decide_eq_true rfl⟩
    ·rw [decide_eq_false h,List.any_eq_false]
     intro k hk'
     show ¬ xfr c (mkG uj logs tm dl done k)=true
     rw [xof,hkey]
     intro h'
     exact h ((of_decide_eq_true h')▸hk')
   by_cases hin:kOf c∈ks
   ·have e:xka uj logs tm dl (ks.map (mkG uj logs tm dl done)) c=ks.map (mkG uj logs tm dl (done++[c])):=by
     unfold xka
     rw [hs,cond_false,hany,decide_eq_true hin,cond_true,List.map_map]
     refine List.map_congr_left fun k _=>?_
     show (bif xfr c (mkG uj logs tm dl done k) then updF logs c (mkG uj logs tm dl done k) else mkG uj logs tm dl done k)=_
     rw [xof,hkey]
     by_cases h:kOf c=k
     ·rw [decide_eq_true h,cond_true]
      show [k.1,k.2,b2 (b2 (!xmK k.2 (-1) uj) !=0),b2 (b2 (done.all fun c=>!(cntF logs tm dl c&&decide (kOf c=k))||offF logs c) !=0&&offF logs c)]=_
      rw [b2_b,xCV]
      unfold mkG
      rw [List.all_append,List.all_cons,List.all_nil,hc,decide_eq_true h,Bool.and_true]
      rfl
     ·rw [decide_eq_false h,cond_false]
      exact (emk k (.inr h)).symm
    rw [e]
    have hk':∀ k,k∈ks↔∃ x∈done++[c],cntF logs tm dl x=true∧kOf x=k:=fun k=>by
     constructor
     ·intro h
      obtain ⟨x,hx,h⟩:=(hk k).1 h
      exact ⟨x,List.mem_append.2 (.inl hx),h⟩
     ·rintro ⟨x,hx,h⟩
      rcases List.mem_append.1 hx with hx | hx
      ·exact (hk k).2 ⟨x,hx,h⟩
      ·rw [List.mem_singleton.1 hx] at h
       exact h.2▸hin
    have:=xnk uj logs tm dl r (done++[c]) ks hn hk'
    simpa [List.append_assoc] using this
   ·have e:xka uj logs tm dl (ks.map (mkG uj logs tm dl done)) c=(ks++[kOf c]).map (mkG uj logs tm dl (done++[c])):=by
     unfold xka
     rw [hs,cond_false,hany,decide_eq_false hin,cond_false,List.map_append]
     congr 1
     ·exact List.map_congr_left fun k hk'=>(emk k (.inr fun h=>hin (h▸hk'))).symm
     ·show [[col c 0,col c 1,b2 (b2 (!xmK (col c 1) (-1) uj) !=0),b2 (true&&offF logs c)]]=[mkG uj logs tm dl (done++[c]) (kOf c)]
      rw [b2_b]
      unfold mkG
      have hall:(done.all fun c'=>!(cntF logs tm dl c'&&decide (kOf c'=kOf c))||offF logs c')=true:=by
       rw [List.all_eq_true]
       intro x hx
       cases h1:cntF logs tm dl x with
       | false=>rfl
       | true =>
        have:¬ kOf x=kOf c:=fun h=>hin ((hk _).2 ⟨x,hx,h1,h⟩)
        rw [decide_eq_false this]; rfl
      rw [List.all_append,List.all_cons,List.all_nil,hall,hc,decide_eq_true rfl]
      simp [kOf]
    rw [e]
    have hk':∀ k,k∈ks++[kOf c]↔∃ x∈done++[c],cntF logs tm dl x=true∧kOf x=k:=fun k=>by
     rw [List.mem_append,hk,List.mem_singleton]
     constructor
     ·rintro (⟨x,hx,h⟩ | h)
      ·exact ⟨x,List.mem_append.2 (.inl hx),h⟩
      ·exact ⟨c,by simp,hc,h.symm⟩
     ·rintro ⟨x,hx,h⟩
      rcases List.mem_append.1 hx with hx | hx
      ·exact .inl ⟨x,hx,h⟩
      ·rw [List.mem_singleton.1 hx] at h
       exact .inr h.2.symm
    have hn':(ks++[kOf c]).Nodup:=List.nodup_append.2 ⟨hn,by simp,fun a ha b hb e=>hin (by rw [List.mem_singleton.1 hb] at e; exact e▸ha)⟩
    have:=xnk uj logs tm dl r (done++[c]) (ks++[kOf c]) hn' hk'
    simpa [List.append_assoc] using this
theorem xlm (uj:List (List Int)) (logs:List ALog) (tm dl:Int) (uk:List (List Int)):∃ ks:List Key,ks.Pairwise ltK∧(∀ k,k∈ks↔∃ c∈uk,cntF logs tm dl c=true∧kOf c=k)∧xdj uj logs tm dl uk=ks.map (mkG uj logs tm dl uk):=by
 obtain ⟨ks,h1,h2,h3⟩:=xnk uj logs tm dl uk [] [] List.nodup_nil (by simp)
 have h2:∀ k,k∈ks↔∃ c∈uk,cntF logs tm dl c=true∧kOf c=k:=h2
 have h3:uk.foldl (xka uj logs tm dl) []=ks.map (mkG uj logs tm dl uk):=h3
 have hp:=xhg (le:=leL [0,1]) (ks.map (mkG uj logs tm dl uk))
 have hsort:=xfL (xeQ [0,1]) (xeP [0,1]) (ks.map (mkG uj logs tm dl uk))
 have hmem:∀ g∈xfQ (leL [0,1]) (ks.map (mkG uj logs tm dl uk)),mkG uj logs tm dl uk (kOf g)=g∧kOf g∈ks:=fun g hg=>by
  obtain ⟨k,hk,rfl⟩:=List.mem_map.1 (hp.mem_iff.1 hg)
  exact ⟨rfl,hk⟩
 have hks:((xfQ (leL [0,1]) (ks.map (mkG uj logs tm dl uk))).map kOf).Perm ks:=by
  have:=hp.map kOf
  rw [List.map_map] at this
  have e:ks.map (kOf∘mkG uj logs tm dl uk)=ks:=(List.map_congr_left fun k _=>rfl).trans (List.map_id ks)
  rwa [e] at this
 refine ⟨(xfQ (leL [0,1]) (ks.map (mkG uj logs tm dl uk))).map kOf,?_,fun k=>by rw [hks.mem_iff,h2],?_⟩
 ·have hnd:((xfQ (leL [0,1]) (ks.map (mkG uj logs tm dl uk))).map kOf).Nodup:=hks.nodup_iff.2 h1
  rw [List.pairwise_map]
  have hne:(xfQ (leL [0,1]) (ks.map (mkG uj logs tm dl uk))).Pairwise fun a b=>kOf a≠kOf b:=by
   rw [← List.pairwise_map]
   exact hnd
  refine (List.Pairwise.and hsort hne).imp fun {a b} h=>?_
  obtain ⟨h1,h2⟩:=h
  unfold leL at h1
  show col a 0<col b 0∨(col a 0=col b 0∧col a 1<col b 1)
  by_cases e0:a.getD 0 0=b.getD 0 0
  ·rw [if_pos e0] at h1
   unfold leL at h1
   by_cases e1:a.getD 1 0=b.getD 1 0
   ·exact absurd (Prod.ext e0 e1) h2
   ·rw [if_neg e1] at h1
    exact .inr ⟨e0,of_decide_eq_true h1⟩
  ·rw [if_neg e0] at h1
   exact .inl (of_decide_eq_true h1)
 ·unfold xdj xmJ
  rw [h3,List.map_map]
  refine List.map_congr_left fun g hg=>?_
  obtain ⟨e,_⟩:=hmem g hg
  show xmt g=mkG uj logs tm dl uk (kOf g)
  rw [e]
  rw [← e]
  show [_,_,b2 (b2 _ !=0),b2 (b2 _ !=0)]=_
  rw [b2_b,b2_b]
  rfl
def xuL (gs:List (List Int)):Prop:=∀ g∈gs,xmt g=g
theorem xpD {uj:List (List Int)} {logs:List ALog} {tm dl:Int} {uk:List (List Int)} (hch:chF uk=true):xcY (xdj uj logs tm dl uk)∧xuL (xdj uj logs tm dl uk)∧(xdj uj logs tm dl uk).length≤uk.length:=by
 obtain ⟨ks,h1,h2,h3⟩:=xlm uj logs tm dl uk
 obtain ⟨hlen,hcs⟩:=xuz hch
 rw [h3]
 refine ⟨fun g hg=>?_,fun g hg=>?_,?_⟩
 ·obtain ⟨k,hk,rfl⟩:=List.mem_map.1 hg
  obtain ⟨c,hc,_,rfl⟩:=(h2 k).1 hk
  have:=hcs c hc
  show 0≤col c 0∧col c 0≤8
  omega
 ·obtain ⟨k,hk,rfl⟩:=List.mem_map.1 hg
  show [_,_,b2 (b2 _ !=0),b2 (b2 _ !=0)]=_
  rw [b2_b,b2_b]
  rfl
 ·have hl:∀ (l:List (List Int)) (gs:List (List Int)),(l.foldl (xka uj logs tm dl) gs).length≤gs.length+l.length:=by
   intro l
   induction l with
   | nil=>intro gs; simp
   | cons c r ih =>
    intro gs
    rw [List.foldl_cons]
    refine Nat.le_trans (ih _) ?_
    have:(xka uj logs tm dl gs c).length≤gs.length+1:=by
     unfold xka
     cases xrn logs tm dl c
     ·rw [cond_false]
      cases gs.any (xfr c)
      ·rw [cond_false]; simp
      ·rw [cond_true]; simp
     ·rw [cond_true]; omega
    simp only [List.length_cons]
    omega
  rw [← h3]
  unfold xdj xmJ
  rw [List.length_map,xeR]
  simpa using hl uk []
end Go.Proofs.YthfjhbbpdhjklaaGreat
set_option linter.unusedVariables false
set_option maxRecDepth 100000
namespace Go.Proofs.YthfjhbbpdhjklaaGreat
open Go Go.Sy
def apF (g h:List Int):Bool:=!(col g 0==col h 0&&(col g 1==col h 1&&true))&&!((col g 2 !=0)&&(col h 2 !=0)&&col g 1==col h 1)&&!((col g 3 !=0)&&(col h 3 !=0)&&col g 0==col h 0)
noncomputable def goP (k:Int→List (List Int)→List (List Int)) (n:Int):List (List Int)→List (List Int)
 | []=>[]
 | g::r=>if ((fewF (r.filter (apF g))).length:Int)=n-1 then [col g 0,col g 1]::k (n-1) (r.filter (apF g)) else goP k n r
noncomputable def prF:Nat→Int→List (List Int)→List (List Int)
 | 0,_,_=>[]
 | m+1,n,uk=>if n=0 then [] else goP (prF m) n uk
theorem xr7 {k:Int→List (List Int)→List (List Int)} (hk:∀ n l,(k n l).length≤l.length) (n:Int):∀ l,(goP k n l).length≤l.length
 | []=>Nat.le_refl _
 | g::r=>by
  unfold goP
  split
  ·have h1:=hk (n-1) (r.filter (apF g))
   have h2:=List.length_filter_le (apF g) r
   simp only [List.length_cons]
   omega
  ·have:=xr7 hk n r
   simp only [List.length_cons]
   omega
theorem xrU:∀ (m:Nat) (n:Int) (l:List (List Int)),(prF m n l).length≤l.length
 | 0,_,_=>Nat.zero_le _
 | m+1,n,l=>by
  unfold prF
  split
  ·exact Nat.zero_le _
  ·exact xr7 (xrU m) n l
theorem xBz {pr:Int→List (List Int)→Prop} {g:Int→List (List Int)→List (List Int)} {n:Int} {uk:List (List Int)} (hok:xuL uk) (hl:uk.length≤1000000) {i:Nat} (hi:i<uk.length) :
  xax (xfD pr g n uk [.i i]) (xmd pr g n uk [.i i])∧gr (xqe pr g n uk [.i i]).snd 1=(uk.drop (i+1)).filter (apF uk[i]):=by
 have hw:IntKind.i64.wrap ((i:Int)+1)=((i+1:Nat):Int):=xcN (by omega)
 have hld:(uk.drop (i+1)).length=uk.length-(i+1):=List.length_drop
 obtain ⟨h1,h2⟩:=xeO (step:=xfD pr g n uk [.i i]) (uk.drop (i+1)) (fun j (s:List (List Int))=>[.i j,.r s]) (fun s x=>.inl (if apF uk[i] x=true then s++[x] else s)) (fun j s=>s.length≤j) (fun s=>(2,[.i ((uk.drop (i+1)).length:Nat),.r s])) 0
  (fun j s hj _ hI=>by
   have hj':i+1+j<uk.length:=by omega
   have he:(uk.drop (i+1))[j]=uk[i+1+j]:=List.getElem_drop
   have hfit:∀ x:List Int,xa5 24 (s.length+[x].length):=fun x=>by unfold xa5 maxLen; simp only [List.length_cons,List.length_nil]; omega
   refine ⟨?_,fun s' hs'=>by cases hs'; exact Nat.le_trans (xt5 _ _ _) (by omega)⟩
   rw [he]
   have hn:=hok _ (List.getElem_mem hj')
   unfold xfD xyc xyb xAM xAO xAN
   simp only [gi_z,gr_1,gr_z,hw,xa1,loN,shI,Int.toNat_natCast,xcN (show j<9223372036854775807 by omega)]
   rw [decide_eq_true (by omega),cond_true,xaa (by omega),xaa (by unfold inR; omega),show (((i+1:Nat):Int)+(j:Int)).toNat=i+1+j by omega,xbj hj',xbj hi,xaa (hfit _)]
   have hn':[uk[i+1+j].getD 0 0,uk[i+1+j].getD 1 0,bif uk[i+1+j].getD 2 0 !=0 then 1 else 0,bif uk[i+1+j].getD 3 0 !=0 then 1 else 0]=uk[i+1+j]:=hn
   rw [hn']
   show (bif apF uk[i] uk[i+1+j] then _ else _)=_
   cases apF uk[i] uk[i+1+j]
   ·rw [if_neg (by decide)]; rfl
   ·rw [if_pos rfl]; rfl)
  (fun j s hj _=>by
   have:j=(uk.drop (i+1)).length:=by omega
   subst this
   unfold xfD xyc
   simp only [gi_z,gr_1,gr_z,hw,xa1,loN,Int.toNat_natCast,hld]
   rw [decide_eq_false (by omega)]; rfl) (s:=[]) (Nat.zero_le _)
 refine ⟨h1,?_⟩
 have:xqe pr g n uk [.i i]=xat (xfD pr g n uk [.i i]) [.i ((0:Nat):Int),.r []]:=rfl
 rw [this,h2,List.drop_zero,xhY,xic,List.nil_append]
 show gr [.i _,.r (((uk.drop (i+1)).filter (apF uk[i])).map fun x=>x)] 1=_
 rw [gr_1,gr_z,List.map_id']
theorem xAK:∀ (k n:Nat) (uk:List (List Int)),n<k→n≤1000000→xcY uk→xuL uk→uk.length≤1000000→(prx k).1 n uk∧(prx k).2 n uk=prF k n uk
 | 0,n,uk,hn,_,_,_,_=>by omega
 | k+1,n,uk,hn,hnb,hs,hok,hl=>by
  show xuY (prx k).1 (prx k).2 n uk∧xz1 (prx k).1 (prx k).2 n uk=prF (k+1) n uk
  by_cases h0:n=0
  ·subst h0
   exact ⟨(fun h=>by cases h),rfl⟩
  ·have hn0:((n:Int)==0)=false:=by simpa using h0
   have key:∀ m i,i+m=uk.length→∃ q r,xhy (xgw (prx k).1 (prx k).2 n uk) q [.i i]=some r∧(bif r.1.beq 1 then gr r.2 0 else [])=goP (prF k) n (uk.drop i):=by
    intro m
    induction m with
    | zero =>
     intro i hi
     have hi:i=uk.length:=by omega
     subst hi
     refine ⟨1,(3,[.i uk.length]),xjv ?_,?_⟩
     ·unfold xgw
      simp only [gi_z,dnlt]
     ·rw [List.drop_length]; rfl
    | succ m ih =>
     intro i hi
     have hi':i<uk.length:=by omega
     have hw:IntKind.i64.wrap ((i:Int)+1)=((i+1:Nat):Int):=xcN (by omega)
     have hwn:IntKind.i64.wrap ((n:Int)-1)=((n-1:Nat):Int):=by rw [xfv (by omega)]; omega
     obtain ⟨q1,q2⟩:=xBz (pr:=(prx k).1) (g:=(prx k).2) (n:=(n:Int)) hok hl hi'
     have hsub:∀ x∈(uk.drop (i+1)).filter (apF uk[i]),x∈uk:=fun x hx=>List.mem_of_mem_drop (List.mem_filter.1 hx).1
     have hlr:((uk.drop (i+1)).filter (apF uk[i])).length≤1000000:=Nat.le_trans (List.length_filter_le _ _) (by rw [List.length_drop]; omega)
     have hs':xcY ((uk.drop (i+1)).filter (apF uk[i])):=fun x hx=>hs x (hsub x hx)
     have hok':xuL ((uk.drop (i+1)).filter (apF uk[i])):=fun x hx=>hok x (hsub x hx)
     obtain ⟨f1,f2⟩:=xul hs' hlr
     obtain ⟨p1,p2⟩:=xAK k (n-1) _ (by omega) (by omega) hs' hok' hlr
     have hplen:=xrU k ((n-1:Nat):Int) ((uk.drop (i+1)).filter (apF uk[i]))
     have hstep:xgw (prx k).1 (prx k).2 n uk [.i i]=if ((fewF ((uk.drop (i+1)).filter (apF uk[i]))).length:Int)=n-1 then some (1,[.r ([col uk[i] 0,col uk[i] 1]::prF k (n-1) ((uk.drop (i+1)).filter (apF uk[i])))]) else some (0,[.i ((i+1:Nat):Int)]):=by
      unfold xgw xAL
      simp only [gi_z,hw,hwn]
      rw [q2,f2,p2,dlt hi',xaa (xaw hi'),xaa (xaw hi'),xaa (by omega),xaa q1,xaa f1,xaa p1,xbb hi',
       xaa (by unfold xa5 maxLen; simp only [List.length_cons,List.length_nil]; omega)]
      have en:((n-1:Nat):Int)=(n:Int)-1:=by omega
      rw [en]
      by_cases h:((fewF ((uk.drop (i+1)).filter (apF uk[i]))).length:Int)=n-1
      ·rw [if_pos h,h,beq_self_eq_true,cond_true]; rfl
      ·rw [if_neg h,bne h]; rfl
     rw [List.drop_eq_getElem_cons hi']
     unfold goP
     by_cases h:((fewF ((uk.drop (i+1)).filter (apF uk[i]))).length:Int)=n-1
     ·rw [if_pos h] at hstep
      rw [if_pos h]
      refine ⟨1,_,xjv hstep,?_⟩
      exact gr_z _ []
     ·rw [if_neg h] at hstep
      rw [if_neg h]
      obtain ⟨q,r,h1,h2⟩:=ih (i+1) (by omega)
      exact ⟨q+1,r,xiY hstep h1,h2⟩
   obtain ⟨q,r,h1,h2⟩:=key uk.length 0 (by omega)
   have hinit:xme (prx k).1 (prx k).2 n uk=[.i ((0:Nat):Int)]:=rfl
   obtain ⟨g1,g2⟩:=xml h1
   refine ⟨fun _=>by rw [hinit]; exact g1,?_⟩
   unfold xz1 xyd
   rw [hn0,cond_false,hinit,g2]
   show _=if (n:Int)=0 then [] else goP (prF k) n uk
   rw [if_neg (by omega)]
   exact h2
theorem xiq (b:Bool):(!!b)=b:=by cases b<;>rfl
def xdS (gs:List (List Int)):List (List Int):=gs.map fun g=>[col g 0,col g 1]
theorem xzD {ow t ui:Int} {uj uh uk:List (List Int)} (ho:uj.length≤9223372036854775807) (hs:uh.length≤9223372036854775807) (hl:uk.length≤9223372036854775807) (hd:xuK uh) :
  xcP ow t ui uj uh uk∧xej ow t ui uj uh uk=(if xjk ow t ui uj (xaC uh) uk=true then xdS (xdj uj (xaC uh) t ui uk) else [])∧xei ow t ui uj uh uk=if xjk ow t ui uj (xaC uh) uk=true then 0 else 1:=by
 have hv:=xg5 ow uj ho
 have hc:=xjj uk hl
 obtain ⟨o1,o2,o3⟩:=xwb (ow:=ow) (t:=t) (ui:=ui) (uj:=uj) (uk:=uk) hs hd
 unfold xcP xej xkR xkS xei xkP xkQ
 rw [xtl ho hl,xvC]
 cases h1:xhP ow t ui uj uk with
 | false=>exact ⟨⟨hv.1,fun _=>hc.1,fun h=>by cases h⟩,rfl,rfl⟩
 | true =>
  cases h2:risF 0 (xaC uh) with
  | false =>
   have e:=o3 h2
   rw [e]
   exact ⟨⟨hv.1,fun _=>hc.1,fun _=>⟨o1,fun h=>by cases h⟩⟩,rfl,rfl⟩
  | true =>
   obtain ⟨e,er⟩:=o2 h2
   obtain ⟨p1,p2⟩:=xym (ow:=ow) (t:=t) (ui:=ui) (uj:=uj) hl hs hd h2
   obtain ⟨g1,g2⟩:=xvo (t:=t) ho h1 h2
   rw [e,xiq,p2]
   rw [show (xap ow t ui uj uh uk).snd=(xap ow t ui uj uh uk).2 from rfl,er]
   cases h3:uk.any (xlL (xaC uh)) with
   | true=>exact ⟨⟨hv.1,fun _=>hc.1,fun _=>⟨o1,fun _=>⟨p1,fun h=>by cases h⟩⟩⟩,rfl,rfl⟩
   | false =>
    have hch:chF uk=true:=by
     unfold xhP at h1
     simp only [Bool.and_eq_true] at h1
     exact h1.1.1.1.2
    obtain ⟨k1,k2,k3⟩:=xpD (uj:=uj) (logs:=xaC uh) (tm:=t) (dl:=ui) hch
    have hl200:=(xuz hch).1
    obtain ⟨q1,q2⟩:=xeO (step:=xb5 ow t ui uj uh uk) (xdj uj (xaC uh) t ui uk) (fun i (s:List (List Int))=>[.i i,.r s]) (fun s x=>.inl (s++[[col x 0,col x 1]])) (fun i s=>s.length≤i) (fun s=>(1,[.i ((xdj uj (xaC uh) t ui uk).length:Nat),.r s])) 0
     (fun i s hi _ hI=>by
      refine ⟨?_,fun s' hs'=>by cases hs'; simp; exact hI⟩
      unfold xb5 xhE
      simp only [gi_z,gr_1,gr_z]
      rw [show (xap ow t ui uj uh uk).snd=(xap ow t ui uj uh uk).2 from rfl,er,g2,dlt hi,xaa (xaw hi),xaa (xaw hi),xbb hi,xcN (by omega),xaa (by unfold xa5 maxLen; simp only [List.length_cons,List.length_nil]; omega)]
      rfl)
     (fun i s hi _=>by
      have:i=(xdj uj (xaC uh) t ui uk).length:=by omega
      subst this
      unfold xb5
      simp only [gi_z,gr_1,gr_z]
      rw [show (xap ow t ui uj uh uk).snd=(xap ow t ui uj uh uk).2 from rfl,er,g2,dnlt]) (s:=[]) (Nat.zero_le _)
    refine ⟨⟨hv.1,fun _=>hc.1,fun _=>⟨o1,fun _=>⟨p1,fun _=>⟨g1,q1⟩⟩⟩⟩,?_,rfl⟩
    have el:xkU ow t ui uj uh uk=xat (xb5 ow t ui uj uh uk) [.i ((0:Nat):Int),.r []]:=rfl
    have ef:∀ (l s:List (List Int)),l.foldl (fun s x=>s++[[col x 0,col x 1]]) s=s++xdS l:=by
     intro l
     induction l with
     | nil=>intro s; simp [xdS]
     | cons x r ih=>intro s; rw [List.foldl_cons,ih]; simp [xdS]
    rw [el,q2,List.drop_zero,xhY,ef,List.nil_append]
    show gr [U.i ((xdj uj (xaC uh) t ui uk).length:Nat),U.r (xdS (xdj uj (xaC uh) t ui uk))] 1=xdS (xdj uj (xaC uh) t ui uk)
    rw [gr_1,gr_z]
theorem xvr (uk:List (List Int)):(fewF uk).length≤(byF 0 uk).length:=by
 have:∀ n,(upto (xd7 uk) n (byF 0 uk)).length≤(byF 0 uk).length:=by
  intro n
  induction n with
  | zero=>exact Nat.le_refl _
  | succ n ih =>
   have e:upto (xd7 uk) (n+1) (byF 0 uk)=xd7 uk n (upto (xd7 uk) n (byF 0 uk)):=rfl
   rw [e]
   generalize upto (xd7 uk) n (byF 0 uk)=b at *
   unfold xd7
   split
   ·split
    ·rename_i hb
     unfold xfj at hb
     simp only [Bool.or_eq_true,Bool.and_eq_true,decide_eq_true_eq,beq_iff_eq] at hb
     rcases hb with hb | hb
     ·omega
     ·have:=hb.1; omega
    ·exact ih
   ·exact ih
 exact this _
theorem xoC {ow t ui:Int} {uj uh uk:List (List Int)} (ho:uj.length≤9223372036854775807) (hs:uh.length≤9223372036854775807) (hl:uk.length≤9223372036854775807) (hd:xuK uh) (h90:uk.length≤90∨200<uk.length) :
  xbi ow t ui uj uh uk∧xbN ow t ui uj uh uk=(if xjk ow t ui uj (xaC uh) uk=true then fewF (xdj uj (xaC uh) t ui uk) else []) ∧
  xby ow t ui uj uh uk=(if xjk ow t ui uj (xaC uh) uk=true then prF 100 ((fewF (xdj uj (xaC uh) t ui uk)).length:Nat) (xdj uj (xaC uh) t ui uk) else []) ∧
  xbM ow t ui uj uh uk=if xjk ow t ui uj (xaC uh) uk=true then 0 else 1:=by
 have hv:=xg5 ow uj ho
 have hc:=xjj uk hl
 obtain ⟨o1,o2,o3⟩:=xwb (ow:=ow) (t:=t) (ui:=ui) (uj:=uj) (uk:=uk) hs hd
 have es0:xd5 ow t ui uj uh uk=xbn ow t ui uj uh uk:=rfl
 have ei0:xd6 ow t ui uj uh uk=xb6 ow t ui uj uh uk:=rfl
 have el0:xaL ow t ui uj uh uk=xap ow t ui uj uh uk:=rfl
 have es1:xd3 ow t ui uj uh uk=xbm ow t ui uj uh uk:=rfl
 have ei1:xd4 ow t ui uj uh uk=xcU ow t ui uj uh uk:=rfl
 have el1:xbu ow t ui uj uh uk=xbG ow t ui uj uh uk:=rfl
 unfold xbi xbN xia xib xby xh8 xh9 xbM xh6 xh7
 rw [es0,ei0,el0,es1,ei1,el1,xtl ho hl,xvC]
 cases h1:xhP ow t ui uj uk with
 | false=>exact ⟨⟨hv.1,fun _=>hc.1,fun h=>by cases h⟩,rfl,rfl,rfl⟩
 | true =>
  cases h2:risF 0 (xaC uh) with
  | false =>
   have e:=o3 h2
   rw [e]
   exact ⟨⟨hv.1,fun _=>hc.1,fun _=>⟨o1,fun h=>by cases h⟩⟩,rfl,rfl,rfl⟩
  | true =>
   obtain ⟨e,er⟩:=o2 h2
   obtain ⟨p1,p2⟩:=xym (ow:=ow) (t:=t) (ui:=ui) (uj:=uj) hl hs hd h2
   obtain ⟨g1,g2⟩:=xvo (t:=t) ho h1 h2
   rw [e,xiq,p2]
   rw [show (xap ow t ui uj uh uk).snd=(xap ow t ui uj uh uk).2 from rfl,er]
   cases h3:uk.any (xlL (xaC uh)) with
   | true=>exact ⟨⟨hv.1,fun _=>hc.1,fun _=>⟨o1,fun _=>⟨p1,fun h=>by cases h⟩⟩⟩,rfl,rfl,rfl⟩
   | false =>
    have hch:chF uk=true:=by
     unfold xhP at h1
     simp only [Bool.and_eq_true] at h1
     exact h1.1.1.1.2
    obtain ⟨k1,k2,k3⟩:=xpD (uj:=uj) (logs:=xaC uh) (tm:=t) (dl:=ui) hch
    have hl200:=(xuz hch).1
    have hl90:uk.length≤90:=by omega
    obtain ⟨f1,f2⟩:=xul k1 (by omega)
    have hfl:(fewF (xdj uj (xaC uh) t ui uk)).length<100:=by
     have h0:=xvr (xdj uj (xaC uh) t ui uk)
     have:=xnz 0 (xdj uj (xaC uh) t ui uk)
     omega
    obtain ⟨x1,x2⟩:=xAK 100 (fewF (xdj uj (xaC uh) t ui uk)).length _ hfl (by omega) k1 k2 (by omega)
    rw [g2,f2]
    exact ⟨⟨hv.1,fun _=>hc.1,fun _=>⟨o1,fun _=>⟨p1,fun _=>⟨g1,f1,x1⟩⟩⟩⟩,rfl,x2,rfl⟩
end Go.Proofs.YthfjhbbpdhjklaaGreat
set_option linter.unusedVariables false
set_option maxRecDepth 100000
namespace Go.Proofs.YthfjhbbpdhjklaaGreat
open Go Go.Sy
def xjo (cf:List Int→List Int→Int):List (List Int)→Bool
 | x::y::r=>decide (cf x y<0)&&xjo cf (y::r)
 | _=>true
theorem xkj (cf:List Int→List Int→Int):∀ l:List (List Int),xjo cf l=true↔∀ i (h:i+1<l.length),cf l[i] l[i+1]<0
 | []=>⟨fun _ i h=>by simp at h,fun _=>rfl⟩
 | [x]=>⟨fun _ i h=>by simp at h,fun _=>rfl⟩
 | x::y::r=>by
  show (decide (cf x y<0)&&xjo cf (y::r))=true↔_
  rw [Bool.and_eq_true,decide_eq_true_eq,xkj cf (y::r)]
  constructor
  ·rintro ⟨h1,h2⟩ i hi
   cases i with
   | zero=>exact h1
   | succ i=>exact h2 i (by simpa using hi)
  ·intro h
   exact ⟨h 0 (by simp),fun i hi=>h (i+1) (by simpa using hi)⟩
theorem xtG {step:List U→Option (Nat×List U)} {l:List (List Int)} {cf:List Int→List Int→Int} (m:Nat) (hs:∀ i (hi:i+1<l.length),step [.b false,.i ((i+1:Nat):Int)]=bif decide (cf l[i] l[i+1]≥0) then some (1,[]) else some (0,[.b false,.i ((i+1+1:Nat):Int)]))
  (he:∀ n:Nat,¬ ((n:Int)<(l.length:Int))→step [.b false,.i n]=some (m+2,[.b false,.i n])) {init:List U} (hi:init=[.b false,.i ((0+1:Nat):Int)]) :
  xax step init∧(bif (xat step init).fst.beq 1 then false else true)=xjo cf l:=by
 subst hi
 obtain ⟨h1,h2⟩:=xgz (step:=step) (l.length-1) (fun i=>decide (cf (l.getD i []) (l.getD (i+1) [])≥0)) (fun i=>[.b false,.i ((i+1:Nat):Int)]) (fun i=>[]) 0 (m+1) [.b false,.i ((l.length-1+1:Nat):Int)]
  (fun i hi=>by rw [hs i (by omega),xbj (by omega),xbj (by omega)]) (he _ (by omega))
 refine ⟨h1,?_⟩
 rcases h2 with ⟨i,hi,hp,_,hg⟩ | ⟨hn,hg⟩
 ·rw [hg]
  rw [xbj (by omega),xbj (by omega)] at hp
  have:xjo cf l=false:=by
   cases hr:xjo cf l with
   | false=>rfl
   | true =>
    have:=(xkj cf l).1 hr i (by omega)
    have:=of_decide_eq_true hp
    omega
  rw [this]; rfl
 ·rw [hg]
  have:xjo cf l=true:=(xkj cf l).2 fun i hi=>by
   have:=hn i (by omega)
   rw [xbj (by omega),xbj hi] at this
   have:=of_decide_eq_false this
   omega
  rw [this]; rfl
def canF (g o:List Int):Bool :=
 bif col o 0==1&&(col o 1==0&&(col o 2==col g 1&&true)) then col g 2 !=0 else bif col o 0==2&&(col o 1==col g 0&&(col o 2==0&&true)) then col g 3 !=0 else col o 0==3&&(col o 1==col g 0&&(col o 2==col g 1&&true))
def keyB (g p:List Int):Bool:=col g 0==col p 0&&(col g 1==col p 1&&true)
def verL (om pr:List (List Int)):List (List Int)→List (List Int)→Option (List (List Int))
 | named,[]=>some named
 | named,g::r=>if (om.any (canF g))=true then (if pr.any (keyB g)=true then (if named.any (fun h=>!apF g h)=true then none else verL om pr (named++[g]) r) else verL om pr named r) else none
noncomputable def verF (gs om pr:List (List Int)):Bool:=om.length==pr.length&&xjo cfO om&&xjo cfG pr&&(match verL om pr [] gs with | some named=>named.length==pr.length | none=>false)
section
variable {ow t ui:Int} {uj uh uk om pr:List (List Int)}
theorem xzH:xex ow t ui uj uh uk om pr=xbn ow t ui uj uh uk∧xey ow t ui uj uh uk om pr=xb6 ow t ui uj uh uk∧xao ow t ui uj uh uk om pr=xap ow t ui uj uh uk ∧
  xev ow t ui uj uh uk om pr=xbm ow t ui uj uh uk∧xew ow t ui uj uh uk om pr=xcU ow t ui uj uh uk∧xcs ow t ui uj uh uk om pr=xbG ow t ui uj uh uk:=⟨rfl,rfl,rfl,rfl,rfl,rfl⟩
theorem xBm (hom:om.length≤9223372036854775807):xax (xck ow t ui uj uh uk om pr) (xeu ow t ui uj uh uk om pr)∧(bif (xdQ ow t ui uj uh uk om pr).fst.beq 1 then false else true)=xjo cfO om :=
 xtG (cf:=cfO) 1 (fun i hi=>by
   unfold xck xi9
   have hw:IntKind.i64.wrap (((i+1:Nat):Int)-1)=((i:Nat):Int):=by rw [xfv (by omega)]; omega
   simp only [gi_1,gi_z,gb_z,hw]
   rw [decide_eq_true (by omega),cond_true,xaa (xaw (by omega)),xaa (xaw (by omega)),xaa (xaw hi),xaa (xaw hi),xaa (xhk _ _ _ _ _ _).1,xbb hi,xbb (show i<om.length by omega),xcN (by omega)]
   rfl)
  (fun n hn=>by
   unfold xck
   simp only [gi_1,gi_z,gb_z]
   rw [decide_eq_false hn]; rfl) rfl
theorem xBl (hpr:pr.length≤9223372036854775807):xax (xcj ow t ui uj uh uk om pr) (xet ow t ui uj uh uk om pr)∧(bif (xfd ow t ui uj uh uk om pr).fst.beq 1 then false else true)=xjo cfG pr :=
 xtG (cf:=cfG) 1 (fun i hi=>by
   unfold xcj xi8
   have hw:IntKind.i64.wrap (((i+1:Nat):Int)-1)=((i:Nat):Int):=by rw [xfv (by omega)]; omega
   simp only [gi_1,gi_z,gb_z,hw]
   rw [decide_eq_true (by omega),cond_true,xaa (xaw (by omega)),xaa (xaw (by omega)),xaa (xaw hi),xaa (xaw hi),xaa (xpx _ _ _ _).1,xbb hi,xbb (show i<pr.length by omega),xcN (by omega)]
   rfl)
  (fun n hn=>by
   unfold xcj
   simp only [gi_1,gi_z,gb_z]
   rw [decide_eq_false hn]; rfl) rfl
theorem xBk {gs:List (List Int)} (hg:xam ow t ui uj (gr (xao ow t ui uj uh uk om pr).snd 3) uk=gs) (hok:xuL gs) (hgs:gs.length≤1000000) (hom:om.length≤9223372036854775807) (hpr:pr.length≤9223372036854775807) :
  xax (xbq ow t ui uj uh uk om pr) (xes ow t ui uj uh uk om pr) ∧
  (bif (xbf ow t ui uj uh uk om pr).fst.beq 1 then false else bif (xbf ow t ui uj uh uk om pr).fst.beq 2 then false else (↑(gr (xbf ow t ui uj uh uk om pr).snd 3).length:Int)==(↑pr.length:Int))=(match verL om pr [] gs with | some named=>named.length==pr.length | none=>false):=by
 have inner:∀ (i:Nat) (hi:i<gs.length) (named:List (List Int)),named.length≤9223372036854775807 →
   (xax (xci ow t ui uj uh uk om pr [.b false,.i 0,.i i,.r named]) (xer ow t ui uj uh uk om pr [.b false,.i 0,.i i,.r named])∧decide ((bif (xfc ow t ui uj uh uk om pr [.b false,.i 0,.i i,.r named]).fst.beq 1 then gi (xfc ow t ui uj uh uk om pr [.b false,.i 0,.i i,.r named]).snd 0 else (-1:Int))≥0)=om.any (canF gs[i])) ∧
   (xax (xch ow t ui uj uh uk om pr [.b false,.i 0,.i i,.r named]) (xeq ow t ui uj uh uk om pr [.b false,.i 0,.i i,.r named])∧decide ((bif (xfb ow t ui uj uh uk om pr [.b false,.i 0,.i i,.r named]).fst.beq 1 then gi (xfb ow t ui uj uh uk om pr [.b false,.i 0,.i i,.r named]).snd 0 else (-1:Int))≥0)=pr.any (keyB gs[i])) ∧
   (xax (xcg ow t ui uj uh uk om pr [.b false,.i 0,.i i,.r named]) (xep ow t ui uj uh uk om pr [.b false,.i 0,.i i,.r named])∧decide ((bif (xfa ow t ui uj uh uk om pr [.b false,.i 0,.i i,.r named]).fst.beq 1 then gi (xfa ow t ui uj uh uk om pr [.b false,.i 0,.i i,.r named]).snd 0 else (-1:Int))≥0)=named.any fun h=>!apF gs[i] h):=by
  intro i hi named hnm
  refine ⟨xju (l:=om) (p:=canF gs[i]) 1 (fun j hj=>?_) ?_ rfl,xju (l:=pr) (p:=keyB gs[i]) 1 (fun j hj=>?_) ?_ rfl,xju (l:=named) (p:=fun h=>!apF gs[i] h) 1 (fun j hj=>?_) ?_ rfl⟩
  ·unfold xci
   simp only [gi_2,gi_1,gi_z]
   rw [hg,dlt hj,xaa (xaw hj),xaa (xaw hj),xbb hj,xbb hi,xcN (by omega)]
   rfl
  ·unfold xci
   simp only [gi_1,gi_z,dnlt]
  ·unfold xch
   simp only [gi_2,gi_1,gi_z]
   rw [hg,dlt hj,xaa (xaw hj),xaa (xaw hj),xbb hj,xbb hi,xcN (by omega)]
   rfl
  ·unfold xch
   simp only [gi_1,gi_z,dnlt]
  ·unfold xcg
   simp only [gi_2,gi_1,gi_z,gr_3,gr_z]
   rw [hg,dlt hj,xaa (xaw hj),xaa (xaw hj),xbb hj,xbb hi,xcN (by omega)]
   rfl
  ·unfold xcg
   simp only [gi_1,gi_z,gr_3,gr_z,dnlt]
 let f:List (List Int)→List Int→List (List Int) ⊕ (Nat×List U):=fun named g=>if (om.any (canF g))=true then (if pr.any (keyB g)=true then (if named.any (fun h=>!apF g h)=true then .inr (1,[]) else .inl (named++[g])) else .inl named) else .inr (0,[])
 obtain ⟨h1,h2⟩:=xeO (step:=xbq ow t ui uj uh uk om pr) gs (fun i (s:List (List Int))=>[.b false,.i 0,.i i,.r s]) f (fun i s=>s.length≤i) (fun s=>(4,[.b false,.i 0,.i gs.length,.r s])) 0
  (fun i s hi _ hI=>by
   obtain ⟨⟨a1,a2⟩,⟨b1,b2⟩,⟨c1,c2⟩⟩:=inner i hi s (by omega)
   refine ⟨?_,fun s' hs'=>?_⟩
   ·have hn:[gs[i].getD 0 0,gs[i].getD 1 0,bif gs[i].getD 2 0 !=0 then 1 else 0,bif gs[i].getD 3 0 !=0 then 1 else 0]=gs[i]:=hok _ (List.getElem_mem hi)
    have hn4:xe9 ow t ui uj uh uk om pr [.b false,.i 0,.i i,.r s]=gs[i]:=by
     unfold xe9 xi7
     simp only [gi_2,gi_1,gi_z]
     rw [hg,xbb hi]
     exact hn
    unfold xbq
    simp only [gi_2,gi_1,gi_z,gb_z,gr_3,gr_z]
    rw [a2,b2,c2,hn4,hg,dlt hi,xaa (xaw hi),xaa (xaw hi),xaa a1,xaa b1,xaa c1,xcN (by omega),xaa (by unfold xa5 maxLen; simp only [List.length_cons,List.length_nil]; omega)]
    show _=goOn _ (if (om.any (canF gs[i]))=true then (if pr.any (keyB gs[i])=true then (if s.any (fun h=>!apF gs[i] h)=true then .inr (1,[]) else .inl (s++[gs[i]])) else .inl s) else .inr (0,[]))
    cases om.any (canF gs[i])
    ·rw [if_neg (by decide)]; rfl
    ·rw [if_pos rfl]
     cases pr.any (keyB gs[i])
     ·rw [if_neg (by decide)]; rfl
     ·rw [if_pos rfl]
      cases s.any fun h=>!apF gs[i] h
      ·rw [if_neg (by decide)]; rfl
      ·rw [if_pos rfl]; rfl
   ·have hs':(if (om.any (canF gs[i]))=true then (if pr.any (keyB gs[i])=true then (if s.any (fun h=>!apF gs[i] h)=true then .inr (1,[]) else .inl (s++[gs[i]])) else .inl s) else .inr (0,[]):List (List Int) ⊕ (Nat×List U))=.inl s':=hs'
    split at hs'
    ·split at hs'
     ·split at hs'
      ·cases hs'
      ·cases hs'; simp; omega
     ·cases hs'; omega
    ·cases hs')
  (fun i s hi _=>by
   have:i=gs.length:=by omega
   subst this
   unfold xbq
   simp only [gi_2,gi_1,gi_z,gb_z,gr_3,gr_z]
   rw [hg,dnlt]) (s:=[]) (Nat.zero_le _)
 refine ⟨h1,?_⟩
 have el:xbf ow t ui uj uh uk om pr=xat (xbq ow t ui uj uh uk om pr) [.b false,.i 0,.i ((0:Nat):Int),.r []]:=rfl
 rw [el,h2,List.drop_zero]
 have run:∀ (r:List (List Int)) (named:List (List Int)),(bif (endL (fun s:List (List Int)=>(4,[.b false,.i 0,.i gs.length,.r s])) (runL f named r)).1.beq 1 then false else bif (endL (fun s:List (List Int)=>(4,[.b false,.i 0,.i gs.length,.r s])) (runL f named r)).1.beq 2 then false else (↑(gr (endL (fun s:List (List Int)=>(4,[.b false,.i 0,.i gs.length,.r s])) (runL f named r)).2 3).length:Int)==(↑pr.length:Int))=(match verL om pr named r with | some named=>named.length==pr.length | none=>false):=by
  intro r
  induction r with
  | nil =>
   intro named
   show ((↑(gr [.b false,.i 0,.i gs.length,.r named] 3).length:Int)==(↑pr.length:Int))=(named.length==pr.length)
   rw [gr_3,gr_z]
   by_cases h:named.length=pr.length
   ·rw [h]; simp
   ·have h1:¬ (named.length:Int)=(pr.length:Int):=by omega
    rw [bne h1]
    simpa using h
  | cons g r ih =>
   intro named
   have ef:f named g=if (om.any (canF g))=true then (if pr.any (keyB g)=true then (if named.any (fun h=>!apF g h)=true then .inr (1,[]) else .inl (named++[g])) else .inl named) else .inr (0,[]):=rfl
   unfold runL verL
   by_cases h1:om.any (canF g)=true
   ·rw [if_pos h1] at ef
    rw [if_pos h1]
    by_cases h2:pr.any (keyB g)=true
    ·rw [if_pos h2] at ef
     rw [if_pos h2]
     by_cases h3:named.any (fun h=>!apF g h)=true
     ·rw [if_pos h3] at ef
      rw [if_pos h3,ef]; rfl
     ·rw [if_neg h3] at ef
      rw [if_neg h3,ef]
      exact ih _
    ·rw [if_neg h2] at ef
     rw [if_neg h2,ef]
     exact ih _
   ·rw [if_neg h1] at ef
    rw [if_neg h1,ef]; rfl
 exact run gs []
theorem xuJ (ho:uj.length≤9223372036854775807) (hs:uh.length≤9223372036854775807) (hl:uk.length≤9223372036854775807) (hd:xuK uh) (hom:om.length≤9223372036854775807) (hpr:pr.length≤9223372036854775807) :
  xb4 ow t ui uj uh uk om pr∧xdo ow t ui uj uh uk om pr=(xjk ow t ui uj (xaC uh) uk&&verF (xdj uj (xaC uh) t ui uk) om pr)∧xdn ow t ui uj uh uk om pr=if xjk ow t ui uj (xaC uh) uk=true then 0 else 1:=by
 have hv:=xg5 ow uj ho
 have hc:=xjj uk hl
 obtain ⟨o1,o2,o3⟩:=xwb (ow:=ow) (t:=t) (ui:=ui) (uj:=uj) (uk:=uk) hs hd
 obtain ⟨es0,ei0,el0,es1,ei1,el1⟩:=xzH (ow:=ow) (t:=t) (ui:=ui) (uj:=uj) (uh:=uh) (uk:=uk) (om:=om) (pr:=pr)
 obtain ⟨r1,r2⟩:=xBm (ow:=ow) (t:=t) (ui:=ui) (uj:=uj) (uh:=uh) (uk:=uk) (pr:=pr) hom
 obtain ⟨s1,s2⟩:=xBl (ow:=ow) (t:=t) (ui:=ui) (uj:=uj) (uh:=uh) (uk:=uk) (om:=om) hpr
 have elen:((om.length:Int) !=(pr.length:Int))=!(om.length==pr.length):=by
  by_cases h:om.length=pr.length
  ·rw [h]; simp
  ·have h1:¬ (om.length:Int)=(pr.length:Int):=by omega
   show (!((om.length:Int)==(pr.length:Int)))=_
   rw [bne h1]
   simpa using h
 unfold xb4 xdo xdn xi4 xi5 xi6
 rw [r2,s2,elen]
 rw [es0,ei0,el0,es1,ei1,el1,xtl ho hl,xvC]
 cases h1:xhP ow t ui uj uk with
 | false=>exact ⟨⟨hv.1,fun _=>hc.1,fun h=>by cases h⟩,rfl,rfl⟩
 | true =>
  cases h2:risF 0 (xaC uh) with
  | false =>
   have e:=o3 h2
   rw [e]
   exact ⟨⟨hv.1,fun _=>hc.1,fun _=>⟨o1,fun h=>by cases h⟩⟩,rfl,rfl⟩
  | true =>
   obtain ⟨e,er⟩:=o2 h2
   obtain ⟨p1,p2⟩:=xym (ow:=ow) (t:=t) (ui:=ui) (uj:=uj) hl hs hd h2
   obtain ⟨g1,g2⟩:=xvo (t:=t) ho h1 h2
   rw [e,xiq,p2]
   have er':gr (xap ow t ui uj uh uk).snd 3=uh.map rowO:=er
   cases h3:uk.any (xlL (xaC uh)) with
   | true=>exact ⟨⟨hv.1,fun _=>hc.1,fun _=>⟨o1,fun _=>⟨p1,fun h=>by cases h⟩⟩⟩,rfl,rfl⟩
   | false =>
    have hch:chF uk=true:=by
     unfold xhP at h1
     simp only [Bool.and_eq_true] at h1
     exact h1.1.1.1.2
    obtain ⟨k1,k2,k3⟩:=xpD (uj:=uj) (logs:=xaC uh) (tm:=t) (dl:=ui) hch
    have hl200:=(xuz hch).1
    obtain ⟨v1,v2⟩:=xBk (ow:=ow) (t:=t) (ui:=ui) (uj:=uj) (uh:=uh) (uk:=uk) (om:=om) (pr:=pr) (gs:=xdj uj (xaC uh) t ui uk) (by rw [el0,er',g2]) k2 (by omega) hom hpr
    rw [er']
    refine ⟨⟨hv.1,fun _=>hc.1,fun _=>⟨o1,fun _=>⟨p1,fun _=>⟨fun _=>r1,fun _=>s1,fun _=>⟨g1,v1⟩⟩⟩⟩⟩,?_,?_⟩
    ·unfold verF
     rw [← v2]
     cases (om.length==pr.length)<;>cases xjo cfO om<;>cases xjo cfG pr<;>rfl
    ·cases (om.length==pr.length)<;>cases xjo cfO om<;>cases xjo cfG pr<;>cases (xbf ow t ui uj uh uk om pr).fst.beq 1<;>cases (xbf ow t ui uj uh uk om pr).fst.beq 2<;>rfl
end
end Go.Proofs.YthfjhbbpdhjklaaGreat
set_option linter.unusedVariables false
set_option maxRecDepth 100000
namespace Go.Proofs.YthfjhbbpdhjklaaGreat
open Go Go.Sy
def xlu (eq:List Int→List Int→Bool):List (List Int)→List (List Int)→Bool
 | [],[]=>true
 | x::r,y::r'=>eq x y&&xlu eq r r'
 | _,_=>false
theorem xtE {eq:List Int→List Int→Bool}:∀ {a b:List (List Int)},a.length≠b.length→xlu eq a b=false
 | [],[],h=>absurd rfl h
 | [],_::_,_=>rfl
 | _::_,[],_=>rfl
 | x::r,y::r',h=>by
  unfold xlu
  rw [xtE (by simpa using h),Bool.and_false]
theorem xp0 {eq:List Int→List Int→Bool}:∀ {a b:List (List Int)},a.length=b.length→(xlu eq a b=true↔∀ i (h:i<a.length) (h':i<b.length),eq a[i] b[i]=true)
 | [],[],_=>⟨(fun _ i h=>by cases h),fun _=>rfl⟩
 | x::r,y::r',h=>by
  show (eq x y&&xlu eq r r')=true↔_
  rw [Bool.and_eq_true,xp0 (by simpa using h)]
  constructor
  ·rintro ⟨h1,h2⟩ i hi hi'
   cases i with
   | zero=>exact h1
   | succ i=>exact h2 i (by simpa using hi) (by simpa using hi')
  ·intro h
   exact ⟨h 0 (by simp) (by simp),fun i hi hi'=>h (i+1) (by simpa using hi) (by simpa using hi')⟩
theorem xxY {step:List U→Option (Nat×List U)} {a b:List (List Int)} {eq:List Int→List Int→Bool} (m:Nat) (hlen:a.length=b.length)
  (hs:∀ i (h:i<a.length) (h':i<b.length),step [.b false,.i i]=bif eq a[i] b[i] then some (0,[.b false,.i ((i+1:Nat):Int)]) else some (1,[]))
  (he:step [.b false,.i a.length]=some (m+2,[.b false,.i a.length])) {init:List U} (hi:init=[.b false,.i ((0:Nat):Int)]) :
  xax step init∧(bif (xat step init).fst.beq 1 then false else true)=xlu eq a b:=by
 subst hi
 obtain ⟨h1,h2⟩:=xgz (step:=step) a.length (fun i=>!eq (a.getD i []) (b.getD i [])) (fun i=>[.b false,.i i]) (fun i=>[]) 0 (m+1) [.b false,.i a.length]
  (fun i hi=>by
   rw [hs i hi (by omega),xbj hi,xbj (by omega)]
   cases eq a[i] b[i]<;>rfl) he
 refine ⟨h1,?_⟩
 rcases h2 with ⟨i,hi,hp,_,hg⟩ | ⟨hn,hg⟩
 ·rw [hg]
  have:xlu eq a b=false:=by
   cases hr:xlu eq a b with
   | false=>rfl
   | true =>
    have h:=(xp0 hlen).1 hr i hi (by omega)
    rw [xbj hi,xbj (by omega),h] at hp
    cases hp
  rw [this]; rfl
 ·rw [hg]
  have:xlu eq a b=true:=(xp0 hlen).2 fun i h h'=>by
   have:=hn i h
   rw [xbj h,xbj h'] at this
   simpa using this
  rw [this]; rfl
theorem lenI {a b:List (List Int)}:((a.length:Int) !=(b.length:Int))=!decide (a.length=b.length):=by
 by_cases h:a.length=b.length
 ·rw [h]; simp
 ·have h1:¬ (a.length:Int)=(b.length:Int):=by omega
  show (!((a.length:Int)==(b.length:Int)))=_
  rw [bne h1,decide_eq_false h]
def eq1 (x y:List Int):Bool:=col x 0==col y 0
theorem xCb (a b:List (List Int)) (ha:a.length≤9223372036854775807):xee a b∧xgO a b=xlu eq1 a b:=by
 unfold xee xgO
 rw [lenI]
 by_cases hlen:a.length=b.length
 ·obtain ⟨h1,h2⟩:=xxY (step:=xdq a b) (a:=a) (b:=b) (eq:=eq1) 1 hlen (fun i h h'=>by
    unfold xdq
    simp only [gi_1,gi_z,gb_z]
    rw [dlt h,xaa (xaw h),xaa (xaw h),xaa (xaw h'),xaa (xaw h'),xbb h,xbb h',xcN (by omega)]
    show (bif !(eq1 a[i] b[i]) then _ else _)=_
    cases eq1 a[i] b[i]<;>rfl)
   (by
    unfold xdq
    simp only [gi_1,gi_z,gb_z,dnlt]) (init:=xfY a b) rfl
  rw [decide_eq_true hlen]
  exact ⟨fun _=>h1,h2⟩
 ·rw [decide_eq_false hlen,xtE hlen]
  exact ⟨(fun h=>by cases h),rfl⟩
def addE (o t k n:Int) (l:List (List Int)):Int :=
 if (valF o l&&lnF t k n)=false then 1 else if ownF o k=false then 12 else if 200≤l.length then 2 else if t<xgS 0 (-1) l then 13 else if (k==4&&!onF 10000000 true l)=true then 6 else if (k==5&&onF 10000000 true l)=true then 6 else 0
def addL (o t k n:Int) (l:List (List Int)):List (List Int):=if addE o t k n l=0 then l++[[t,k,n,sumF o (xgS 3 0 l) t k n]] else []
theorem xDJ (o t k n:Int) (l:List (List Int)) (hl:l.length≤9223372036854775807):xdR o t k n l∧xfg o t k n l=addL o t k n l∧xff o t k n l=(if addE o t k n l=0 then o else 0)∧xfe o t k n l=addE o t k n l:=by
 obtain ⟨v1,v2⟩:=xg5 o l hl
 obtain ⟨o1,o2⟩:=xyo o 10000000 l hl
 obtain ⟨l1,l2,l3⟩:=xve o l hl
 have hQ:decide ((l.length:Int)≥(200:Int))=false→(xbF o (xa3 o l) t k n (0:Int))∧((((l=[])→((True)∧(([]++l=[])∧(True))))∧(xa5 32 (0+l.length)))∧(xa5 32 (([]++l).length+[[t,k,n,xbW o (xa3 o l) t k n (0:Int)]].length))):=fun h=>by
  have:=of_decide_eq_false h
  refine ⟨(xvX _ _ _ _ _ _).1,⟨fun h=>⟨trivial,by rw [h]; rfl,trivial⟩,by unfold xa5 maxLen; omega⟩,?_⟩
  unfold xa5 maxLen
  simp only [List.nil_append,List.length_cons,List.length_nil]
  omega
 refine ⟨⟨l1,o1,v1,fun h1 h2=>?_,fun _ _ _ h4 _=>⟨fun a b=>?_,fun _ _=>hQ h4⟩⟩,?_⟩
 ·rw [h1] at h2; cases h2
 ·rw [a] at b; cases b
 ·unfold xfg xiu xlW xlX xff xlU xlV xit xfe xlS xlT xis addL addE
  rw [v2,o2,l2,l3,xyG,xAP,(xvX _ _ _ _ _ _).2]
  have e200:decide ((l.length:Int)≥(200:Int))=decide (200≤l.length):=decide_eq_decide.2 (by omega)
  rw [e200]
  cases hv:valF o l
  ·simp
  ·cases hln:lnF t k n
   ·simp
   ·cases hown:ownF o k
    ·simp
    ·by_cases h2:200≤l.length
     ·simp [h2]
     ·by_cases h3:t<xgS 0 (-1) l
      ·simp [h2,h3]
      ·cases h4:(k==4&&!onF 10000000 true l)
       ·cases h5:(k==5&&onF 10000000 true l)
        ·simp [h2,h3]
        ·simp [h2,h3]
       ·simp [h2,h3]
theorem xAw (o t k n:Int) (l:List (List Int)):(addL o t k n l).length≤l.length+1:=by
 unfold addL
 by_cases h:addE o t k n l=0
 ·rw [if_pos h]; simp
 ·rw [if_neg h]; simp
def logF:Int×List (List Int)→List (List Int)→Int×List (List Int)
 | s,[]=>s
 | s,x::r=>if addE s.1 (col x 0) (col x 1) (col x 2) s.2=0 then logF (s.1,addL s.1 (col x 0) (col x 1) (col x 2) s.2) r else (0,[])
end Go.Proofs.YthfjhbbpdhjklaaGreat
set_option linter.unusedVariables false
set_option maxRecDepth 100000
namespace Go.Proofs.YthfjhbbpdhjklaaGreat
open Go Go.Sy
def cmp3 (x y:List Int):Int:=if col x 0<col y 0 then -1 else if col y 0<col x 0 then 1 else if col x 1<col y 1 then -1 else if col y 1<col x 1 then 1 else if col x 2<col y 2 then -1 else if col y 2<col x 2 then 1 else 0
def cmp2 (x y:List Int):Int:=if col x 0<col y 0 then -1 else if col y 0<col x 0 then 1 else if col x 1<col y 1 then -1 else if col y 1<col x 1 then 1 else 0
theorem xqr (a b:Int) (r:List Int) (e:Int) (h:orL r=e):orL ((if a<b then -1 else if b<a then 1 else 0)::r)=if a<b then -1 else if b<a then 1 else e:=by
 unfold orL
 by_cases h1:a<b
 ·rw [if_pos h1,if_neg (by decide),if_pos h1]
 ·rw [if_neg h1,if_neg h1]
  by_cases h2:b<a
  ·rw [if_pos h2,if_neg (by decide),if_pos h2]
  ·rw [if_neg h2,if_pos rfl,if_neg h2,h]
theorem xA9:cfO=cmp3:=by
 funext x y
 unfold cfO cmp3
 rw [(xhk _ _ _ _ _ _).2]
 simp only [cmpC]
 exact xqr _ _ _ _ (xqr _ _ _ _ (xqr _ _ _ _ rfl))
theorem xBa:cfG=cmp2:=by
 funext x y
 unfold cfG cmp2
 rw [(xpx _ _ _ _).2]
 simp only [cmpC]
 exact xqr _ _ _ _ (xqr _ _ _ _ rfl)
def xAu:List (List Int)→List (List Int)→Int
 | [],[]=>0
 | [],_::_ => -1
 | _::_,[]=>1
 | x::r,y::r'=>if cmp3 x y=0 then xAu r r' else cmp3 x y
theorem xzs:∀ x y,cmpL x y=xAu x y
 | [],[]=>rfl
 | [],_::_=>rfl
 | _::_,[]=>rfl
 | x::r,y::r'=>by
  unfold cmpL xAu
  rw [xA9,xzs r r']
def xvM (x b:List (List Int)):Bool:=decide (x.length<b.length)||(x.length==b.length&&decide (xAu x b<0))
theorem xzx:xfj=xvM:=by funext x b; unfold xfj xvM; rw [xzs]
def xs8 (uk:List (List Int)) (i:Nat) (b:List (List Int)):List (List Int):=if subB i (allF uk)=true then (if xvM (byF i uk) b=true then byF i uk else b) else b
def fewC (uk:List (List Int)):List (List Int):=upto (xs8 uk) (allF uk+1) (byF 0 uk)
theorem xqP:fewF=fewC:=by
 funext uk
 unfold fewF fewC
 have:xd7 uk=xs8 uk:=by funext i b; unfold xd7 xs8; rw [xzx]
 rw [this]
def goC (k:Int→List (List Int)→List (List Int)) (n:Int):List (List Int)→List (List Int)
 | []=>[]
 | g::r=>if ((fewC (r.filter (apF g))).length:Int)=n-1 then [col g 0,col g 1]::k (n-1) (r.filter (apF g)) else goC k n r
def prC:Nat→Int→List (List Int)→List (List Int)
 | 0,_,_=>[]
 | m+1,n,uk=>if n=0 then [] else goC (prC m) n uk
theorem xA4 (k:Int→List (List Int)→List (List Int)) (n:Int):∀ l,goP k n l=goC k n l
 | []=>rfl
 | g::r=>by unfold goP goC; rw [xqP,xA4 k n r]
theorem xyg:∀ m n l,prF m n l=prC m n l
 | 0,_,_=>rfl
 | m+1,n,l=>by
  unfold prF prC
  rw [xA4,show prF m=prC m from by funext n l; exact xyg m n l]
def verC (gs om pr:List (List Int)):Bool:=om.length==pr.length&&xjo cmp3 om&&xjo cmp2 pr&&(match verL om pr [] gs with | some named=>named.length==pr.length | none=>false)
theorem xBj (gs om pr:List (List Int)):verF gs om pr=verC gs om pr:=by unfold verF verC; rw [xA9,xBa]<;>rfl
def hA0:List (List Int):=(logF (0,[]) [[10,1,7]]).2
def hA1:List (List Int):=(logF (1,[]) [[12,3,7]]).2
def hA3:List (List Int):=(logF (3,[]) [[5,4,0],[20,5,0],[40,2,9]]).2
noncomputable def xhG:List (List Int):=[[1,encL hA1],[2,encL []],[3,encL hA3]]
def xrC:List ALog:=[(1,hA1),(2,[]),(3,hA3)]
def hch:List (List Int):=[[1,7,10],[2,7,10],[3,7,10],[2,9,30],[3,9,30]]
theorem xjA:xaC xhG=xrC:=by
 show [((1:Int),decL (encL hA1)),(2,decL (encL [])),(3,decL (encL hA3))]=_
 rw [xdD,xdD,xdD]
 rfl
theorem xvk:xuK xhG:=by
 intro x hx
 have hx:x=[1,encL hA1]∨x=[2,encL []]∨x=[3,encL hA3]:=by simpa [xhG] using hx
 have l1:hA1.length≤9223372036854775807:=by decide +kernel
 have l3:hA3.length≤9223372036854775807:=by decide +kernel
 rcases hx with rfl | rfl | rfl
 ·show (decL (encL hA1)).length≤_
  rw [xdD]; exact l1
 ·show (decL (encL [])).length≤_
  rw [xdD]; decide
 ·show (decL (encL hA3)).length≤_
  rw [xdD]; exact l3
theorem xqI:xjk 0 50 5 hA0 xrC hch=true:=by decide +kernel
theorem hfew:fewC (xdj hA0 xrC 50 5 hch)=[[1,0,9],[2,2,0],[2,3,0]]:=by decide +kernel
theorem hprv:prC 100 3 (xdj hA0 xrC 50 5 hch)=[[2,7],[3,7],[3,9]]:=by decide +kernel
theorem hgap:xdS (xdj hA0 xrC 50 5 hch)=[[2,7],[2,9],[3,7],[3,9]]:=by decide +kernel
theorem hver:verC (xdj hA0 xrC 50 5 hch) [[1,0,9],[2,2,0],[2,3,0]] [[2,7],[3,7],[3,9]]=true:=by decide +kernel
theorem hsh1:(valF 1 hA1&&tmF 12)=true∧xlE 12 hA1=[7]:=by decide +kernel
theorem xBJ:hA0.length≤9223372036854775807:=by decide +kernel
theorem xDP:hA1.length≤9223372036854775807:=by decide +kernel
theorem xBP:xhG.length≤9223372036854775807:=by show 3≤9223372036854775807; decide
theorem xBR:hch.length≤9223372036854775807:=by decide
theorem hE:xbi 0 50 5 hA0 xhG hch∧xbN 0 50 5 hA0 xhG hch=[[1,0,9],[2,2,0],[2,3,0]]∧xby 0 50 5 hA0 xhG hch=[[2,7],[3,7],[3,9]]∧xbM 0 50 5 hA0 xhG hch=0:=by
 obtain ⟨h1,h2,h3,h4⟩:=xoC (ow:=0) (t:=50) (ui:=5) xBJ xBP xBR xvk (.inl (by decide))
 rw [xjA,xqI,if_pos rfl,xqP,hfew] at h2
 rw [xjA,xqI,if_pos rfl,xqP,hfew,xyg] at h3
 rw [xjA,xqI,if_pos rfl] at h4
 exact ⟨h1,h2,h3.trans hprv,h4⟩
theorem hG:xcP 0 50 5 hA0 xhG hch∧xej 0 50 5 hA0 xhG hch=[[2,7],[2,9],[3,7],[3,9]]∧xei 0 50 5 hA0 xhG hch=0:=by
 obtain ⟨h1,h2,h3⟩:=xzD (ow:=0) (t:=50) (ui:=5) xBJ xBP xBR xvk
 rw [xjA,xqI,if_pos rfl,hgap] at h2
 rw [xjA,xqI,if_pos rfl] at h3
 exact ⟨h1,h2,h3⟩
theorem hV:xb4 0 50 5 hA0 xhG hch [[1,0,9],[2,2,0],[2,3,0]] [[2,7],[3,7],[3,9]]∧xdo 0 50 5 hA0 xhG hch [[1,0,9],[2,2,0],[2,3,0]] [[2,7],[3,7],[3,9]]=true∧xdn 0 50 5 hA0 xhG hch [[1,0,9],[2,2,0],[2,3,0]] [[2,7],[3,7],[3,9]]=0:=by
 obtain ⟨h1,h2,h3⟩:=xuJ (ow:=0) (t:=50) (ui:=5) (uj:=hA0) (uh:=xhG) (uk:=hch) (om:=[[1,0,9],[2,2,0],[2,3,0]]) (pr:=[[2,7],[3,7],[3,9]]) xBJ xBP xBR xvk (by decide) (by decide)
 rw [xjA,xqI,xBj,hver] at h2
 rw [xjA,xqI,if_pos rfl] at h3
 exact ⟨h1,h2,h3⟩
theorem hS1:xgC 1 12 hA1∧xhD 1 12 hA1=[[7]]∧xhC 1 12 hA1=0:=by
 obtain ⟨h1,h2,h3⟩:=xAA 1 12 hA1 xDP
 rw [hsh1.1,if_pos rfl,hsh1.2] at h2
 rw [hsh1.1,if_pos rfl] at h3
 exact ⟨h1,h2,h3⟩
end Go.Proofs.YthfjhbbpdhjklaaGreat
set_option linter.unusedVariables false
set_option maxRecDepth 100000
namespace Go.Proofs.YthfjhbbpdhjklaaGreat
open Go Go.Sy
theorem xBG {step:List U→Option (Nat×List U)} (n m:Nat) (p:Nat→Bool) (hs:∀ i,i<n→step [.b true,.i i]=some (0,[.b (p i),.i ((i+1:Nat):Int)])) (hp:∀ i,i<n→p i=true)
  (he:step [.b true,.i n]=some (m+1,[.b true,.i n])) {init:List U} (hi:init=[.b true,.i ((0:Nat):Int)]):xax step init∧gb (xat step init).snd 0=true:=by
 subst hi
 obtain ⟨h1,h2,_⟩:=xm3 (step:=step) n (fun i (_:Unit)=>[.b true,.i i]) (fun _ s=>s) (fun _ _=>True) m (fun _=>[.b true,.i n]) (fun _ _ _ _=>trivial) (fun i s hi _=>by rw [hs i hi,hp i hi]) (fun s _=>he) (s:=()) trivial
 refine ⟨h1,?_⟩
 rw [h2]
 exact gb_z _ _
theorem xvT {o:Int}:∀ {l:List (List Int)} {off:Bool} {last now:Int},vldF o off last now l=true→(∀ x∈l,now≤col x 0∧lnF (col x 0) (col x 1) (col x 2)=true∧ownF o (col x 1)=true)∧l.Pairwise (fun a b=>col a 0≤col b 0)
 | [],_,_,_,_=>⟨(fun x hx=>by cases hx),List.Pairwise.nil⟩
 | x::r,off,last,now,h=>by
  unfold vldF at h
  split at h
  ·cases h
  ·rename_i h1
   have h1':(!lnF (col x 0) (col x 1) (col x 2)||!ownF o (col x 1)||decide (col x 0<now)||col x 3 !=sumF o last (col x 0) (col x 1) (col x 2))=false:=by simpa using h1
   rw [Bool.or_eq_false_iff,Bool.or_eq_false_iff,Bool.or_eq_false_iff] at h1'
   obtain ⟨⟨⟨a1,a2⟩,a3⟩,a4⟩:=h1'
   have a3:=of_decide_eq_false a3
   have hr:∃ off',vldF o off' (col x 3) (col x 0) r=true:=by
    split at h
    ·split at h
     ·cases h
     ·exact ⟨_,h⟩
    ·exact ⟨_,h⟩
   obtain ⟨off',hr⟩:=hr
   obtain ⟨b1,b2⟩:=xvT hr
   refine ⟨fun y hy=>?_,List.pairwise_cons.2 ⟨fun y hy=>(b1 y hy).1,b2⟩⟩
   rcases List.mem_cons.1 hy with rfl | hy
   ·exact ⟨by omega,by simpa using a1,by simpa using a2⟩
   ·have:=b1 y hy
    exact ⟨by omega,this.2⟩
theorem xvU {o:Int} {l:List (List Int)} (h:valF o l=true):(∀ x∈l,0≤col x 0∧lnF (col x 0) (col x 1) (col x 2)=true∧ownF o (col x 1)=true)∧l.Pairwise (fun a b=>col a 0≤col b 0):=by
 unfold valF at h
 rw [Bool.and_eq_true] at h
 exact xvT h.2
theorem cls3 (k:Int):clsF k=3↔(k=4∨k=5):=by
 unfold clsF
 by_cases h1:k=1
 ·rw [if_pos h1]; omega
 ·rw [if_neg h1]
  by_cases h2:k=2∨k=3
  ·rw [if_pos h2]; omega
  ·rw [if_neg h2]
   by_cases h3:k=4∨k=5
   ·rw [if_pos h3]; simp [h3]
   ·rw [if_neg h3]; simp [h3]
end Go.Proofs.YthfjhbbpdhjklaaGreat
set_option linter.unusedVariables false
namespace Go.Koen
set_option linter.unusedSectionVars false
section
variable {ε α β:Type} [DecidableEq α] [DecidableEq β] (l:ε→α) (r:ε→Option β)
def Cov (A:α→Bool) (B:β→Bool) (e:ε):Prop:=A (l e)=true∨∃ b,r e=some b∧B b=true
def xrj (e f:ε):Prop:=l e≠l f∧∀ b,r e=some b→r f≠some b
def size (UA:List α) (UB:List β) (A:α→Bool) (B:β→Bool):Nat:=UA.countP A+UB.countP B
theorem xjG {γ:Type} {p q:γ→Bool} (h:∀ x,p x=true→q x=true):∀ l:List γ,l.countP p≤l.countP q
 | []=>Nat.le_refl _
 | x::t=>by
  have:=xjG h t
  rw [List.countP_cons,List.countP_cons]
  have h1:=h x
  cases hp:p x<;>cases hq:q x<;>simp_all<;>omega
theorem xop {γ:Type} [DecidableEq γ] {p:γ→Bool} {v:γ}:∀ {l:List γ},v∈l→p v=true→l.countP (fun x=>p x&&decide (x≠v))+1≤l.countP p
 | [],h,_=>by cases h
 | x::t,h,hp=>by
  rw [List.countP_cons,List.countP_cons]
  by_cases e:x=v
  ·subst e
   have:=xjG (p:=fun y=>p y&&decide (y≠x)) (q:=p) (fun y hy=>by simp_all) t
   simp only [hp]
   simp
   simpa using this
  ·have hm:v∈t:=by
    rcases List.mem_cons.1 h with h | h
    ·exact absurd h.symm e
    ·exact h
   have:=xop hm hp
   cases hx:p x<;>simp_all<;>omega
theorem xlo {γ:Type} [DecidableEq γ] {p:γ→Bool} {v:γ}:∀ {l:List γ},l.Nodup→l.countP (fun x=>p x||decide (x=v))≤l.countP p+1
 | [],_=>Nat.zero_le _
 | x::t,h=>by
  rw [List.countP_cons,List.countP_cons]
  have ht:=(List.nodup_cons.1 h)
  by_cases e:x=v
  ·subst e
   have h0:t.countP (fun y=>p y||decide (y=x))=t.countP p:=by
    refine List.countP_congr fun y hy=>?_
    have:y≠x:=fun e=>ht.1 (e▸hy)
    simp [this]
   rw [h0]
   cases p x<;>simp
  ·have:=xlo (p:=p) (v:=v) ht.2
   cases hx:p x<;>simp_all<;>omega
theorem xoo {γ:Type} (p q p' q':γ→Bool) (h:∀ x,(p' x).toNat+(q' x).toNat=(p x).toNat+(q x).toNat):∀ l:List γ,l.countP p'+l.countP q'=l.countP p+l.countP q
 | []=>rfl
 | x::t=>by
  have ih:=xoo p q p' q' h t
  have h1:=h x
  simp only [List.countP_cons]
  cases hp:p x<;>cases hq:q x<;>cases hp':p' x<;>cases hq':q' x<;>simp_all<;>omega
variable {l r}
theorem weak {UA:List α} {UB:List β}:∀ {M:List ε} {A:α→Bool} {B:β→Bool},M.Pairwise (xrj l r)→(∀ e∈M,Cov l r A B e)→(∀ e∈M,l e∈UA∧∀ b,r e=some b→b∈UB)→M.length≤size UA UB A B
 | [],_,_,_,_,_=>Nat.zero_le _
 | e::M,A,B,hM,hC,hU=>by
  obtain ⟨h1,h2⟩:=List.pairwise_cons.1 hM
  have hU':∀ e∈M,l e∈UA∧∀ b,r e=some b→b∈UB:=fun f hf=>hU f (List.mem_cons_of_mem _ hf)
  rcases hC e List.mem_cons_self with hA | ⟨b,hb,hB⟩
  ·have:=weak (A:=fun x=>A x&&decide (x≠l e)) (B:=B) h2 (fun f hf=>by
    rcases hC f (List.mem_cons_of_mem _ hf) with h | h
    ·exact .inl (by simp [h,Ne.symm (h1 f hf).1])
    ·exact .inr h) hU'
   have hd:=xop (p:=A) (hU e List.mem_cons_self).1 hA
   simp only [List.length_cons]
   unfold size at *
   omega
  ·have:=weak (A:=A) (B:=fun x=>B x&&decide (x≠b)) h2 (fun f hf=>by
    rcases hC f (List.mem_cons_of_mem _ hf) with h | ⟨b',hb',hB'⟩
    ·exact .inl h
    ·refine .inr ⟨b',hb',?_⟩
     have:b'≠b:=fun e'=>(h1 f hf).2 b hb (by rw [hb',e'])
     simp [hB',this]) hU'
   have hd:=xop (p:=B) ((hU e List.mem_cons_self).2 b hb) hB
   simp only [List.length_cons]
   unfold size at *
   omega
theorem xDN (UA:List α) (UB:List β) (L:List ε):∃ A B,(∀ e∈L,Cov l r A B e)∧∀ A' B',(∀ e∈L,Cov l r A' B' e)→size UA UB A B≤size UA UB A' B':=by
 have key:∀ n,(∃ A B,(∀ e∈L,Cov l r A B e)∧size UA UB A B≤n)→∃ A B,(∀ e∈L,Cov l r A B e)∧∀ A' B',(∀ e∈L,Cov l r A' B' e)→size UA UB A B≤size UA UB A' B':=by
  intro n
  induction n with
  | zero =>
   rintro ⟨A,B,h1,h2⟩
   exact ⟨A,B,h1,fun A' B' _=>by omega⟩
  | succ n ih =>
   rintro ⟨A,B,h1,h2⟩
   by_cases h:∃ A B,(∀ e∈L,Cov l r A B e)∧size UA UB A B≤n
   ·exact ih h
   ·refine ⟨A,B,h1,fun A' B' h'=>?_⟩
    have:¬ size UA UB A' B'≤n:=fun h3=>h ⟨A',B',h',h3⟩
    omega
 exact key (size UA UB (fun _=>true) (fun _=>true)) ⟨fun _=>true,fun _=>true,fun e _=>.inl rfl,Nat.le_refl _⟩
theorem xwk {UA:List α} {UB:List β} (hA:UA.Nodup):∀ L:List ε,size UA UB (fun x=>decide (x∈L.map l)) (fun _=>false)≤L.length
 | []=>by simp [size]
 | e::L=>by
  have ih:=xwk (UB:=UB) hA L
  have h:=xlo (p:=fun x=>decide (x∈L.map l)) (v:=l e) hA
  have h2:UA.countP (fun x=>decide (x∈(e::L).map l))≤UA.countP (fun x=>decide (x∈L.map l)||decide (x=l e)):=xjG (fun x hx=>by
   have:x∈(e::L).map l:=by simpa using hx
   rw [List.map_cons] at this
   rcases List.mem_cons.1 this with h | h
   ·simp [h]
   ·simp [h]) UA
  unfold size at *
  simp only [List.length_cons]
  omega
theorem xoL {ε:Type} {R:ε→ε→Prop} [∀ a b,Decidable (R a b)]:∀ {L:List ε},¬ L.Pairwise R→∃ L1 e L2 f L3,L=L1++e::(L2++f::L3)∧¬ R e f
 | [],h=>absurd List.Pairwise.nil h
 | x::t,h=>by
  by_cases h1:∀ y∈t,R x y
  ·obtain ⟨L1,e,L2,f,L3,h2,h3⟩:=xoL (L:=t) fun h2=>h (List.pairwise_cons.2 ⟨h1,h2⟩)
   exact ⟨x::L1,e,L2,f,L3,by rw [h2]; rfl,h3⟩
  ·have:∃ y∈t,¬ R x y:=Classical.byContradiction fun hn=>h1 fun y hy=>Classical.byContradiction fun hr=>hn ⟨y,hy,hr⟩
   obtain ⟨y,hy,hr⟩:=this
   obtain ⟨L2,L3,rfl⟩:=List.append_of_mem hy
   exact ⟨[],x,L2,y,L3,rfl,hr⟩
theorem xAU {UA:List α} {UB:List β} (hA:UA.Nodup) (hB:UB.Nodup):∀ (n:Nat) (L:List ε),L.length≤n→(∀ e∈L,l e∈UA∧∀ b,r e=some b→b∈UB) →
  ∃ M:List ε,M.Sublist L∧M.Pairwise (xrj l r)∧∃ A B,(∀ e∈L,Cov l r A B e)∧size UA UB A B=M.length
 | 0,L,hn,_=>by
  have:L=[]:=List.eq_nil_of_length_eq_zero (by omega)
  subst this
  exact ⟨[],List.Sublist.refl _,List.Pairwise.nil,fun _=>false,fun _=>false,(fun e he=>by cases he),by simp [size]⟩
 | n+1,L,hn,hU=>by
  obtain ⟨A0,B0,hc0,hmin⟩:=xDN (l:=l) (r:=r) UA UB L
  by_cases hcrit:∃ L1 e L2,L=L1++e::L2∧∀ A B,(∀ f∈L1++L2,Cov l r A B f)→size UA UB A0 B0≤size UA UB A B
  ·obtain ⟨L1,e,L2,rfl,hge⟩:=hcrit
   have hsub:(L1++L2).Sublist (L1++e::L2):=List.Sublist.append (List.Sublist.refl _) (List.sublist_cons_self _ _)
   obtain ⟨M,h1,h2,A,B,h3,h4⟩:=xAU hA hB n (L1++L2) (by simp at hn ⊢; omega) fun f hf=>hU f (hsub.subset hf)
   have hM:=h1.trans hsub
   refine ⟨M,hM,h2,A0,B0,hc0,?_⟩
   have:=weak h2 (fun f hf=>hc0 f (hM.subset hf)) fun f hf=>hU f (hM.subset hf)
   have:=hge A B h3
   omega
  ·have hcrit:∀ L1 e L2,L=L1++e::L2→∃ A B,(∀ f∈L1++L2,Cov l r A B f)∧size UA UB A B+1≤size UA UB A0 B0:=by
    intro L1 e L2 hL
    refine Classical.byContradiction fun hno=>hcrit ⟨L1,e,L2,hL,fun A B hAB=>?_⟩
    refine Classical.byContradiction fun hlt=>hno ⟨A,B,hAB,by omega⟩
   by_cases hp:L.Pairwise (xrj l r)
   ·refine ⟨L,List.Sublist.refl _,hp,A0,B0,hc0,?_⟩
    have h1:=weak hp hc0 hU
    have h2:=hmin (fun x=>decide (x∈L.map l)) (fun _=>false) fun e he=>.inl (by simpa using ⟨e,he,rfl⟩)
    have h3:=xwk (l:=l) (UB:=UB) hA L
    omega
   ·exfalso
    have _inst:∀ a b:ε,Decidable (xrj l r a b):=fun a b=>Classical.propDecidable _
    obtain ⟨L1,e,L2,f,L3,rfl,hef⟩:=xoL hp
    obtain ⟨Ae,Be,he,hse⟩:=hcrit L1 e (L2++f::L3) rfl
    obtain ⟨Af,Bf,hf,hsf⟩:=hcrit (L1++e::L2) f L3 (by simp)
    have nte:¬ Cov l r Ae Be e:=fun hcv=>by
     have:=hmin Ae Be fun g hg=>by
      rcases List.mem_append.1 hg with hg | hg
      ·exact he g (List.mem_append.2 (.inl hg))
      ·rcases List.mem_cons.1 hg with rfl | hg
       ·exact hcv
       ·exact he g (List.mem_append.2 (.inr hg))
     omega
    have ntf:¬ Cov l r Af Bf f:=fun hcv=>by
     have:=hmin Af Bf fun g hg=>by
      rcases List.mem_append.1 hg with hg | hg
      ·exact hf g (by simp [hg])
      ·rcases List.mem_cons.1 hg with rfl | hg
       ·exact hf g (by simp)
       ·rcases List.mem_append.1 hg with hg | hg
        ·exact hf g (by simp [hg])
        ·rcases List.mem_cons.1 hg with rfl | hg
         ·exact hcv
         ·exact hf g (by simp [hg])
     omega
    have cfe:Cov l r Ae Be f:=he f (by simp)
    have cef:Cov l r Af Bf e:=hf e (by simp)
    have other:∀ g∈L1++e::(L2++f::L3),g=e∨g=f∨(Cov l r Ae Be g∧Cov l r Af Bf g):=fun g hg=>by
     simp only [List.mem_append,List.mem_cons] at hg
     rcases hg with hg | rfl | hg | rfl | hg
     ·exact .inr (.inr ⟨he g (by simp [hg]),hf g (by simp [hg])⟩)
     ·exact .inl rfl
     ·exact .inr (.inr ⟨he g (by simp [hg]),hf g (by simp [hg])⟩)
     ·exact .inr (.inl rfl)
     ·exact .inr (.inr ⟨he g (by simp [hg]),hf g (by simp [hg])⟩)
    have hsum:size UA UB (fun x=>Ae x||Af x) (fun x=>Be x&&Bf x)+size UA UB (fun x=>Ae x&&Af x) (fun x=>Be x||Bf x)=size UA UB Ae Be+size UA UB Af Bf:=by
     have h1:=xoo Ae Af (fun x=>Ae x||Af x) (fun x=>Ae x&&Af x) (fun x=>by cases Ae x<;>cases Af x<;>rfl) UA
     have h2:=xoo Be Bf (fun x=>Be x&&Bf x) (fun x=>Be x||Bf x) (fun x=>by cases Be x<;>cases Bf x<;>rfl) UB
     unfold size
     omega
    have both1:∀ g,Cov l r Ae Be g→Cov l r Af Bf g→Cov l r (fun x=>Ae x||Af x) (fun x=>Be x&&Bf x) g:=by
     intro g h1 h2
     rcases h1 with h1 | ⟨b,hb,h1⟩
     ·exact .inl (by simp [h1])
     ·rcases h2 with h2 | ⟨b',hb',h2⟩
      ·exact .inl (by simp [h2])
      ·rw [hb] at hb'; cases hb'
       exact .inr ⟨b,hb,by simp [h1,h2]⟩
    have both2:∀ g,Cov l r Ae Be g→Cov l r Af Bf g→Cov l r (fun x=>Ae x&&Af x) (fun x=>Be x||Bf x) g:=by
     intro g h1 h2
     rcases h1 with h1 | ⟨b,hb,h1⟩
     ·rcases h2 with h2 | ⟨b',hb',h2⟩
      ·exact .inl (by simp [h1,h2])
      ·exact .inr ⟨b',hb',by simp [h2]⟩
     ·exact .inr ⟨b,hb,by simp [h1]⟩
    have hshare:l e=l f∨∃ b,r e=some b∧r f=some b:=by
     refine Classical.byContradiction fun hn=>hef ⟨fun h=>hn (.inl h),fun b hb hb'=>hn (.inr ⟨b,hb,hb'⟩)⟩
    rcases hshare with hl | ⟨b,hbe,hbf⟩
    ·have a1:Ae (l e)=false:=by
      cases h:Ae (l e) with
      | false=>rfl
      | true=>exact absurd (.inl h) nte
     have a2:Af (l f)=false:=by
      cases h:Af (l f) with
      | false=>rfl
      | true=>exact absurd (.inl h) ntf
     have re:∃ b,r e=some b∧Bf b=true:=by
      rcases cef with h | h
      ·rw [hl,a2] at h; cases h
      ·exact h
     have rf':∃ b,r f=some b∧Be b=true:=by
      rcases cfe with h | h
      ·rw [← hl,a1] at h; cases h
      ·exact h
     have g1:=hmin (fun x=>Ae x&&Af x) (fun x=>Be x||Bf x) fun g hg=>by
      rcases other g hg with rfl | rfl | ⟨h1,h2⟩
      ·obtain ⟨b,hb,h⟩:=re
       exact .inr ⟨b,hb,by simp [h]⟩
      ·obtain ⟨b,hb,h⟩:=rf'
       exact .inr ⟨b,hb,by simp [h]⟩
      ·exact both2 g h1 h2
     have g2:=hmin (fun x=>(Ae x||Af x)||decide (x=l e)) (fun x=>Be x&&Bf x) fun g hg=>by
      rcases other g hg with rfl | rfl | ⟨h1,h2⟩
      ·exact .inl (by simp)
      ·exact .inl (by simp [hl])
      ·rcases both1 g h1 h2 with h | h
       ·exact .inl (by simp only [Bool.or_eq_true] at h ⊢; exact .inl h)
       ·exact .inr h
     have g3:=xlo (p:=fun x=>Ae x||Af x) (v:=l e) hA
     unfold size at *
     omega
    ·have b1:Be b=false:=by
      cases h:Be b with
      | false=>rfl
      | true=>exact absurd (.inr ⟨b,hbe,h⟩) nte
     have b2:Bf b=false:=by
      cases h:Bf b with
      | false=>rfl
      | true=>exact absurd (.inr ⟨b,hbf,h⟩) ntf
     have le:Af (l e)=true:=by
      rcases cef with h | ⟨b',hb',h⟩
      ·exact h
      ·rw [hbe] at hb'; cases hb'; rw [b2] at h; cases h
     have lf:Ae (l f)=true:=by
      rcases cfe with h | ⟨b',hb',h⟩
      ·exact h
      ·rw [hbf] at hb'; cases hb'; rw [b1] at h; cases h
     have g1:=hmin (fun x=>Ae x||Af x) (fun x=>Be x&&Bf x) fun g hg=>by
      rcases other g hg with rfl | rfl | ⟨h1,h2⟩
      ·exact .inl (by simp [le])
      ·exact .inl (by simp [lf])
      ·exact both1 g h1 h2
     have g2:=hmin (fun x=>Ae x&&Af x) (fun x=>(Be x||Bf x)||decide (x=b)) fun g hg=>by
      rcases other g hg with rfl | rfl | ⟨h1,h2⟩
      ·exact .inr ⟨b,hbe,by simp⟩
      ·exact .inr ⟨b,hbf,by simp⟩
      ·rcases both2 g h1 h2 with h | ⟨b',hb',h⟩
       ·exact .inl h
       ·exact .inr ⟨b',hb',by simp only [Bool.or_eq_true] at h ⊢; exact .inl h⟩
     have g3:=xlo (p:=fun x=>Be x||Bf x) (v:=b) hB
     unfold size at *
     omega
end
end Go.Koen
set_option linter.unusedVariables false
set_option maxRecDepth 100000
namespace Go.Proofs.YthfjhbbpdhjklaaGreat
open Go Go.Sy Go.Koen
theorem xf4 {α:Type} [DecidableEq α]:∀ {l l':List α},l.Nodup→(∀ x∈l,x∈l')→l.length≤l'.length
 | [],_,_,_=>Nat.zero_le _
 | x::r,l',hn,hs=>by
  obtain ⟨h1,h2⟩:=List.nodup_cons.1 hn
  have hx:=hs x List.mem_cons_self
  have:=xf4 (l:=r) (l':=l'.erase x) h2 fun y hy=>(List.mem_erase_of_ne (fun e:y=x=>h1 (by rw [← e]; exact hy))).2 (hs y (List.mem_cons_of_mem _ hy))
  rw [List.length_erase_of_mem hx] at this
  have:0<l'.length:=List.length_pos_of_mem hx
  simp only [List.length_cons]
  omega
theorem xtU {α:Type} [DecidableEq α] {l l':List α} (h:l.Nodup) (h':l'.Nodup) (hm:∀ x,x∈l↔x∈l'):l.length=l'.length :=
 Nat.le_antisymm (xf4 h fun x hx=>(hm x).1 hx) (xf4 h' fun x hx=>(hm x).2 hx)
theorem xtT {α:Type} [DecidableEq α] {l l':List α} (h:l.Nodup) {y:α} (hy:y∈l') (hy':y∉l) (hs:∀ x∈l,x∈l'):l.length<l'.length:=by
 have:=xf4 (l:=y::l) (List.nodup_cons.2 ⟨hy',h⟩) (l':=l') fun x hx=>by
  rcases List.mem_cons.1 hx with rfl | hx
  ·exact hy
  ·exact hs x hx
 rw [List.length_cons] at this
 omega
theorem xlc (m:Nat) (uk:List (List Int)):(byF m uk).Nodup:=by
 refine List.nodup_iff_pairwise_ne.2 ((xtm m uk).1.imp fun {a b} h e=>?_)
 subst e
 have:=xeQ [0,1,2] a a
 rw [h] at this
 simp at this
theorem xzw (m:Nat) (uk:List (List Int)) (x:List Int):x∈xiz m uk↔(∃ k,k<9∧m.testBit k=true∧x=rOn k)∨∃ g∈uk,cov m g=false∧x=lft g:=by
 unfold xiz
 rw [List.mem_append,List.mem_map,List.mem_map]
 constructor
 ·rintro (⟨k,hk,rfl⟩ | ⟨g,hg,rfl⟩)
  ·obtain ⟨h1,h2⟩:=List.mem_filter.1 hk
   exact .inl ⟨k,List.mem_range.1 h1,h2,rfl⟩
  ·obtain ⟨h1,h2⟩:=List.mem_filter.1 hg
   exact .inr ⟨g,h1,by simpa using h2,rfl⟩
 ·rintro (⟨k,h1,h2,rfl⟩ | ⟨g,h1,h2,rfl⟩)
  ·exact .inl ⟨k,List.mem_filter.2 ⟨List.mem_range.2 h1,h2⟩,rfl⟩
  ·exact .inr ⟨g,List.mem_filter.2 ⟨h1,by rw [h2]; rfl⟩,rfl⟩
theorem xjJ (m:Nat) (uk:List (List Int)) (x:List Int):x∈byF m uk↔(∃ k,k<9∧m.testBit k=true∧x=rOn k)∨∃ g∈uk,cov m g=false∧x=lft g:=by
 rw [(xtm m uk).2,xzw]
theorem xAT (g:List Int) (k:Nat):lft g≠rOn k:=by
 unfold lft rOn
 split<;>simp
theorem xwz (uk:List (List Int)):∀ n,(∃ m,(m=0∨m<n)∧upto (xd7 uk) n (byF 0 uk)=byF m uk)∧∀ m,m<n→subB m (allF uk)=true→xfj (byF m uk) (upto (xd7 uk) n (byF 0 uk))=false
 | 0=>⟨⟨0,.inl rfl,rfl⟩,fun m h=>by omega⟩
 | n+1=>by
  obtain ⟨⟨m,hm,he⟩,h2⟩:=xwz uk n
  have e:upto (xd7 uk) (n+1) (byF 0 uk)=xd7 uk n (upto (xd7 uk) n (byF 0 uk)):=rfl
  rw [e]
  generalize upto (xd7 uk) n (byF 0 uk)=b at *
  unfold xd7
  by_cases hs:subB n (allF uk)=true
  ·rw [if_pos hs]
   by_cases hb:xfj (byF n uk) b=true
   ·rw [if_pos hb]
    refine ⟨⟨n,.inr (by omega),rfl⟩,fun m' hm' hs'=>?_⟩
    by_cases e':m'=n
    ·rw [e']; exact xxA _
    ·cases hbb:xfj (byF m' uk) (byF n uk) with
     | false=>rfl
     | true =>
      have:=xo0 hbb hb
      rw [h2 m' (by omega) hs'] at this
      cases this
   ·rw [if_neg hb]
    refine ⟨⟨m,hm.imp id fun h=>by omega,he⟩,fun m' hm' hs'=>?_⟩
    by_cases e':m'=n
    ·rw [e']; simpa using hb
    ·exact h2 m' (by omega) hs'
  ·rw [if_neg hs]
   refine ⟨⟨m,hm.imp id fun h=>by omega,he⟩,fun m' hm' hs'=>?_⟩
   by_cases e':m'=n
   ·rw [e'] at hs'; exact absurd hs' hs
   ·exact h2 m' (by omega) hs'
theorem xxP {m a:Nat} (hm:m<512) (h:subB m a=true):m≤a:=by
 have e:m &&& a=m:=by
  apply Nat.eq_of_testBit_eq
  intro i
  rw [Nat.testBit_and]
  by_cases h9:i<9
  ·have:=List.all_eq_true.1 h i (List.mem_range.2 h9)
   cases h1:m.testBit i<;>cases h2:a.testBit i<;>simp_all
  ·rw [xrN hm (by omega)]; rfl
 rw [← e]
 exact Nat.and_le_right
theorem xno {uk:List (List Int)} (hs:xcY uk):(∃ m,m<512∧fewF uk=byF m uk)∧∀ m,m<512→xfj (byF m uk) (fewF uk)=false:=by
 obtain ⟨hall,hbit⟩:=xwN hs
 obtain ⟨⟨m0,hm0,he⟩,hmin⟩:=xwz uk (allF uk+1)
 have he:fewF uk=byF m0 uk:=he
 have hmin:∀ m,m<allF uk+1→subB m (allF uk)=true→xfj (byF m uk) (fewF uk)=false:=hmin
 refine ⟨⟨m0,by omega,he⟩,fun m hm=>?_⟩
 by_cases hsub:subB m (allF uk)=true
 ·exact hmin m (by have:=xxP hm hsub; omega) hsub
 ·have hlt:m &&& allF uk<512:=Nat.and_lt_two_pow (n:=9) _ hall
  have hsub':subB (m &&& allF uk) (allF uk)=true:=List.all_eq_true.2 fun k _=>by
   rw [Nat.testBit_and]
   cases m.testBit k<;>cases (allF uk).testBit k<;>rfl
  have h1:=hmin (m &&& allF uk) (by have:=xxP hlt hsub'; omega) hsub'
  obtain ⟨k,hk,hk'⟩:∃ k,k<9∧(!m.testBit k||(allF uk).testBit k)=false:=by
   refine Classical.byContradiction fun hn=>hsub (List.all_eq_true.2 fun k hk=>?_)
   cases h:(!m.testBit k||(allF uk).testBit k) with
   | true=>rfl
   | false=>exact absurd ⟨k,List.mem_range.1 hk,h⟩ hn
  have hk1:m.testBit k=true∧(allF uk).testBit k=false:=by
   cases h1:m.testBit k<;>cases h2:(allF uk).testBit k<;>simp_all
  have hcov:∀ g∈uk,cov (m &&& allF uk) g=cov m g:=fun g hg=>by
   unfold cov
   cases h3:(col g 3 !=0) with
   | false=>rfl
   | true =>
    have:(allF uk).testBit (col g 0).toNat=true:=by
     rw [hbit,List.any_eq_true]
     exact ⟨g,hg,by rw [h3]; simp⟩
    rw [Nat.testBit_and,this,Bool.and_true]
  have hlen:(byF (m &&& allF uk) uk).length<(byF m uk).length:=by
   refine xtT (xlc _ _) (y:=rOn k) ((xjJ _ _ _).2 (.inl ⟨k,hk,hk1.1,rfl⟩)) (fun h=>?_) fun x hx=>?_
   ·rcases (xjJ _ _ _).1 h with ⟨k',_,hb,e⟩ | ⟨g,_,_,e⟩
    ·have:k=k':=by
      have e1:((k:Nat):Int)=(k':Int):=by
       unfold rOn at e
       simpa using e
      omega
     subst this
     rw [Nat.testBit_and,hk1.2,Bool.and_false] at hb
     cases hb
    ·exact xAT g k e.symm
   ·rcases (xjJ _ _ _).1 hx with ⟨k',h1,hb,e⟩ | ⟨g,h1,h2,e⟩
    ·rw [Nat.testBit_and,Bool.and_eq_true] at hb
     exact (xjJ _ _ _).2 (.inl ⟨k',h1,hb.1,e⟩)
    ·exact (xjJ _ _ _).2 (.inr ⟨g,h1,by rw [← hcov g h1]; exact h2,e⟩)
  cases hb:xfj (byF m uk) (fewF uk) with
  | false=>rfl
  | true =>
   have:xfj (byF (m &&& allF uk) uk) (byF m uk)=true:=by unfold xfj; rw [decide_eq_true hlen]; rfl
   have:=xo0 this hb
   rw [h1] at this
   cases this
theorem xB3 {uk:List (List Int)} (hs:xcY uk) {m:Nat} (hm:m<512):(fewF uk).length≤(byF m uk).length:=by
 have:=(xno hs).2 m hm
 unfold xfj at this
 simp only [Bool.or_eq_false_iff,decide_eq_false_iff_not] at this
 omega
def rt (g:List Int):Option Int:=if col g 3=0 then none else some (col g 0)
def uB:List Int:=[0,1,2,3,4,5,6,7,8]
theorem xAF (k:Int):k∈uB↔0≤k∧k≤8:=by
 unfold uB
 simp only [List.mem_cons,List.not_mem_nil,or_false]
 omega
theorem xvV:uB.Nodup:=by decide
theorem xxK (uk:List (List Int)) (x:List Int):x∈byF 0 uk↔∃ g∈uk,x=lft g:=by
 rw [xjJ]
 constructor
 ·rintro (⟨k,_,h,_⟩ | ⟨g,h,_,e⟩)
  ·simp at h
  ·exact ⟨g,h,e⟩
 ·rintro ⟨g,h,e⟩
  exact .inr ⟨g,h,by unfold cov; simp,e⟩
theorem xzh {uk sub:List (List Int)} (hs:xcY uk) (h:∀ g∈sub,g∈uk):∀ e∈sub,lft e∈byF 0 uk∧∀ b,rt e=some b→b∈uB:=fun e he=>by
 refine ⟨(xxK _ _).2 ⟨e,h e he,rfl⟩,fun b hb=>?_⟩
 unfold rt at hb
 split at hb
 ·cases hb
 ·cases hb
  exact (xAF _).2 (hs e (h e he))
def aOf (m:Nat) (uk:List (List Int)) (x:List Int):Bool:=decide (∃ g∈uk,cov m g=false∧x=lft g)
def bOf (m:Nat) (k:Int):Bool:=m.testBit k.toNat
theorem xCO (m:Nat) (uk:List (List Int)):∀ e∈uk,Cov lft rt (aOf m uk) (bOf m) e:=fun e he=>by
 cases hc:cov m e with
 | false=>exact .inl (decide_eq_true ⟨e,he,hc,rfl⟩)
 | true =>
  unfold cov at hc
  rw [Bool.and_eq_true] at hc
  refine .inr ⟨col e 0,?_,hc.2⟩
  unfold rt
  rw [if_neg (by simpa using hc.1)]
theorem xxT (m:Nat) (uk:List (List Int)):size (byF 0 uk) uB (aOf m uk) (bOf m)=(byF m uk).length:=by
 have hr:(((List.range 9).filter m.testBit).map rOn).Nodup:=by
  rw [List.nodup_iff_pairwise_ne,List.pairwise_map]
  refine ((List.nodup_iff_pairwise_ne.1 List.nodup_range).filter m.testBit).imp fun {a b} h e=>h ?_
  have e1:((a:Nat):Int)=(b:Int):=by
   unfold rOn at e
   simpa using e
  omega
 have h1:(byF m uk).length=((byF 0 uk).filter (aOf m uk)++((List.range 9).filter m.testBit).map rOn).length:=by
  refine xtU (xlc m uk) (List.nodup_append.2 ⟨(xlc 0 uk).filter _,hr,fun a ha b hb e=>?_⟩) fun x=>?_
  ·obtain ⟨g,_,e1⟩:=(xxK _ _).1 (List.mem_filter.1 ha).1
   obtain ⟨k,_,e2⟩:=List.mem_map.1 hb
   exact xAT g k (by rw [← e1,e,e2])
  ·rw [xjJ,List.mem_append,List.mem_filter,List.mem_map]
   constructor
   ·rintro (⟨k,h1,h2,h3⟩ | ⟨g,h1,h2,h3⟩)
    ·exact .inr ⟨k,List.mem_filter.2 ⟨List.mem_range.2 h1,h2⟩,h3.symm⟩
    ·exact .inl ⟨(xxK _ _).2 ⟨g,h1,h3⟩,decide_eq_true ⟨g,h1,h2,h3⟩⟩
   ·rintro (⟨_,h⟩ | ⟨k,h1,h2⟩)
    ·obtain ⟨g,h1,h2,h3⟩:=of_decide_eq_true h
     exact .inr ⟨g,h1,h2,h3⟩
    ·obtain ⟨h3,h4⟩:=List.mem_filter.1 h1
     exact .inl ⟨k,List.mem_range.1 h3,h4,h2.symm⟩
 have h2:uB.countP (bOf m)=((List.range 9).filter m.testBit).length:=by
  have e:uB=(List.range 9).map (fun k:Nat=>(k:Int)):=by decide
  rw [e,List.countP_map,← List.countP_eq_length_filter]
  exact List.countP_congr fun (k:Nat) _=>by show m.testBit (k:Int).toNat=true↔_; rw [Int.toNat_natCast]
 unfold size
 rw [h1,h2,List.length_append,List.length_map,List.countP_eq_length_filter]
def mask:List Bool→Nat
 | []=>0
 | b::r=>b.toNat+2*mask r
theorem xwh:∀ (l:List Bool) (k:Nat),(mask l).testBit k=l.getD k false
 | [],k=>by simp [mask]
 | b::r,0=>by
  unfold mask
  cases b<;>simp [Nat.testBit_zero]
 | b::r,k+1=>by
  have ih:=xwh r k
  unfold mask
  rw [Nat.testBit_succ]
  have:(b.toNat+2*mask r)/2=mask r:=by cases b<;>simp<;>omega
  rw [this,ih]; rfl
theorem xyC:∀ (l:List Bool),mask l<2 ^ l.length
 | []=>by simp [mask]
 | b::r=>by
  have:=xyC r
  unfold mask
  rw [List.length_cons,Nat.pow_succ]
  cases b<;>simp<;>omega
theorem xwC {uk:List (List Int)} (hs:xcY uk) {A:List Int→Bool} {B:Int→Bool} (hc:∀ e∈uk,Cov lft rt A B e):(fewF uk).length≤size (byF 0 uk) uB A B:=by
 let m:=mask ((List.range 9).map fun k:Nat=>B (k:Int))
 have hm:m<512:=by
  have:=xyC ((List.range 9).map fun k:Nat=>B (k:Int))
  simpa using this
 have hbit:∀ k,k<9→m.testBit k=B (k:Int):=fun k hk=>by
  show (mask _).testBit k=_
  rw [xwh,List.getD_eq_getElem?_getD,List.getElem?_map,List.getElem?_range hk]
  rfl
 refine Nat.le_trans (xB3 hs hm) ?_
 rw [← xxT m uk]
 have h1:(byF 0 uk).countP (aOf m uk)≤(byF 0 uk).countP A:=by
  refine xjG (fun x hx=>?_) _
  obtain ⟨g,hg,hcv,rfl⟩:=of_decide_eq_true hx
  rcases hc g hg with h | ⟨b,hb,hB⟩
  ·exact h
  ·exfalso
   unfold rt at hb
   split at hb
   ·cases hb
   ·rename_i h3
    cases hb
    have hsh:=hs g hg
    unfold cov at hcv
    rw [hbit _ (by omega),Int.toNat_of_nonneg hsh.1,hB] at hcv
    simp at hcv
    exact h3 hcv
 have h2:uB.countP (bOf m)≤uB.countP B:=by
  have:∀ l:List Int,(∀ k∈l,0≤k∧k≤8)→l.countP (bOf m)≤l.countP B:=fun l hl=>by
   refine Nat.le_of_eq (List.countP_congr fun k hk=>?_)
   have:=hl k hk
   unfold bOf
   rw [hbit _ (by omega),Int.toNat_of_nonneg this.1]
  exact this uB fun k hk=>(xAF k).1 hk
 unfold size
 omega
theorem xtp {uk M:List (List Int)} (hs:xcY uk) (hsub:∀ g∈M,g∈uk) (hM:M.Pairwise (xrj lft rt)):M.length≤(fewF uk).length:=by
 obtain ⟨m,hm,he⟩:=(xno hs).1
 rw [he,← xxT m uk]
 exact weak hM (fun e hh=>xCO m uk e (hsub e hh)) (xzh hs hsub)
theorem xwL {uk:List (List Int)} (hs:xcY uk):∃ M:List (List Int),M.Sublist uk∧M.Pairwise (xrj lft rt)∧M.length=(fewF uk).length:=by
 obtain ⟨M,h1,h2,A,B,h3,h4⟩:=xAU (l:=lft) (r:=rt) (xlc 0 uk) xvV uk.length uk (Nat.le_refl _) (xzh hs fun g h=>h)
 refine ⟨M,h1,h2,Nat.le_antisymm (xtp hs (fun g hg=>h1.subset hg) h2) ?_⟩
 rw [← h4]
 exact xwC hs h3
end Go.Proofs.YthfjhbbpdhjklaaGreat
set_option linter.unusedVariables false
set_option maxRecDepth 100000
namespace Go.Proofs.YthfjhbbpdhjklaaGreat
open Go Go.Sy Go.Koen
def xo6 (gs:List (List Int)):Prop:=gs.Pairwise fun a b=>ltK (kOf a) (kOf b)
theorem xqz {a b:Key} (h:ltK a b):a≠b:=fun e=>by subst e; unfold ltK at h; omega
theorem xkI (g h:List Int):(col g 0==col h 0&&(col g 1==col h 1&&true))=decide (kOf g=kOf h):=by
 by_cases e:kOf g=kOf h
 ·obtain ⟨h1,h2⟩:=Prod.mk.inj e
  rw [decide_eq_true e,h1,h2]; simp
 ·rw [decide_eq_false e]
  cases hb:(col g 0==col h 0&&(col g 1==col h 1&&true)) with
  | false=>rfl
  | true =>
   simp only [Bool.and_eq_true,beq_iff_eq] at hb
   exact absurd (Prod.ext hb.1 hb.2.1) e
theorem xCt {g h:List Int} (he:lft g=lft h):(col g 2≠0∧col h 2≠0∧col g 1=col h 1)∨(col g 2=0∧col h 2=0∧kOf g=kOf h):=by
 unfold lft at he
 by_cases h1:col g 2=0<;>by_cases h2:col h 2=0
 ·rw [if_pos h1,if_pos h2] at he
  right
  simp only [List.cons.injEq,and_true,true_and] at he
  exact ⟨h1,h2,Prod.ext he.1 he.2⟩
 ·rw [if_pos h1,if_neg h2] at he
  simp at he
 ·rw [if_neg h1,if_pos h2] at he
  simp at he
 ·rw [if_neg h1,if_neg h2] at he
  left
  simp only [List.cons.injEq,and_true,true_and] at he
  exact ⟨h1,h2,he⟩
theorem xzA {g h:List Int} (ha:apF g h=true):xrj lft rt g h:=by
 unfold apF at ha
 rw [xkI] at ha
 simp only [Bool.and_eq_true,Bool.not_eq_true'] at ha
 obtain ⟨⟨h1,h2⟩,h3⟩:=ha
 have h1:=of_decide_eq_false h1
 refine ⟨fun e=>?_,fun b hb hb'=>?_⟩
 ·rcases xCt e with ⟨a1,a2,a3⟩ | ⟨_,_,a3⟩
  ·have e1:(col g 2 !=0)=true:=by simpa using a1
   have e2:(col h 2 !=0)=true:=by simpa using a2
   rw [e1,e2,a3] at h2
   simp at h2
  ·exact h1 a3
 ·unfold rt at hb hb'
  split at hb
  ·cases hb
  ·split at hb'
   ·cases hb'
   ·rename_i q1 q2
    cases hb
    have e1:(col g 3 !=0)=true:=by simpa using q1
    have e2:(col h 3 !=0)=true:=by simpa using q2
    have e3:col h 0=col g 0:=by injection hb'
    rw [e1,e2,e3] at h3
    simp at h3
theorem xzz {g h:List Int} (hk:kOf g≠kOf h) (ha:xrj lft rt g h):apF g h=true:=by
 obtain ⟨h1,h2⟩:=ha
 unfold apF
 rw [xkI,decide_eq_false hk]
 have e1:((col g 2 !=0)&&(col h 2 !=0)&&col g 1==col h 1)=false:=by
  cases hb:((col g 2 !=0)&&(col h 2 !=0)&&col g 1==col h 1) with
  | false=>rfl
  | true =>
   simp only [Bool.and_eq_true,bne_iff_ne,ne_eq,beq_iff_eq] at hb
   exact absurd (by unfold lft; rw [if_neg hb.1.1,if_neg hb.1.2,hb.2]) h1
 have e2:((col g 3 !=0)&&(col h 3 !=0)&&col g 0==col h 0)=false:=by
  cases hb:((col g 3 !=0)&&(col h 3 !=0)&&col g 0==col h 0) with
  | false=>rfl
  | true =>
   simp only [Bool.and_eq_true,bne_iff_ne,ne_eq,beq_iff_eq] at hb
   exact absurd (by unfold rt; rw [if_neg hb.1.2,hb.2]) (h2 (col g 0) (by unfold rt; rw [if_neg hb.1.1]))
 rw [e1,e2]; rfl
theorem xwM (g h:List Int):apF g h=apF h g:=by
 unfold apF
 rw [xkI,xkI]
 have c1:decide (kOf g=kOf h)=decide (kOf h=kOf g):=decide_eq_decide.2 ⟨Eq.symm,Eq.symm⟩
 have c2:(col g 1==col h 1)=(col h 1==col g 1):=by rw [Bool.eq_iff_iff,beq_iff_eq,beq_iff_eq]; exact ⟨Eq.symm,Eq.symm⟩
 have c3:(col g 0==col h 0)=(col h 0==col g 0):=by rw [Bool.eq_iff_iff,beq_iff_eq,beq_iff_eq]; exact ⟨Eq.symm,Eq.symm⟩
 rw [c1,c2,c3,Bool.and_comm (col g 2 !=0),Bool.and_comm (col g 3 !=0)]
theorem xv7:∀ (k:Nat) (gs:List (List Int)),xcY gs→xo6 gs→(fewF gs).length<k→∃ M:List (List Int),M.Sublist gs∧M.Pairwise (fun a b=>apF a b=true)∧M.length=(fewF gs).length∧prF k ((fewF gs).length:Nat) gs=xdS M
 | 0,gs,_,_,h=>by omega
 | k+1,gs,hs,hu,hk=>by
  generalize hn:(fewF gs).length=n at *
  by_cases h0:n=0
  ·subst h0
   exact ⟨[],List.nil_sublist _,List.Pairwise.nil,rfl,rfl⟩
  ·have hgo:∀ (r:List (List Int)),xcY r→xo6 r→(∃ M:List (List Int),M.Sublist r∧M.Pairwise (xrj lft rt)∧M.length=n)→(∀ M:List (List Int),M.Sublist r→M.Pairwise (xrj lft rt)→M.length≤n) →
     ∃ M:List (List Int),M.Sublist r∧M.Pairwise (fun a b=>apF a b=true)∧M.length=n∧goP (prF k) n r=xdS M:=by
    intro r
    induction r with
    | nil =>
     rintro _ _ ⟨M,h1,_,h3⟩ _
     have:M=[]:=List.eq_nil_of_sublist_nil h1
     subst this
     exact absurd h3.symm h0
    | cons g r ih =>
     intro hsr hur ⟨M,h1,h2,h3⟩ hmax
     have hr:xcY r:=fun x hx=>hsr x (List.mem_cons_of_mem _ hx)
     obtain ⟨hu1,hu2⟩:=List.pairwise_cons.1 hur
     have hsubf:∀ x∈r.filter (apF g),x∈r:=fun x hx=>(List.mem_filter.1 hx).1
     have hrf:xcY (r.filter (apF g)):=fun x hx=>hr x (hsubf x hx)
     have huf:xo6 (r.filter (apF g)):=List.Pairwise.filter _ hu2
     unfold goP
     by_cases hc:((fewF (r.filter (apF g))).length:Int)=n-1
     ·rw [if_pos hc]
      obtain ⟨M',m1,m2,m3,m4⟩:=xv7 k (r.filter (apF g)) hrf huf (by omega)
      refine ⟨g::M',(m1.trans (List.filter_sublist (p:=apF g))).cons_cons g,List.pairwise_cons.2 ⟨fun x hx=>(List.mem_filter.1 (m1.subset hx)).2,m2⟩,by rw [List.length_cons]; omega,?_⟩
      rw [← hc]
      rw [m4]
      rfl
     ·rw [if_neg hc]
      have hin:∃ M:List (List Int),M.Sublist r∧M.Pairwise (xrj lft rt)∧M.length=n:=by
       cases h1 with
       | cons _ h1=>exact ⟨M,h1,h2,h3⟩
       | cons_cons _ h1 =>
        rename_i M0
        exfalso
        obtain ⟨q1,q2⟩:=List.pairwise_cons.1 h2
        have hM0:∀ x∈M0,x∈r.filter (apF g):=fun x hx=>List.mem_filter.2 ⟨h1.subset hx,xzz (xqz (hu1 x (h1.subset hx))) (q1 x hx)⟩
        have l1:=xtp hrf hM0 q2
        obtain ⟨M1,a1,a2,a3⟩:=xwL hrf
        have l2:=hmax (g::M1) ((a1.trans (List.filter_sublist (p:=apF g))).cons_cons g) (List.pairwise_cons.2 ⟨fun x hx=>xzA (List.mem_filter.1 (a1.subset hx)).2,a2⟩)
        rw [List.length_cons] at l2 h3
        omega
      obtain ⟨M',m1,m2,m3,m4⟩:=ih hr hu2 hin fun M hM hp=>hmax M (hM.cons g) hp
      exact ⟨M',m1.cons g,m2,m3,m4⟩
   obtain ⟨M,e1,e2,e3⟩:=xwL hs
   have:=hgo gs hs hu ⟨M,e1,e2,by rw [e3,hn]⟩ fun M hM hp=>by rw [← hn]; exact xtp hs (fun g hg=>hM.subset hg) hp
   obtain ⟨M',m1,m2,m3,m4⟩:=this
   refine ⟨M',m1,m2,m3,?_⟩
   show (if (n:Int)=0 then [] else goP (prF k) n gs)=_
   rw [if_neg (by omega)]
   exact m4
def imA (gs:List (List Int)) (o:List Int):Option (List Int):=if col o 0=1 then some [1,0,col o 2] else if col o 0=3 then (gs.find? fun g=>decide (kOf g=(col o 1,col o 2))).map lft else none
def imB (o:List Int):Option Int:=if col o 0=2 then some (col o 1) else none
theorem xA0 (gs:List (List Int)):∀ om:List (List Int),(om.filterMap (imA gs)).length+(om.filterMap imB).length≤om.length
 | []=>Nat.le_refl _
 | o::r=>by
  have ih:=xA0 gs r
  rw [List.filterMap_cons,List.filterMap_cons,List.length_cons]
  unfold imA imB
  by_cases h1:col o 0=1
  ·rw [if_pos h1,if_neg (by omega)]
   simp only [List.length_cons]
   unfold imA imB at ih
   omega
  ·rw [if_neg h1]
   by_cases h2:col o 0=2
   ·rw [if_neg (by omega),if_pos h2]
    simp only [List.length_cons]
    unfold imA imB at ih
    omega
   ·rw [if_neg h2]
    unfold imA imB at ih
    by_cases h3:col o 0=3
    ·rw [if_pos h3]
     cases (gs.find? fun g=>decide (kOf g=(col o 1,col o 2))).map lft with
     | none=>show (List.filterMap _ r).length+(List.filterMap _ r).length≤_; omega
     | some z=>show (z::List.filterMap _ r).length+(List.filterMap _ r).length≤_; rw [List.length_cons]; omega
    ·rw [if_neg h3]
     show (List.filterMap _ r).length+(List.filterMap _ r).length≤_
     omega
theorem xwD {α:Type} [DecidableEq α] {U L:List α} {p:α→Bool} (h:U.Nodup) (hp:∀ x,p x=true→x∈L):U.countP p≤L.length:=by
 rw [List.countP_eq_length_filter]
 exact xf4 (h.filter _) fun x hx=>hp x (List.mem_filter.1 hx).2
theorem xzf {gs om:List (List Int)} (hs:xcY gs) (hu:xo6 gs) (h:∀ g∈gs,∃ o∈om,canF g o=true):(fewF gs).length≤om.length:=by
 have hc:∀ e∈gs,Cov lft rt (fun x=>decide (x∈om.filterMap (imA gs))) (fun b=>decide (b∈om.filterMap imB)) e:=by
  intro g hg
  obtain ⟨o,ho,hcan⟩:=h g hg
  unfold canF at hcan
  cases h1:(col o 0==1&&(col o 1==0&&(col o 2==col g 1&&true))) with
  | true =>
   rw [h1,cond_true] at hcan
   simp only [Bool.and_eq_true,beq_iff_eq] at h1
   refine .inl (decide_eq_true (List.mem_filterMap.2 ⟨o,ho,?_⟩))
   unfold imA lft
   rw [if_pos h1.1,if_neg (by simpa using hcan),h1.2.2.1]
  | false =>
   rw [h1,cond_false] at hcan
   cases h2:(col o 0==2&&(col o 1==col g 0&&(col o 2==0&&true))) with
   | true =>
    rw [h2,cond_true] at hcan
    simp only [Bool.and_eq_true,beq_iff_eq] at h2
    refine .inr ⟨col g 0,?_,decide_eq_true (List.mem_filterMap.2 ⟨o,ho,?_⟩)⟩
    ·unfold rt
     rw [if_neg (by simpa using hcan)]
    ·unfold imB
     rw [if_pos h2.1,h2.2.1]
   | false =>
    rw [h2,cond_false] at hcan
    simp only [Bool.and_eq_true,beq_iff_eq] at hcan
    refine .inl (decide_eq_true (List.mem_filterMap.2 ⟨o,ho,?_⟩))
    unfold imA
    rw [if_neg (by omega),if_pos hcan.1]
    have hkey:kOf g=(col o 1,col o 2):=Prod.ext hcan.2.1.symm hcan.2.2.1.symm
    cases hf:gs.find? fun g=>decide (kOf g=(col o 1,col o 2)) with
    | none =>
     have:=List.find?_eq_none.1 hf g hg
     exact absurd (decide_eq_true hkey) this
    | some g' =>
     have hk':kOf g'=(col o 1,col o 2):=of_decide_eq_true (List.find?_some (p:=fun g=>decide (kOf g=(col o 1,col o 2))) hf)
     have hm:=List.mem_of_find?_eq_some hf
     have:g'=g:=by
      obtain ⟨i,hi⟩:=List.mem_iff_getElem?.1 hm
      obtain ⟨j,hj⟩:=List.mem_iff_getElem?.1 hg
      obtain ⟨hi1,hi2⟩:=List.getElem?_eq_some_iff.1 hi
      obtain ⟨hj1,hj2⟩:=List.getElem?_eq_some_iff.1 hj
      have hp:=List.pairwise_iff_getElem.1 hu
      rcases Nat.lt_trichotomy i j with hlt | hlt | hlt
      ·have:=xqz (hp i j hi1 hj1 hlt)
       rw [hi2,hj2,hk',hkey] at this
       exact absurd rfl this
      ·subst hlt; rw [← hi2,← hj2]
      ·have:=xqz (hp j i hj1 hi1 hlt)
       rw [hi2,hj2,hk',hkey] at this
       exact absurd rfl this
     rw [this]; rfl
 have h0:=xwC hs hc
 unfold size at h0
 have h1:=xwD (U:=byF 0 gs) (L:=om.filterMap (imA gs)) (p:=fun x=>decide (x∈om.filterMap (imA gs))) (xlc 0 gs) fun x hx=>of_decide_eq_true hx
 have h2:=xwD (U:=uB) (L:=om.filterMap imB) (p:=fun b=>decide (b∈om.filterMap imB)) xvV fun x hx=>of_decide_eq_true hx
 have h3:=xA0 gs om
 exact Nat.le_trans h0 (Nat.le_trans (Nat.add_le_add h1 h2) h3)
theorem xwA {gs:List (List Int)} (hs:xcY gs):∀ g∈gs,∃ o∈fewF gs,canF g o=true:=by
 intro g hg
 obtain ⟨m,hm,he⟩:=(xno hs).1
 rw [he]
 have hsh:=hs g hg
 cases hc:cov m g with
 | true =>
  unfold cov at hc
  rw [Bool.and_eq_true] at hc
  refine ⟨rOn (col g 0).toNat,(xjJ _ _ _).2 (.inl ⟨_,by omega,hc.2,rfl⟩),?_⟩
  unfold canF
  have e:col (rOn (col g 0).toNat) 1=col g 0:=Int.toNat_of_nonneg hsh.1
  rw [e]
  show (bif (2==(1:Int))&&_ then _ else bif (2:Int)==2&&(col g 0==col g 0&&((0:Int)==0&&true)) then col g 3 !=0 else _)=true
  simp only [beq_self_eq_true,Bool.and_self,cond_true]
  exact hc.1
 | false =>
  refine ⟨lft g,(xjJ _ _ _).2 (.inr ⟨g,hg,hc,rfl⟩),?_⟩
  unfold canF lft
  by_cases h2:col g 2=0
  ·rw [if_pos h2]
   show (bif (3==(1:Int))&&_ then _ else bif (3:Int)==2&&_ then _ else (3:Int)==3&&(col g 0==col g 0&&(col g 1==col g 1&&true)))=true
   simp
  ·rw [if_neg h2]
   show (bif (1:Int)==1&&((0:Int)==0&&(col g 1==col g 1&&true)) then col g 2 !=0 else _)=true
   simpa using h2
theorem xoK {α:Type} {R:α→α→Prop} {l:List α} (h:l.Pairwise R) {i:Nat} (hi:i+1<l.length):R l[i] l[i+1]:=List.pairwise_iff_getElem.1 h i (i+1) (by omega) hi (by omega)
theorem xBi {gs:List (List Int)} (hs:xcY gs) (hu:xo6 gs) {k:Nat} (hk:(fewF gs).length<k):verF gs (fewF gs) (prF k ((fewF gs).length:Nat) gs)=true∧(prF k ((fewF gs).length:Nat) gs).length=(fewF gs).length:=by
 obtain ⟨M,m1,m2,m3,m4⟩:=xv7 k gs hs hu hk
 rw [m4]
 have hl:(xdS M).length=M.length:=by simp [xdS]
 refine ⟨?_,by rw [hl,m3]⟩
 obtain ⟨m,hm,he⟩:=(xno hs).1
 have r1:xjo cfO (fewF gs)=true:=(xkj _ _).2 fun i hi=>by
  have hp:=(xtm m gs).1
  rw [← he] at hp
  exact (xwH _ _).2 (xoK hp hi)
 have huM:xo6 M:=List.Pairwise.sublist m1 hu
 have r2:xjo cfG (xdS M)=true:=(xkj _ _).2 fun i hi=>by
  have hi':i+1<M.length:=by rw [← hl]; exact hi
  have:=xoK huM hi'
  have e:∀ j (hj:j<(xdS M).length) (hj':j<M.length),(xdS M)[j]=[col M[j] 0,col M[j] 1]:=fun j hj hj'=>by simp [xdS]
  rw [e i (by omega) (by omega),e (i+1) hi hi']
  rw [xBa]
  unfold cmp2
  unfold ltK kOf at this
  show (if col M[i] 0<col M[i+1] 0 then (-1:Int) else if col M[i+1] 0<col M[i] 0 then 1 else if col M[i] 1<col M[i+1] 1 then -1 else if col M[i+1] 1<col M[i] 1 then 1 else 0)<0
  have this:col M[i] 0<col M[i+1] 0∨(col M[i] 0=col M[i+1] 0∧col M[i] 1<col M[i+1] 1):=this
  rcases this with h | ⟨h,h'⟩
  ·rw [if_pos h]; decide
  ·rw [if_neg (by omega),if_neg (by omega),if_pos h']; decide
 have hall:∀ g∈gs,(fewF gs).any (canF g)=true:=fun g hg=>by
  obtain ⟨o,ho,hc⟩:=xwA hs g hg
  exact List.any_eq_true.2 ⟨o,ho,hc⟩
 have hkey:∀ g∈gs,((xdS M).any (keyB g)=true↔g∈M):=fun g hg=>by
  rw [List.any_eq_true]
  constructor
  ·rintro ⟨p,hp,hk'⟩
   obtain ⟨x,hx,rfl⟩:=List.mem_map.1 hp
   have e:kOf g=kOf x:=by
    unfold keyB at hk'
    have h2:(col g 0==col x 0&&(col g 1==col x 1&&true))=true:=hk'
    rw [xkI] at h2
    exact of_decide_eq_true h2
   have hxg:=m1.subset hx
   obtain ⟨i,hi⟩:=List.mem_iff_getElem?.1 hxg
   obtain ⟨j,hj⟩:=List.mem_iff_getElem?.1 hg
   obtain ⟨hi1,hi2⟩:=List.getElem?_eq_some_iff.1 hi
   obtain ⟨hj1,hj2⟩:=List.getElem?_eq_some_iff.1 hj
   have hp:=List.pairwise_iff_getElem.1 hu
   rcases Nat.lt_trichotomy i j with hlt | hlt | hlt
   ·have:=xqz (hp i j hi1 hj1 hlt)
    rw [hi2,hj2,e] at this
    exact absurd rfl this
   ·subst hlt
    rw [show g=x by rw [← hi2,← hj2]]; exact hx
   ·have:=xqz (hp j i hj1 hi1 hlt)
    rw [hi2,hj2,e] at this
    exact absurd rfl this
  ·intro hg'
   refine ⟨[col g 0,col g 1],List.mem_map.2 ⟨g,hg',rfl⟩,?_⟩
   show (col g 0==col g 0&&(col g 1==col g 1&&true))=true
   simp
 have hrun:∀ (r done:List (List Int)),(∀ g∈r,g∈gs)→(∀ g∈r,∀ h∈done,g∈M→apF g h=true)→r.Pairwise (fun a b=>a∈M→b∈M→apF a b=true) →
   verL (fewF gs) (xdS M) done r=some (done++r.filter fun g=>decide (g∈M)):=by
  intro r
  induction r with
  | nil=>intro done _ _ _; simp [verL]
  | cons g r ih =>
   intro done hr hd hp
   obtain ⟨p1,p2⟩:=List.pairwise_cons.1 hp
   have hgm:=hr g List.mem_cons_self
   unfold verL
   rw [if_pos (hall g hgm)]
   by_cases hin:g∈M
   ·rw [if_pos ((hkey g hgm).2 hin)]
    have hno:¬ (done.any fun h=>!apF g h)=true:=by
     rw [List.any_eq_true]
     rintro ⟨h,hh,hh'⟩
     rw [hd g List.mem_cons_self h hh hin] at hh'
     cases hh'
    rw [if_neg hno,ih (done++[g]) (fun x hx=>hr x (List.mem_cons_of_mem _ hx)) (fun x hx h hh hxM=>?_) p2,List.filter_cons_of_pos (by simpa using hin),List.append_assoc]
    ·rfl
    ·rcases List.mem_append.1 hh with hh | hh
     ·exact hd x (List.mem_cons_of_mem _ hx) h hh hxM
     ·rw [List.mem_singleton.1 hh,xwM]
      exact p1 x hx hin hxM
   ·rw [if_neg (fun h=>hin ((hkey g hgm).1 h)),ih done (fun x hx=>hr x (List.mem_cons_of_mem _ hx)) (fun x hx h hh=>hd x (List.mem_cons_of_mem _ hx) h hh) p2,List.filter_cons_of_neg (by simpa using hin)]
 have hfil:gs.filter (fun g=>decide (g∈M))=M:=by
  have hnd:gs.Pairwise (·≠·):=hu.imp fun {a b} h (e:a=b)=>xqz h (congrArg kOf e)
  clear hrun hkey hall r1 r2 m2 m3 m4 hl huM he hm hk hu hs
  induction m1 with
  | slnil=>rfl
  | cons a h ih =>
   rename_i l1 l2
   obtain ⟨q1,q2⟩:=List.pairwise_cons.1 hnd
   rw [List.filter_cons_of_neg (by simpa using fun hm=>q1 a (h.subset hm) rfl)]
   exact ih q2
  | cons_cons a h ih =>
   rename_i l1 l2
   obtain ⟨q1,q2⟩:=List.pairwise_cons.1 hnd
   rw [List.filter_cons_of_pos (by simp)]
   congr 1
   rw [← ih q2]
   refine List.filter_congr fun x hx=>decide_eq_decide.2 ?_
   rw [ih q2,List.mem_cons]
   exact ⟨fun hx'=>hx'.resolve_left fun e=>q1 x hx e.symm,.inr⟩
 have hpw:gs.Pairwise fun a b=>a∈M→b∈M→apF a b=true:=by
  have hsym:∀ a∈M,∀ b∈M,a≠b→apF a b=true:=by
   intro a ha b hb hne
   obtain ⟨i,hi⟩:=List.mem_iff_getElem?.1 ha
   obtain ⟨j,hj⟩:=List.mem_iff_getElem?.1 hb
   obtain ⟨hi1,hi2⟩:=List.getElem?_eq_some_iff.1 hi
   obtain ⟨hj1,hj2⟩:=List.getElem?_eq_some_iff.1 hj
   have hp:=List.pairwise_iff_getElem.1 m2
   rcases Nat.lt_trichotomy i j with hlt | hlt | hlt
   ·have:=hp i j hi1 hj1 hlt
    rwa [hi2,hj2] at this
   ·subst hlt
    exact absurd (by rw [← hi2,← hj2]) hne
   ·have:=hp j i hj1 hi1 hlt
    rw [hi2,hj2] at this
    rw [xwM]; exact this
  exact hu.imp fun {a b} h ha hb=>hsym a ha b hb fun (e:a=b)=>xqz h (congrArg kOf e)
 unfold verF
 rw [hrun gs [] (fun g h=>h) (fun g _ h hh=>by cases hh) hpw,r1,r2,List.nil_append,hfil]
 simp [xdS,m3]
theorem xBX (uj:List (List Int)) (logs:List ALog) (tm dl:Int) (uk:List (List Int)):xo6 (xdj uj logs tm dl uk):=by
 obtain ⟨ks,h1,_,h3⟩:=xlm uj logs tm dl uk
 rw [h3]
 unfold xo6
 rw [List.pairwise_map]
 exact h1
end Go.Proofs.YthfjhbbpdhjklaaGreat
set_option linter.unusedVariables false
set_option maxRecDepth 100000
namespace Go.Proofs.YthfjhbbpdhjklaaGreat
open Go Go.Sy
theorem xxf (j:Nat) (d:Int) (l:List (List Int)) (y:List Int):xgS j d (l++[y])=col y j:=by
 unfold xgS
 rw [List.getLast?_append]
 rfl
theorem xvf (j:Nat) (d:Int) (x:List Int) (r:List (List Int)):xgS j d (x::r)=xgS j (col x j) r:=by
 unfold xgS
 cases r with
 | nil=>rfl
 | cons a b =>
  rw [List.getLast?_cons_cons]
  cases h:(a::b).getLast? with
  | none=>simp at h
  | some z=>rfl
def swS (b:Bool) (l:List (List Int)):Bool:=l.foldl (fun b x=>if clsF (col x 1)=3 then col x 1==5 else b) b
def swOk:Bool→List (List Int)→Bool
 | _,[]=>true
 | b,x::r=>if clsF (col x 1)=3 then (b==(col x 1==4))&&swOk (col x 1==5) r else swOk b r
theorem xyp {t:Int}:∀ {l:List (List Int)} (b:Bool),(∀ x∈l,col x 0≤t)→onF t b l=swS b l
 | [],b,_=>rfl
 | x::r,b,h=>by
  unfold onF swS
  rw [if_neg (by have:=h x List.mem_cons_self; omega),List.foldl_cons]
  exact xyp _ fun y hy=>h y (List.mem_cons_of_mem _ hy)
theorem xDW {k:Int} (h:clsF k=3):(k==5)=!(k==4):=by
 rcases (cls3 k).1 h with h | h<;>rw [h]<;>rfl
theorem xzG {o:Int} {y:List Int} (h1:lnF (col y 0) (col y 1) (col y 2)=true) (h2:ownF o (col y 1)=true) (l:List (List Int)):∀ (off:Bool) (last now:Int),vldF o off last now l=true→xgS 0 now l≤col y 0→col y 3=sumF o (xgS 3 last l) (col y 0) (col y 1) (col y 2) →
  (clsF (col y 1)=3→swS (!off) l=(col y 1==4))→vldF o off last now (l++[y])=true:=by
 induction l with
 | nil =>
  intro off last now _ hle hs hsw
  have hle:now≤col y 0:=hle
  have el:xgS 3 last []=last:=rfl
  rw [el] at hs
  have e:¬ (!lnF (col y 0) (col y 1) (col y 2)||!ownF o (col y 1)||decide (col y 0<now)||col y 3 !=sumF o last (col y 0) (col y 1) (col y 2))=true:=by
   rw [h1,h2,decide_eq_false (show ¬ col y 0<now by omega),hs]
   simp
  rw [List.nil_append,vldF,if_neg e]
  by_cases h3:clsF (col y 1)=3
  ·rw [if_pos h3]
   have:=hsw h3
   have this:(!off)=(col y 1==4):=this
   rw [if_neg (by rw [← this]; cases off<;>decide),vldF]
  ·rw [if_neg h3,vldF]
 | cons x r ih =>
  intro off last now h hle hs hsw
  rw [List.cons_append]
  rw [xvf] at hle hs
  unfold vldF at h ⊢
  split at h
  ·cases h
  ·rename_i q1
   rw [if_neg q1]
   split at h
   ·rename_i q2
    rw [if_pos q2]
    split at h
    ·cases h
    ·rename_i q3
     rw [if_neg q3]
     refine ih _ _ _ h hle hs fun h3=>?_
     rw [← hsw h3]
     unfold swS
     rw [List.foldl_cons,if_pos q2,xDW q2]
     have:off=!(col x 1==4):=by cases off<;>cases hx:(col x 1==4)<;>rw [hx] at q3<;>first | rfl | exact absurd rfl q3
     rw [this,Bool.not_not]
   ·rename_i q2
    rw [if_neg q2]
    refine ih _ _ _ h hle hs fun h3=>?_
    rw [← hsw h3]
    unfold swS
    rw [List.foldl_cons,if_neg q2]
def tri (x:List Int):List Int:=[col x 0,col x 1,col x 2]
def lgF (o:Int):List (List Int)→List (List Int)→Option (List (List Int))
 | l,[]=>some l
 | l,x::r=>if addE o (col x 0) (col x 1) (col x 2) l=0 then lgF o (addL o (col x 0) (col x 1) (col x 2) l) r else none
theorem xCs {o:Int} (ho:0≤o∧o≤8):∀ (r l:List (List Int)),valF o l=true→l.length+r.length≤200→(∀ x∈r,lnF (col x 0) (col x 1) (col x 2)=true∧ownF o (col x 1)=true)→r.Pairwise (fun a b=>col a 0≤col b 0)→(∀ x∈r,xgS 0 (-1) l≤col x 0) →
  swOk (swS true l) r=true→∃ l',lgF o l r=some l'∧valF o l'=true∧l'.map tri=l.map tri++r.map tri
 | [],l,hv,_,_,_,_,_=>⟨l,rfl,hv,by simp⟩
 | x::r,l,hv,hlen,hx,hpw,hlast,hsw=>by
  obtain ⟨q1,q2⟩:=List.pairwise_cons.1 hpw
  obtain ⟨x1,x2⟩:=hx x List.mem_cons_self
  rw [List.length_cons] at hlen
  have ht:∀ y∈l,col y 0≤10000000:=fun y hy=>by
   have:=((xvU hv).1 y hy).2.1
   unfold lnF tmF at this
   split at this
   ·cases this
   ·split at this
    ·simp only [Bool.and_eq_true,decide_eq_true_eq] at this; exact this.1.2
    ·simp only [Bool.and_eq_true,decide_eq_true_eq] at this; exact this.1.2
  have hon:onF 10000000 true l=swS true l:=xyp true ht
  have hswx:clsF (col x 1)=3→swS true l=(col x 1==4)∧swOk (col x 1==5) r=true:=fun h3=>by
   unfold swOk at hsw
   rw [if_pos h3,Bool.and_eq_true,beq_iff_eq] at hsw
   exact hsw
  have hE:addE o (col x 0) (col x 1) (col x 2) l=0:=by
   unfold addE
   rw [hv,x1,x2,if_neg (by decide),if_neg (by decide),if_neg (by omega),if_neg (by have:=hlast x List.mem_cons_self; omega),hon]
   have h4:¬ (col x 1==4&&!swS true l)=true:=fun h=>by
    rw [Bool.and_eq_true,beq_iff_eq] at h
    have:=(hswx ((cls3 _).2 (.inl h.1))).1
    rw [this,h.1] at h
    exact absurd h.2 (by decide)
   have h5:¬ (col x 1==5&&swS true l)=true:=fun h=>by
    rw [Bool.and_eq_true,beq_iff_eq] at h
    have:=(hswx ((cls3 _).2 (.inr h.1))).1
    rw [this,h.1] at h
    exact absurd h.2 (by decide)
   rw [if_neg h4,if_neg h5]
  have hA:addL o (col x 0) (col x 1) (col x 2) l=l++[[col x 0,col x 1,col x 2,sumF o (xgS 3 0 l) (col x 0) (col x 1) (col x 2)]]:=by
   unfold addL
   rw [if_pos hE]
  have hv':valF o (addL o (col x 0) (col x 1) (col x 2) l)=true:=by
   rw [hA]
   have hvl:vldF o false 0 0 l=true:=by
    unfold valF at hv
    rw [Bool.and_eq_true] at hv
    exact hv.2
   have hl2:(l++[[col x 0,col x 1,col x 2,sumF o (xgS 3 0 l) (col x 0) (col x 1) (col x 2)]]).length≤200:=by
    rw [List.length_append,List.length_cons,List.length_nil]; omega
   unfold valF
   rw [decide_eq_true ho.1,decide_eq_true ho.2,decide_eq_true hl2,Bool.true_and,Bool.true_and,Bool.true_and]
   generalize hz:sumF o (xgS 3 0 l) (col x 0) (col x 1) (col x 2)=z
   refine xzG (y:=[col x 0,col x 1,col x 2,z]) x1 x2 l false 0 0 hvl ?_ hz.symm fun h3=>(hswx h3).1
   show xgS 0 0 l≤col x 0
   have h1:=hlast x List.mem_cons_self
   have h2:0≤col x 0:=by
    unfold lnF tmF at x1
    split at x1
    ·cases x1
    ·split at x1
     ·simp only [Bool.and_eq_true,decide_eq_true_eq] at x1; exact x1.1.1
     ·simp only [Bool.and_eq_true,decide_eq_true_eq] at x1; exact x1.1.1
   unfold xgS at h1 ⊢
   cases hl:l.getLast? with
   | none=>exact h2
   | some z=>rw [hl] at h1; exact h1
  have hsw':swOk (swS true (addL o (col x 0) (col x 1) (col x 2) l)) r=true:=by
   rw [hA]
   unfold swS
   rw [List.foldl_append]
   show swOk (if clsF (col x 1)=3 then col x 1==5 else swS true l) r=true
   by_cases h3:clsF (col x 1)=3
   ·rw [if_pos h3]; exact (hswx h3).2
   ·rw [if_neg h3]
    unfold swOk at hsw
    rw [if_neg h3] at hsw
    exact hsw
  have hl3:(addL o (col x 0) (col x 1) (col x 2) l).length+r.length≤200:=by
   have:=xAw o (col x 0) (col x 1) (col x 2) l
   omega
  obtain ⟨l',a1,a2,a3⟩:=xCs ho r (addL o (col x 0) (col x 1) (col x 2) l) hv' hl3 (fun y hy=>hx y (List.mem_cons_of_mem _ hy)) q2
   (fun y hy=>by rw [hA,xxf]; exact q1 y hy) hsw'
  refine ⟨l',?_,a2,?_⟩
  ·unfold lgF
   rw [if_pos hE]
   exact a1
  ·rw [a3,hA,List.map_append]
   simp [tri]
theorem xxX (n t:Int) (l:List (List Int)):xmK n t (l.map tri)=xmK n t l:=by
 unfold xmK
 rw [List.any_map]
 rfl
theorem xu0 (t:Int):∀ (l:List (List Int)) (b:Bool),onF t b (l.map tri)=onF t b l
 | [],b=>rfl
 | x::r,b=>by
  have e1:onF t b ((x::r).map tri)=if col x 0>t then b else onF t (if clsF (col x 1)=3 then col x 1==5 else b) (r.map tri):=rfl
  have e2:onF t b (x::r)=if col x 0>t then b else onF t (if clsF (col x 1)=3 then col x 1==5 else b) r:=rfl
  rw [e1,e2,xu0 t r]
theorem xpY (t:Int):∀ l:List (List Int),xiM t (l.map tri)=xiM t l
 | []=>rfl
 | x::r=>by
  rw [List.map_cons]
  unfold xiM
  rw [xpY t r]
  rfl
end Go.Proofs.YthfjhbbpdhjklaaGreat
set_option linter.unusedVariables false
set_option maxRecDepth 100000
namespace Go.Proofs.YthfjhbbpdhjklaaGreat
open Go Go.Sy
theorem xuN {x:List Int} (h:x.length=3):tri x=x:=by
 match x,h with
 | [a,b,c],_=>rfl
theorem xzF {k:Nat} (h:k<9223372036854775807) (h0:0<k):IntKind.i64.wrap ((k:Int)-1)=((k-1:Nat):Int):=by
 rw [xfv (by omega)]; omega
def InsS (S L:List (List Int)) (k:Nat):Prop:=k≤S.length∧L.length=S.length+1∧L.take k=S.take k∧L.drop (k+1)=S.drop k
theorem xCC {S L:List (List Int)} {k:Nat} (h:InsS S L k) (h0:0<k) (hk:k-1<L.length) (hs:k-1<S.length):L[k-1]=S[k-1]:=by
 obtain ⟨_,_,h3,_⟩:=h
 have e1:(L.take k)[k-1]?=some L[k-1]:=by rw [List.getElem?_take_of_lt (by omega),List.getElem?_eq_getElem hk]
 have e2:(S.take k)[k-1]?=some S[k-1]:=by rw [List.getElem?_take_of_lt (by omega),List.getElem?_eq_getElem hs]
 rw [h3,e2] at e1
 exact (Option.some.inj e1).symm
theorem xAe {S L:List (List Int)} {k:Nat} (h:InsS S L k) (h0:0<k) (hs:k-1<S.length):InsS S (L.set k S[k-1]) (k-1):=by
 obtain ⟨h1,h2,h3,h4⟩:=h
 refine ⟨by omega,by simpa using h2,?_,?_⟩
 ·rw [List.take_set_of_le (by omega)]
  have:=congrArg (List.take (k-1)) h3
  rw [List.take_take,List.take_take,Nat.min_eq_left (by omega)] at this
  exact this
 ·rw [show k-1+1=k from by omega]
  have e:(L.set k S[k-1]).drop k=S[k-1]::L.drop (k+1):=by
   rw [List.drop_eq_getElem_cons (by rw [List.length_set]; omega),List.getElem_set_self,List.drop_set_of_lt (by omega)]
  rw [e,h4,List.drop_eq_getElem_cons (i:=k-1) hs,show k-1+1=k from by omega]
theorem xAd {S L:List (List Int)} {k:Nat} (h:InsS S L k) (x:List Int):L.set k x=S.take k++x::S.drop k:=by
 obtain ⟨h1,h2,h3,h4⟩:=h
 have hk:k<L.length:=by omega
 rw [← List.take_append_drop k (L.set k x),List.take_set_of_le (Nat.le_refl _),h3]
 have e:(L.set k x).drop k=x::L.drop (k+1):=by
  rw [List.drop_eq_getElem_cons (by rw [List.length_set]; omega),List.getElem_set_self,List.drop_set_of_lt (by omega)]
 rw [e,h4]
def upT (a b:List Int):Prop:=col a 0≤col b 0
theorem xAc {o:Int} {lines S:List (List Int)} {i:Nat} (hi:i<lines.length) (hl:lines.length≤1000000) (hS:S.length≤1000000) (h3:∀ x∈S,x.length=3) :
  xax (xcn o lines [.i i,.r S]) (xdW o lines [.i i,.r S]) ∧
  ∃ k L,xcv o lines [.i i,.r S]=(2,[.i (k:Nat),.r L])∧InsS S L k∧(∀ (h0:0<k) (hk:k-1<S.length),col S[k-1] 0≤col lines[i] 0)∧∀ j (hj:j<S.length),k≤j→col lines[i] 0<col S[j] 0:=by
 have hg:lines.getD i []=lines[i]:=xbj hi
 have:=xd1 (step:=xcn o lines [.i i,.r S]) (S.length)
  (fun m ys=>∃ k L,ys=[.i (k:Nat),.r L]∧k+m=S.length∧InsS S L k∧∀ j (hj:j<S.length),k≤j→col lines[i] 0<col S[j] 0)
  (fun r=>∃ k L,r=(2,[.i (k:Nat),.r L])∧InsS S L k∧(∀ (h0:0<k) (hk:k-1<S.length),col S[k-1] 0≤col lines[i] 0)∧∀ j (hj:j<S.length),k≤j→col lines[i] 0<col S[j] 0)
  (fun m ys hm hI=>by
   obtain ⟨k,L,rfl,hk,hin,hgt⟩:=hI
   have h0:0<k:=by omega
   have hkS:k-1<S.length:=by omega
   have hkL:k-1<L.length:=by have:=hin.2.1; omega
   have hkL':k<L.length:=by have:=hin.2.1; omega
   have hr:inR ((k-1:Nat):Int) L:=xaw hkL
   have hr':inR ((k:Nat):Int) L:=xaw hkL'
   have eL:L.getD (k-1) []=S[k-1]:=by rw [xbj hkL,xCC hin h0 hkL hkS]
   have el:=h3 _ (List.getElem_mem hkS)
   unfold xcn xlC xlD
   simp only [gi_1,gi_z,gr_1,gr_z,xzF (show k<9223372036854775807 by omega) h0,Int.toNat_natCast]
   rw [xaa (fun _=>hr),xaa (fun _=>hr),xaa (fun _=>hr),xaa hr,xaa hr,xaa hr',xaa hr',eL,hg]
   rw [decide_eq_true (show (k:Int)>0 by omega),Bool.true_and]
   by_cases hc:col S[k-1] 0>col lines[i] 0
   ·have hc':S[k-1].getD 0 0>lines[i].getD 0 0:=hc
    rw [decide_eq_true hc',cond_true]
    refine .inl ⟨_,rfl,k-1,L.set k S[k-1],?_,by omega,xAe hin h0 hkS,fun j hj hkj=>?_⟩
    ·have:xlt 3 (L.getD k []) 0 (S[k-1].getD 0 0::[S[k-1].getD 1 0,S[k-1].getD 2 0])=S[k-1]:=(xxW _ _ _).trans (xuN el)
     rw [this]
    ·by_cases e:j=k-1
     ·subst e; exact hc
     ·exact hgt j hj (by omega)
   ·have hc':¬ S[k-1].getD 0 0>lines[i].getD 0 0:=hc
    rw [decide_eq_false hc',cond_false]
    exact .inr ⟨1,_,rfl,k,L,rfl,hin,fun _ _=>by omega,hgt⟩)
  (fun ys hI=>by
   obtain ⟨k,L,rfl,hk,hin,hgt⟩:=hI
   obtain rfl:k=0:=by omega
   unfold xcn
   simp only [gi_1,gi_z,gr_1,gr_z]
   have hf:decide (((0:Nat):Int)>0)=false:=by decide
   rw [hf,xaa (fun h=>by cases h),xaa (fun h=>by cases h),xaa (fun h=>by cases h),Bool.false_and,cond_false]
   exact ⟨1,_,rfl,0,L,rfl,hin,(fun h=>by omega),hgt⟩)
  (xs:=xdW o lines [.i i,.r S])
  ⟨S.length,S++[xdy o lines [.i i,.r S]],rfl,rfl,⟨Nat.le_refl _,by simp,by simp,by simp⟩,fun j hj hk=>by omega⟩
 exact this
theorem xxS {o:Int} {lines:List (List Int)} (hl:lines.length≤1000000) :
  xax (xco o lines) (xdX o lines)∧∃ S,xa2 o lines=(2,[.i lines.length,.r S])∧S.Perm (lines.map tri)∧S.Pairwise upT:=by
 have:=xd1 (step:=xco o lines) lines.length
  (fun i ys=>∃ S,ys=[.i (i:Nat),.r S]∧S.Perm ((lines.take i).map tri)∧S.Pairwise upT)
  (fun r=>∃ S,r=(2,[.i lines.length,.r S])∧S.Perm (lines.map tri)∧S.Pairwise upT)
  (fun i ys hi hI=>by
   obtain ⟨S,rfl,hp,hs⟩:=hI
   have hlen:S.length=i:=by rw [hp.length_eq,List.length_map,List.length_take]; omega
   have h3:∀ x∈S,x.length=3:=fun x hx=>by
    obtain ⟨y,_,rfl⟩:=List.mem_map.1 (hp.mem_iff.1 hx); rfl
   obtain ⟨l1,k,L,l2,l3,l4,l5⟩:=xAc (o:=o) (lines:=lines) (S:=S) hi hl (by omega) h3
   have hfit:xa5 24 (S.length+[xdy o lines [.i i,.r S]].length):=by unfold xa5 maxLen; simp only [List.length_cons,List.length_nil]; omega
   have hkL:k<L.length:=by have:=l3.1; have:=l3.2.1; omega
   have hs0:xdy o lines [.i i,.r S]=tri lines[i]:=by
    unfold xdy
    simp only [gi_z]
    rw [xbb hi]; rfl
   refine .inl ⟨[.i ((i+1:Nat):Int),.r (S.take k++tri lines[i]::S.drop k)],?_,_,rfl,?_,?_⟩
   ·unfold xco xlB
    simp only [gi_1,gi_z,gr_1,gr_z,l2]
    rw [dlt hi,xaa (xaw hi),xaa (xaw hi),xaa hfit,xaa l1,xaa (xaw hkL),xaa (xaw hkL),xcN (by omega),Int.toNat_natCast,hs0]
    rw [show xlt 3 (L.getD k []) 0 (tri lines[i])=tri lines[i] from xxW _ _ _,xAd l3]
   ·rw [List.take_succ_eq_append_getElem hi,List.map_append]
    have e:(S.take k++tri lines[i]::S.drop k).Perm (tri lines[i]::(S.take k++S.drop k)):=List.perm_middle
    rw [List.take_append_drop] at e
    exact e.trans ((List.Perm.cons _ hp).trans (List.perm_append_singleton _ _).symm)
   ·have hs':=hs
    rw [← List.take_append_drop k S] at hs'
    obtain ⟨p1,p2,p3⟩:=List.pairwise_append.1 hs'
    have hb:∀ y∈S.take k,col y 0≤col lines[i] 0:=fun y hy=>by
     obtain ⟨j,hj,rfl⟩:=List.getElem_of_mem hy
     rw [List.length_take] at hj
     have hjk:j<k:=by omega
     have hjS:j<S.length:=by omega
     rw [List.getElem_take]
     have hk:=l4 (by omega) (by have:=l3.1; omega)
     by_cases e:j=k-1
     ·subst e; exact hk
     ·have:upT S[j] (S[k-1]'(by have:=l3.1; omega)):=List.pairwise_iff_getElem.1 hs j (k-1) hjS (by have:=l3.1; omega) (by omega)
      exact Int.le_trans this hk
    have ha:∀ y∈S.drop k,col lines[i] 0≤col y 0:=fun y hy=>by
     obtain ⟨j,hj,rfl⟩:=List.getElem_of_mem hy
     rw [List.length_drop] at hj
     rw [List.getElem_drop]
     exact Int.le_of_lt (l5 (k+j) (by omega) (by omega))
    refine List.pairwise_append.2 ⟨p1,List.pairwise_cons.2 ⟨fun y hy=>ha y hy,p2⟩,fun a h1 b h2=>?_⟩
    rcases List.mem_cons.1 h2 with h2 | h2
    ·subst h2; exact hb a h1
    ·exact p3 a h1 b h2)
  (fun ys hI=>by
   obtain ⟨S,rfl,hp,hs⟩:=hI
   unfold xco
   simp only [gi_1,gi_z,gr_1,gr_z,dnlt]
   exact ⟨1,_,rfl,S,rfl,by rw [List.take_length] at hp; exact hp,hs⟩)
  (xs:=xdX o lines) ⟨[],rfl,List.Perm.nil,List.Pairwise.nil⟩
 exact this
theorem xpy {o:Int} {lines:List (List Int)} (ho:0≤o∧o≤8) (hl:lines.length≤200) (hx:∀ x∈lines,lnF (col x 0) (col x 1) (col x 2)=true∧ownF o (col x 1)=true)
  (hsw:∀ S:List (List Int),S.Perm (lines.map tri)→S.Pairwise upT→swOk true S=true) :
  xbc o lines∧xau o lines=o∧xaX o lines=true∧valF o (xad o lines)=true∧((xad o lines).map tri).Perm (lines.map tri)∧(xad o lines).Pairwise upT:=by
 obtain ⟨s1,S,s2,s3,s4⟩:=xxS (o:=o) (lines:=lines) (by omega)
 have hSx:∀ x∈S,lnF (col x 0) (col x 1) (col x 2)=true∧ownF o (col x 1)=true:=fun x hxs=>by
  obtain ⟨y,hy,rfl⟩:=List.mem_map.1 (s3.mem_iff.1 hxs)
  exact hx y hy
 have hSl:S.length=lines.length:=by rw [s3.length_eq,List.length_map]
 have hnn:∀ x∈S,xgS 0 (-1) []≤col x 0:=fun x hxs=>by
  have h1:=(hSx x hxs).1
  show -1≤col x 0
  unfold lnF tmF at h1
  split at h1
  ·cases h1
  ·split at h1
   ·simp only [Bool.and_eq_true,decide_eq_true_eq] at h1; omega
   ·simp only [Bool.and_eq_true,decide_eq_true_eq] at h1; omega
 have hv0:valF o []=true:=by unfold valF vldF; rw [decide_eq_true ho.1,decide_eq_true ho.2]; rfl
 obtain ⟨l',a1,a2,a3⟩:=xCs ho S [] hv0 (by simp; omega) hSx s4 hnn (hsw S s3 s4)
 have L2:=xd1 (step:=xc5 o lines) S.length
  (fun i ys=>∃ l,ys=[.b false,.i (i:Nat),.i o,.r l]∧lgF o l (S.drop i)=some l')
  (fun r=>r=(3,[.b false,.i (S.length:Nat),.i o,.r l']))
  (fun i ys hi hI=>by
   obtain ⟨l,rfl,hg⟩:=hI
   rw [List.drop_eq_getElem_cons hi] at hg
   unfold lgF at hg
   split at hg
   ·rename_i hE
    have hval:valF o l=true:=by
     unfold addE at hE
     split at hE
     ·cases hE
     ·rename_i hc
      cases hv:valF o l with
      | true=>rfl
      | false=>rw [hv] at hc; exact absurd rfl hc
    have hll:=(xpN hval).1
    obtain ⟨q1,q2,q3,q4⟩:=xDJ o (col S[i] 0) (col S[i] 1) (col S[i] 2) l (by omega)
    refine .inl ⟨[.b false,.i ((i+1:Nat):Int),.i o,.r (addL o (col S[i] 0) (col S[i] 1) (col S[i] 2) l)],?_,_,rfl,hg⟩
    rw [if_pos hE] at q3
    rw [hE] at q4
    unfold xc5 xlA xlz xly
    simp only [gi_1,gi_2,gi_3,gi_z,gr_1,gr_2,gr_3,gr_z,gb_z,s2]
    have hq1:xdR o (S[i].getD 0 0) (S[i].getD 1 0) (S[i].getD 2 0) l:=q1
    have hq2:xfg o (S[i].getD 0 0) (S[i].getD 1 0) (S[i].getD 2 0) l=addL o (col S[i] 0) (col S[i] 1) (col S[i] 2) l:=q2
    have hq3:xff o (S[i].getD 0 0) (S[i].getD 1 0) (S[i].getD 2 0) l=o:=q3
    have hq4:xfe o (S[i].getD 0 0) (S[i].getD 1 0) (S[i].getD 2 0) l=0:=q4
    rw [dlt hi,xaa (xaw hi),xaa (xaw hi),xbb hi,xaa hq1,hq4,hq3,hq2,xcN (by omega)]
    rfl
   ·cases hg)
  (fun ys hI=>by
   obtain ⟨l,rfl,hg⟩:=hI
   rw [List.drop_length] at hg
   unfold lgF at hg
   cases hg
   unfold xc5
   simp only [gi_1,gi_2,gi_3,gi_z,gr_1,gr_2,gr_3,gr_z,gb_z,s2,dnlt]
   exact ⟨2,_,rfl,rfl⟩)
  (xs:=xfx o lines) ⟨[],rfl,a1⟩
 obtain ⟨b1,b2⟩:=L2
 have b2:xc0 o lines=(3,[.b false,.i (S.length:Nat),.i o,.r l']):=b2
 have e0:xad o lines=l':=by unfold xad; rw [b2]; rfl
 have e1:xau o lines=o:=by unfold xau; rw [b2]; rfl
 have e2:xaX o lines=true:=by unfold xaX; rw [b2]; rfl
 refine ⟨⟨s1,b1⟩,e1,e2,e0▸a2,?_,?_⟩
 ·rw [e0,a3]
  have:S.map tri=S:=(List.map_congr_left fun x hx=>xuN (by
   obtain ⟨y,_,rfl⟩:=List.mem_map.1 (s3.mem_iff.1 hx); rfl)).trans (List.map_id' S)
  rw [this]
  simpa using s3
 ·rw [e0]
  exact (xvU a2).2
end Go.Proofs.YthfjhbbpdhjklaaGreat
set_option linter.unusedVariables false
set_option maxRecDepth 100000
namespace Go.Proofs.YthfjhbbpdhjklaaGreat
open Go Go.Sy
theorem xkg {c:Bool} {nxt out:List U} {m:Nat} {Inv:List U→Prop} {Post:Nat×List U→Prop} (hI:Inv nxt) (hP:Post (m+1,out)) :
  (∃ ys,(bif c then some (m+1,out) else some (0,nxt))=some (0,ys)∧Inv ys)∨∃ m' ys,(bif c then some (m+1,out) else some (0,nxt))=some (m'+1,ys)∧Post (m'+1,ys):=by
 cases c
 ·exact .inl ⟨_,rfl,hI⟩
 ·exact .inr ⟨_,_,rfl,hP⟩
theorem xya (l:List (List Int)) (hl:l.length≤1000000):xeL l:=by
 refine (xd1 (step:=xda l) l.length (fun i ys=>ys=[.b false,.i (i:Nat)]) (fun _=>True) (fun i ys hi hI=>?_) (fun ys hI=>?_) (xs:=xfE l) rfl).1
 ·subst hI
  unfold xda
  simp only [gi_1,gi_z,gb_z]
  rw [dlt hi,xaa (xaw hi),xaa (xaw hi),xcN (by omega)]
  exact xkg (Inv:=fun ys=>ys=[.b false,.i ((i+1:Nat):Int)]) (Post:=fun _=>True) (m:=0) rfl trivial
 ·subst hI
  unfold xda
  simp only [gi_1,gi_z,gb_z,dnlt]
  exact ⟨2,_,rfl,trivial⟩
theorem xzC (a b c d e f g:Int):xef a b c d e f g:=xya _ (by simp)
theorem xwr {t x y r p q:Int} {P E:List (List Int)} (hp:inR p P) (hq:inR q P):xdL t x y r p q P E:=⟨hp,hp,hp,hp,xzC _ _ _ _ _ _ _,hq,hq,hq,hq,xzC _ _ _ _ _ _ _⟩
theorem xx9 (P E:List (List Int)) (hP:P.length≤9223372036854775807) (hE:E.length≤9223372036854775807):xeJ P E:=by
 refine ⟨fun h=>?_,fun h=>?_⟩
 ·refine (xd1 (step:=xc8 P E) P.length (fun i ys=>ys=[.i 0,.i (i:Nat)]) (fun _=>True) (fun i ys hi hI=>?_) (fun ys hI=>?_) (xs:=xfA P E) rfl).1
  ·subst hI
   unfold xc8
   simp only [gi_1,gi_z,gb_z]
   rw [dlt hi,xaa (xaw hi),xaa (xaw hi),xcN (by omega)]
   exact xkg (Inv:=fun ys=>ys=[.i 0,.i ((i+1:Nat):Int)]) (Post:=fun _=>True) (m:=0) rfl trivial
  ·subst hI
   unfold xc8
   simp only [gi_1,gi_z,gb_z,dnlt]
   exact ⟨2,_,rfl,trivial⟩
 ·refine (xd1 (step:=xc7 P E) E.length (fun i ys=>ys=[.b false,.i (i:Nat)]) (fun _=>True) (fun i ys hi hI=>?_) (fun ys hI=>?_) (xs:=xfz P E) rfl).1
  ·subst hI
   unfold xc7
   simp only [gi_1,gi_z,gb_z]
   rw [dlt hi,xaa (xaw hi),xaa (xaw hi),xcN (by omega)]
   exact xkg (Inv:=fun ys=>ys=[.b false,.i ((i+1:Nat):Int)]) (Post:=fun _=>True) (m:=0) rfl trivial
  ·subst hI
   unfold xc7
   simp only [gi_1,gi_z,gb_z,dnlt]
   exact ⟨2,_,rfl,trivial⟩
theorem xxL (P E uk:List (List Int)) (y0:List U) (hE:E.length≤9223372036854775807):xax (xcp P E uk y0) (xdY P E uk y0):=by
 refine (xd1 (step:=xcp P E uk y0) E.length (fun i ys=>ys=[.i 0,.i (i:Nat)]) (fun _=>True) (fun i ys hi hI=>?_) (fun ys hI=>?_) (xs:=xdY P E uk y0) rfl).1
 ·subst hI
  unfold xcp
  simp only [gi_1,gi_z,gb_z]
  rw [dlt hi,xaa (xaw hi),xaa (xaw hi),xcN (by omega)]
  exact xkg (Inv:=fun ys=>ys=[.i 0,.i ((i+1:Nat):Int)]) (Post:=fun _=>True) (m:=0) rfl trivial
 ·subst hI
  unfold xcp
  simp only [gi_1,gi_z,gb_z,dnlt]
  exact ⟨2,_,rfl,trivial⟩
theorem xxM (P E uk:List (List Int)) (hE:E.length≤9223372036854775807) (hl:uk.length≤9223372036854775807) :
  xax (xcq P E uk) (xdZ P E uk)∧((xgJ P E uk).1=1∨(xgJ P E uk).1=3∨∀ x∈uk,inR (col x 0) P):=by
 refine xd1 (step:=xcq P E uk) uk.length (fun i ys=>ys=[.b false,.i (i:Nat)]∧∀ j (hj:j<uk.length),j<i→inR (col uk[j] 0) P) (fun r=>r.1=1∨r.1=3∨∀ x∈uk,inR (col x 0) P) (fun i ys hi hI=>?_) (fun ys hI=>?_) (xs:=xdZ P E uk) ⟨rfl,fun j _ h=>by omega⟩
 ·obtain ⟨rfl,hp⟩:=hI
  unfold xcq
  simp only [gi_1,gi_z,gb_z]
  rw [dlt hi,xaa (xaw hi),xaa (xaw hi),xcN (by omega),xbb hi]
  cases hc:(!xc6 (uk[i].getD 0 0) P E||decide (uk[i].getD 1 0 < -1000)||decide (uk[i].getD 1 0>10000000)) with
  | true=>exact .inr ⟨0,_,rfl,.inl rfl⟩
  | false =>
   rw [cond_false]
   rw [Bool.or_eq_false_iff,Bool.or_eq_false_iff,Bool.not_eq_false'] at hc
   have hpl:inR (col uk[i] 0) P:=by
    have:=hc.1.1
    unfold xc6 at this
    rw [Bool.and_eq_true,decide_eq_true_eq,decide_eq_true_eq] at this
    exact this
   have hnext:∀ j (hj:j<uk.length),j<i+1→inR (col uk[j] 0) P:=fun j hj hji=>by
    by_cases e:j=i
    ·subst e; exact hpl
    ·exact hp j hj (by omega)
   by_cases h0:i=0
   ·subst h0
    exact .inl ⟨_,rfl,rfl,hnext⟩
   ·have hb:((i:Int)==0)=false:=bne (by omega)
    have hr:inR ((i-1:Nat):Int) uk:=xaw (by omega)
    rw [hb,cond_false,xzF (by omega) (by omega),xaa hr,xaa hr,xaa (fun _=>xxL P E uk _ hE)]
    exact xkg (Inv:=fun ys=>ys=[.b false,.i ((i+1:Nat):Int)]∧∀ j (hj:j<uk.length),j<i+1→inR (col uk[j] 0) P) (Post:=fun r=>r.1=1∨r.1=3∨∀ x∈uk,inR (col x 0) P) (m:=2) ⟨rfl,hnext⟩ (.inr (.inl rfl))
 ·obtain ⟨rfl,hp⟩:=hI
  unfold xcq
  simp only [gi_1,gi_z,gb_z,dnlt]
  refine ⟨4,_,rfl,.inr (.inr fun x hx=>?_)⟩
  obtain ⟨j,hj,rfl⟩:=List.getElem_of_mem hx
  exact hp j hj hj
theorem xzI (P E uk:List (List Int)) (hP:P.length≤9223372036854775807) (hE:E.length≤9223372036854775807) (hl:uk.length≤9223372036854775807) :
  xeK P E uk∧(xdr P E uk=true→0<uk.length∧uk.length≤1000∧∀ x∈uk,inR (col x 0) P):=by
 obtain ⟨h1,h2⟩:=xxM P E uk hE hl
 refine ⟨⟨xx9 P E hP hE,fun _=>h1⟩,fun h=>?_⟩
 unfold xdr at h
 cases hc:(!xf0 P E||(uk.length:Int)==0||decide ((uk.length:Int)>1000)) with
 | true=>rw [hc] at h; cases h
 | false =>
  rw [hc,cond_false] at h
  rw [Bool.or_eq_false_iff,Bool.or_eq_false_iff] at hc
  have a1:=of_decide_eq_false hc.2
  have a2:(uk.length:Int)≠0:=fun e=>by rw [e] at hc; exact absurd hc.1.2 (by decide)
  refine ⟨by omega,by omega,?_⟩
  rcases h2 with h2 | h2 | h2
  ·rw [h2] at h; cases h
  ·rw [h2] at h; cases h
  ·exact h2
theorem xxB (l:List (List Int)):xdM l:=fun h=>by
 have hl:=of_decide_eq_true h
 refine (xd1 (step:=xcA l) l.length (fun i ys=>ys=[.i 0,.i (i:Nat)]) (fun _=>True) (fun i ys hi hI=>?_) (fun ys hI=>?_) (xs:=xeH l) rfl).1
 ·subst hI
  unfold xcA
  simp only [gi_1,gi_z,gb_z]
  rw [dlt hi,xaa (xaw hi),xaa (xaw hi),xcN (by omega)]
  exact xkg (Inv:=fun ys=>ys=[.i 0,.i ((i+1:Nat):Int)]) (Post:=fun _=>True) (m:=0) rfl trivial
 ·subst hI
  unfold xcA
  simp only [gi_1,gi_z,gb_z,dnlt]
  exact ⟨2,_,rfl,trivial⟩
theorem xzo {f:Int} {P E airs uk:List (List Int)} {c:Int} {m:Nat} (hm:m<airs.length) (hl:uk.length≤1000) (h0:0<uk.length) (hlo:col uk[0] 1≤col airs[m] 0) (hhi:col airs[m] 0<col (uk[uk.length-1]'(by omega)) 1) :
  xax (xcr f P E airs uk [.i c,.i m]) (xfB f P E airs uk [.i c,.i m])∧∃ i,0<i∧i<uk.length∧xaf f P E airs uk [.i c,.i m]=(1,[.i (i:Nat)]):=by
 obtain ⟨h1,h2⟩:=xgz (step:=xcr f P E airs uk [.i c,.i m]) uk.length (fun j=>decide (col (uk.getD j []) 1>col airs[m] 0)) (fun j=>[.i 0,.i (j:Nat)]) (fun j=>[.i (j:Nat)]) 0 2 [.i 0,.i uk.length]
  (fun j hj=>by
   unfold xcr
   simp only [gi_1,gi_z,gb_z]
   rw [dlt hj,xaa (xaw hj),xaa (xaw hj),xcN (by omega),xbb hj,xbb hm,xbj hj])
  (by
   unfold xcr
   simp only [gi_1,gi_z,gb_z,dnlt])
 refine ⟨h1,?_⟩
 rcases h2 with ⟨i,hi,hp,hn,hg⟩ | ⟨hn,_⟩
 ·refine ⟨i,Nat.pos_of_ne_zero fun e=>?_,hi,hg⟩
  subst e
  have:=of_decide_eq_true hp
  rw [xbj h0] at this
  omega
 ·have:=of_decide_eq_false (hn (uk.length-1) (by omega))
  rw [xbj (show uk.length-1<uk.length by omega)] at this
  exact absurd hhi this
theorem xAs {f:Int} {P E airs uk:List (List Int)} (hP:P.length≤9223372036854775807) (hE:E.length≤9223372036854775807) (hl:uk.length≤9223372036854775807) (ha:airs.length≤1000000):xcB f P E airs uk:=by
 obtain ⟨t1,t2⟩:=xzI P E uk hP hE hl
 refine ⟨t1,fun _=>xxB airs,fun h=>?_⟩
 rw [Bool.or_eq_false_iff,Bool.or_eq_false_iff,Bool.or_eq_false_iff,Bool.not_eq_false'] at h
 obtain ⟨h0,h1k,hpl⟩:=t2 h.1.1.1
 have hfl:(f<0)=False:=by simpa using of_decide_eq_false h.1.2
 refine (xd1 (step:=xc9 f P E airs uk) airs.length (fun m ys=>∃ c,ys=[.i c,.i (m:Nat)]) (fun _=>True) (fun m ys hm hI=>?_) (fun ys hI=>?_) (xs:=xfC f P E airs uk) ⟨0,rfl⟩).1
 ·obtain ⟨c,rfl⟩:=hI
  have r0:inR (0:Int) uk:=xaw (i:=0) h0
  have eL:IntKind.i64.wrap ((uk.length:Int)-1)=((uk.length-1:Nat):Int):=xzF (by omega) h0
  have rL:inR ((uk.length-1:Nat):Int) uk:=xaw (by omega)
  unfold xc9
  simp only [gi_1,gi_z,gb_z,eL]
  rw [dlt hm,xaa (xaw hm),xaa (xaw hm),xaa r0,xaa r0,xaa r0,xaa (fun _=>rL),xaa (fun _=>rL),xaa (fun _=>rL),xcN (by omega),xbb hm,xbb (show uk.length-1<uk.length by omega),show uk.getD (Int.toNat 0) []=uk[0] from xbj h0]
  cases hc:(decide (airs[m].getD 0 0<imax f (uk[0].getD 1 0))||decide (airs[m].getD 0 0≥(uk[uk.length-1]'(by omega)).getD 1 0)) with
  | true=>exact .inl ⟨_,rfl,c,rfl⟩
  | false =>
   rw [cond_false]
   rw [Bool.or_eq_false_iff] at hc
   have c1:=of_decide_eq_false hc.1
   have c2:=of_decide_eq_false hc.2
   obtain ⟨l1,i,i0,i1,i2⟩:=xzo (f:=f) (P:=P) (E:=E) (c:=c) hm h1k h0 (by
    show uk[0].getD 1 0≤airs[m].getD 0 0
    unfold imax at c1
    split at c1<;>omega) (by
    show airs[m].getD 0 0<(uk[uk.length-1]'(by omega)).getD 1 0
    omega)
   have q:(bif (xaf f P E airs uk [.i c,.i m]).fst.beq 1 then gi (xaf f P E airs uk [.i c,.i m]).snd 0 else (-1:Int))=(i:Int):=by rw [i2]; rfl
   have w1:IntKind.i64.wrap ((i:Int)-1)=((i-1:Nat):Int):=xzF (by omega) i0
   have w2:IntKind.i64.wrap (((i-1:Nat):Int)+1)=(i:Int):=by rw [xcN (by omega)]; omega
   have ri:inR ((i:Nat):Int) uk:=xaw i1
   have rp:inR ((i-1:Nat):Int) uk:=xaw (by omega)
   have hp1:inR (uk[i-1].getD 0 0) P:=hpl _ (List.getElem_mem (by omega))
   have hp2:inR (uk[i].getD 0 0) P:=hpl _ (List.getElem_mem i1)
   unfold xik
   rw [q,w1,w2,xbb (show i-1<uk.length by omega),xbb i1,xaa l1,xaa ri,xaa ri,xaa ri,xaa rp,xaa rp,xaa rp]
   cases he:(uk[i-1].getD 1 0==airs[m].getD 0 0) with
   | true =>
    rw [cond_true,xaa rp,xaa rp,xaa rp,xaa rp,xaa rp,xaa rp,xaa (xwr hp1 hp1)]
    cases (xe4 (airs[m].getD 0 0) (airs[m].getD 1 0) (airs[m].getD 2 0) (airs[m].getD 3 0) (uk[i-1].getD 0 0) (uk[i-1].getD 0 0) P E) with
    | true=>exact .inl ⟨_,rfl,_,rfl⟩
    | false=>exact .inl ⟨_,rfl,_,rfl⟩
   | false =>
    rw [cond_false,xaa rp,xaa rp,xaa rp,xaa (xwr hp1 hp2)]
    cases (xe4 (airs[m].getD 0 0) (airs[m].getD 1 0) (airs[m].getD 2 0) (airs[m].getD 3 0) (uk[i-1].getD 0 0) (uk[i].getD 0 0) P E) with
    | true=>exact .inl ⟨_,rfl,_,rfl⟩
    | false=>exact .inl ⟨_,rfl,_,rfl⟩
 ·obtain ⟨c,rfl⟩:=hI
  unfold xc9
  simp only [gi_1,gi_z,gb_z,dnlt]
  exact ⟨5,_,rfl,trivial⟩
theorem xnp (P E airs:List (List Int)):xfX P E airs:=fun h=>by
 rw [Bool.or_eq_false_iff,Bool.or_eq_false_iff] at h
 have hE:=of_decide_eq_false h.1.2
 refine (xd1 (step:=xdK P E airs) E.length (fun i ys=>ys=[.b false,.i (i:Nat)]) (fun _=>True) (fun i ys hi hI=>?_) (fun ys hI=>?_) (xs:=xgu P E airs) rfl).1
 ·subst hI
  unfold xdK
  simp only [gi_1,gi_z,gb_z]
  rw [dlt hi,xaa (xaw hi),xaa (xaw hi),xaa (xaw hi),xcN (by omega)]
  exact xkg (Inv:=fun ys=>ys=[.b false,.i ((i+1:Nat):Int)]) (Post:=fun _=>True) (m:=0) rfl trivial
 ·subst hI
  unfold xdK
  simp only [gi_1,gi_z,gb_z,dnlt]
  exact ⟨2,_,rfl,trivial⟩
end Go.Proofs.YthfjhbbpdhjklaaGreat
set_option linter.unusedVariables false
set_option maxRecDepth 100000
namespace Go.Proofs.YthfjhbbpdhjklaaGreat
open Go Go.Sy
def sw3 (l:List (List Int)):List (List Int):=l.filter fun x=>decide (clsF (col x 1)=3)
theorem xpS (b:Bool) (x:List Int) (r:List (List Int)):swOk b (x::r)=if clsF (col x 1)=3 then (b==(col x 1==4))&&swOk (col x 1==5) r else swOk b r:=rfl
theorem xmU (t:Int) (b:Bool) (x:List Int) (r:List (List Int)):onF t b (x::r)=if col x 0>t then b else onF t (if clsF (col x 1)=3 then col x 1==5 else b) r:=rfl
theorem xhn:∀ (l:List (List Int)) (b:Bool),swOk b l=swOk b (sw3 l)
 | [],_=>rfl
 | x::r,b=>by
  unfold sw3
  by_cases h:clsF (col x 1)=3
  ·rw [List.filter_cons_of_pos (by simpa using h),xpS,xpS,if_pos h,if_pos h,xhn r]; rfl
  ·rw [List.filter_cons_of_neg (by simpa using h),xpS,if_neg h]
   exact xhn r b
theorem xz5 {t:Int} {b:Bool}:∀ {l:List (List Int)},(∀ y∈l,t<col y 0)→onF t b l=b
 | [],_=>rfl
 | x::r,h=>by rw [xmU,if_pos (h x List.mem_cons_self)]
theorem xnX {t:Int}:∀ {l:List (List Int)} (b:Bool),l.Pairwise upT→onF t b l=onF t b (sw3 l)
 | [],_,_=>rfl
 | x::r,b,hs=>by
  obtain ⟨h1,h2⟩:=List.pairwise_cons.1 hs
  by_cases ht:col x 0>t
  ·rw [xmU,if_pos ht,xz5]
   intro y hy
   have hy:=(List.mem_filter.1 hy).1
   rcases List.mem_cons.1 hy with e | hy
   ·subst e; exact ht
   ·have:col x 0≤col y 0:=h1 y hy
    omega
  ·unfold sw3
   by_cases h:clsF (col x 1)=3
   ·rw [List.filter_cons_of_pos (by simpa using h),xmU,xmU,if_neg ht,if_neg ht,if_pos h,xnX _ h2]; rfl
   ·rw [List.filter_cons_of_neg (by simpa using h),xmU,if_neg ht,if_neg h]
    exact xnX b h2
def offL (off:Bool) (a b:Int):List (List Int):=bif off then [[a,4,0],[b,5,0]] else []
theorem xzL (off:Bool) (a b:Int):sw3 (offL off a b)=offL off a b:=by cases off<;>rfl
theorem xxO {sh:List (List Int)} (h:∀ x∈sh,col x 1=3):sw3 sh=[]:=by
 unfold sw3
 rw [List.filter_eq_nil_iff]
 intro x hx
 rw [h x hx]
 decide
theorem xvW {l sh:List (List Int)} {off:Bool} {a b:Int} (hp:l.Perm (offL off a b++sh)) (hs:l.Pairwise upT) (hab:off=true→a<b) (hsh:∀ x∈sh,col x 1=3):sw3 l=offL off a b:=by
 have p:(sw3 l).Perm (sw3 (offL off a b++sh)):=hp.filter _
 have e:sw3 (offL off a b++sh)=offL off a b:=by
  have:sw3 (offL off a b++sh)=sw3 (offL off a b)++sw3 sh:=List.filter_append ..
  rw [this,xzL,xxO hsh,List.append_nil]
 rw [e] at p
 have s:(sw3 l).Pairwise upT:=hs.filter _
 generalize sw3 l=m at p s
 cases off with
 | false=>exact p.eq_nil
 | true =>
  have hab:=hab rfl
  have p:m.Perm [[a,4,0],[b,5,0]]:=p
  have hl:m.length=2:=p.length_eq
  match m,hl with
  | [x,y],_ =>
   have hx:=p.mem_iff.1 (List.mem_cons_self (a:=x) (l:=[y]))
   have h1:=p.mem_iff.2 (List.mem_cons_self (a:=([a,4,0]:List Int)) (l:=[[b,5,0]]))
   have h2:=p.mem_iff.2 (show ([b,5,0]:List Int)∈([[a,4,0],[b,5,0]]:List (List Int)) by simp)
   have hup:col x 0≤col y 0:=(List.pairwise_cons.1 s).1 y List.mem_cons_self
   simp only [List.mem_cons,List.not_mem_nil,or_false] at hx h1 h2
   rcases hx with rfl | rfl
   ·rcases h2 with h2 | h2
    ·have:=congrArg (fun z=>col z 0) h2
     have:b=a:=this
     omega
    ·rw [← h2]; rfl
   ·rcases h1 with h1 | h1
    ·have:=congrArg (fun z=>col z 0) h1
     have:a=b:=this
     omega
    ·rw [← h1] at hup
     have:b≤a:=hup
     omega
theorem xzK (off:Bool) (a b:Int):swOk true (offL off a b)=true:=by cases off<;>rfl
theorem xBB {off:Bool} {a b t:Int} (hab:off=true→a<b):onF t true (offL off a b)=!(off&&decide (a≤t)&&decide (t<b)):=by
 cases off with
 | false=>rfl
 | true =>
  have hab:=hab rfl
  have e:onF t true (offL true a b)=if a>t then true else if b>t then false else true:=rfl
  rw [e,Bool.true_and]
  by_cases h1:a>t
  ·rw [if_pos h1,decide_eq_false (show ¬ a≤t by omega)]; rfl
  ·rw [if_neg h1,decide_eq_true (show a≤t by omega),Bool.true_and]
   by_cases h2:b>t
   ·rw [if_pos h2,decide_eq_true (show t<b by omega)]; rfl
   ·rw [if_neg h2,decide_eq_false (show ¬ t<b by omega)]; rfl
theorem xtB {t n:Int}:∀ {l:List (List Int)},l.Pairwise upT→(n∈xiM t l↔∃ x∈l,col x 0≤t∧col x 1=3∧col x 2=n)
 | [],_=>⟨(fun h=>by cases h),fun ⟨x,hx,_⟩=>by cases hx⟩
 | x::r,hs=>by
  obtain ⟨h1,h2⟩:=List.pairwise_cons.1 hs
  have ih:=xtB (t:=t) (n:=n) h2
  unfold xiM
  by_cases ht:col x 0>t
  ·rw [if_pos ht]
   refine ⟨(fun h=>by cases h),fun ⟨y,hy,q,_⟩=>?_⟩
   rcases List.mem_cons.1 hy with e | hy
   ·subst e; omega
   ·have:col x 0≤col y 0:=h1 y hy
    omega
  ·rw [if_neg ht]
   by_cases h3:col x 1=3
   ·rw [if_pos h3,List.mem_cons,ih]
    constructor
    ·rintro (rfl | ⟨y,hy,q⟩)
     ·exact ⟨x,List.mem_cons_self,by omega,h3,rfl⟩
     ·exact ⟨y,List.mem_cons_of_mem _ hy,q⟩
    ·rintro ⟨y,hy,q⟩
     rcases List.mem_cons.1 hy with e | hy
     ·subst e; exact .inl q.2.2.symm
     ·exact .inr ⟨y,hy,q⟩
   ·rw [if_neg h3,ih]
    constructor
    ·rintro ⟨y,hy,q⟩; exact ⟨y,List.mem_cons_of_mem _ hy,q⟩
    ·rintro ⟨y,hy,q⟩
     rcases List.mem_cons.1 hy with e | hy
     ·subst e; exact absurd q.2.1 h3
     ·exact ⟨y,hy,q⟩
def selR (p:Nat→Bool) (g:Nat→List Int):Nat→List (List Int)
 | 0=>[]
 | k+1=>bif p k then selR p g k++[g k] else selR p g k
def numR (p:Nat→Bool):Nat→Nat
 | 0=>0
 | k+1=>bif p k then numR p k+1 else numR p k
theorem xcw {p:Nat→Bool} {g:Nat→List Int} {x:List Int}:∀ {n},x∈selR p g n↔∃ k,k<n∧p k=true∧g k=x
 | 0=>⟨(fun h=>by cases h),fun ⟨k,h,_⟩=>by omega⟩
 | n+1=>by
  unfold selR
  cases h:p n with
  | true =>
   rw [cond_true,List.mem_append,xcw (n:=n),List.mem_singleton]
   constructor
   ·rintro (⟨k,q1,q2⟩ | rfl)
    ·exact ⟨k,by omega,q2⟩
    ·exact ⟨n,by omega,h,rfl⟩
   ·rintro ⟨k,q1,q2,q3⟩
    by_cases e:k=n
    ·subst e; exact .inr q3.symm
    ·exact .inl ⟨k,by omega,q2,q3⟩
  | false =>
   rw [cond_false,xcw (n:=n)]
   constructor
   ·rintro ⟨k,q1,q2⟩; exact ⟨k,by omega,q2⟩
   ·rintro ⟨k,q1,q2,q3⟩
    by_cases e:k=n
    ·subst e; rw [h] at q2; cases q2
    ·exact ⟨k,by omega,q2,q3⟩
theorem xe2 (p:Nat→Bool) (g:Nat→List Int):∀ n,(selR p g n).length=numR p n
 | 0=>rfl
 | n+1=>by
  unfold selR numR
  cases p n with
  | true=>rw [cond_true,cond_true,List.length_append,xe2 p g n]; rfl
  | false=>rw [cond_false,cond_false,xe2 p g n]
theorem xfG (p:Nat→Bool):∀ n,numR p n≤n
 | 0=>Nat.le_refl _
 | n+1=>by
  unfold numR
  have:=xfG p n
  cases p n with
  | true=>rw [cond_true]; omega
  | false=>rw [cond_false]; omega
theorem xpZ (p q:Nat→Bool) (g:Nat→List Int) (f:List Int→Bool):∀ n,(∀ k,k<n→p k=true→f (g k)=q k)→(selR p g n).filter f=selR (fun k=>p k&&q k) g n
 | 0,_=>rfl
 | n+1,h=>by
  have ih:=xpZ p q g f n fun k hk=>h k (by omega)
  unfold selR
  cases hp:p n with
  | true =>
   have hf:=h n (by omega) hp
   rw [cond_true,List.filter_append,ih,Bool.true_and]
   cases hq:q n with
   | true=>rw [cond_true,List.filter_cons_of_pos (by rw [hf,hq]),List.filter_nil]
   | false=>rw [cond_false,List.filter_cons_of_neg (by rw [hf,hq]; decide),List.filter_nil,List.append_nil]
  | false=>rw [cond_false,ih,Bool.false_and,cond_false]
theorem xsA {p:Nat→Bool} {g:Nat→List Int} {r:List Int→List Int→Prop} (h:∀ i j,i<j→r (g i) (g j)):∀ n,(selR p g n).Pairwise r
 | 0=>List.Pairwise.nil
 | n+1=>by
  unfold selR
  cases p n with
  | true =>
   rw [cond_true]
   refine List.pairwise_append.2 ⟨xsA h n,List.pairwise_singleton _ _,fun a ha b hb=>?_⟩
   obtain ⟨k,hk,_,rfl⟩:=xcw.1 ha
   rw [List.mem_singleton.1 hb]
   exact h k n hk
  | false=>rw [cond_false]; exact xsA h n
theorem xlj {l:List (List Int)} (h:∀ x∈l,x.length=3):l.map tri=l:=(List.map_congr_left fun x hx=>xuN (h x hx)).trans (List.map_id' l)
theorem xzQ {o lag:Int} {l:List (List Int)} {off:Bool} {a b:Int} {n:Nat} {p:Nat→Bool} {T:Nat→Int} (hp:(l.map tri).Perm (offL off a b++selR p (fun k=>[T k+lag,3,(k:Int)+1]) n)) (hs:l.Pairwise upT) (hab:off=true→a<b) :
  (∀ t,onF t true l=!(off&&decide (a≤t)&&decide (t<b)))∧∀ tm k,k<n→(xlE tm l).contains ((k:Int)+1)=(p k&&decide (T k+lag≤tm)):=by
 have hs':(l.map tri).Pairwise upT:=List.pairwise_map.2 hs
 have hsh:∀ x∈selR p (fun k=>[T k+lag,3,(k:Int)+1]) n,col x 1=3:=fun x hx=>by
  obtain ⟨k,_,_,rfl⟩:=xcw.1 hx; rfl
 refine ⟨fun t=>?_,fun tm k hk=>?_⟩
 ·rw [← xu0,xnX true hs',xvW hp hs' hab hsh,xBB hab]
 ·rw [Bool.eq_iff_iff,List.contains_iff_mem]
  unfold xlE
  rw [xtQ,← xpY,xtB hs',Bool.and_eq_true,decide_eq_true_eq]
  constructor
  ·rintro ⟨x,hx,q1,q2,q3⟩
   rcases List.mem_append.1 (hp.mem_iff.1 hx) with hx | hx
   ·exfalso
    cases off with
    | false=>cases hx
    | true =>
     have hx:x∈[[a,4,0],[b,5,0]]:=hx
     simp only [List.mem_cons,List.not_mem_nil,or_false] at hx
     rcases hx with rfl | rfl
     ·have:(4:Int)=3:=q2
      omega
     ·have:(5:Int)=3:=q2
      omega
   ·obtain ⟨j,hj,hpj,rfl⟩:=xcw.1 hx
    have q3:(j:Int)+1=(k:Int)+1:=q3
    obtain rfl:j=k:=by omega
    exact ⟨hpj,q1⟩
  ·rintro ⟨q1,q2⟩
   exact ⟨[T k+lag,3,(k:Int)+1],hp.mem_iff.2 (List.mem_append.2 (.inr (xcw.2 ⟨k,hk,q1,rfl⟩))),q2,rfl,rfl⟩
end Go.Proofs.YthfjhbbpdhjklaaGreat
set_option linter.unusedVariables false
set_option maxRecDepth 100000
namespace Go.Proofs.YthfjhbbpdhjklaaGreat
open Go Go.Sy
theorem xAg (a b c d:U) (r:List U):gr (a::b::c::d::r) 4=gr r 0:=by cases r<;>rfl
theorem xAf (a b c d e:U) (r:List U):gr (a::b::c::d::e::r) 5=gr r 0:=by cases r<;>rfl
theorem xyQ (a b c d e f:U) (r:List U):gr (a::b::c::d::e::f::r) 6=gr r 0:=by cases r<;>rfl
theorem xDS (a b c d:U) (r:List U):gi (a::b::c::d::r) 4=gi r 0:=by cases r<;>rfl
theorem xDU (a:U) (r:List U):gb (a::r) 1=gb r 0:=by cases r<;>rfl
def tA (airs:List (List Int)) (k:Nat):Int:=(airs.getD k []).getD 0 0
def bitF (s:Int) (k:Nat):Bool:=bAnd IntKind.u16 (s.fdiv ((2:Int) ^ min k IntKind.u16.bits)) 1==1
def misF (s:Int) (k:Nat):Bool:=bAnd IntKind.u16 (s.fdiv ((2:Int) ^ min k IntKind.u16.bits)) 1==0
def airF (airs:List (List Int)) (k:Nat):List Int:=[(airs.getD k []).getD 0 0,(airs.getD k []).getD 1 0,(airs.getD k []).getD 2 0,(airs.getD k []).getD 3 0]
noncomputable def cnt0 (P E airs:List (List Int)) (tr:List (List Int)) (k:Nat):Bool:=xe6 (tA airs k) P E [airF airs k] tr==0
noncomputable def badA (P E airs:List (List Int)) (tr:List (List Int)) (k:Nat):Bool:=xe5 (tA airs k) P E [airF airs k] tr !=0||decide ((tr.length:Int)>20)
def offB (v:List Int):Bool:=decide (v.getD 1 0≥0)&&decide (v.getD 1 0<v.getD 2 0)&&decide (v.getD 2 0≤100000)
def xlv (sent:Int) (airs:List (List Int)) (v:List Int) (k:Nat):Bool:=bitF sent k&&!(offB v&&decide (v.getD 1 0≤tA airs k)&&decide (tA airs k<v.getD 2 0))
noncomputable def pCh (P E airs:List (List Int)) (v:List Int) (k:Nat):Bool:=!cnt0 P E airs (decL (v.getD 0 0)) k
noncomputable def pCo (sent ul:Int) (P E airs:List (List Int)) (v:List Int) (k:Nat):Bool:=pCh P E airs v k&&(xlv sent airs v k&&decide (tA airs k≤ul))
noncomputable def pSh (sent:Int) (P E airs:List (List Int)) (v:List Int) (k:Nat):Bool:=pCh P E airs v k&&(xlv sent airs v k&&misF (v.getD 3 0) k)
noncomputable def pCa (sent:Int) (P E airs:List (List Int)) (v:List Int) (k:Nat):Bool:=pCh P E airs v k&&(xlv sent airs v k&&!misF (v.getD 3 0) k)
noncomputable def pMi (sent ui ul:Int) (P E airs:List (List Int)) (v:List Int) (k:Nat):Bool:=pCh P E airs v k&&(!(xlv sent airs v k&&misF (v.getD 3 0) k)&&decide (tA airs k+ui≤ul))
def gCh (airs:List (List Int)) (i:Nat) (k:Nat):List Int:=[(i:Int)+1,(k:Int)+1,tA airs k]
def gCo (k:Nat):List Int:=[(k:Int)+1]
def gSh (airs:List (List Int)) (lag:Int) (k:Nat):List Int:=[tA airs k+lag,3,(k:Int)+1]
theorem xAH (p:Nat→Bool) (g:Nat→List Int) (n:Nat):selR p g (n+1)=bif p n then selR p g n++[g n] else selR p g n:=rfl
theorem xwc (p:Nat→Bool) (n:Nat):numR p (n+1)=bif p n then numR p n+1 else numR p n:=rfl
theorem xAp {n:Nat} (h:n≤1000000):xa5 24 n:=by unfold xa5 maxLen; omega
theorem fit8 {n:Nat} (h:n≤1000000):xa5 8 n:=by unfold xa5 maxLen; omega
theorem xDV {n:Nat} (h:n≤1000000):xa5 32 n:=by unfold xa5 maxLen; omega
theorem xDO (sent lag ui ul:Int) (P E airs uh:List (List Int)) (y1:List U):xdd sent lag ui ul P E airs uh y1=xaB sent lag ui ul P E airs uh y1:=rfl
noncomputable def inS (sent lag ui ul:Int) (P E airs:List (List Int)) (v:List Int) (i:Nat) (b:Bool) (c0 m0:Nat) (ch L:List (List Int)) (k:Nat):List U :=
 [.b b,.i ((c0+numR (pCa sent P E airs v) k:Nat):Int),.i ((m0+numR (pMi sent ui ul P E airs v) k:Nat):Int),.i (k:Int),.r (ch++selR (pCh P E airs v) (gCh airs i) k),.r (selR (pCo sent ul P E airs v) gCo k),.r (L++selR (pSh sent P E airs v) (gSh airs lag) k)]
theorem xBO {sent lag ui ul:Int} {P E airs uh:List (List Int)} {y1:List U} {i:Nat} (hy:gi y1 4=(i:Int)) (hi:i<uh.length) (hi3:i<1000) {b:Bool} {c0 m0:Nat} {ch L:List (List Int)} (hc0:c0≤1000) (hm0:m0≤1000) (hch:ch.length≤1000) (hL:L.length≤1000) (ha:airs.length≤8)
  (hP:P.length≤9223372036854775807) (hE:E.length≤9223372036854775807) (htr:(decL (uh[i].getD 0 0)).length≤9223372036854775807) (hT:∀ k,k<airs.length→0≤tA airs k∧tA airs k≤100000) (hlag:0≤lag∧lag≤1000) (hdl:0≤ui∧ui≤1000) {k:Nat} (hk:k<airs.length) :
  xaB sent lag ui ul P E airs uh y1 (inS sent lag ui ul P E airs uh[i] i b c0 m0 ch L k)=bif badA P E airs (decL (uh[i].getD 0 0)) k then some (1,[.b xaV]) else some (0,inS sent lag ui ul P E airs uh[i] i b c0 m0 ch L (k+1)):=by
 have hs1:=xe2 (pCh P E airs uh[i]) (gCh airs i) k
 have hs2:=xe2 (pCo sent ul P E airs uh[i]) gCo k
 have hs3:=xe2 (pSh sent P E airs uh[i]) (gSh airs lag) k
 have hn1:=xfG (pCh P E airs uh[i]) k
 have hn2:=xfG (pCo sent ul P E airs uh[i]) k
 have hn3:=xfG (pSh sent P E airs uh[i]) k
 have hn4:=xfG (pCa sent P E airs uh[i]) k
 have hn5:=xfG (pMi sent ui ul P E airs uh[i]) k
 have hk0:(0:Int)≤(k:Int):=by omega
 have g1:∀ (c:Bool) (o:Option (Nat×List U)),xac (c=true→(0:Int)≤(k:Int)) o=o:=fun c o=>xaa fun _=>hk0
 have g2:∀ (o:Option (Nat×List U)),xac ((0:Int)≤(k:Int)) o=o:=fun o=>xaa hk0
 have ht:=hT k hk
 have w1:IntKind.i64.wrap ((airs.getD k []).getD 0 0+lag)=tA airs k+lag:=xfv (by unfold tA at ht; omega)
 have w2:IntKind.i64.wrap ((airs.getD k []).getD 0 0+ui)=tA airs k+ui:=xfv (by unfold tA at ht; omega)
 have w3:IntKind.i64.wrap ((k:Int)+1)=((k+1:Nat):Int):=xcN (by omega)
 have w4:IntKind.i64.wrap ((i:Int)+1)=((i+1:Nat):Int):=xcN (by omega)
 have w5:IntKind.i64.wrap (((c0+numR (pCa sent P E airs uh[i]) k:Nat):Int)+1)=((c0+numR (pCa sent P E airs uh[i]) k+1:Nat):Int):=xcN (by omega)
 have w6:IntKind.i64.wrap (((m0+numR (pMi sent ui ul P E airs uh[i]) k:Nat):Int)+1)=((m0+numR (pMi sent ui ul P E airs uh[i]) k+1:Nat):Int):=xcN (by omega)
 have hpre:xcB (tA airs k) P E [airF airs k] (decL (uh[i].getD 0 0)):=xAs hP hE htr (by simp)
 have hpre:xcB ((airs.getD k []).getD 0 0) P E [[(airs.getD k []).getD 0 0,(airs.getD k []).getD 1 0,(airs.getD k []).getD 2 0,(airs.getD k []).getD 3 0]] (decL (uh[i].getD 0 0)):=hpre
 unfold xaB xiE xiD xa8 xdI xe1 inS
 simp only [gi_1,gi_2,gi_3,gi_z,gb_z,xAg,xAf,xyQ,gr_z,hy,Int.toNat_natCast]
 rw [dlt hk]
 simp only [xbj hi,xaa (xaw hk),xaa hpre,g1,g2,w1,w2,w3,w4,w5,w6]
 simp only [List.length_append,hs1,hs2,hs3,List.length_cons,List.length_nil]
 have f1:∀ o:Option (Nat×List U),xac (xa5 24 (ch.length+numR (pCh P E airs uh[i]) k+(0+1))) o=o:=fun o=>xaa (xAp (by omega))
 have f2:∀ o:Option (Nat×List U),xac (xa5 8 (numR (pCo sent ul P E airs uh[i]) k+(0+1))) o=o:=fun o=>xaa (fit8 (by omega))
 have f3:∀ o:Option (Nat×List U),xac (xa5 24 (L.length+numR (pSh sent P E airs uh[i]) k+(0+1))) o=o:=fun o=>xaa (xAp (by omega))
 simp only [f1,f2,f3]
 simp only [xAH,xwc]
 have eb:(xe5 ((airs.getD k []).getD 0 0) P E [[(airs.getD k []).getD 0 0,(airs.getD k []).getD 1 0,(airs.getD k []).getD 2 0,(airs.getD k []).getD 3 0]] (decL (uh[i].getD 0 0)) !=0||decide (((decL (uh[i].getD 0 0)).length:Int)>20))=badA P E airs (decL (uh[i].getD 0 0)) k:=rfl
 have ec:(xe6 ((airs.getD k []).getD 0 0) P E [[(airs.getD k []).getD 0 0,(airs.getD k []).getD 1 0,(airs.getD k []).getD 2 0,(airs.getD k []).getD 3 0]] (decL (uh[i].getD 0 0))==0)=cnt0 P E airs (decL (uh[i].getD 0 0)) k:=rfl
 have eh:(bAnd IntKind.u16 (sent.fdiv ((2:Int) ^ min k IntKind.u16.bits)) 1==1&&!(decide (uh[i].getD 1 0≥0)&&decide (uh[i].getD 1 0<uh[i].getD 2 0)&&decide (uh[i].getD 2 0≤100000)&&decide (uh[i].getD 1 0≤(airs.getD k []).getD 0 0)&&decide ((airs.getD k []).getD 0 0<uh[i].getD 2 0)))=xlv sent airs uh[i] k:=rfl
 have em:(bAnd IntKind.u16 ((uh[i].getD 3 0).fdiv ((2:Int) ^ min k IntKind.u16.bits)) 1==0)=misF (uh[i].getD 3 0) k:=rfl
 have et:decide ((airs.getD k []).getD 0 0≤ul)=decide (tA airs k≤ul):=rfl
 rw [eb]
 simp only [ec,eh,em,et]
 have q1:pCh P E airs uh[i] k=!cnt0 P E airs (decL (uh[i].getD 0 0)) k:=rfl
 have q2:pCo sent ul P E airs uh[i] k=(pCh P E airs uh[i] k&&(xlv sent airs uh[i] k&&decide (tA airs k≤ul))):=rfl
 have q3:pSh sent P E airs uh[i] k=(pCh P E airs uh[i] k&&(xlv sent airs uh[i] k&&misF (uh[i].getD 3 0) k)):=rfl
 have q4:pCa sent P E airs uh[i] k=(pCh P E airs uh[i] k&&(xlv sent airs uh[i] k&&!misF (uh[i].getD 3 0) k)):=rfl
 have q5:pMi sent ui ul P E airs uh[i] k=(pCh P E airs uh[i] k&&(!(xlv sent airs uh[i] k&&misF (uh[i].getD 3 0) k)&&decide (tA airs k+ui≤ul))):=rfl
 rw [q1] at q2 q3 q4 q5
 have ce:∀ (x:List (List Int)) (y z:List (List Int)) ,(x++y)++z=x++(y++z):=fun x y z=>List.append_assoc ..
 have ei:((i+1:Nat):Int)=(i:Int)+1:=by omega
 have ek:((k+1:Nat):Int)=(k:Int)+1:=by omega
 have e1:[[((i+1:Nat):Int),((k+1:Nat):Int),(airs.getD k []).getD 0 0]]=[gCh airs i k]:=by rw [ei,ek]; rfl
 have e2:[[((k+1:Nat):Int)]]=[gCo k]:=by rw [ek]; rfl
 have e3:[[tA airs k+lag,3,((k+1:Nat):Int)]]=[gSh airs lag k]:=by rw [ek]; rfl
 rw [e1,e2,e3]
 generalize badA P E airs (decL (uh[i].getD 0 0)) k=x0
 generalize cnt0 P E airs (decL (uh[i].getD 0 0)) k=x1 at q1 q2 q3 q4 q5
 generalize xlv sent airs uh[i] k=x2 at q2 q3 q4 q5
 generalize misF (uh[i].getD 3 0) k=x3 at q3 q4 q5
 generalize decide (tA airs k≤ul)=x4 at q2
 generalize decide (tA airs k+ui≤ul)=x5 at q5
 rw [q1,q2,q3,q4,q5]
 cases x0<;>cases x1<;>cases x2<;>cases x3<;>cases x4<;>cases x5<;>simp [Nat.add_assoc]
end Go.Proofs.YthfjhbbpdhjklaaGreat
