/- Several texts in one (wip/pack.py): XSeen XDeskR XDeskG. -/
import Derived.Test.YthfjhbbpdhjklaaGreatQTT05
import Derived.Test.YthfjhbbpdhjklaaGreatQTT06
import Derived.Test.YthfjhbbpdhjklaaGreatQTT07
set_option linter.unusedVariables false
namespace Go.Proofs.YthfjhbbpdhjklaaGreat
open Go Go.Sy
theorem xpm {i:Nat} (h:i<9223372036854775807):IntKind.i64.wrap ((i:Int)+1)=((i+1:Nat):Int):=by
 rw [xau (by omega)]; rfl
theorem xsa (a b:Int):imin a b=if a≤b then a else b:=by unfold imin; split<;>split<;>omega
theorem xsb (a b:Int):imax a b=if a≤b then b else a:=by unfold imax; split<;>split<;>omega
theorem xur (a b:Int):xaM a b=true ↔ -1000000000000≤a∧a≤b∧b≤1000000000000:=by
 unfold xaM; simp [and_assoc]
theorem xcQ (a b:Int):xaM a b=decide (-1000000000000≤a∧a≤b∧b≤1000000000000):=by
 rw [Bool.eq_iff_iff,xur,decide_eq_true_eq]
theorem xm6 (a b k:Int) (hk:0≤k∧k≤1000000000000):(xbG a b (-k) k==(0:Int))=true∧xbi a b (-k) k=true ↔ -k≤a∧a≤b∧b≤k:=by
 unfold xbG xbi xaL xcL xcK xdK xdJ
 rw [xcQ,xcQ,xsa,xsb]
 rw [decide_eq_true (show -1000000000000 ≤ -k ∧ -k≤k∧k≤1000000000000 by omega)]
 by_cases h : -1000000000000≤a∧a≤b∧b≤1000000000000
 ·rw [decide_eq_true h]
  simp
  omega
 ·rw [decide_eq_false h]
  simp
  omega
def VB (b:List Int):Prop := -1000000≤b.getD 0 0∧b.getD 0 0≤b.getD 1 0∧b.getD 1 0≤1000000 ∧ -1000000≤b.getD 2 0∧b.getD 2 0≤b.getD 3 0∧b.getD 3 0≤1000000
instance (b:List Int):Decidable (VB b):=by unfold VB; infer_instance
theorem xrp (a b c d:Int):xab a b c d=decide (-1000000≤a∧a≤b∧b≤1000000 ∧ -1000000≤c∧c≤d∧d≤1000000):=by
 rw [Bool.eq_iff_iff,decide_eq_true_eq]
 have h1:=xm6 a b 1000000 (by omega)
 have h2:=xm6 c d 1000000 (by omega)
 unfold xab
 simp only [Bool.and_eq_true] at *
 constructor
 ·rintro ⟨⟨⟨g1,g2⟩,g3⟩,g4⟩
  have:=h1.1 ⟨g1,g3⟩
  have:=h2.1 ⟨g2,g4⟩
  omega
 ·rintro h
  have k1:=h1.2 (by omega)
  have k2:=h2.2 (by omega)
  exact ⟨⟨⟨k1.1,k2.1⟩,k1.2⟩,k2.2⟩
theorem xqM (b:List Int):xab (b.getD 0 0) (b.getD 1 0) (b.getD 2 0) (b.getD 3 0)=decide (VB b):=xrp _ _ _ _
def VP (x y:Int):Prop := -1000000≤x∧x≤1000000 ∧ -1000000≤y∧y≤1000000
instance (x y:Int):Decidable (VP x y):=by unfold VP; infer_instance
theorem xv7 (x y:Int):xcq x y=decide (VP x y):=by
 unfold xcq
 rw [xrp]
 unfold VP
 by_cases h : -1000000≤x∧x≤1000000 ∧ -1000000≤y∧y≤1000000
 ·rw [decide_eq_true h,decide_eq_true (by omega)]
 ·rw [decide_eq_false h,decide_eq_false (by omega)]
def VL (l:List (List Int)):Prop:=0<l.length∧l.length≤16∧∀ b∈l,VB b
instance (l:List (List Int)):Decidable (VL l):=by unfold VL; infer_instance
theorem xdS {l:List (List Int)} {i:Nat} (h:i<l.length):l.getD i []∈l:=by
 rw [List.getD_eq_getElem?_getD,List.getElem?_eq_getElem h]
 exact List.getElem_mem h
theorem xoc {l:List (List Int)} {x:List Int} (h:x∈l):∃ i,i<l.length∧l.getD i []=x:=by
 obtain ⟨j,hj,rfl⟩:=List.getElem_of_mem h
 exact ⟨j,hj,by rw [List.getD_eq_getElem?_getD,List.getElem?_eq_getElem hj]; rfl⟩
theorem xeG {l:List (List Int)} {i:Nat} (h:i<l.length):l.take (i+1)=l.take i++[l.getD i []]:=by
 rw [List.take_succ_eq_append_getElem h,List.getD_eq_getElem?_getD,List.getElem?_eq_getElem h]; rfl
theorem xvh {a b:List (List Int)} (hl:a.length=b.length) (h:∀ i,i<a.length→a.getD i []=b.getD i []):a=b:=by
 apply List.ext_getElem hl
 intro i h1 h2
 have:=h i h1
 rwa [List.getD_eq_getElem?_getD,List.getD_eq_getElem?_getD,List.getElem?_eq_getElem h1,List.getElem?_eq_getElem h2] at this
theorem xiY (l:List (List Int)):xc1 l∧xbX l=decide (VL l):=by
 unfold xc1 xbX
 by_cases hl:0<l.length∧l.length≤16
 ·have hl':(decide ((l.length:Int)>0)&&decide ((l.length:Int)≤16))=true:=by simp; omega
  have key:=xev (step:=xdO l) l.length (fun i=>!decide (VB (l.getD i []))) (fun i=>[.i 0,.i i]) (fun i=>[.i i]) 0 2 [.i 0,.i l.length]
   (fun i hi=>by
    unfold xdO
    simp only [gi_1,gi_z,gb_z,dlt hi,xaN (xey hi),Int.toNat_natCast,xbQ (show i<4611686018427387904 by omega),xqM]
    try rfl)
   (by
    unfold xdO
    simp only [gi_1,gi_z,gb_z,dnlt]
    try rfl)
  rw [hl']
  refine ⟨fun _=>key.1,?_⟩
  rw [Bool.true_and]
  rcases key.2 with ⟨i,h1,h2,h3,h4⟩ | ⟨h3,h4⟩
  ·have e:xii l=(1,[.i i]):=h4
   rw [e]
   have:¬ VL l:=fun h=>by
    have:=h.2.2 _ (xdS h1)
    rw [decide_eq_true this] at h2; cases h2
   rw [decide_eq_false this]; simp [Nat.beq,gi_z]
  ·have e:xii l=(3,[.i 0,.i l.length]):=h4
   rw [e]
   have:VL l:=by
    refine ⟨hl.1,hl.2,fun x hx=>?_⟩
    obtain ⟨j,hj,rfl⟩:=xoc hx
    simpa using h3 j hj
   rw [decide_eq_true this]; simp [Nat.beq]
 ·have hl':(decide ((l.length:Int)>0)&&decide ((l.length:Int)≤16))=false:=by simp; omega
  rw [hl']
  refine ⟨fun h=>(Bool.noConfusion h),?_⟩
  have:¬ VL l:=fun h=>hl ⟨h.1,h.2.1⟩
  rw [decide_eq_false this]; rfl
def CO (e:Int) (c:List Int):Prop:=(-1000≤c.getD 2 0∧c.getD 2 0≤c.getD 3 0∧c.getD 3 0≤1000)∧(-1000≤c.getD 4 0∧c.getD 4 0≤c.getD 5 0∧c.getD 5 0≤1000)∧e≤c.getD 0 0∧c.getD 0 0<c.getD 1 0∧c.getD 1 0≤10000000
instance (e:Int) (c:List Int):Decidable (CO e c):=by unfold CO; infer_instance
def CL:Int→List (List Int)→Prop
 | _,[]=>True
 | e,c::l=>CO e c∧CL (c.getD 1 0) l
instance xIy:(e:Int)→(l:List (List Int))→Decidable (CL e l)
 | _,[]=>.isTrue trivial
 | e,c::l=>by unfold CL; exact @instDecidableAnd _ _ _ (xIy _ l)
def VC (l:List (List Int)):Prop:=CL 0 l∧l.length≤60
instance (l:List (List Int)):Decidable (VC l):=by unfold VC; infer_instance
def xtJ (e:Int):List (List Int)→Int
 | []=>e
 | c::l=>xtJ (c.getD 1 0) l
theorem xx9 (e:Int) (a b:List (List Int)):xtJ e (a++b)=xtJ (xtJ e a) b:=by
 induction a generalizing e with
 | nil=>rfl
 | cons c a ih=>exact ih _
theorem xyw (e:Int) (a b:List (List Int)):CL e (a++b)↔CL e a∧CL (xtJ e a) b:=by
 induction a generalizing e with
 | nil=>simp [CL,xtJ]
 | cons c a ih=>simp [CL,xtJ,ih,and_assoc]
theorem xIz (e:Int) (c:List Int):(xbG (c.getD 2 0) (c.getD 3 0) (-1000) 1000 !=0||xbG (c.getD 4 0) (c.getD 5 0) (-1000) 1000 !=0||!xbi (c.getD 2 0) (c.getD 3 0) (-1000) 1000||!xbi (c.getD 4 0) (c.getD 5 0) (-1000) 1000||decide (c.getD 0 0<e)||decide (c.getD 1 0≤c.getD 0 0)||decide (c.getD 1 0>10000000))=!decide (CO e c):=by
 have h1:=xm6 (c.getD 2 0) (c.getD 3 0) 1000 (by omega)
 have h2:=xm6 (c.getD 4 0) (c.getD 5 0) 1000 (by omega)
 have hCO:CO e c↔(((xbG (c.getD 2 0) (c.getD 3 0) (-1000) 1000==(0:Int))=true∧xbi (c.getD 2 0) (c.getD 3 0) (-1000) 1000=true)∧((xbG (c.getD 4 0) (c.getD 5 0) (-1000) 1000==(0:Int))=true∧xbi (c.getD 4 0) (c.getD 5 0) (-1000) 1000=true)∧e≤c.getD 0 0∧c.getD 0 0<c.getD 1 0∧c.getD 1 0≤10000000):=by
  rw [h1,h2]; rfl
 rw [Bool.eq_iff_iff]
 simp only [hCO,Bool.or_eq_true,Bool.not_eq_true',decide_eq_true_eq,decide_eq_false_iff_not,bne_iff_ne,beq_iff_eq]
 generalize xbi (c.getD 2 0) (c.getD 3 0) (-1000) 1000=p
 generalize xbi (c.getD 4 0) (c.getD 5 0) (-1000) 1000=q
 cases p<;>cases q<;>simp<;>omega
theorem xlB (l:List (List Int)) (hl:l.length≤9223372036854775807):xdb l∧xbf l=decide (VC l):=by
 have key:=xev (step:=xcH l) l.length (fun i=>!decide (CO (xtJ 0 (l.take i)) (l.getD i []))) (fun i=>[.b false,.i (xtJ 0 (l.take i)),.i i]) (fun i=>[]) 0 2 [.b false,.i (xtJ 0 l),.i l.length]
  (fun i hi=>by
   unfold xcH
   simp only [gi_1,gi_2,gi_z,gb_z,dlt hi,xaN (xey hi),Int.toNat_natCast,xpm (show i<9223372036854775807 by omega),xIz]
   rw [xeG hi,xx9]
   rfl)
  (by
   unfold xcH
   simp only [gi_1,gi_2,gi_z,gb_z,dnlt,List.take_length])
 refine ⟨key.1,?_⟩
 unfold xbf
 rcases key.2 with ⟨i,h1,h2,h3,h4⟩ | ⟨h3,h4⟩
 ·have e:xhv l=(1,[]):=h4
  rw [e]
  have:¬ VC l:=fun h=>by
   have h:=h.1
   rw [← List.take_append_drop i l,xyw] at h
   have h:=h.2
   rw [List.drop_eq_getElem_cons h1] at h
   have hg:l[i]=l.getD i []:=by rw [List.getD_eq_getElem?_getD,List.getElem?_eq_getElem h1]; rfl
   rw [hg] at h
   rw [decide_eq_true h.1] at h2
   cases h2
  rw [decide_eq_false this]; simp [Nat.beq]
 ·have e:xhv l=(3,[.b false,.i (xtJ 0 l),.i l.length]):=h4
  rw [e]
  have hcl:∀ i,i≤l.length→CL 0 (l.take i):=by
   intro i
   induction i with
   | zero=>intro _; simp [CL]
   | succ i ih =>
    intro hi
    rw [xeG hi,xyw]
    refine ⟨ih (by omega),?_,trivial⟩
    simpa using h3 i hi
  have:=hcl _ (Nat.le_refl _)
  rw [List.take_length] at this
  by_cases h60:l.length≤60
  ·rw [decide_eq_true (show VC l from ⟨this,h60⟩)]; simp [Nat.beq]; omega
  ·rw [decide_eq_false (show ¬ VC l from fun h=>h60 h.2)]; simp [Nat.beq]; omega
def mins (f u:Int) (c:List Int):Int:=max 0 (min (c.getD 1 0) u-max (c.getD 0 0) f)
def sumL (f u:Int) (k:Nat) (l:List (List Int)):Int:=(l.map fun c=>mins f u c*c.getD k 0).sum
def covL (f u:Int) (l:List (List Int)):Int:=(l.map fun c=>mins f u c).sum
theorem xCQ {e:Int} {l:List (List Int)} (h:CL e l):∀ c∈l,CO e c:=by
 induction l generalizing e with
 | nil=>intro c hc; cases hc
 | cons d l ih =>
  intro c hc
  rcases List.mem_cons.1 hc with rfl | hc
  ·exact h.1
  ·have h1:=ih h.2 c hc
   have h2:=h.1
   unfold CO at *
   omega
def VT (f u:Int):Prop:=0≤f∧f≤u∧u≤10000000
instance (f u:Int):Decidable (VT f u):=by unfold VT; infer_instance
theorem xyR {f u e:Int} {c:List Int} (h:VT f u) (hc:CO e c):0≤mins f u c∧mins f u c≤10000000:=by
 unfold mins VT CO at *; omega
theorem xc7 {n x:Int} (h1:0≤n) (h2:n≤10000000) (h3 : -1000≤x) (h4:x≤1000) : -10000000000≤n*x∧n*x≤10000000000:=by
 have a:=Int.mul_le_mul_of_nonneg_left h4 h1
 have b:=Int.mul_le_mul_of_nonneg_left h3 h1
 omega
theorem xzz (a:List Int) (x:Int):(a++[x]).sum=a.sum+x:=by simp
theorem xrt (f u:Int) (k:Nat) {l:List (List Int)} {i:Nat} (hi:i<l.length):sumL f u k (l.take (i+1))=sumL f u k (l.take i)+mins f u (l.getD i [])*(l.getD i []).getD k 0:=by
 unfold sumL; rw [xeG hi,List.map_append,List.map_cons,List.map_nil,xzz]
theorem xyf (f u:Int) {l:List (List Int)} {i:Nat} (hi:i<l.length):covL f u (l.take (i+1))=covL f u (l.take i)+mins f u (l.getD i []):=by
 unfold covL; rw [xeG hi,List.map_append,List.map_cons,List.map_nil,xzz]
theorem xCW (f u:Int) (l:List (List Int)) (hv:VC l) (ht:VT f u):xa5 (xdI f u l) (xeR f u l) ∧
  xc2 f u l=(3,[.i l.length,.i (u-f-covL f u l),.i (sumL f u 4 l),.i (sumL f u 5 l),.i (sumL f u 2 l),.i (sumL f u 3 l)]):=by
 have key:=xf9 (σ:=Unit) (step:=xdI f u l) l.length
  (fun i _=>[.i i,.i (u-f-covL f u (l.take i)),.i (sumL f u 4 (l.take i)),.i (sumL f u 5 (l.take i)),.i (sumL f u 2 (l.take i)),.i (sumL f u 3 (l.take i))]) (fun _ s=>s)
  (fun i _=>(0≤covL f u (l.take i)∧covL f u (l.take i)≤10000000*i)∧∀ k,k=2∨k=3∨k=4∨k=5 → -10000000000*i≤sumL f u k (l.take i)∧sumL f u k (l.take i)≤10000000000*i) 2
  (fun _=>[.i l.length,.i (u-f-covL f u l),.i (sumL f u 4 l),.i (sumL f u 5 l),.i (sumL f u 2 l),.i (sumL f u 3 l)])
  (fun i s hi ⟨h,h2⟩=>by
   have hc:=xCQ hv.1 _ (xdS hi)
   have hm:=xyR ht hc
   refine ⟨?_,fun k hk=>?_⟩
   ·rw [xyf f u hi]
    omega
   ·have:=h2 k hk
    have hb : -1000≤(l.getD i []).getD k 0∧(l.getD i []).getD k 0≤1000:=by
     unfold CO at hc
     rcases hk with rfl | rfl | rfl | rfl<;>omega
    have:=xc7 hm.1 hm.2 hb.1 hb.2
    rw [xrt f u k hi]
    omega)
  (fun i s hi ⟨h,h2⟩=>by
   have hc:=xCQ hv.1 _ (xdS hi)
   have hm:=xyR ht hc
   have h60:=hv.2
   have p2:=h2 2 (by simp)
   have p3:=h2 3 (by simp)
   have p4:=h2 4 (by simp)
   have p5:=h2 5 (by simp)
   have m2:=xc7 (x:=(l.getD i []).getD 2 0) hm.1 hm.2 (by unfold CO at hc; omega) (by unfold CO at hc; omega)
   have m3:=xc7 (x:=(l.getD i []).getD 3 0) hm.1 hm.2 (by unfold CO at hc; omega) (by unfold CO at hc; omega)
   have m4:=xc7 (x:=(l.getD i []).getD 4 0) hm.1 hm.2 (by unfold CO at hc; omega) (by unfold CO at hc; omega)
   have m5:=xc7 (x:=(l.getD i []).getD 5 0) hm.1 hm.2 (by unfold CO at hc; omega) (by unfold CO at hc; omega)
   unfold xdI
   simp only [gi_z,gi_1,gi_2,gi_3,gi_4,dlt hi,xaN (xey hi),Int.toNat_natCast,xbQ (show i<4611686018427387904 by omega)]
   have g5:∀ a b c d e f:Int,gi [.i a,.i b,.i c,.i d,.i e,.i f] 5=f:=fun _ _ _ _ _ _=>rfl
   simp only [g5,xrt f u _ hi,xyf f u hi]
   generalize hmm:mins f u (l.getD i [])=M at *
   have hw:IntKind.i64.wrap (imin ((l.getD i []).getD 1 0) u-imax ((l.getD i []).getD 0 0) f)=min ((l.getD i []).getD 1 0) u-max ((l.getD i []).getD 0 0) f:=by
    rw [xau (by rw [xsa,xsb]; unfold CO VT at *; split<;>split<;>omega),xsa,xsb]
    split<;>split<;>omega
   rw [hw]
   by_cases hp:min ((l.getD i []).getD 1 0) u-max ((l.getD i []).getD 0 0) f>0
   ·have eM:min ((l.getD i []).getD 1 0) u-max ((l.getD i []).getD 0 0) f=M:=by unfold mins at hmm; omega
    rw [decide_eq_true hp,eM]
    simp only [beq_self_eq_true,cond_true]
    rw [xau (show _≤M*(l.getD i []).getD 2 0∧_ by omega),xau (show _≤M*(l.getD i []).getD 3 0∧_ by omega),xau (show _≤M*(l.getD i []).getD 4 0∧_ by omega),xau (show _≤M*(l.getD i []).getD 5 0∧_ by omega)]
    have:(0:Int)≤i∧(i:Int)≤60:=by omega
    unfold VT at ht
    rw [xau (by omega),xau (by omega),xau (by omega),xau (by omega),xau (by omega)]
    simp only [Option.some.injEq,Prod.mk.injEq,List.cons.injEq,U.i.injEq,and_true,true_and]
    omega
   ·have eM:M=0:=by unfold mins at hmm; omega
    rw [decide_eq_false hp,eM]
    simp)
  (fun s _=>by
   unfold xdI
   simp only [gi_z,gi_1,gi_2,gi_3,gi_4,dnlt,List.take_length]
   rfl) (s:=()) (by simp [covL,sumL])
 have e0:xeR f u l=[.i ((0:Nat):Int),.i (u-f-covL f u (l.take 0)),.i (sumL f u 4 (l.take 0)),.i (sumL f u 5 (l.take 0)),.i (sumL f u 2 (l.take 0)),.i (sumL f u 3 (l.take 0))]:=by
  unfold xeR
  rw [xau (by unfold VT at ht; omega)]
  simp [covL,sumL]
 unfold xc2
 rw [e0]
 exact ⟨key.1,key.2.1⟩
def sumE (f u:Int) (l:List (List Int)):Int:=if ¬ VC l∨¬ VT f u then 1 else if u-f-covL f u l>0 then 4 else 0
def sumV (f u:Int) (k:Nat) (l:List (List Int)):Int:=if sumE f u l=0 then sumL f u k l else 0
theorem xCX (f u:Int) (l:List (List Int)) (hl:l.length≤9223372036854775807):(!xbf l||decide (f<0)||decide (u<f)||decide (u>10000000))=decide (¬ VC l∨¬ VT f u):=by
 rw [(xlB l hl).2]
 by_cases h:VC l
 ·rw [decide_eq_true h]
  unfold VT
  by_cases h2:0≤f∧f≤u∧u≤10000000
  ·rw [decide_eq_false (show ¬ f<0 by omega),decide_eq_false (show ¬ u<f by omega),decide_eq_false (show ¬ u>10000000 by omega),decide_eq_false (by simp [h,h2])]; rfl
  ·rw [decide_eq_true (show ¬ VC l∨_ from .inr h2)]
   simp only [Bool.not_true,Bool.false_or,Bool.or_eq_true,decide_eq_true_eq]
   omega
 ·rw [decide_eq_false h,decide_eq_true (show ¬ VC l∨¬ VT f u from .inl h)]; rfl
theorem xBj (f u:Int) (l:List (List Int)) (hl:l.length≤9223372036854775807):xe4 f u l∧xdP f u l=sumE f u l∧xb3 f u l=sumV f u 2 l∧xb2 f u l=sumV f u 3 l∧xb1 f u l=sumV f u 4 l∧xb0 f u l=sumV f u 5 l:=by
 unfold xe4 xdP xb3 xb2 xb1 xb0 sumV sumE
 rw [xCX f u l hl]
 by_cases h:¬ VC l∨¬ VT f u
 ·rw [decide_eq_true h]
  refine ⟨⟨(xlB l hl).1,fun h=>by cases h⟩,?_⟩
  simp [if_pos h]
 ·rw [decide_eq_false h,if_neg h]
  have hv:VC l:=Decidable.byContradiction fun hn=>h (.inl hn)
  have ht:VT f u:=Decidable.byContradiction fun hn=>h (.inr hn)
  obtain ⟨h1,h2⟩:=xCW f u l hv ht
  refine ⟨⟨(xlB l hl).1,fun _=>h1⟩,?_⟩
  rw [h2]
  have g5:∀ a b c d e f:Int,gi [.i a,.i b,.i c,.i d,.i e,.i f] 5=f:=fun _ _ _ _ _ _=>rfl
  simp only [gi_1,gi_2,gi_3,gi_4,gi_z,cond_false,g5]
  by_cases hc:u-f-covL f u l>0
  ·rw [decide_eq_true hc,if_pos hc]; exact ⟨rfl,rfl,rfl,rfl,rfl⟩
  ·rw [decide_eq_false hc,if_neg hc]; exact ⟨rfl,rfl,rfl,rfl,rfl⟩
end Go.Proofs.YthfjhbbpdhjklaaGreat
set_option linter.unusedVariables false
namespace Go.Proofs.YthfjhbbpdhjklaaGreat
open Go Go.Sy
theorem xBh {n:Int} (h:0≤n):n.tdiv 100=n/100:=Int.tdiv_eq_ediv_of_nonneg h
noncomputable def dnW (n:Int):Int:=bif decide (n<(0:Int)) then IntKind.i64.wrap ((0:Int)-IntKind.i64.wrap ((IntKind.i64.wrap ((99:Int)-n)).tdiv (100:Int))) else IntKind.i64.wrap (n.tdiv (100:Int))
theorem xDZ {n:Int} (h : -1000000000000000≤n∧n≤1000000000000000):dnW n=n/100:=by
 unfold dnW
 by_cases hn:n<0
 ·rw [decide_eq_true hn,cond_true,xau (x:=99-n) (by omega),xBh (by omega),xau (x:=(99-n)/100) (by omega),xau (by omega)]
  omega
 ·rw [decide_eq_false hn,cond_false,xBh (by omega),xau (by omega)]
noncomputable def loW (x s:Int):Int:=dnW (IntKind.i64.wrap (IntKind.i64.wrap ((100:Int)*x)+s))
noncomputable def hiW (x s:Int):Int:=IntKind.i64.wrap ((0:Int)-dnW (IntKind.i64.wrap ((0:Int)-IntKind.i64.wrap (IntKind.i64.wrap ((100:Int)*x)+s))))
def lo (x s:Int):Int:=(100*x+s)/100
def hi (x s:Int):Int := -((-(100*x+s))/100)
theorem xDR {x s:Int} (hx : -1000000≤x∧x≤1000000) (hs : -600000000000≤s∧s≤600000000000):loW x s=lo x s:=by
 unfold loW lo
 rw [xau (x:=100*x) (by omega),xau (by omega),xDZ (by omega)]
theorem xDW {x s:Int} (hx : -1000000≤x∧x≤1000000) (hs : -600000000000≤s∧s≤600000000000):hiW x s=hi x s:=by
 unfold hiW hi
 rw [xau (x:=100*x) (by omega),xau (x:=100*x+s) (by omega),xau (x:=0-(100*x+s)) (by omega),xDZ (by omega),xau (by omega)]
 omega
def mvB (x0 x1 y0 y1:Int) (b:List Int):List Int:=[lo (b.getD 0 0) x0,hi (b.getD 1 0) x1,lo (b.getD 2 0) y0,hi (b.getD 3 0) y1]
noncomputable def mvW (x0 x1 y0 y1:Int) (b:List Int):List Int:=[loW (b.getD 0 0) x0,hiW (b.getD 1 0) x1,loW (b.getD 2 0) y0,hiW (b.getD 3 0) y1]
theorem xEe {f u:Int} {l:List (List Int)} (hv:VC l) (ht:VT f u) {k:Nat} (hk:k=2∨k=3∨k=4∨k=5) : -600000000000≤sumL f u k l∧sumL f u k l≤600000000000:=by
 have key:∀ i,i≤l.length → -10000000000*(i:Int)≤sumL f u k (l.take i)∧sumL f u k (l.take i)≤10000000000*(i:Int):=by
  intro i
  induction i with
  | zero=>intro _; simp [sumL]
  | succ i ih =>
   intro hi
   have:=ih (by omega)
   have hc:=xCQ hv.1 _ (xdS hi)
   have hm:=xyR ht hc
   have hb : -1000≤(l.getD i []).getD k 0∧(l.getD i []).getD k 0≤1000:=by
    unfold CO at hc
    rcases hk with rfl | rfl | rfl | rfl<;>omega
   have:=xc7 hm.1 hm.2 hb.1 hb.2
   rw [xrt f u k hi]
   omega
 have:=key _ (Nat.le_refl _)
 rw [List.take_length] at this
 have:=hv.2
 omega
theorem xyE {f u:Int} {l:List (List Int)} (h:sumE f u l=0):VC l∧VT f u∧u-f≤covL f u l:=by
 unfold sumE at h
 split at h
 ·cases h
 ·rename_i hn
  split at h
  ·cases h
  ·exact ⟨Decidable.byContradiction fun k=>hn (.inl k),Decidable.byContradiction fun k=>hn (.inr k),by omega⟩
theorem xvG (f u:Int) (l:List (List Int)) {k:Nat} (hk:k=2∨k=3∨k=4∨k=5) : -600000000000≤sumV f u k l∧sumV f u k l≤600000000000:=by
 unfold sumV
 by_cases h:sumE f u l=0
 ·rw [if_pos h]
  have:=xyE h
  exact xEe this.1 this.2.1 hk
 ·rw [if_neg h]; omega
def mvF (f u:Int) (c:List (List Int)) (b:List Int):List Int:=mvB (sumV f u 2 c) (sumV f u 3 c) (sumV f u 4 c) (sumV f u 5 c) b
def xj0 (f u:Int) (l c:List (List Int)):Int:=if ¬ VL l then 1 else if sumE f u c≠0 then sumE f u c else if ∃ b∈l,¬ VB (mvF f u c b) then 3 else 0
def xl0 (f u:Int) (l c:List (List Int)):List (List Int):=if xj0 f u l c=0 then l.map (mvF f u c) else []
theorem xBK (f u:Int) (l c:List (List Int)) (hl:VL l) (hc:c.length≤9223372036854775807):xa5 (xda f u l c) (xg6 f u l c) ∧
  ((∃ b∈l,¬ VB (mvF f u c b))∧xg7 f u l c=(1,[])∨(¬ ∃ b∈l,¬ VB (mvF f u c b))∧xg7 f u l c=(3,[.i 0,.i l.length,.r (l.map (mvF f u c))])):=by
 obtain ⟨_,_,s0,s1,s2,s3⟩:=xBj f u c hc
 have hlen:=hl.2.1
 have key:=xev (step:=xda f u l c) l.length (fun i=>!decide (VB (mvF f u c (l.getD i [])))) (fun i=>[.i 0,.i i,.r ((l.take i).map (mvF f u c))]) (fun i=>[]) 0 2 [.i 0,.i l.length,.r (l.map (mvF f u c))]
  (fun i hi=>by
   have hb:=hl.2.2 _ (xdS hi)
   have hw:mvW (sumV f u 2 c) (sumV f u 3 c) (sumV f u 4 c) (sumV f u 5 c) (l.getD i [])=mvF f u c (l.getD i []):=by
    unfold mvW mvF mvB
    unfold VB at hb
    rw [xDR (by omega) (xvG f u c (by simp)),xDW (by omega) (xvG f u c (by simp)),xDR (by omega) (xvG f u c (by simp)),xDW (by omega) (xvG f u c (by simp))]
   unfold xda
   simp only [gi_z,gi_1,gi_2,gr_z,gr_1,gr_2,dlt hi,xaN (xey hi),Int.toNat_natCast,xbQ (show i<4611686018427387904 by omega),s0,s1,s2,s3]
   rw [xaN ⟨⟨fun _=>by decide,fun _=>by decide⟩,fun _=>by decide,fun _=>by decide⟩,xaN ⟨⟨fun _=>by decide,fun _=>by decide⟩,fun _=>by decide,fun _=>by decide⟩]
   rw [xaN (by simp only [List.length_map,List.length_take,List.length_cons,List.length_nil,xdo]; simp [maxLen]; omega)]
   show (bif !xab ((mvW (sumV f u 2 c) (sumV f u 3 c) (sumV f u 4 c) (sumV f u 5 c) (l.getD i [])).getD 0 0) ((mvW (sumV f u 2 c) (sumV f u 3 c) (sumV f u 4 c) (sumV f u 5 c) (l.getD i [])).getD 1 0) ((mvW (sumV f u 2 c) (sumV f u 3 c) (sumV f u 4 c) (sumV f u 5 c) (l.getD i [])).getD 2 0) ((mvW (sumV f u 2 c) (sumV f u 3 c) (sumV f u 4 c) (sumV f u 5 c) (l.getD i [])).getD 3 0) then (some (1,[]):Option (Nat×List U)) else some (0,[.i 0,.i ((i+1:Nat):Int),.r ((l.take i).map (mvF f u c)++[mvW (sumV f u 2 c) (sumV f u 3 c) (sumV f u 4 c) (sumV f u 5 c) (l.getD i [])])]))=_
   rw [hw,xqM,xeG hi,List.map_append]
   rfl)
  (by
   unfold xda
   simp only [gi_z,gi_1,gr_z,gr_1,gr_2,dnlt,List.take_length])
 refine ⟨key.1,?_⟩
 rcases key.2 with ⟨i,h1,h2,h3,h4⟩ | ⟨h3,h4⟩
 ·exact .inl ⟨⟨_,xdS h1,by simpa using h2⟩,h4⟩
 ·refine .inr ⟨?_,h4⟩
  rintro ⟨b,hb,hn⟩
  obtain ⟨j,hj,rfl⟩:=xoc hb
  have:=h3 j hj
  rw [decide_eq_false hn] at this
  cases this
theorem xEy (f u:Int) (l c:List (List Int)) (hc:c.length≤9223372036854775807):xfo f u l c∧xgB f u l c=xj0 f u l c∧xeY f u l c=xl0 f u l c:=by
 obtain ⟨sp,s4,s0,s1,s2,s3⟩:=xBj f u c hc
 have hv:=xiY l
 unfold xfo xgB xeY
 rw [hv.2,s4]
 by_cases hl:VL l
 ·have E:xj0 f u l c=if sumE f u c≠0 then sumE f u c else if ∃ b∈l,¬ VB (mvF f u c b) then 3 else 0:=if_neg (fun h=>h hl)
  obtain ⟨k1,k2⟩:=xBK f u l c hl hc
  rw [decide_eq_true hl]
  simp only [Bool.not_true,cond_false]
  by_cases hs:sumE f u c=0
  ·rw [hs] at E
   rw [if_neg (by simp)] at E
   rw [hs]
   simp only [bne_self_eq_false,cond_false]
   rcases k2 with ⟨g1,g2⟩ | ⟨g1,g2⟩
   ·rw [if_pos g1] at E
    rw [g2]
    refine ⟨⟨hv.1,fun _=>⟨sp,fun _=>k1⟩⟩,E.symm,?_⟩
    unfold xl0
    rw [E,if_neg (by decide)]
    rfl
   ·rw [if_neg g1] at E
    rw [g2]
    refine ⟨⟨hv.1,fun _=>⟨sp,fun _=>k1⟩⟩,E.symm,?_⟩
    unfold xl0
    rw [if_pos E]
    rfl
  ·have hb:(sumE f u c !=0)=true:=by simpa using hs
   rw [if_pos hs] at E
   rw [hb]
   refine ⟨⟨hv.1,fun _=>⟨sp,fun h=>by cases h⟩⟩,E.symm,?_⟩
   unfold xl0
   rw [E,if_neg hs]
   rfl
 ·have E:xj0 f u l c=1:=if_pos hl
  rw [decide_eq_false hl]
  refine ⟨⟨hv.1,fun h=>by cases h⟩,E.symm,?_⟩
  unfold xl0
  rw [E,if_neg (by decide)]
  rfl
def allE (f u x y z w:Int) (c:List (List Int)):Int:=if ¬ VP x y∨¬ VP z w then 1 else sumE f u c
def allB (f u x y z w:Int) (c:List (List Int)):Prop:=allE f u x y z w c=0∧sumL f u 2 c≤100*(z-x)∧100*(z-x)≤sumL f u 3 c∧sumL f u 4 c≤100*(w-y)∧100*(w-y)≤sumL f u 5 c
instance (f u x y z w:Int) (c:List (List Int)):Decidable (allB f u x y z w c):=by unfold allB; infer_instance
theorem xCL (f u x y z w:Int) (c:List (List Int)) (hc:c.length≤9223372036854775807):xcA f u x y z w c∧xfp f u x y z w c=allE f u x y z w c∧xex f u x y z w c=decide (allB f u x y z w c):=by
 obtain ⟨sp,s4,s0,s1,s2,s3⟩:=xBj f u c hc
 unfold xcA xfp xex allB allE
 rw [xv7,xv7,s4,s0,s1,s2,s3]
 by_cases h1:VP x y
 ·by_cases h2:VP z w
  ·rw [decide_eq_true h1,decide_eq_true h2]
   simp only [Bool.not_true,Bool.or_self,cond_false,h1,h2,not_true,or_self,if_false]
   refine ⟨fun _=>sp,?_⟩
   by_cases hs:sumE f u c=0
   ·unfold sumV
    rw [hs]
    simp only [bne_self_eq_false,cond_false,if_true,true_and]
    unfold VP at h1 h2
    rw [xau (x:=z-x) (by omega),xau (x:=w-y) (by omega),xau (x:=100*(z-x)) (by omega),xau (x:=100*(w-y)) (by omega)]
    rw [Bool.eq_iff_iff]
    simp [and_assoc]
   ·have:(sumE f u c !=0)=true:=by simpa using hs
    rw [this]
    simp [hs]
  ·rw [decide_eq_true h1,decide_eq_false h2]
   simp [h1,h2]
 ·rw [decide_eq_false h1]
  simp [h1]
def HB (x y:Int) (b:List Int):Prop:=b.getD 0 0≤x∧x≤b.getD 1 0∧b.getD 2 0≤y∧y≤b.getD 3 0
instance (x y:Int) (b:List Int):Decidable (HB x y b):=by unfold HB; infer_instance
theorem xDr {x y:Int} {b:List Int} (hp:VP x y) (hb:VB b):xcg x y (b.getD 0 0) (b.getD 1 0) (b.getD 2 0) (b.getD 3 0)=decide (HB x y b):=by
 have hp':xab x x y y=true:=by
  have:=xv7 x y
  unfold xcq at this
  rw [this,decide_eq_true hp]
 unfold xcg xaL xcL xcK xdK xdJ
 rw [hp',xqM,decide_eq_true hb]
 unfold VB VP HB at *
 rw [xcQ,xcQ,xcQ,xcQ]
 rw [decide_eq_true (show -1000000000000≤x∧_ by omega),decide_eq_true (show -1000000000000≤y∧_ by omega),decide_eq_true (show -1000000000000≤b.getD 0 0∧_ by omega),decide_eq_true (show -1000000000000≤b.getD 2 0∧_ by omega)]
 simp only [Bool.not_true,Bool.or_self,cond_false,xsb,xsa]
 rw [Bool.eq_iff_iff]
 simp
 omega
def inE (x y:Int) (l:List (List Int)):Int:=if ¬ VL l∨¬ VP x y then 1 else 0
def inB (x y:Int) (l:List (List Int)):Prop:=inE x y l=0∧∃ b∈l,HB x y b
instance (x y:Int) (l:List (List Int)):Decidable (inB x y l):=by unfold inB; infer_instance
def mtB (a b:List Int):List Int:=[max (a.getD 0 0) (b.getD 0 0),min (a.getD 1 0) (b.getD 1 0),max (a.getD 2 0) (b.getD 2 0),min (a.getD 3 0) (b.getD 3 0)]
def MB (a b:List Int):Prop:=max (a.getD 0 0) (b.getD 0 0)≤min (a.getD 1 0) (b.getD 1 0)∧max (a.getD 2 0) (b.getD 2 0)≤min (a.getD 3 0) (b.getD 3 0)
instance (a b:List Int):Decidable (MB a b):=by unfold MB; infer_instance
theorem xgO (a b:Int):imax a b=max a b:=by rw [xsb]; split<;>omega
theorem xlu (a b:Int):imin a b=min a b:=by rw [xsa]; split<;>omega
theorem xBU {s t x y:Int} (h1 : -1000000000000≤s∧s≤t∧t≤1000000000000) (h2 : -1000000000000≤x∧x≤y∧y≤1000000000000) :
  xbc s t x y=(if max s x≤min t y then 0 else 4)∧(max s x≤min t y→xdj s t x y=max s x∧xdi s t x y=min t y):=by
 unfold xbc xdj xdi
 rw [xcQ,xcQ,decide_eq_true h1,decide_eq_true h2,xgO,xlu]
 by_cases h:max s x≤min t y
 ·rw [decide_eq_false (by omega)]; simp [h]
 ·rw [decide_eq_true (show min t y<max s x by omega)]; simp [h]
theorem xAy {a b:List Int} (ha:VB a) (hb:VB b) :
  xff (a.getD 0 0) (a.getD 1 0) (a.getD 2 0) (a.getD 3 0) (b.getD 0 0) (b.getD 1 0) (b.getD 2 0) (b.getD 3 0)=(if MB a b then 0 else 4) ∧
  (MB a b→[xem (a.getD 0 0) (a.getD 1 0) (a.getD 2 0) (a.getD 3 0) (b.getD 0 0) (b.getD 1 0) (b.getD 2 0) (b.getD 3 0),xfi (a.getD 0 0) (a.getD 1 0) (a.getD 2 0) (a.getD 3 0) (b.getD 0 0) (b.getD 1 0) (b.getD 2 0) (b.getD 3 0),
   xfh (a.getD 0 0) (a.getD 1 0) (a.getD 2 0) (a.getD 3 0) (b.getD 0 0) (b.getD 1 0) (b.getD 2 0) (b.getD 3 0),xfg (a.getD 0 0) (a.getD 1 0) (a.getD 2 0) (a.getD 3 0) (b.getD 0 0) (b.getD 1 0) (b.getD 2 0) (b.getD 3 0)]=mtB a b):=by
 unfold xff xfg xfh xfi xem
 rw [xqM,xqM,decide_eq_true ha,decide_eq_true hb]
 unfold VB at ha hb
 obtain ⟨x1,x2⟩:=xBU (s:=a.getD 0 0) (t:=a.getD 1 0) (x:=b.getD 0 0) (y:=b.getD 1 0) (by omega) (by omega)
 obtain ⟨y1,y2⟩:=xBU (s:=a.getD 2 0) (t:=a.getD 3 0) (x:=b.getD 2 0) (y:=b.getD 3 0) (by omega) (by omega)
 rw [x1,y1,xgO]
 simp only [Bool.not_true,Bool.or_self,cond_false]
 by_cases h1:max (a.getD 0 0) (b.getD 0 0)≤min (a.getD 1 0) (b.getD 1 0)
 ·obtain ⟨x3,x4⟩:=x2 h1
  by_cases h2:max (a.getD 2 0) (b.getD 2 0)≤min (a.getD 3 0) (b.getD 3 0)
  ·obtain ⟨y3,y4⟩:=y2 h2
   rw [if_pos h1,if_pos h2,if_pos (show MB a b from ⟨h1,h2⟩)]
   refine ⟨rfl,fun _=>?_⟩
   rw [x3,x4,y3,y4]
   rfl
  ·rw [if_pos h1,if_neg h2,if_neg (show ¬ MB a b from fun h=>h2 h.2)]
   exact ⟨rfl,fun h=>absurd h.2 h2⟩
 ·rw [if_neg h1,if_neg (show ¬ MB a b from fun h=>h1 h.1)]
  refine ⟨?_,fun h=>absurd h.1 h1⟩
  by_cases h2:max (a.getD 2 0) (b.getD 2 0)≤min (a.getD 3 0) (b.getD 3 0)
  ·rw [if_pos h2]; rfl
  ·rw [if_neg h2]; rfl
def cutP (b:List Int) (l:List (List Int)):List (List Int):=l.filterMap fun c=>if MB c b then some (mtB c b) else none
def cutE (b:List Int) (l:List (List Int)):Int:=if ¬ VL l∨¬ VB b then 1 else if cutP b l=[] then 4 else 0
def cutL (b:List Int) (l:List (List Int)):List (List Int):=if cutE b l=0 then cutP b l else []
theorem xz6 (b:List Int) (l:List (List Int)):(cutP b l).length≤l.length:=List.length_filterMap_le _ _
theorem xGb (a0 a1 a2 a3:Int) (l:List (List Int)):xfO a0 a1 a2 a3 l∧xjM a0 a1 a2 a3 l=cutE [a0,a1,a2,a3] l∧xjN a0 a1 a2 a3 l=cutL [a0,a1,a2,a3] l:=by
 have hv:=xiY l
 have hb:xab a0 a1 a2 a3=decide (VB [a0,a1,a2,a3]):=xqM [a0,a1,a2,a3]
 unfold xfO xjM xjN cutL cutE
 rw [hv.2,hb]
 by_cases h1:VL l
 ·by_cases h2:VB [a0,a1,a2,a3]
  ·have hlen:=h1.2.1
   have key:=xf9 (σ:=Unit) (step:=xeS a0 a1 a2 a3 l) l.length (fun i _=>[.i i,.r (cutP [a0,a1,a2,a3] (l.take i))]) (fun _ s=>s) (fun _ _=>True) 2 (fun _=>[.i l.length,.r (cutP [a0,a1,a2,a3] l)])
    (fun _ _ _ _=>trivial)
    (fun i s hi _=>by
     have hc:=h1.2.2 _ (xdS hi)
     obtain ⟨m1,m2⟩:=xAy hc h2
     unfold xeS
     simp only [gi_z,gi_1,gr_z,gr_1,dlt hi,xaN (xey hi),Int.toNat_natCast,xbQ (show i<4611686018427387904 by omega)]
     have e:cutP [a0,a1,a2,a3] (l.take (i+1))=cutP [a0,a1,a2,a3] (l.take i)++(if MB (l.getD i []) [a0,a1,a2,a3] then [mtB (l.getD i []) [a0,a1,a2,a3]] else []):=by
      unfold cutP
      rw [xeG hi,List.filterMap_append]
      by_cases hm:MB (l.getD i []) [a0,a1,a2,a3]
      ·simp only [List.filterMap,if_pos hm]
      ·simp only [List.filterMap,if_neg hm]
     have hle:=xz6 [a0,a1,a2,a3] (l.take i)
     rw [List.length_take] at hle
     rw [e]
     have m1:xff ((l.getD i []).getD 0 0) ((l.getD i []).getD 1 0) ((l.getD i []).getD 2 0) ((l.getD i []).getD 3 0) a0 a1 a2 a3=_:=m1
     rw [m1]
     by_cases hm:MB (l.getD i []) [a0,a1,a2,a3]
     ·have m2:=m2 hm
      simp only [if_pos hm,beq_self_eq_true,cond_true]
      have m2:[xem ((l.getD i []).getD 0 0) ((l.getD i []).getD 1 0) ((l.getD i []).getD 2 0) ((l.getD i []).getD 3 0) a0 a1 a2 a3,_,_,_]=_:=m2
      rw [xaN (by simp only [List.length_cons,List.length_nil,xdo]; simp [maxLen]; omega)]
      rw [← m2]
      rfl
     ·simp only [if_neg hm,List.append_nil]
      rfl)
    (fun s _=>by
     unfold xeS
     simp only [gi_z,gi_1,gr_z,gr_1,dnlt,List.take_length]) (s:=()) trivial
   rw [decide_eq_true h1,decide_eq_true h2]
   have e:xkj a0 a1 a2 a3 l=_:=key.2.1
   rw [e]
   simp only [Bool.not_true,Bool.or_self,cond_false,h1,h2,not_true,or_self,if_false,gr_z,gr_1]
   refine ⟨⟨hv.1,fun _=>key.1⟩,?_⟩
   cases hcp:cutP [a0,a1,a2,a3] l with
   | nil=>simp
   | cons x r =>
    have:(((x::r).length:Int)==(0:Int))=false:=by simp; omega
    rw [this]
    simp
  ·rw [decide_eq_true h1,decide_eq_false h2]
   simp [h1,h2,hv.1]
 ·rw [decide_eq_false h1]
  simp [h1,hv.1]
def WB (a b:List Int):Prop:=b.getD 0 0≤a.getD 0 0∧a.getD 1 0≤b.getD 1 0∧b.getD 2 0≤a.getD 2 0∧a.getD 3 0≤b.getD 3 0
instance (a b:List Int):Decidable (WB a b):=by unfold WB; infer_instance
def xDa (a b:List Int):Bool:=(a.getD 0 (0:Int)==b.getD 0 (0:Int)&&(a.getD 1 (0:Int)==b.getD 1 (0:Int)&&true)&&(a.getD 2 (0:Int)==b.getD 2 (0:Int)&&(a.getD 3 (0:Int)==b.getD 3 (0:Int)&&true)&&true))
theorem xzD {a b:List Int} (ha:a.length=4) (hb:b.length=4):xDa a b=decide (a=b):=by
 match a,ha,b,hb with
 | [_,_,_,_],_,[_,_,_,_],_ =>
  rw [Bool.eq_iff_iff]
  simp [xDa,and_assoc]
theorem xEi (a b:List (List Int)) (ha:a.length<4611686018427387904) :
  xnA a b∧(xmg a b=true↔a.length=b.length∧∀ i,i<a.length→xDa (a.getD i []) (b.getD i [])=true):=by
 unfold xnA xmg
 by_cases hl:a.length=b.length
 ·have hl':((a.length:Int) !=(b.length:Int))=false:=by simp [hl]
  have key:=xev (step:=xd2 a b) a.length (fun i=>!xDa (a.getD i []) (b.getD i [])) (fun i=>[.b false,.i i]) (fun _=>[]) 0 2 [.b false,.i a.length]
   (fun i hi=>by
    unfold xd2
    simp only [gi_1,gi_z,gb_z,dlt hi,xaN (xey hi),xaN (xey (hl▸hi:i<b.length)),Int.toNat_natCast,xbQ (show i<4611686018427387904 by omega)]
    try rfl)
   (by
    unfold xd2
    simp only [gi_1,gi_z,gb_z,dnlt]
    try rfl)
  rw [hl']
  refine ⟨fun _=>key.1,?_⟩
  rcases key.2 with ⟨i,h1,h2,h3,h4⟩ | ⟨h3,h4⟩
  ·have e:xlm a b=(1,[]):=h4
   rw [e]
   simp only [cond_false,Nat.beq]
   constructor
   ·intro h; cases h
   ·rintro ⟨_,h⟩
    have:=h i h1
    rw [this] at h2
    cases h2
  ·have e:xlm a b=(3,[.b false,.i a.length]):=h4
   rw [e]
   simp only [cond_false,Nat.beq]
   refine ⟨fun _=>⟨hl,fun i hi=>?_⟩,fun _=>by trivial⟩
   have:=h3 i hi
   simpa using this
 ·have hl':((a.length:Int) !=(b.length:Int))=true:=by simp; omega
  rw [hl']
  refine ⟨fun h=>(Bool.noConfusion h),?_⟩
  simp only [cond_true]
  constructor
  ·intro h; cases h
  ·exact fun h=>absurd h.1 hl
theorem xBr {a b:List (List Int)} (ha:a.length<4611686018427387904) (h1:∀ e∈a,e.length=4) (h2:∀ e∈b,e.length=4):xmg a b=decide (a=b):=by
 rw [Bool.eq_iff_iff,(xEi a b ha).2,decide_eq_true_eq]
 constructor
 ·rintro ⟨hl,h⟩
  refine xvh hl fun i hi=>?_
  have e:=h i hi
  rw [xzD (h1 _ (xdS hi)) (h2 _ (xdS (hl▸hi:i<b.length)))] at e
  simpa using e
 ·rintro rfl
  refine ⟨rfl,fun i hi=>?_⟩
  rw [xzD (h1 _ (xdS hi)) (h1 _ (xdS hi))]
  simp
end Go.Proofs.YthfjhbbpdhjklaaGreat
set_option linter.unusedVariables false
set_option maxRecDepth 100000
namespace Go.Proofs.YthfjhbbpdhjklaaGreat
open Go Go.Sy
theorem xCC {f u:Int}:∀ (e:Int) (l:List (List Int)),CL e l→covL f u l≤max 0 (u-max e f)
 | e,[],_=>by simp [covL]; omega
 | e,c::l,h=>by
  have ih:=xCC (f:=f) (u:=u) (c.getD 1 0) l h.2
  have hc:=h.1
  have e1:covL f u (c::l)=mins f u c+covL f u l:=by simp [covL]
  rw [e1]
  unfold CO at hc
  unfold mins
  omega
theorem xEV {f u:Int} {l:List (List Int)} (hv:VC l) (ht:VT f u):covL f u l≤u-f:=by
 have:=xCC (f:=f) (u:=u) 0 l hv.1
 unfold VT at ht
 omega
theorem xAm (f u:Int) (l:List (List Int)):(sumE f u l=1∧(¬ VC l∨¬ VT f u))∨(sumE f u l=4∧VC l∧VT f u∧covL f u l<u-f)∨(sumE f u l=0∧VC l∧VT f u∧covL f u l=u-f):=by
 unfold sumE
 by_cases h:¬ VC l∨¬ VT f u
 ·rw [if_pos h]; exact .inl ⟨rfl,h⟩
 ·have hv:VC l:=Decidable.byContradiction fun hn=>h (.inl hn)
  have ht:VT f u:=Decidable.byContradiction fun hn=>h (.inr hn)
  rw [if_neg h]
  have:=xEV hv ht
  by_cases hc:u-f-covL f u l>0
  ·rw [if_pos hc]; exact .inr (.inl ⟨rfl,hv,ht,by omega⟩)
  ·rw [if_neg hc]; exact .inr (.inr ⟨rfl,hv,ht,by omega⟩)
theorem xvF {f u:Int} {l:List (List Int)} (h:sumE f u l=0) (k:Nat):sumV f u k l=sumL f u k l:=by unfold sumV; rw [if_pos h]
theorem xEx (f u:Int) (c:List (List Int)) (b:List Int):(mvF f u c b).getD 0 0=lo (b.getD 0 0) (sumV f u 2 c)∧(mvF f u c b).getD 1 0=hi (b.getD 1 0) (sumV f u 3 c)∧(mvF f u c b).getD 2 0=lo (b.getD 2 0) (sumV f u 4 c)∧(mvF f u c b).getD 3 0=hi (b.getD 3 0) (sumV f u 5 c):=⟨rfl,rfl,rfl,rfl⟩
theorem xrT (f u:Int) (l c:List (List Int)):(xj0 f u l c=1∧(¬ VL l∨¬ VC c∨¬ VT f u))∨(xj0 f u l c=4∧VL l∧sumE f u c=4)∨(xj0 f u l c=3∧VL l∧sumE f u c=0∧∃ b∈l,¬ VB (mvF f u c b))∨(xj0 f u l c=0∧VL l∧sumE f u c=0∧∀ b∈l,VB (mvF f u c b)):=by
 unfold xj0
 by_cases hl:VL l
 ·rcases xAm f u c with ⟨h,h2⟩ | ⟨h,_⟩ | ⟨h,_⟩
  ·left; simp [hl,h,h2]
  ·right; left; simp [hl,h]
  ·right; right
   by_cases hb:∃ b∈l,¬ VB (mvF f u c b)
   ·left; rw [if_neg (fun k=>k hl),if_neg (fun k=>k h),if_pos hb]; exact ⟨rfl,hl,h,hb⟩
   ·right; rw [if_neg (fun k=>k hl),if_neg (fun k=>k h),if_neg hb]; exact ⟨rfl,hl,h,fun b hb'=>Decidable.byContradiction fun hn=>hb ⟨b,hb',hn⟩⟩
 ·left; simp [hl]
theorem xDj {f u:Int} {l c:List (List Int)} (h:xj0 f u l c=0):VL l∧sumE f u c=0∧(∀ b∈l,VB (mvF f u c b))∧xl0 f u l c=l.map (mvF f u c):=by
 have e:xl0 f u l c=l.map (mvF f u c):=by unfold xl0; rw [if_pos h]
 rcases xrT f u l c with ⟨g,_⟩ | ⟨g,_⟩ | ⟨g,_⟩ | ⟨_,h1,h2,h3⟩
 ·rw [h] at g; cases g
 ·rw [h] at g; cases g
 ·rw [h] at g; cases g
 ·exact ⟨h1,h2,h3,e⟩
theorem xDk {f u:Int} {l c:List (List Int)} (h1:VL l) (h2:sumE f u c=0) (h3:∀ b∈l,VB (mvF f u c b)):xj0 f u l c=0:=by
 rcases xrT f u l c with ⟨g,h | h | h⟩ | ⟨g,_,h⟩ | ⟨g,_,_,b,hb,hn⟩ | ⟨g,_⟩
 ·exact absurd h1 h
 ·exact absurd (xyE h2).1 h
 ·exact absurd (xyE h2).2.1 h
 ·rw [h2] at h; cases h
 ·exact absurd (h3 b hb) hn
 ·exact g
theorem xCM {l:List (List Int)} {g:List Int→List Int} (h:VL l) (hg:∀ b∈l,VB (g b)):VL (l.map g):=by
 refine ⟨by simpa using h.1,by simpa using h.2.1,fun b hb=>?_⟩
 obtain ⟨a,ha,rfl⟩:=List.mem_map.1 hb
 exact hg a ha
theorem xvy (f u x y z w:Int) (c:List (List Int)):(allE f u x y z w c=1∧(¬ VP x y∨¬ VP z w))∨(allE f u x y z w c=sumE f u c∧VP x y∧VP z w):=by
 unfold allE
 by_cases h:¬ VP x y∨¬ VP z w
 ·rw [if_pos h]; exact .inl ⟨rfl,h⟩
 ·rw [if_neg h]; exact .inr ⟨rfl,Decidable.byContradiction fun hn=>h (.inl hn),Decidable.byContradiction fun hn=>h (.inr hn)⟩
theorem xvq (b:List Int) (l:List (List Int)):(cutE b l=1∧(¬ VL l∨¬ VB b))∨(cutE b l=4∧VL l∧VB b∧cutP b l=[])∨(cutE b l=0∧VL l∧VB b∧cutP b l≠[]∧cutL b l=cutP b l):=by
 unfold cutL cutE
 by_cases h:¬ VL l∨¬ VB b
 ·rw [if_pos h]; exact .inl ⟨rfl,h⟩
 ·have h1:VL l:=Decidable.byContradiction fun hn=>h (.inl hn)
  have h2:VB b:=Decidable.byContradiction fun hn=>h (.inr hn)
  rw [if_neg h]
  by_cases hc:cutP b l=[]
  ·rw [if_pos hc]; exact .inr (.inl ⟨rfl,h1,h2,hc⟩)
  ·rw [if_neg hc]; exact .inr (.inr ⟨rfl,h1,h2,hc,if_pos rfl⟩)
theorem xwd {b x:List Int} {l:List (List Int)}:x∈cutP b l↔∃ c∈l,MB c b∧x=mtB c b:=by
 unfold cutP
 rw [List.mem_filterMap]
 constructor
 ·rintro ⟨c,hc,h⟩
  split at h
  ·rename_i hm; cases h; exact ⟨c,hc,hm,rfl⟩
  ·cases h
 ·rintro ⟨c,hc,hm,rfl⟩
  exact ⟨c,hc,if_pos hm⟩
theorem xBI (a b:List Int):(mtB a b).getD 0 0=max (a.getD 0 0) (b.getD 0 0)∧(mtB a b).getD 1 0=min (a.getD 1 0) (b.getD 1 0)∧(mtB a b).getD 2 0=max (a.getD 2 0) (b.getD 2 0)∧(mtB a b).getD 3 0=min (a.getD 3 0) (b.getD 3 0):=⟨rfl,rfl,rfl,rfl⟩
theorem xF3 {x y:Int} {a b:List Int}:HB x y (mtB a b)↔HB x y a∧HB x y b:=by
 have:=xBI a b
 unfold HB; omega
theorem xIp {x y:Int} {a b:List Int} (h1:HB x y a) (h2:HB x y b):MB a b:=by
 unfold HB MB at *; omega
theorem xH0 {a b:List Int} (h1:VB a) (h2:VB b) (h:MB a b):VB (mtB a b):=by
 have:=xBI a b
 unfold VB MB at *; omega
theorem xDV (x y:Int) (b:List Int) (l:List (List Int)):(∃ c∈cutP b l,HB x y c)↔(∃ c∈l,HB x y c)∧HB x y b:=by
 constructor
 ·rintro ⟨c,hc,h⟩
  obtain ⟨a,ha,hm,rfl⟩:=xwd.1 hc
  have:=xF3.1 h
  exact ⟨⟨a,ha,this.1⟩,this.2⟩
 ·rintro ⟨⟨a,ha,h1⟩,h2⟩
  exact ⟨_,xwd.2 ⟨a,ha,xIp h1 h2,rfl⟩,xF3.2 ⟨h1,h2⟩⟩
theorem xDI {b:List Int} {l:List (List Int)} (h1:VL l) (h2:VB b) (h3:cutP b l≠[]):VL (cutP b l):=by
 refine ⟨List.length_pos_iff.2 h3,Nat.le_trans (xz6 b l) h1.2.1,fun x hx=>?_⟩
 obtain ⟨a,ha,hm,rfl⟩:=xwd.1 hx
 exact xH0 (h1.2.2 a ha) h2 hm
end Go.Proofs.YthfjhbbpdhjklaaGreat
set_option linter.unusedVariables false
set_option linter.unusedSimpArgs false
set_option linter.unusedSectionVars false
namespace Go.Proofs.YthfjhbbpdhjklaaGreat.Si
open Go Go.Sy
def cr (a b c d:Int):Int:=a*d-b*c
def Core (fx fy tx ty xl xh yl yh:Int):Prop :=
 (xl≤0∨fx>0∨tx>0)∧(xh≥0∨fx<0∨tx<0)∧(yl≤0∨fy>0∨ty>0)∧(yh≥0∨fy<0∨ty<0) ∧
 (cr fx fy xl yl≥0∨cr fx fy xl yh≥0∨cr fx fy xh yl≥0∨cr fx fy xh yh≥0) ∧
 (cr xl yl tx ty≥0∨cr xl yh tx ty≥0∨cr xh yl tx ty≥0∨cr xh yh tx ty≥0)
instance (fx fy tx ty xl xh yl yh:Int):Decidable (Core fx fy tx ty xl xh yl yh):=by unfold Core; infer_instance
theorem el13 {el:List Int} (h:el.length=13):[el.getD 0 0,el.getD 1 0,el.getD 2 0,el.getD 3 0,el.getD 4 0,el.getD 5 0,el.getD 6 0,el.getD 7 0,el.getD 8 0,el.getD 9 0,el.getD 10 0,el.getD 11 0,el.getD 12 0]=el:=by
 match el,h with
 | [_,_,_,_,_,_,_,_,_,_,_,_,_],_=>rfl
def xzE (a b:List Int):Bool :=
 (a.getD 0 (0:Int)==b.getD 0 (0:Int) &&
  (a.getD 1 (0:Int)==b.getD 1 (0:Int) &&
   (a.getD 2 (0:Int)==b.getD 2 (0:Int) &&
    (a.getD 3 (0:Int)==b.getD 3 (0:Int) &&
     (a.getD 4 (0:Int)==b.getD 4 (0:Int) &&
        (a.getD 5 (0:Int)==b.getD 5 (0:Int)&&true) &&
       (a.getD 6 (0:Int)==b.getD 6 (0:Int) &&
         (a.getD 7 (0:Int)==b.getD 7 (0:Int)&&true) &&
        true) &&
      (a.getD 8 (0:Int)==b.getD 8 (0:Int) &&
        (a.getD 9 (0:Int)==b.getD 9 (0:Int)&&true) &&
       (a.getD 10 (0:Int)==b.getD 10 (0:Int) &&
         (a.getD 11 (0:Int)==b.getD 11 (0:Int)&&true) &&
        (a.getD 12 (0:Int)==b.getD 12 (0:Int)&&true))))))))
theorem xvh {a b:List (List Int)} (hl:a.length=b.length) (h:∀ i,i<a.length→a.getD i []=b.getD i []):a=b:=by
 apply List.ext_getElem hl
 intro i h1 h2
 have:=h i h1
 rwa [List.getD_eq_getElem?_getD,List.getD_eq_getElem?_getD,List.getElem?_eq_getElem h1,List.getElem?_eq_getElem h2] at this
theorem xdS {l:List (List Int)} {i:Nat} (h:i<l.length):l.getD i []∈l:=by
 rw [List.getD_eq_getElem?_getD,List.getElem?_eq_getElem h]
 exact List.getElem_mem h
def xn3 (r o:List Int):Bool:=o.getD 0 (0:Int)==r.getD 0 (0:Int)&&o.getD 1 (0:Int)==r.getD 1 (0:Int)
noncomputable def sval (e:List Int):Bool:=xbe (e.getD 0 0) (e.getD 1 0) (e.getD 2 0) (e.getD 3 0) (e.getD 4 0) (e.getD 5 0) (e.getD 6 0) (e.getD 7 0) (e.getD 8 0) (e.getD 9 0) (e.getD 10 0) (e.getD 11 0) (e.getD 12 0)
theorem xiY (l:List (List Int)):xc5 l∧xaQ l=(decide (l.length≤60)&&l.all sval):=by
 unfold xc5 xaQ
 by_cases hl:l.length≤60
 ·have hl':decide ((l.length:Int)≤60)=true:=by simp; omega
  have key:=xev (step:=xcE l) l.length (fun i=>!sval (l.getD i [])) (fun i=>[.i 0,.i i]) (fun i=>[.i i]) 0 2 [.i 0,.i l.length]
   (fun i hi=>by
    unfold xcE
    simp only [gi_1,gi_z,gb_z,dlt hi,xaN (xey hi),Int.toNat_natCast,xbQ (show i<4611686018427387904 by omega)]
    try rfl)
   (by
    unfold xcE
    simp only [gi_1,gi_z,gb_z,dnlt]
    try rfl)
  rw [hl']
  refine ⟨fun _=>key.1,?_⟩
  have gd:∀ j (h:j<l.length),l[j]=l.getD j []:=fun j h=>by rw [List.getD_eq_getElem?_getD,List.getElem?_eq_getElem h]; rfl
  rcases key.2 with ⟨i,h1,h2,h3,h4⟩ | ⟨h3,h4⟩
  ·have e:xfK l=(1,[.i i]):=h4
   rw [e]
   have:l.all sval=false:=by
    rw [List.all_eq_false]
    refine ⟨_,xdS h1,?_⟩
    simpa using h2
   rw [this]; simp [Nat.beq,gi_z]
  ·have e:xfK l=(3,[.i 0,.i l.length]):=h4
   rw [e]
   have:l.all sval=true:=by
    rw [List.all_eq_true]
    intro x hx
    obtain ⟨j,hj,rfl⟩:=List.getElem_of_mem hx
    rw [gd j hj]
    simpa using h3 j hj
   rw [this]; simp [Nat.beq,hl]
 ·have hl':decide ((l.length:Int)≤60)=false:=by simp; omega
  rw [hl']
  refine ⟨fun h=>(Bool.noConfusion h),?_⟩
  simp [hl]
def xuD (p:List Int→Bool):Nat→List (List Int)→List (List Int)
 | _,[]=>[]
 | i,e::r=>bif p e then xuD p (i+1) r else [(i:Int)]::xuD p (i+1) r
theorem xqr (p:List Int→Bool):∀ (a b:List (List Int)) (i:Nat),xuD p i (a++b)=xuD p i a++xuD p (i+a.length) b
 | [],b,i=>by simp [xuD]
 | e::a,b,i=>by
  simp only [List.cons_append,xuD,List.length_cons]
  rw [xqr p a b (i+1),show i+1+a.length=i+(a.length+1) by omega]
  cases p e<;>rfl
theorem xeG {l:List (List Int)} {i:Nat} (h:i<l.length):l.take (i+1)=l.take i++[l.getD i []]:=by
 rw [List.take_succ_eq_append_getElem h,List.getD_eq_getElem?_getD,List.getElem?_eq_getElem h]; rfl
theorem xAj (p:List Int→Bool) (l:List (List Int)):∀ i,i≤l.length→upto (fun i s=>bif !p (l.getD i []) then s++[[(i:Int)]] else s) i []=xuD p 0 (l.take i)
 | 0,_=>by simp [upto,xuD]
 | i+1,h=>by
  rw [upto,xAj p l i (by omega),xeG (by omega),xqr]
  simp only [xuD,List.length_take,Nat.zero_add,Nat.min_eq_left (show i≤l.length by omega)]
  cases p (l.getD i [])<;>simp
def mrg (i:Nat) (r:List Int) (s:List (List Int)×List (List Int)):List (List Int)×List (List Int) :=
 match s.1.find? (xn3 r) with
 | none=>(s.1++[r],s.2)
 | some o=>bif !xzE o r then (s.1,s.2++[[(i:Int)]]) else s
def mrgs:Nat→List (List Int)→List (List Int)×List (List Int)→List (List Int)×List (List Int)
 | _,[],s=>s
 | i,r::l,s=>mrgs (i+1) l (mrg i r s)
theorem xrS:∀ (a b:List (List Int)) (i:Nat) (s:List (List Int)×List (List Int)),mrgs i (a++b) s=mrgs (i+a.length) b (mrgs i a s)
 | [],b,i,s=>by simp [mrgs]
 | e::a,b,i,s=>by
  simp only [List.cons_append,mrgs,List.length_cons]
  rw [xrS a b (i+1),show i+1+a.length=i+(a.length+1) by omega]
theorem xw0 (l:List (List Int)) (s:List (List Int)×List (List Int)):∀ i,i≤l.length→upto (fun i s=>mrg i (l.getD i []) s) i s=mrgs 0 (l.take i) s
 | 0,_=>by simp [upto,mrgs]
 | i+1,h=>by
  rw [upto,xw0 l s i (by omega),xeG (by omega),xrS]
  simp only [mrgs,List.length_take,Nat.zero_add,Nat.min_eq_left (show i≤l.length by omega)]
def MI (i:Nat) (s:List (List Int)×List (List Int)):Prop:=s.1.length≤i∧s.2.length≤i∧(∀ e∈s.1,e.length=13)∧∀ e∈s.2,e.length=1
theorem xFL {i:Nat} {r:List Int} {s:List (List Int)×List (List Int)} (hr:r.length=13) (h:MI i s):MI (i+1) (mrg i r s):=by
 obtain ⟨h1,h2,h3,h4⟩:=h
 unfold mrg
 split
 ·refine ⟨by simp; omega,by show s.2.length≤i+1; omega,fun e he=>?_,h4⟩
  rcases List.mem_append.1 he with he | he
  ·exact h3 e he
  ·rw [List.mem_singleton.1 he]; exact hr
 ·rename_i o _
  cases xzE o r with
  | true=>exact ⟨by show s.1.length≤i+1; omega,by show s.2.length≤i+1; omega,h3,h4⟩
  | false =>
   refine ⟨by show s.1.length≤i+1; omega,by simp; omega,h3,fun e he=>?_⟩
   rcases List.mem_append.1 he with he | he
   ·exact h4 e he
   ·rw [List.mem_singleton.1 he]; rfl
def xxN (r:List Int):List Int:=[r.getD 0 0,r.getD 1 0]++r
theorem xpW (r:List Int):∀ out:List (List Int),xaO 2 [r.getD 0 0,r.getD 1 0] (out.map xxN)=out.find? (xn3 r)
 | []=>rfl
 | o::out=>by
  have ih:=xpW r out
  unfold xaO at ih ⊢
  rw [List.map_cons,List.find?_cons,List.find?_cons]
  have e:decide (List.take 2 (xxN o)=[r.getD 0 0,r.getD 1 0])=xn3 r o:=by
   unfold xn3 xxN
   rw [Bool.eq_iff_iff]
   simp
  rw [e]
  cases xn3 r o with
  | true=>rfl
  | false=>exact ih
theorem xBA {r:List Int} {out:List (List Int)} (h:out.find? (xn3 r)=none):xdU 2 [r.getD 0 0,r.getD 1 0] r (out.map xxN)=(out++[r]).map xxN:=by
 unfold xdU
 rw [xpW,h]
 simp [xxN]
def El13 (l:List (List Int)):Prop:=∀ e∈l,elOk [.int .i64,.int .i64,.int .i64,.int .i64,.int .i64,.int .i64,.int .i64,.int .i64,.int .i64,.int .i64,.int .i64,.int .i64,.int .i64] e
theorem El13.len {l:List (List Int)} (h:El13 l):∀ e∈l,e.length=13:=fun e he=>xlz (h e he)
theorem xFY {l:List (List Int)} (h:El13 l) {i:Nat} (hi:i<l.length):xpQ IntKind.i64 [(l.getD i []).getD 0 0,(l.getD i []).getD 1 0]:=by
 have:=h _ (xdS hi)
 match l.getD i [],xlz this,this with
 | [a,b,_,_,_,_,_,_,_,_,_,_,_],_,h =>
  intro n hn
  simp at hn
  rcases hn with rfl | rfl
  ·exact h.1
  ·exact h.2.1
theorem xxa (l:List (List Int)) (h13:El13 l) (hv:l.length≤60) :
  xa5 (xb7 l) (xfr l)∧gr (xeI l).snd 2=(mrgs 0 l ([],[])).1∧gr (xeI l).snd 3=(mrgs 0 l ([],[])).2:=by
 have key:=xf9 (step:=xb7 l) l.length (fun i s=>[.i i,.r (s.1.map xxN),.r s.1,.r s.2]) (fun i s=>mrg i (l.getD i []) s) MI 3 (fun s=>[.i l.length,.r (s.1.map xxN),.r s.1,.r s.2])
  (fun i s hi h=>xFL (h13.len _ (xdS hi)) h)
  (fun i s hi h=>by
   unfold xb7
   have hr:=el13 (h13.len _ (xdS hi))
   simp only [gi_1,gi_z,gr_1,gr_2,gr_3,gr_z,dlt hi,xaN (xey hi),xaN (xFY h13 hi),Int.toNat_natCast,xbQ (show i<4611686018427387904 by omega),hr,xpW]
   unfold mrg
   cases e:s.1.find? (xn3 (l.getD i [])) with
   | none =>
    have hf:xdo 104 (s.1.length+[l.getD i []].length):=by have:=h.1; unfold xdo; simp [maxLen]<;>omega
    rw [xaN hf,xBA e]
    rfl
   | some o =>
    have hf:xdo 8 (s.2.length+[[(i:Int)]].length):=by have:=h.2.1; unfold xdo; simp [maxLen]<;>omega
    rw [xaN hf]
    show (bif !xzE o (l.getD i []) then _ else _)=_
    dsimp only
    cases xzE o (l.getD i [])<;>rfl)
  (fun s _=>by
   unfold xb7
   simp only [gi_1,gi_z,gr_1,gr_2,gr_3,gr_z,dnlt]) (s:=([],[])) (by simp [MI])
 refine ⟨key.1,?_⟩
 have e:xeI l=_:=key.2.1
 rw [e]
 simp only [gr_1,gr_2,gr_3,gr_z]
 rw [xw0 _ _ _ (Nat.le_refl _),List.take_length]
 exact ⟨rfl,rfl⟩
theorem xAo (l:List (List Int)) (h:El13 l):xc6 l:=by
 unfold xc6
 refine ⟨(xiY l).1,fun hb=>(xxa l h ?_).1⟩
 have hv:xaQ l=true:=by simpa using hb
 rw [(xiY l).2] at hv
 simp only [Bool.and_eq_true,decide_eq_true_eq] at hv
 exact hv.1
theorem xC2 (l:List (List Int)) (h:El13 l):xbL l=(bif !xaQ l then [] else (mrgs 0 l ([],[])).1)∧xge l=bif !xaQ l then [] else (mrgs 0 l ([],[])).2:=by
 unfold xbL xge
 cases hv:xaQ l with
 | false=>exact ⟨rfl,rfl⟩
 | true =>
  rw [(xiY l).2] at hv
  simp only [Bool.and_eq_true,decide_eq_true_eq] at hv
  have:=xxa l h hv.1
  rw [this.2.1,this.2.2]
  exact ⟨rfl,rfl⟩
def V (a b:Int):Prop := -1000000000000≤a∧a≤b∧b≤1000000000000
instance (a b:Int):Decidable (V a b):=by unfold V; infer_instance
def Bx (a b c d:Int):Prop := -1000000≤a∧a≤b∧b≤1000000 ∧ -1000000≤c∧c≤d∧d≤1000000
instance (a b c d:Int):Decidable (Bx a b c d):=by unfold Bx; infer_instance
theorem xlu (x y:Int):imin x y=min x y:=by unfold imin; split<;>omega
theorem xgO (x y:Int):imax x y=max x y:=by unfold imax; split<;>omega
theorem xrm {x:Int} (h : -9223372036854775808≤x∧x≤9223372036854775807):IntKind.i64.wrap x=x:=xau h
theorem xAi {a b:Int} (h:V a b):xaM a b=true:=by
 unfold V at h; unfold xaM; simp; omega
theorem xyx {a b:Int} (h:¬ V a b):xaM a b=false:=by
 unfold V at h
 cases hb:xaM a b with
 | false=>rfl
 | true=>unfold xaM at hb; simp at hb; omega
theorem xgD (a b:Int):xaM a b=decide (V a b):=by
 by_cases h:V a b
 ·rw [xAi h]; simp [h]
 ·rw [xyx h]; simp [h]
theorem xw2 (a b c d:Int) :
  (V a b∧V c d∧V (a-d) (b-c)∧xdX a b c d=a-d∧xdW a b c d=b-c∧xi9 a b c d=0) ∨
  (V a b∧V c d∧¬ V (a-d) (b-c)∧xdX a b c d=0∧xdW a b c d=0∧xi9 a b c d=3) ∨
  (¬ (V a b∧V c d)∧xdX a b c d=0∧xdW a b c d=0∧xi9 a b c d=1):=by
 unfold xdX xdW xi9 xlh xlg xlf
 by_cases h1:V a b<;>by_cases h2:V c d
 ·have e1:IntKind.i64.wrap (a-d)=a-d:=xrm (by unfold V at *; omega)
  have e2:IntKind.i64.wrap (b-c)=b-c:=xrm (by unfold V at *; omega)
  rw [e1,e2]
  by_cases h3:V (a-d) (b-c)<;>simp [xgD,h1,h2,h3]
 all_goals simp [xgD,h1,h2]
theorem xvg (a b c d:Int) :
  (V a b∧V c d∧max a c≤min b d∧xdj a b c d=max a c∧xdi a b c d=min b d∧xbc a b c d=0) ∨
  (V a b∧V c d∧min b d<max a c∧xdj a b c d=0∧xdi a b c d=0∧xbc a b c d=4) ∨
  (¬ (V a b∧V c d)∧xdj a b c d=0∧xdi a b c d=0∧xbc a b c d=1):=by
 unfold xdj xdi xbc
 rw [xlu,xgO]
 by_cases h1:V a b<;>by_cases h2:V c d
 ·by_cases h3:min b d<max a c
  ·simp [xgD,h1,h2,h3]
  ·have h4:max a c≤min b d:=by omega
   simp [xgD,h1,h2,h3,h4]
 all_goals simp [xgD,h1,h2]
theorem xvj (a b c d:Int) :
  (V a b∧V c d∧xcL a b c d=min a c∧xcK a b c d=max b d∧xaL a b c d=0) ∨
  (¬ (V a b∧V c d)∧xcL a b c d=0∧xcK a b c d=0∧xaL a b c d=1):=by
 unfold xcL xcK xaL xdK xdJ
 rw [xlu,xgO]
 by_cases h1:V a b<;>by_cases h2:V c d<;>simp [xgD,h1,h2]
theorem xj1 (a b c d:Int) :
  (V a b∧V c d∧xbi a b c d=decide (c≤a∧b≤d)∧xbG a b c d=0) ∨
  (¬ (V a b∧V c d)∧xbi a b c d=false∧xbG a b c d=1):=by
 unfold xbi xbG xaL xcL xcK xdK xdJ
 rw [xlu,xgO]
 by_cases h1:V a b<;>by_cases h2:V c d
 ·left
  refine ⟨h1,h2,?_,by simp [xgD,h1,h2]⟩
  rw [Bool.eq_iff_iff]
  simp [xgD,h1,h2]
  unfold V at *
  omega
 all_goals (right; simp [xgD,h1,h2])
theorem xwZ (a b c d:Int):xab a b c d=decide (Bx a b c d):=by
 have hall:V (-1000000) 1000000:=by unfold V; omega
 unfold xab
 by_cases h:Bx a b c d
 ·rcases xj1 a b (-1000000) 1000000 with ⟨_,_,e0,e1⟩ | ⟨h',_⟩
  ·rcases xj1 c d (-1000000) 1000000 with ⟨_,_,e2,e3⟩ | ⟨h',_⟩
   ·rw [e0,e1,e2,e3,Bool.eq_iff_iff]
    simp [h]
    unfold Bx at h
    omega
   ·exact absurd ⟨by unfold Bx V at *; omega,hall⟩ h'
  ·exact absurd ⟨by unfold Bx V at *; omega,hall⟩ h'
 ·simp only [h,decide_false]
  rcases xj1 a b (-1000000) 1000000 with ⟨h1,_,e0,e1⟩ | ⟨_,e0,e1⟩<;>rcases xj1 c d (-1000000) 1000000 with ⟨h2,_,e2,e3⟩ | ⟨_,e2,e3⟩<;>rw [e0,e1,e2,e3]
  ·rw [Bool.eq_false_iff]
   simp
   unfold Bx V at *
   omega
  all_goals simp
def Pt (x y:Int):Prop := -1000000≤x∧x≤1000000 ∧ -1000000≤y∧y≤1000000
instance (x y:Int):Decidable (Pt x y):=by unfold Pt; infer_instance
theorem xFF (x y:Int):Pt x y↔Bx x x y y:=by unfold Pt Bx; omega
theorem xc7 {x n A B:Int} (h1 : -A≤x) (h2:x≤A) (h3 : -B≤n) (h4:n≤B) : -(A*B)≤x*n∧x*n≤A*B:=by
 have a0:0≤A:=by omega
 have b0:0≤B:=by omega
 have k1:0≤(A-x)*(B+n):=Int.mul_nonneg (by omega) (by omega)
 have k2:0≤(A+x)*(B-n):=Int.mul_nonneg (by omega) (by omega)
 have k3:0≤(A-x)*(B-n):=Int.mul_nonneg (by omega) (by omega)
 have k4:0≤(A+x)*(B+n):=Int.mul_nonneg (by omega) (by omega)
 have e1:(A-x)*(B+n)=A*B+A*n-x*B-x*n:=by rw [Int.sub_mul,Int.mul_add,Int.mul_add]; omega
 have e2:(A+x)*(B-n)=A*B-A*n+x*B-x*n:=by rw [Int.add_mul,Int.mul_sub,Int.mul_sub]; omega
 have e3:(A-x)*(B-n)=A*B-A*n-x*B+x*n:=by rw [Int.sub_mul,Int.mul_sub,Int.mul_sub]; omega
 have e4:(A+x)*(B+n)=A*B+A*n+x*B+x*n:=by rw [Int.add_mul,Int.mul_add,Int.mul_add]; omega
 omega
def RV (s n t b a1 a2 c1 c2 fx fy tx ty F:Int):Prop :=
 (1≤s∧s≤100000)∧(1≤n∧n≤100000)∧(1≤b∧b≤100000)∧(0≤t∧t≤10000000)∧(0≤F∧F≤1000000)∧Bx a1 a2 c1 c2∧Pt fx fy∧Pt tx ty∧0<cr fx fy tx ty
instance (s n t b a1 a2 c1 c2 fx fy tx ty F:Int):Decidable (RV s n t b a1 a2 c1 c2 fx fy tx ty F):=by unfold RV; infer_instance
theorem xi7 {a b c d:Int} (h1:Pt a b) (h2:Pt c d):xbd a b c d=cr a b c d:=by
 unfold Pt at h1 h2
 have m1:=@xc7 a d 1000000 1000000 (by omega) (by omega) (by omega) (by omega)
 have m2:=@xc7 b c 1000000 1000000 (by omega) (by omega) (by omega) (by omega)
 unfold xbd cr
 simp (disch:=omega) only [xrm]
theorem xcG (x y:Int):xaG x y=decide (Pt x y):=by
 unfold xaG; rw [xgO,xlu,Bool.eq_iff_iff]; simp; unfold Pt; omega
theorem xxR (x y:Int):xcF x y=decide (Pt x y):=xcG x y
theorem xrc (s n t b a1 a2 c1 c2 fx fy tx ty F:Int):xbe s n t b a1 a2 c1 c2 fx fy tx ty F=decide (RV s n t b a1 a2 c1 c2 fx fy tx ty F):=by
 unfold xbe xeH
 rw [xxR,xxR,xwZ]
 by_cases h1:Pt fx fy<;>by_cases h2:Pt tx ty<;>by_cases h3:Bx a1 a2 c1 c2
 ·rw [xi7 h1 h2,Bool.eq_iff_iff]
  simp [h1,h2,h3,RV]
  omega
 all_goals
  rw [Bool.eq_iff_iff]
  simp [h1,h2,h3,RV]
def Sees (a1 a2 c1 c2 fx fy tx ty F b1 b2 d1 d2:Int):Prop :=
 max (b1-a2) (-F)≤min (b2-a1) F∧max (d1-c2) (-F)≤min (d2-c1) F∧Core fx fy tx ty (max (b1-a2) (-F)) (min (b2-a1) F) (max (d1-c2) (-F)) (min (d2-c1) F)
instance (a1 a2 c1 c2 fx fy tx ty F b1 b2 d1 d2:Int):Decidable (Sees a1 a2 c1 c2 fx fy tx ty F b1 b2 d1 d2):=by unfold Sees; infer_instance
theorem xBT {fx fy tx ty xl xh yl yh:Int} (hf:Pt fx fy) (ht:Pt tx ty) (h1:Pt xl yl) (h2:Pt xl yh) (h3:Pt xh yl) (h4:Pt xh yh):xcV fx fy tx ty xl xh yl yh=decide (Core fx fy tx ty xl xh yl yh):=by
 unfold xcV xfc
 rw [xi7 hf h1,xi7 hf h2,xi7 hf h3,xi7 hf h4,xi7 h1 ht,xi7 h2 ht,xi7 h3 ht,xi7 h4 ht,Bool.eq_iff_iff]
 simp only [Bool.cond_true_left,Bool.cond_false_right,Bool.or_false,Bool.and_true]
 simp only [Bool.and_eq_true,Bool.or_eq_true,decide_eq_true_eq]
 unfold Core
 omega
theorem xC4 {s n t b a1 a2 c1 c2 fx fy tx ty F b1 b2 d1 d2:Int} (h:RV s n t b a1 a2 c1 c2 fx fy tx ty F) (hb:Bx b1 b2 d1 d2):xfA s n t b a1 a2 c1 c2 fx fy tx ty F b1 b2 d1 d2=decide (Sees a1 a2 c1 c2 fx fy tx ty F b1 b2 d1 d2):=by
 obtain ⟨_,_,_,_,hF,hA,hf,ht,_⟩:=h
 unfold xfA
 rw [xrm (show -9223372036854775808≤0-F∧0-F≤9223372036854775807 by omega),Int.zero_sub]
 have vF:V (-F) F:=by unfold V; omega
 rcases xw2 b1 b2 a1 a2 with ⟨_,_,v1,e1,e2,_⟩ | ⟨_,_,v1,_⟩ | ⟨v1,_⟩
 ·rcases xw2 d1 d2 c1 c2 with ⟨_,_,v2,e3,e4,_⟩ | ⟨_,_,v2,_⟩ | ⟨v2,_⟩
  ·rw [e1,e2,e3,e4]
   rcases xvg (b1-a2) (b2-a1) (-F) F with ⟨_,_,m1,k0,k1,k2⟩ | ⟨_,_,m1,k0,k1,k2⟩ | ⟨m1,_⟩
   ·rcases xvg (d1-c2) (d2-c1) (-F) F with ⟨_,_,m2,k3,k4,k5⟩ | ⟨_,_,m2,k3,k4,k5⟩ | ⟨m2,_⟩
    ·rw [k0,k1,k2,k3,k4,k5]
     have p:∀ x y,(x=max (b1-a2) (-F)∨x=min (b2-a1) F)→(y=max (d1-c2) (-F)∨y=min (d2-c1) F)→Pt x y:=by
      intro x y h1 h2; unfold Pt; omega
     rw [xBT hf ht (p _ _ (Or.inl rfl) (Or.inl rfl)) (p _ _ (Or.inl rfl) (Or.inr rfl)) (p _ _ (Or.inr rfl) (Or.inl rfl)) (p _ _ (Or.inr rfl) (Or.inr rfl))]
     simp [Sees,m1,m2]
    ·rw [k5]
     have:¬ Sees a1 a2 c1 c2 fx fy tx ty F b1 b2 d1 d2:=fun h=>by have:=h.2.1; omega
     simp [this]
    ·exact absurd ⟨v2,vF⟩ m2
   ·rw [k2]
    have:¬ Sees a1 a2 c1 c2 fx fy tx ty F b1 b2 d1 d2:=fun h=>by have:=h.1; omega
    simp [this]
   ·exact absurd ⟨v1,vF⟩ m1
  ·exact absurd (by unfold Bx at *; unfold V; omega) v2
  ·exact absurd (by unfold Bx at *; unfold V; omega) v2
 ·exact absurd (by unfold Bx at *; unfold V; omega) v1
 ·exact absurd (by unfold Bx at *; unfold V; omega) v1
theorem xA7 (s n t b a1 a2 c1 c2 fx fy tx ty F x y:Int):xdG s n t b a1 a2 c1 c2 fx fy tx ty F x y=decide (RV s n t b a1 a2 c1 c2 fx fy tx ty F∧Pt x y∧Sees a1 a2 c1 c2 fx fy tx ty F x x y y):=by
 unfold xdG
 rw [xrc,xcG]
 by_cases h1:RV s n t b a1 a2 c1 c2 fx fy tx ty F<;>by_cases h2:Pt x y
 ·rw [xC4 h1 ((xFF x y).1 h2)]; simp [h1,h2]
 all_goals simp [h1,h2]
theorem xA6 (s n t b a1 a2 c1 c2 fx fy tx ty F x y:Int):xdF s n t b a1 a2 c1 c2 fx fy tx ty F x y=if RV s n t b a1 a2 c1 c2 fx fy tx ty F∧Pt x y then 0 else 1:=by
 unfold xdF
 rw [xrc,xcG]
 by_cases h1:RV s n t b a1 a2 c1 c2 fx fy tx ty F<;>by_cases h2:Pt x y<;>simp [h1,h2]
def rlo (a F u v:Int):Int:=if u<0∨v<0 then max (a-F) (-1000000) else a
def rhi (a F u v:Int):Int:=if u>0∨v>0 then min (a+F) 1000000 else a
theorem xzG {a1 a2 u v F:Int} (h1 : -1000000≤a1) (h2:a2≤1000000) (h3:a1≤a2) (hF:0≤F∧F≤1000000):xdZ a1 a2 u v F=rlo a1 F u v∧xdY a1 a2 u v F=rhi a2 F u v:=by
 unfold xdZ xdY rlo rhi
 simp (disch:=omega) only [xrm,xgO,xlu]
 by_cases e1:u<0∨v<0<;>by_cases e2:u>0∨v>0
 ·rw [decide_eq_true (show min u v<0 by omega),decide_eq_true (show max u v>0 by omega)]; simp [e1,e2]
 ·rw [decide_eq_true (show min u v<0 by omega),decide_eq_false (show ¬ max u v>0 by omega)]; simp [e1,e2]
 ·rw [decide_eq_false (show ¬ min u v<0 by omega),decide_eq_true (show max u v>0 by omega)]; simp [e1,e2]
 ·rw [decide_eq_false (show ¬ min u v<0 by omega),decide_eq_false (show ¬ max u v>0 by omega)]; simp [e1,e2]
theorem xCJ (s n t b a1 a2 c1 c2 fx fy tx ty F:Int) :
  (RV s n t b a1 a2 c1 c2 fx fy tx ty F∧xer s n t b a1 a2 c1 c2 fx fy tx ty F=rlo a1 F fx tx∧xeq s n t b a1 a2 c1 c2 fx fy tx ty F=rhi a2 F fx tx∧xep s n t b a1 a2 c1 c2 fx fy tx ty F=rlo c1 F fy ty∧xeo s n t b a1 a2 c1 c2 fx fy tx ty F=rhi c2 F fy ty∧xen s n t b a1 a2 c1 c2 fx fy tx ty F=0) ∨
  (¬ RV s n t b a1 a2 c1 c2 fx fy tx ty F∧xer s n t b a1 a2 c1 c2 fx fy tx ty F=0∧xeq s n t b a1 a2 c1 c2 fx fy tx ty F=0∧xep s n t b a1 a2 c1 c2 fx fy tx ty F=0∧xeo s n t b a1 a2 c1 c2 fx fy tx ty F=0∧xen s n t b a1 a2 c1 c2 fx fy tx ty F=1):=by
 unfold xer xeq xep xeo xen
 rw [xrc]
 by_cases h:RV s n t b a1 a2 c1 c2 fx fy tx ty F
 ·obtain ⟨_,_,_,_,hF,hA,_⟩:=id h
  unfold Bx at hA
  have e1:=@xzG a1 a2 fx tx F (by omega) (by omega) (by omega) hF
  have e2:=@xzG c1 c2 fy ty F (by omega) (by omega) (by omega) hF
  rw [e1.1,e1.2,e2.1,e2.2]
  simp [h]
 ·simp [h]
theorem xGk {a1 a2 c1 c2 fx fy tx ty F:Int} (hA:Bx a1 a2 c1 c2) (hF:0≤F∧F≤1000000):Bx (rlo a1 F fx tx) (rhi a2 F fx tx) (rlo c1 F fy ty) (rhi c2 F fy ty)∧rlo a1 F fx tx≤a1∧a2≤rhi a2 F fx tx∧rlo c1 F fy ty≤c1∧c2≤rhi c2 F fy ty:=by
 unfold Bx at *
 unfold rlo rhi
 split<;>split<;>split<;>split<;>omega
theorem xu6 {a1 a2 b1 b2 F u v:Int} (ha : -1000000≤a1∧a1≤a2∧a2≤1000000) (hb : -1000000≤b1∧b1≤b2∧b2≤1000000) (hF:0≤F∧F≤1000000) (m:max (b1-a2) (-F)≤min (b2-a1) F)
  (l1:max (b1-a2) (-F)≤0∨u>0∨v>0) (l2:min (b2-a1) F≥0∨u<0∨v<0):max b1 (rlo a1 F u v)≤min b2 (rhi a2 F u v):=by
 have m1:b1-a2≤F:=by omega
 have m2 : -F≤b2-a1:=by omega
 have k1:b1≤a2∨(u>0∨v>0):=by rcases l1 with h | h; (left; omega); exact Or.inr h
 have k2:a1≤b2∨(u<0∨v<0):=by rcases l2 with h | h; (left; omega); exact Or.inr h
 clear m l1 l2
 unfold rlo rhi
 by_cases c1:u<0∨v<0<;>by_cases c2:u>0∨v>0
 ·rw [if_pos c1,if_pos c2]; clear k1 k2 c1 c2; omega
 ·rw [if_pos c1,if_neg c2]
  rcases k1 with k | k
  ·clear k2 c1 c2; omega
  ·exact absurd k c2
 ·rw [if_neg c1,if_pos c2]
  rcases k2 with k | k
  ·clear k1 c1 c2; omega
  ·exact absurd k c1
 ·rw [if_neg c1,if_neg c2]
  rcases k1 with k | k
  ·rcases k2 with k' | k'
   ·clear c1 c2; omega
   ·exact absurd k' c1
  ·exact absurd k c2
theorem xC5 {a1 a2 c1 c2 fx fy tx ty F b1 b2 d1 d2:Int} (hA:Bx a1 a2 c1 c2) (hb:Bx b1 b2 d1 d2) (hF:0≤F∧F≤1000000) (h:Sees a1 a2 c1 c2 fx fy tx ty F b1 b2 d1 d2) :
  max b1 (rlo a1 F fx tx)≤min b2 (rhi a2 F fx tx)∧max d1 (rlo c1 F fy ty)≤min d2 (rhi c2 F fy ty):=by
 obtain ⟨m1,m2,l1,l2,l3,l4,_⟩:=h
 obtain ⟨x1,x2,x3,x4,x5,x6⟩:=hA
 obtain ⟨y1,y2,y3,y4,y5,y6⟩:=hb
 exact ⟨xu6 ⟨x1,x2,x3⟩ ⟨y1,y2,y3⟩ hF m1 l1 l2,xu6 ⟨x4,x5,x6⟩ ⟨y4,y5,y6⟩ hF m2 l3 l4⟩
theorem xvD (l:List (List Int)) (z:Int):∀ i,i≤l.length→upto (fun i s=>s||(l.getD i []).getD 0 0==z) i false=(l.take i).any fun e=>e.getD 0 0==z
 | 0,_=>by simp [upto]
 | i+1,h=>by rw [upto,xvD l z i (by omega),xeG (by omega),List.any_append]; simp
end Go.Proofs.YthfjhbbpdhjklaaGreat.Si
set_option linter.unusedVariables false
set_option linter.unusedSimpArgs false
set_option linter.unusedSectionVars false
namespace Go.Proofs.YthfjhbbpdhjklaaGreat
open Go Go.Sy
theorem xp2 {l:List (List Int)} {i:Nat} (h:i<l.length):l.drop i=l.getD i []::l.drop (i+1):=by
 rw [List.drop_eq_getElem_cons h,List.getD_eq_getElem?_getD,List.getElem?_eq_getElem h]; rfl
def tsB (b0:Int):Int→List (List Int)→Bool
 | _,[]=>true
 | last,r::rs=>decide (last≤r.getD 2 0)&&(r.getD 3 0==b0)&&tsB b0 (r.getD 2 0) rs
theorem xCU (b0 last:Int) (r:List Int) (rs:List (List Int)):tsB b0 last (r::rs)=(decide (last≤r.getD 2 0)&&(r.getD 3 0==b0)&&tsB b0 (r.getD 2 0) rs):=rfl
noncomputable def svE (f:Int) (base fc rp:List (List Int)):Int :=
 if xaQ rp=true∧VL base∧VC fc∧0≤f∧f≤10000000 then (if tsB ((rp.getD 0 []).getD 3 0) f rp=true then (if (xbL rp).length<rp.length then 5 else 0) else 1) else 1
theorem xFM (l:List (List Int)):xcy l=bif xaQ l then 0 else 1:=by
 unfold xcy
 cases xaQ l<;>rfl
theorem xEd (f:Int) (base fc rp:List (List Int)) (hl:rp.length≤60):xa5 (xbP f base fc rp) (xdc f base fc rp)∧(xjQ f base fc rp).1.beq 1=!tsB ((rp.getD 0 []).getD 3 0) f rp:=by
 refine xlt (step:=xbP f base fc rp) rp.length (fun j xs=>∃ last,xs=[.i 0,.i last,.i (j:Int)]∧tsB ((rp.getD 0 []).getD 3 0) f rp=tsB ((rp.getD 0 []).getD 3 0) last (rp.drop j))
  (fun res=>res.1.beq 1=!tsB ((rp.getD 0 []).getD 3 0) f rp)
  (fun j xs hj ⟨last,e,hts⟩=>?_) (fun xs ⟨last,e,hts⟩=>?_) (xs:=xdc f base fc rp) ⟨f,rfl,rfl⟩
 ·subst e
  have h0:inR (0:Int) rp:=by unfold inR; omega
  rw [xp2 hj] at hts
  rw [xCU] at hts
  unfold xbP
  simp only [gi_1,gi_2,gi_z,dlt hj,xaN (xey hj),Int.toNat_natCast,xbQ (show j<4611686018427387904 by omega),Int.toNat_zero]
  rw [xaN (fun _=>h0),xaN (fun _=>h0),xaN (fun _=>h0)]
  by_cases h1:(rp.getD j []).getD 2 0<last
  ·rw [decide_eq_true h1,Bool.true_or,cond_true]
   refine .inr ⟨0,[],rfl,?_⟩
   rw [hts,decide_eq_false (show ¬ last≤(rp.getD j []).getD 2 0 by omega)]
   rfl
  ·rw [decide_eq_false h1,Bool.false_or]
   by_cases h2:(rp.getD j []).getD 3 0=(rp.getD 0 []).getD 3 0
   ·have e2:((rp.getD j []).getD 3 0 !=(rp.getD 0 []).getD 3 0)=false:=by simp only [h2,bne_self_eq_false]
    rw [e2,cond_false]
    refine .inl ⟨_,rfl,_,rfl,?_⟩
    rw [hts,decide_eq_true (show last≤(rp.getD j []).getD 2 0 by omega),h2]
    simp
   ·have e2:((rp.getD j []).getD 3 0 !=(rp.getD 0 []).getD 3 0)=true:=by rw [bne_iff_ne]; exact h2
    rw [e2,cond_true]
    refine .inr ⟨0,[],rfl,?_⟩
    have e3:((rp.getD j []).getD 3 0==(rp.getD 0 []).getD 3 0)=false:=by rw [beq_eq_false_iff_ne]; exact h2
    rw [hts,e3]
    simp
 ·subst e
  refine ⟨2,[.i 0,.i last,.i rp.length],?_,?_⟩
  ·unfold xbP
   simp only [gi_1,gi_2,gi_z,dnlt]
  ·rw [hts,List.drop_length]
   rfl
theorem xH6 (f:Int) (base fc rp:List (List Int)) (h13:Si.El13 rp) (hf:fc.length≤9223372036854775807):xcw f base fc rp∧xcr f base fc rp=svE f base fc rp:=by
 have hm:=Si.xAo rp h13
 have hv:=(Si.xiY rp).2
 have hb:=xiY base
 have hc:=xlB fc hf
 unfold xcw xcr xjP svE
 rw [xFM,hb.2,hc.2]
 have hcond:((bif xaQ rp then (0:Int) else 1) !=0||!decide (VL base)||!decide (VC fc)||decide (f<0)||decide (f>10000000))=!decide (xaQ rp=true∧VL base∧VC fc∧0≤f∧f≤10000000):=by
  rw [Bool.eq_iff_iff]
  cases xaQ rp<;>by_cases h2:VL base<;>by_cases h3:VC fc<;>simp [h2,h3]<;>omega
 rw [hcond]
 by_cases h:xaQ rp=true∧VL base∧VC fc∧0≤f∧f≤10000000
 ·have hl:rp.length≤60:=by
   have:=h.1
   rw [hv,Bool.and_eq_true,decide_eq_true_eq] at this
   exact this.1
  obtain ⟨g1,g2⟩:=xEd f base fc rp hl
  rw [decide_eq_true h,if_pos h,g2]
  refine ⟨⟨hm,fun _=>hb.1,fun _=>hc.1,fun _=>g1⟩,?_⟩
  rw [Bool.not_true,cond_false]
  cases tsB ((rp.getD 0 []).getD 3 0) f rp with
  | false=>rfl
  | true =>
   rw [Bool.not_true,cond_false,if_pos rfl]
   by_cases hlt:(xbL rp).length<rp.length
   ·rw [decide_eq_true (by omega),if_pos hlt]; rfl
   ·rw [decide_eq_false (by omega),if_neg hlt]; rfl
 ·rw [decide_eq_false h,if_neg h]
  exact ⟨⟨hm,fun _=>hb.1,fun _=>hc.1,fun h=>(by cases h)⟩,rfl⟩
def wB (m:Int):Int→List (List Int)→Bool
 | _,[]=>true
 | last,e::r=>decide (last<e.getD 0 0)&&decide (e.getD 0 0<m)&&wB m (e.getD 0 0) r
theorem xBe (m last:Int) (e:List Int) (r:List (List Int)):wB m last (e::r)=(decide (last<e.getD 0 0)&&decide (e.getD 0 0<m)&&wB m (e.getD 0 0) r):=rfl
def isW (wr:List (List Int)) (i:Int):Bool:=wr.any fun e=>i==e.getD 0 0
theorem xAc {wr:List (List Int)} {p:List Int→Bool}:wr.any p=true↔∃ i,i<wr.length∧p (wr.getD i [])=true:=by
 rw [List.any_eq_true]
 constructor
 ·rintro ⟨x,hx,h⟩
  obtain ⟨i,hi,rfl⟩:=xoc hx
  exact ⟨i,hi,h⟩
 ·rintro ⟨i,hi,h⟩
  exact ⟨_,xdS hi,h⟩
theorem xED (f:Int) (base fc rp wr:List (List Int)) (hw:wr.length≤9223372036854775806) (y0:List U) :
  xa5 (xbY f base fc rp wr y0) (xe5 f base fc rp wr y0) ∧
  decide ((bif (xdd f base fc rp wr y0).1.beq 1 then gi (xdd f base fc rp wr y0).2 0 else -1)≥(0:Int))=isW wr (gi y0 2):=by
 have key:=xev (step:=xbY f base fc rp wr y0) wr.length (fun q=>gi y0 2==(wr.getD q []).getD 0 0) (fun q=>[.i 0,.i q]) (fun q=>[.i q]) 0 2 [.i 0,.i wr.length]
  (fun q hq=>by
   unfold xbY
   simp only [gi_1,gi_z,dlt hq,xaN (xey hq),Int.toNat_natCast,xpm (show q<9223372036854775807 by omega)])
  (by
   unfold xbY
   simp only [gi_1,gi_z,dnlt])
 refine ⟨key.1,?_⟩
 rcases key.2 with ⟨q,q1,q2,q3,q4⟩ | ⟨q3,q4⟩
 ·have e:xdd f base fc rp wr y0=(1,[.i q]):=q4
  rw [e]
  have:isW wr (gi y0 2)=true:=xAc.2 ⟨q,q1,q2⟩
  rw [this]
  simp [Nat.beq,gi_z]
 ·have e:xdd f base fc rp wr y0=(3,[.i 0,.i wr.length]):=q4
  rw [e]
  have:isW wr (gi y0 2)=false:=by
   rw [Bool.eq_false_iff]
   intro h
   obtain ⟨q,hq,h2⟩:=xAc.1 h
   rw [q3 q hq] at h2
   cases h2
  rw [this]
  simp [Nat.beq]
noncomputable def bxE (r:List Int):Int:=xen (r.getD 0 0) (r.getD 1 0) (r.getD 2 0) (r.getD 3 0) (r.getD 4 0) (r.getD 5 0) (r.getD 6 0) (r.getD 7 0) (r.getD 8 0) (r.getD 9 0) (r.getD 10 0) (r.getD 11 0) (r.getD 12 0)
noncomputable def bx0 (r:List Int):Int:=xer (r.getD 0 0) (r.getD 1 0) (r.getD 2 0) (r.getD 3 0) (r.getD 4 0) (r.getD 5 0) (r.getD 6 0) (r.getD 7 0) (r.getD 8 0) (r.getD 9 0) (r.getD 10 0) (r.getD 11 0) (r.getD 12 0)
noncomputable def bx1 (r:List Int):Int:=xeq (r.getD 0 0) (r.getD 1 0) (r.getD 2 0) (r.getD 3 0) (r.getD 4 0) (r.getD 5 0) (r.getD 6 0) (r.getD 7 0) (r.getD 8 0) (r.getD 9 0) (r.getD 10 0) (r.getD 11 0) (r.getD 12 0)
noncomputable def bx2 (r:List Int):Int:=xep (r.getD 0 0) (r.getD 1 0) (r.getD 2 0) (r.getD 3 0) (r.getD 4 0) (r.getD 5 0) (r.getD 6 0) (r.getD 7 0) (r.getD 8 0) (r.getD 9 0) (r.getD 10 0) (r.getD 11 0) (r.getD 12 0)
noncomputable def bx3 (r:List Int):Int:=xeo (r.getD 0 0) (r.getD 1 0) (r.getD 2 0) (r.getD 3 0) (r.getD 4 0) (r.getD 5 0) (r.getD 6 0) (r.getD 7 0) (r.getD 8 0) (r.getD 9 0) (r.getD 10 0) (r.getD 11 0) (r.getD 12 0)
noncomputable def bxL (r:List Int):List Int:=[bx0 r,bx1 r,bx2 r,bx3 r]
noncomputable def lf (c wr:List (List Int)):List (List Int)→Nat→List (List Int)→Int→Int×List (List Int)
 | [],_,set,_=>(0,set)
 | r::rs,i,set,at_ =>
  if xj0 at_ (r.getD 2 0) set c≠0 then (xj0 at_ (r.getD 2 0) set c,[])
  else if isW wr i=true then lf c wr rs (i+1) (xl0 at_ (r.getD 2 0) set c) (r.getD 2 0)
  else if bxE r≠0 then (bxE r,[])
  else if cutE (bxL r) (xl0 at_ (r.getD 2 0) set c)≠0 then (18,[])
  else lf c wr rs (i+1) (cutL (bxL r) (xl0 at_ (r.getD 2 0) set c)) (r.getD 2 0)
theorem xB3 (c wr:List (List Int)) (r:List Int) (rs:List (List Int)) (i:Nat) (set:List (List Int)) (at_:Int):lf c wr (r::rs) i set at_ =
  if xj0 at_ (r.getD 2 0) set c≠0 then (xj0 at_ (r.getD 2 0) set c,[])
  else if isW wr i=true then lf c wr rs (i+1) (xl0 at_ (r.getD 2 0) set c) (r.getD 2 0)
  else if bxE r≠0 then (bxE r,[])
  else if cutE (bxL r) (xl0 at_ (r.getD 2 0) set c)≠0 then (18,[])
  else lf c wr rs (i+1) (cutL (bxL r) (xl0 at_ (r.getD 2 0) set c)) (r.getD 2 0):=rfl
theorem xEE (f:Int) (base fc rp wr:List (List Int)) (hb:base.length≤16) (hf:fc.length≤9223372036854775807) (hr:rp.length≤60) (hw:wr.length≤9223372036854775806) :
  xbT f base fc rp wr∧xbg f base fc rp wr=(lf fc wr rp 0 base f).1∧xbO f base fc rp wr=(lf fc wr rp 0 base f).2:=by
 have key:=xlt (step:=xcs f base fc rp wr) rp.length (fun j xs=>∃ e0 at_ set,xs=[.i e0,.i at_,.i (j:Int),.r set]∧lf fc wr rp 0 base f=lf fc wr (rp.drop j) j set at_)
  (fun res=>(res.1=1∧lf fc wr rp 0 base f=(gi res.2 0,[]))∨(res.1=3∧lf fc wr rp 0 base f=(gi res.2 0,[]))∨(res.1=4∧lf fc wr rp 0 base f=(18,[]))∨(res.1=6∧lf fc wr rp 0 base f=(0,gr res.2 3)))
  (fun j xs hj ⟨e0,at_,set,e,hl⟩=>by
   subst e
   rw [xp2 hj] at hl
   rw [xB3] at hl
   obtain ⟨m1,m2,m3⟩:=xEy at_ ((rp.getD j []).getD 2 0) set fc hf
   obtain ⟨l1,l2⟩:=xED f base fc rp wr hw [.i e0,.i at_,.i (j:Int),.r set]
   have eg:gi [U.i e0,U.i at_,U.i (j:Int),U.r set] 2=(j:Int):=by rw [gi_2,gi_z]
   have e_0:xfx f base fc rp wr [U.i e0,U.i at_,U.i (j:Int),U.r set]=bxE (rp.getD j []):=by
    unfold xfx bxE; rw [eg,Int.toNat_natCast]
   have e_1:xed f base fc rp wr [U.i e0,U.i at_,U.i (j:Int),U.r set]=bx0 (rp.getD j []):=by
    unfold xed bx0; rw [eg,Int.toNat_natCast]
   have e_2:xec f base fc rp wr [U.i e0,U.i at_,U.i (j:Int),U.r set]=bx1 (rp.getD j []):=by
    unfold xec bx1; rw [eg,Int.toNat_natCast]
   have e_3:xeb f base fc rp wr [U.i e0,U.i at_,U.i (j:Int),U.r set]=bx2 (rp.getD j []):=by
    unfold xeb bx2; rw [eg,Int.toNat_natCast]
   have e_4:xea f base fc rp wr [U.i e0,U.i at_,U.i (j:Int),U.r set]=bx3 (rp.getD j []):=by
    unfold xea bx3; rw [eg,Int.toNat_natCast]
   obtain ⟨c1,c2,c3⟩:=xGb (bx0 (rp.getD j [])) (bx1 (rp.getD j [])) (bx2 (rp.getD j [])) (bx3 (rp.getD j [])) (xl0 at_ ((rp.getD j []).getD 2 0) set fc)
   unfold xcs
   rw [l2,e_0,e_1,e_2,e_3,e_4]
   rw [xaN l1]
   simp only [gi_1,gi_2,gi_z,gr_3,gr_z,dlt hj,xaN (xey hj),Int.toNat_natCast,xbQ (show j<4611686018427387904 by omega),xaN m1,m2,m3,xaN c1,c2,c3]
   by_cases h1:xj0 at_ ((rp.getD j []).getD 2 0) set fc=0
   ·rw [if_neg (by simpa using h1)] at hl
    have b1:(xj0 at_ ((rp.getD j []).getD 2 0) set fc !=0)=false:=by rw [bne_eq_false_iff_eq]; exact h1
    rw [b1,cond_false]
    cases hW:isW wr j with
    | true =>
     rw [if_pos hW] at hl
     rw [cond_true]
     exact .inl ⟨_,rfl,_,_,_,rfl,hl⟩
    | false =>
     rw [if_neg (by rw [hW]; simp)] at hl
     rw [cond_false]
     by_cases h2:bxE (rp.getD j [])=0
     ·rw [if_neg (by simpa using h2)] at hl
      have b2:(bxE (rp.getD j []) !=0)=false:=by rw [bne_eq_false_iff_eq]; exact h2
      rw [b2,cond_false]
      by_cases h3:cutE (bxL (rp.getD j [])) (xl0 at_ ((rp.getD j []).getD 2 0) set fc)=0
      ·rw [if_neg (by simpa using h3)] at hl
       have b3:(cutE [bx0 (rp.getD j []),bx1 (rp.getD j []),bx2 (rp.getD j []),bx3 (rp.getD j [])] (xl0 at_ ((rp.getD j []).getD 2 0) set fc) !=0)=false:=by
        rw [bne_eq_false_iff_eq]; exact h3
       rw [b3,cond_false]
       exact .inl ⟨_,rfl,_,_,_,rfl,hl⟩
      ·rw [if_pos (by simpa using h3)] at hl
       have b3:(cutE [bx0 (rp.getD j []),bx1 (rp.getD j []),bx2 (rp.getD j []),bx3 (rp.getD j [])] (xl0 at_ ((rp.getD j []).getD 2 0) set fc) !=0)=true:=by
        rw [bne_iff_ne]; exact h3
       rw [b3,cond_true]
       exact .inr ⟨3,[],rfl,.inr (.inr (.inl ⟨rfl,hl⟩))⟩
     ·rw [if_pos (by simpa using h2)] at hl
      have b2:(bxE (rp.getD j []) !=0)=true:=by rw [bne_iff_ne]; exact h2
      rw [b2,cond_true]
      exact .inr ⟨2,_,rfl,.inr (.inl ⟨rfl,by rw [hl,gi_z]⟩)⟩
   ·rw [if_pos (by simpa using h1)] at hl
    have b1:(xj0 at_ ((rp.getD j []).getD 2 0) set fc !=0)=true:=by rw [bne_iff_ne]; exact h1
    rw [b1,cond_true]
    exact .inr ⟨0,_,rfl,.inl ⟨rfl,by rw [hl,gi_z]⟩⟩)
  (fun xs ⟨e0,at_,set,e,hl⟩=>by
   subst e
   refine ⟨5,[.i e0,.i at_,.i rp.length,.r set],?_,.inr (.inr (.inr ⟨rfl,?_⟩))⟩
   ·unfold xcs
    simp only [gi_1,gi_2,gi_z,gr_3,gr_z,dnlt]
   ·rw [hl,List.drop_length,gr_3,gr_z]
    rfl)
  (xs:=xe6 f base fc rp wr) ⟨0,f,base,rfl,rfl⟩
 refine ⟨⟨⟨fun h=>⟨trivial,by rw [h]; rfl,trivial⟩,by unfold xdo maxLen; omega⟩,key.1⟩,?_⟩
 unfold xbg xbO xkl xkm
 have hk:((xaU f base fc rp wr).1=1∧lf fc wr rp 0 base f=(gi (xaU f base fc rp wr).2 0,[]))∨((xaU f base fc rp wr).1=3∧lf fc wr rp 0 base f=(gi (xaU f base fc rp wr).2 0,[]))∨((xaU f base fc rp wr).1=4∧lf fc wr rp 0 base f=(18,[]))∨((xaU f base fc rp wr).1=6∧lf fc wr rp 0 base f=(0,gr (xaU f base fc rp wr).2 3)):=key.2
 rcases hk with ⟨h1,h2⟩ | ⟨h1,h2⟩ | ⟨h1,h2⟩ | ⟨h1,h2⟩<;>rw [h1,h2]<;>exact ⟨rfl,rfl⟩
end Go.Proofs.YthfjhbbpdhjklaaGreat
set_option linter.unusedVariables false
namespace Go.Proofs.YthfjhbbpdhjklaaGreat
open Go Go.Sy
def RVr (r:List Int):Prop:=Si.RV (r.getD 0 0) (r.getD 1 0) (r.getD 2 0) (r.getD 3 0) (r.getD 4 0) (r.getD 5 0) (r.getD 6 0) (r.getD 7 0) (r.getD 8 0) (r.getD 9 0) (r.getD 10 0) (r.getD 11 0) (r.getD 12 0)
instance (r:List Int):Decidable (RVr r):=by unfold RVr; infer_instance
theorem xBi (r:List Int):Si.sval r=decide (RVr r):=Si.xrc _ _ _ _ _ _ _ _ _ _ _ _ _
def bxD (r:List Int):List Int:=[Si.rlo (r.getD 4 0) (r.getD 12 0) (r.getD 8 0) (r.getD 10 0),Si.rhi (r.getD 5 0) (r.getD 12 0) (r.getD 8 0) (r.getD 10 0),Si.rlo (r.getD 6 0) (r.getD 12 0) (r.getD 9 0) (r.getD 11 0),Si.rhi (r.getD 7 0) (r.getD 12 0) (r.getD 9 0) (r.getD 11 0)]
theorem xGj {r:List Int} (h:RVr r):bxE r=0∧bxL r=bxD r∧VB (bxD r):=by
 rcases Si.xCJ (r.getD 0 0) (r.getD 1 0) (r.getD 2 0) (r.getD 3 0) (r.getD 4 0) (r.getD 5 0) (r.getD 6 0) (r.getD 7 0) (r.getD 8 0) (r.getD 9 0) (r.getD 10 0) (r.getD 11 0) (r.getD 12 0) with ⟨_,b0,b1,b2,b3,b4⟩ | ⟨h',_⟩
 ·refine ⟨b4,?_,?_⟩
  ·unfold bxL bx0 bx1 bx2 bx3 bxD
   rw [b0,b1,b2,b3]
  ·unfold RVr Si.RV at h
   exact (Si.xGk h.2.2.2.2.2.1 h.2.2.2.2.1).1
 ·exact absurd h h'
structure GS (f:Int) (base fc rp:List (List Int)):Prop where
 vl:VL base
 vc:VC fc
 f0:0≤f∧f≤10000000
 rv:∀ r∈rp,RVr r
 ln:rp.length≤60
 ts:tsB ((rp.getD 0 []).getD 3 0) f rp=true
theorem xm7 (rp:List (List Int)):xaQ rp=true↔rp.length≤60∧∀ r∈rp,RVr r:=by
 rw [(Si.xiY rp).2,Bool.and_eq_true,decide_eq_true_eq,List.all_eq_true]
 constructor
 ·rintro ⟨h1,h2⟩
  exact ⟨h1,fun r hr=>by have:=h2 r hr; rw [xBi,decide_eq_true_eq] at this; exact this⟩
 ·rintro ⟨h1,h2⟩
  exact ⟨h1,fun r hr=>by rw [xBi,decide_eq_true_eq]; exact h2 r hr⟩
theorem xvE (f:Int) (base fc rp:List (List Int)) :
  (svE f base fc rp=1∧¬ GS f base fc rp)∨(svE f base fc rp=5∧GS f base fc rp∧(xbL rp).length<rp.length)∨(svE f base fc rp=0∧GS f base fc rp∧¬ (xbL rp).length<rp.length):=by
 unfold svE
 by_cases h:xaQ rp=true∧VL base∧VC fc∧0≤f∧f≤10000000
 ·rw [if_pos h]
  by_cases ht:tsB ((rp.getD 0 []).getD 3 0) f rp=true
  ·rw [if_pos ht]
   have g:GS f base fc rp:=⟨h.2.1,h.2.2.1,h.2.2.2,((xm7 rp).1 h.1).2,((xm7 rp).1 h.1).1,ht⟩
   by_cases hm:(xbL rp).length<rp.length
   ·rw [if_pos hm]; exact .inr (.inl ⟨rfl,g,hm⟩)
   ·rw [if_neg hm]; exact .inr (.inr ⟨rfl,g,hm⟩)
  ·rw [if_neg ht]; exact .inl ⟨rfl,fun g=>ht g.ts⟩
 ·rw [if_neg h]
  exact .inl ⟨rfl,fun g=>h ⟨(xm7 rp).2 ⟨g.ln,g.rv⟩,g.vl,g.vc,g.f0⟩⟩
def lg (c wr:List (List Int)):List (List Int)→Nat→List (List Int)→Int→Int×List (List Int)
 | [],_,set,_=>(0,set)
 | r::rs,i,set,at_ =>
  if sumE at_ (r.getD 2 0) c≠0 then (sumE at_ (r.getD 2 0) c,[])
  else if ∃ b∈set,¬ VB (mvF at_ (r.getD 2 0) c b) then (3,[])
  else if isW wr i=true then lg c wr rs (i+1) (set.map (mvF at_ (r.getD 2 0) c)) (r.getD 2 0)
  else if cutP (bxD r) (set.map (mvF at_ (r.getD 2 0) c))=[] then (18,[])
  else lg c wr rs (i+1) (cutP (bxD r) (set.map (mvF at_ (r.getD 2 0) c))) (r.getD 2 0)
theorem xEB (c wr:List (List Int)) (r:List Int) (rs:List (List Int)) (i:Nat) (set:List (List Int)) (at_:Int):lg c wr (r::rs) i set at_ =
  if sumE at_ (r.getD 2 0) c≠0 then (sumE at_ (r.getD 2 0) c,[])
  else if ∃ b∈set,¬ VB (mvF at_ (r.getD 2 0) c b) then (3,[])
  else if isW wr i=true then lg c wr rs (i+1) (set.map (mvF at_ (r.getD 2 0) c)) (r.getD 2 0)
  else if cutP (bxD r) (set.map (mvF at_ (r.getD 2 0) c))=[] then (18,[])
  else lg c wr rs (i+1) (cutP (bxD r) (set.map (mvF at_ (r.getD 2 0) c))) (r.getD 2 0):=rfl
theorem xy0 (c wr:List (List Int)) (r:List Int) (rs:List (List Int)) (i:Nat) (set:List (List Int)) (at_:Int) :
  (sumE at_ (r.getD 2 0) c≠0∧lg c wr (r::rs) i set at_=(sumE at_ (r.getD 2 0) c,[])) ∨
  (sumE at_ (r.getD 2 0) c=0∧(∃ b∈set,¬ VB (mvF at_ (r.getD 2 0) c b))∧lg c wr (r::rs) i set at_=(3,[])) ∨
  (sumE at_ (r.getD 2 0) c=0∧(∀ b∈set,VB (mvF at_ (r.getD 2 0) c b))∧isW wr i=true∧lg c wr (r::rs) i set at_=lg c wr rs (i+1) (set.map (mvF at_ (r.getD 2 0) c)) (r.getD 2 0)) ∨
  (sumE at_ (r.getD 2 0) c=0∧(∀ b∈set,VB (mvF at_ (r.getD 2 0) c b))∧isW wr i=false∧cutP (bxD r) (set.map (mvF at_ (r.getD 2 0) c))=[]∧lg c wr (r::rs) i set at_=(18,[])) ∨
  (sumE at_ (r.getD 2 0) c=0∧(∀ b∈set,VB (mvF at_ (r.getD 2 0) c b))∧isW wr i=false∧cutP (bxD r) (set.map (mvF at_ (r.getD 2 0) c))≠[]∧lg c wr (r::rs) i set at_=lg c wr rs (i+1) (cutP (bxD r) (set.map (mvF at_ (r.getD 2 0) c))) (r.getD 2 0)):=by
 rw [xEB]
 by_cases h1:sumE at_ (r.getD 2 0) c=0
 ·rw [if_neg (fun k=>k h1)]
  by_cases h2:∃ b∈set,¬ VB (mvF at_ (r.getD 2 0) c b)
  ·rw [if_pos h2]; exact .inr (.inl ⟨h1,h2,rfl⟩)
  ·rw [if_neg h2]
   have h2':∀ b∈set,VB (mvF at_ (r.getD 2 0) c b):=fun b hb=>Decidable.byContradiction fun k=>h2 ⟨b,hb,k⟩
   cases h3:isW wr i with
   | true=>rw [if_pos rfl]; exact .inr (.inr (.inl ⟨h1,h2',rfl,rfl⟩))
   | false =>
    rw [if_neg (by simp)]
    by_cases h4:cutP (bxD r) (set.map (mvF at_ (r.getD 2 0) c))=[]
    ·rw [if_pos h4]; exact .inr (.inr (.inr (.inl ⟨h1,h2',rfl,h4,rfl⟩)))
    ·rw [if_neg h4]; exact .inr (.inr (.inr (.inr ⟨h1,h2',rfl,h4,rfl⟩)))
 ·rw [if_pos h1]; exact .inl ⟨h1,rfl⟩
theorem xEC (c wr:List (List Int)):∀ (rs:List (List Int)) (i:Nat) (set:List (List Int)) (at_:Int),VL set→(∀ r∈rs,RVr r)→lf c wr rs i set at_=lg c wr rs i set at_
 | [],_,_,_,_,_=>rfl
 | r::rs,i,set,at_,hv,hr=>by
  have hb:=xGj (hr r (by simp))
  rw [xB3]
  rcases xy0 c wr r rs i set at_ with ⟨h1,e⟩ | ⟨h1,h2,e⟩ | ⟨h1,h2,h3,e⟩ | ⟨h1,h2,h3,h4,e⟩ | ⟨h1,h2,h3,h4,e⟩
  ·have:xj0 at_ (r.getD 2 0) set c=sumE at_ (r.getD 2 0) c:=by unfold xj0; rw [if_neg (fun k=>k hv),if_pos h1]
   rw [e,this,if_pos h1]
  ·have:xj0 at_ (r.getD 2 0) set c=3:=by unfold xj0; rw [if_neg (fun k=>k hv),if_neg (fun k=>k h1),if_pos h2]
   rw [e,this,if_pos (by decide)]
  all_goals
   have hm:=xDk hv h1 h2
   have hl:=(xDj hm).2.2.2
   have hv':VL (set.map (mvF at_ (r.getD 2 0) c)):=xCM hv h2
   rw [e,if_neg (fun k=>k hm),hl]
  ·rw [if_pos h3]
   exact xEC c wr rs _ _ _ hv' (fun r hr'=>hr r (by simp [hr']))
  ·rw [if_neg (by rw [h3]; simp),if_neg (fun k=>k hb.1),hb.2.1]
   have:cutE (bxD r) (set.map (mvF at_ (r.getD 2 0) c))=4:=by
    rcases xvq (bxD r) (set.map (mvF at_ (r.getD 2 0) c)) with ⟨_,k⟩ | ⟨k,_⟩ | ⟨_,_,_,k,_⟩
    ·rcases k with k | k
     ·exact absurd hv' k
     ·exact absurd hb.2.2 k
    ·exact k
    ·exact absurd h4 k
   rw [this,if_pos (by decide)]
  ·rw [if_neg (by rw [h3]; simp),if_neg (fun k=>k hb.1),hb.2.1]
   have:cutE (bxD r) (set.map (mvF at_ (r.getD 2 0) c))=0∧cutL (bxD r) (set.map (mvF at_ (r.getD 2 0) c))=cutP (bxD r) (set.map (mvF at_ (r.getD 2 0) c)):=by
    rcases xvq (bxD r) (set.map (mvF at_ (r.getD 2 0) c)) with ⟨_,k⟩ | ⟨_,_,_,k⟩ | ⟨k1,_,_,_,k2⟩
    ·rcases k with k | k
     ·exact absurd hv' k
     ·exact absurd hb.2.2 k
    ·exact absurd k h4
    ·exact ⟨k1,k2⟩
   rw [this.1,if_neg (by simp),this.2]
   exact xEC c wr rs _ _ _ (xDI hv' hb.2.2 h4) (fun r hr'=>hr r (by simp [hr']))
theorem xB2 (c wr:List (List Int)):∀ (rs:List (List Int)) (i:Nat) (set:List (List Int)) (at_:Int),VL set→(∀ r∈rs,RVr r)→((lg c wr rs i set at_).1=0→VL (lg c wr rs i set at_).2)∧((lg c wr rs i set at_).1≠0→(lg c wr rs i set at_).2=[])
 | [],_,_,_,hv,_=>⟨fun _=>hv,fun h=>absurd rfl h⟩
 | r::rs,i,set,at_,hv,hr=>by
  have hb:=xGj (hr r (by simp))
  rcases xy0 c wr r rs i set at_ with ⟨h1,e⟩ | ⟨h1,h2,e⟩ | ⟨h1,h2,h3,e⟩ | ⟨h1,h2,h3,h4,e⟩ | ⟨h1,h2,h3,h4,e⟩
  ·rw [e]; exact ⟨fun h=>absurd h h1,fun _=>rfl⟩
  ·rw [e]; exact ⟨fun h=>absurd h (by decide),fun _=>rfl⟩
  ·rw [e]; exact xB2 c wr rs _ _ _ (xCM hv h2) (fun r hr'=>hr r (by simp [hr']))
  ·rw [e]; exact ⟨fun h=>absurd h (by decide),fun _=>rfl⟩
  ·rw [e]; exact xB2 c wr rs _ _ _ (xDI (xCM hv h2) hb.2.2 h4) (fun r hr'=>hr r (by simp [hr']))
def pX (tr:List (List Int)) (i:Nat):Int:=(tr.getD i []).getD 0 0
def pY (tr:List (List Int)) (i:Nat):Int:=(tr.getD i []).getD 1 0
def xvW (r:List Int) (x y:Int):Prop:=Si.Sees (r.getD 4 0) (r.getD 5 0) (r.getD 6 0) (r.getD 7 0) (r.getD 8 0) (r.getD 9 0) (r.getD 10 0) (r.getD 11 0) (r.getD 12 0) x x y y
instance (r:List Int) (x y:Int):Decidable (xvW r x y):=by unfold xvW; infer_instance
def tl (c wr tr:List (List Int)):List (List Int)→Nat→Int→Prop
 | [],_,_=>True
 | r::rs,i,at_=>allB at_ (r.getD 2 0) (pX tr i) (pY tr i) (pX tr (i+1)) (pY tr (i+1)) c∧(isW wr i=false→xvW r (pX tr (i+1)) (pY tr (i+1)))∧tl c wr tr rs (i+1) (r.getD 2 0)
theorem xIs {at_ t x y z w:Int} {c:List (List Int)} {b:List Int} (h:allB at_ t x y z w c) (hb:HB x y b):sumE at_ t c=0∧VP z w∧HB z w (mvF at_ t c b):=by
 unfold allB at h
 obtain ⟨h0,h1,h2,h3,h4⟩:=h
 rcases xvy at_ t x y z w c with ⟨k,_⟩ | ⟨k,_,k2⟩
 ·rw [k] at h0; exact absurd h0 (by decide)
 ·rw [k] at h0
  refine ⟨h0,k2,?_⟩
  have g:=xEx at_ t c b
  have s2:=xvF h0 2
  have s3:=xvF h0 3
  have s4:=xvF h0 4
  have s5:=xvF h0 5
  unfold lo hi at g
  unfold HB at *
  omega
theorem xF4 {r:List Int} (hr:RVr r) {x y:Int} (hp:VP x y) (h:xvW r x y):HB x y (bxD r):=by
 unfold RVr Si.RV at hr
 have:=Si.xC5 hr.2.2.2.2.2.1 ((Si.xFF x y).1 hp) hr.2.2.2.2.1 h
 unfold HB bxD
 simp only [List.getD_cons_zero,List.getD_cons_succ]
 omega
theorem xEc {c wr tr:List (List Int)}:∀ (rs:List (List Int)) (i:Nat) (set:List (List Int)) (at_:Int),(∀ r∈rs,RVr r)→tl c wr tr rs i at_→(∃ b∈set,HB (pX tr i) (pY tr i) b) →
  (lg c wr rs i set at_).1=3∨((lg c wr rs i set at_).1=0∧∃ b∈(lg c wr rs i set at_).2,HB (pX tr (i+rs.length)) (pY tr (i+rs.length)) b)
 | [],i,set,at_,_,_,hb=>.inr ⟨rfl,hb⟩
 | r::rs,i,set,at_,hr,ht,hb=>by
  obtain ⟨t1,t2,t3⟩:=ht
  obtain ⟨b,hbm,hb⟩:=hb
  obtain ⟨s1,s2,s3⟩:=xIs t1 hb
  have hm:∃ b∈set.map (mvF at_ (r.getD 2 0) c),HB (pX tr (i+1)) (pY tr (i+1)) b:=⟨_,List.mem_map.2 ⟨b,hbm,rfl⟩,s3⟩
  have el:i+(r::rs).length=i+1+rs.length:=by simp only [List.length_cons]; omega
  rw [el]
  rcases xy0 c wr r rs i set at_ with ⟨h1,e⟩ | ⟨h1,h2,e⟩ | ⟨h1,h2,h3,e⟩ | ⟨h1,h2,h3,h4,e⟩ | ⟨h1,h2,h3,h4,e⟩<;>rw [e]
  ·exact absurd s1 h1
  ·exact .inl rfl
  ·exact xEc rs _ _ _ (fun r hr'=>hr r (by simp [hr'])) t3 hm
  ·have hx:=(xDV _ _ (bxD r) _).2 ⟨hm,xF4 (hr r (by simp)) s2 (t2 h3)⟩
   rw [h4] at hx
   obtain ⟨_,k,_⟩:=hx
   cases k
  ·exact xEc rs _ _ _ (fun r hr'=>hr r (by simp [hr'])) t3 ((xDV _ _ (bxD r) _).2 ⟨hm,xF4 (hr r (by simp)) s2 (t2 h3)⟩)
theorem xEb {c wr tr:List (List Int)}:∀ (rs:List (List Int)) (i:Nat) (at_:Int),tl c wr tr rs i at_→VP (pX tr i) (pY tr i)→VP (pX tr (i+rs.length)) (pY tr (i+rs.length))
 | [],_,_,_,h=>h
 | r::rs,i,at_,⟨t1,_,t3⟩,h=>by
  have el:i+(r::rs).length=i+1+rs.length:=by simp only [List.length_cons]; omega
  rw [el]
  refine xEb rs _ _ t3 ?_
  unfold allB at t1
  rcases xvy at_ (r.getD 2 0) (pX tr i) (pY tr i) (pX tr (i+1)) (pY tr (i+1)) c with ⟨k,_⟩ | ⟨k,_,k2⟩
  ·rw [k] at t1; exact absurd t1.1 (by decide)
  ·exact k2
def ck (c wr tr:List (List Int)):List (List Int)→Nat→Int→Bool→Int×Bool
 | [],_,_,t=>(0,t)
 | r::rs,i,at_,t =>
  if allE at_ (r.getD 2 0) (pX tr i) (pY tr i) (pX tr (i+1)) (pY tr (i+1)) c≠0 then (allE at_ (r.getD 2 0) (pX tr i) (pY tr i) (pX tr (i+1)) (pY tr (i+1)) c,false)
  else ck c wr tr rs (i+1) (r.getD 2 0) (t&&decide (allB at_ (r.getD 2 0) (pX tr i) (pY tr i) (pX tr (i+1)) (pY tr (i+1)) c)&&decide (RVr r∧Si.Pt (pX tr (i+1)) (pY tr (i+1)))&&(decide (xvW r (pX tr (i+1)) (pY tr (i+1)))||isW wr i))
theorem xCI (c wr tr:List (List Int)) (r:List Int) (rs:List (List Int)) (i:Nat) (at_:Int) (t:Bool):ck c wr tr (r::rs) i at_ t =
  if allE at_ (r.getD 2 0) (pX tr i) (pY tr i) (pX tr (i+1)) (pY tr (i+1)) c≠0 then (allE at_ (r.getD 2 0) (pX tr i) (pY tr i) (pX tr (i+1)) (pY tr (i+1)) c,false)
  else ck c wr tr rs (i+1) (r.getD 2 0) (t&&decide (allB at_ (r.getD 2 0) (pX tr i) (pY tr i) (pX tr (i+1)) (pY tr (i+1)) c)&&decide (RVr r∧Si.Pt (pX tr (i+1)) (pY tr (i+1)))&&(decide (xvW r (pX tr (i+1)) (pY tr (i+1)))||isW wr i)):=rfl
theorem xGh {c wr tr:List (List Int)}:∀ (rs:List (List Int)) (i:Nat) (at_:Int) (t:Bool),(ck c wr tr rs i at_ t).2=true→t=true∧tl c wr tr rs i at_
 | [],_,_,_,h=>⟨h,trivial⟩
 | r::rs,i,at_,t,h=>by
  rw [xCI] at h
  split at h
  ·cases h
  ·obtain ⟨h1,h2⟩:=xGh rs _ _ _ h
   simp only [Bool.and_eq_true,Bool.or_eq_true,decide_eq_true_eq] at h1
   obtain ⟨⟨⟨h3,h4⟩,h5⟩,h6⟩:=h1
   refine ⟨h3,h4,fun hw=>?_,h2⟩
   rcases h6 with h6 | h6
   ·exact h6
   ·rw [hw] at h6; cases h6
end Go.Proofs.YthfjhbbpdhjklaaGreat
set_option linter.unusedVariables false
namespace Go.Proofs.YthfjhbbpdhjklaaGreat
open Go Go.Sy
theorem xEF {f:Int} {base fc rp:List (List Int)} (g:GS f base fc rp) (hf:fc.length≤9223372036854775807) (wr:List (List Int)) (hw:wr.length≤9223372036854775806) :
  xbT f base fc rp wr∧xbg f base fc rp wr=(lg fc wr rp 0 base f).1∧xbO f base fc rp wr=(lg fc wr rp 0 base f).2:=by
 obtain ⟨h1,h2,h3⟩:=xEE f base fc rp wr g.vl.2.1 hf g.ln hw
 rw [xEC fc wr rp 0 base f g.vl g.rv] at h2 h3
 exact ⟨h1,h2,h3⟩
structure Told (f:Int) (base fc rp wr tr:List (List Int)):Prop where
 sv:svE f base fc rp=0
 gs:GS f base fc rp
 wb:wB rp.length (-1) wr=true
 tn:tr.length=rp.length+1
 p0:∃ b∈base,HB (pX tr 0) (pY tr 0) b
 v0:VP (pX tr 0) (pY tr 0)
 tl:tl fc wr tr rp 0 f
end Go.Proofs.YthfjhbbpdhjklaaGreat
set_option linter.unusedVariables false
set_option linter.unusedSimpArgs false
set_option linter.unusedSectionVars false
namespace Go.Proofs.YthfjhbbpdhjklaaGreat
open Go Go.Sy
theorem xxE {m:Nat} {n:Int} {w:List (List Int)}:w∈xby m n↔∃ c:List Nat,w=xcj (c.map fun (x:Nat)=>(x:Int))∧c.length=n.toNat∧c.Pairwise (·<·)∧∀ x∈c,x<m:=by
 unfold xby
 rw [List.mem_map]
 constructor
 ·rintro ⟨c,hc,rfl⟩
  obtain ⟨h1,h2,h3⟩:=(xoU _ _ _ _).1 hc
  exact ⟨c,rfl,h1,h2,fun x hx=>by have:=h3 x hx; omega⟩
 ·rintro ⟨c,rfl,h1,h2,h3⟩
  exact ⟨c,(xoU _ _ _ _).2 ⟨h1,h2,fun x hx=>by have:=h3 x hx; omega⟩,rfl⟩
theorem xCx {m:Nat} {n:Int} {w:List (List Int)} (h:w∈xby m n):w.length=n.toNat:=by
 obtain ⟨c,rfl,h1,_⟩:=xxE.1 h
 unfold xcj
 simp [h1]
theorem xtM (m:Nat) (n:Int):(xby m n).length≤2 ^ m:=by
 unfold xby
 rw [List.length_map]
 exact xuT _ _ _
theorem xFb:∀ (c:List Nat) (m:Nat) (last:Int),c.Pairwise (·<·)→(∀ x∈c,last<(x:Int)∧x<m)→wB m last (xcj (c.map fun (x:Nat)=>(x:Int)))=true
 | [],_,_,_,_=>rfl
 | a::c,m,last,hp,h=>by
  show wB m last ([(a:Int)]::xcj (c.map fun (x:Nat)=>(x:Int)))=true
  rw [xBe]
  obtain ⟨p1,p2⟩:=List.pairwise_cons.1 hp
  have ha:=h a (by simp)
  have rec':=xFb c m (a:Int) p2 (fun x hx=>⟨by have:=p1 x hx; omega,(h x (by simp [hx])).2⟩)
  show (decide (last<(a:Int))&&decide ((a:Int)<(m:Int))&&wB m (a:Int) (xcj (c.map fun (x:Nat)=>(x:Int))))=true
  rw [rec',decide_eq_true ha.1,decide_eq_true (show (a:Int)<(m:Int) by omega)]
  rfl
theorem xBd:∀ (w:List (List Int)) (m:Nat) (last:Int),(∀ e∈w,e.length=1) → -1≤last→wB m last w=true →
  ∃ c:List Nat,w=xcj (c.map fun (x:Nat)=>(x:Int))∧c.Pairwise (·<·)∧∀ x∈c,last<(x:Int)∧x<m
 | [],_,_,_,_,_=>⟨[],rfl,List.Pairwise.nil,by simp⟩
 | e::w,m,last,h1,h0,hw=>by
  rw [xBe] at hw
  simp only [Bool.and_eq_true,decide_eq_true_eq] at hw
  obtain ⟨c,hc,p,q⟩:=xBd w m (e.getD 0 0) (fun x hx=>h1 x (by simp [hx])) (by omega) hw.2
  obtain ⟨z,hz⟩:∃ z,e=[z]:=by
   have:=h1 e (by simp)
   match e,this with
   | [z],_=>exact ⟨z,rfl⟩
  subst hz
  have hz:([z]:List Int).getD 0 0=z:=rfl
  rw [hz] at hw q
  refine ⟨z.toNat::c,?_,List.pairwise_cons.2 ⟨fun x hx=>by have:=q x hx; omega,p⟩,fun x hx=>?_⟩
  ·rw [hc]
   show [z]::_=[((z.toNat:Nat):Int)]::_
   rw [Int.toNat_of_nonneg (by omega)]
   rfl
  ·rcases List.mem_cons.1 hx with rfl | hx
   ·omega
   ·have:=q x hx; omega
theorem xCR {m:Nat} {w:List (List Int)} (h1:∀ e∈w,e.length=1) (h:wB m (-1) w=true):w∈xby m w.length:=by
 obtain ⟨c,rfl,p,q⟩:=xBd w m (-1) h1 (by decide) h
 refine xxE.2 ⟨c,rfl,?_,p,fun x hx=>(q x hx).2⟩
 unfold xcj
 simp
def alls (m:Nat):Nat→List (List (List Int))
 | 0=>[]
 | n+1=>alls m n++xby m n
theorem xwe {m:Nat}:∀ {n:Nat} {w:List (List Int)},w∈alls m n↔∃ s:Nat,s<n∧w∈xby m s
 | 0,w=>by
  constructor
  ·intro h; cases h
  ·rintro ⟨s,h,_⟩; omega
 | n+1,w=>by
  show w∈alls m n++xby m n↔_
  rw [List.mem_append,xwe]
  constructor
  ·rintro (⟨s,h,h2⟩ | h)
   ·exact ⟨s,by omega,h2⟩
   ·exact ⟨n,by omega,h⟩
  ·rintro ⟨s,h,h2⟩
   by_cases e:s=n
   ·subst e; exact .inr h2
   ·exact .inl ⟨s,by omega,h2⟩
theorem xvx {m s:Nat}:∀ {n:Nat},s<n→∃ R,alls m n=alls m s++xby m s++R
 | 0,h=>absurd h (by omega)
 | n+1,h=>by
  by_cases e:s=n
  ·subst e; exact ⟨[],by rw [List.append_nil]; rfl⟩
  ·obtain ⟨R,hR⟩:=xvx (m:=m) (s:=s) (n:=n) (by omega)
   exact ⟨R++xby m n,by show alls m n++xby m n=_; rw [hR]; simp⟩
theorem xqd (m:Nat):∀ n,(alls m n).length≤n*2 ^ m
 | 0=>Nat.zero_le _
 | n+1=>by
  show (alls m n++xby m n).length≤_
  rw [List.length_append]
  have:=xqd m n
  have:=xtM m n
  rw [Nat.succ_mul]
  omega
theorem xF6 {L:List (List (List Int))} {q:Nat} (h:q<L.length):L.getD q []∈L:=by
 rw [List.getD_eq_getElem?_getD,List.getElem?_eq_getElem h]
 exact List.getElem_mem h
theorem xF9 {L:List (List (List Int))} {q:Nat} (h:q<L.length):L=L.take q++L.getD q []::L.drop (q+1):=by
 conv=>lhs; rw [← List.take_append_drop q L]
 rw [List.drop_eq_getElem_cons h,List.getD_eq_getElem?_getD,List.getElem?_eq_getElem h]
 rfl
theorem xFg {L:List (List (List Int))} {q:Nat} (h:q<L.length):L.take (q+1)=L.take q++[L.getD q []]:=by
 rw [List.take_add_one,List.getElem?_eq_getElem h,List.getD_eq_getElem?_getD,List.getElem?_eq_getElem h]
 rfl
theorem xAx {L:List (List (List Int))} {q:Nat} {x:List (List Int)} (h:x∈L.take q):∃ j,j<q∧j<L.length∧x=L.getD j []:=by
 obtain ⟨j,hj,rfl⟩:=List.getElem_of_mem h
 rw [List.length_take] at hj
 refine ⟨j,by omega,by omega,?_⟩
 rw [List.getElem_take,List.getD_eq_getElem?_getD,List.getElem?_eq_getElem (by omega)]
 rfl
theorem xyt {L:List (List (List Int))} {P:List (List Int)→Prop} (h:∀ q,q<L.length→P (L.getD q [])):∀ x∈L,P x:=by
 intro x hx
 obtain ⟨j,hj,rfl⟩:=List.getElem_of_mem hx
 have:=h j hj
 rw [List.getD_eq_getElem?_getD,List.getElem?_eq_getElem hj] at this
 exact this
theorem xAM {A B:List (List (List Int))} {y:List (List Int)} {p:List (List Int)→Bool} (h1:∀ x∈A,p x=false) (h2:p y=true):(A++y::B).find? p=some y:=by
 rw [List.find?_append,List.find?_eq_none.2 (fun x hx=>by rw [h1 x hx]; simp),List.find?_cons_of_pos h2]
 rfl
noncomputable def askE (f most:Int) (base fc rp:List (List Int)):Int :=
 if svE f base fc rp=1∨most<0∨most>3 then 1 else if svE f base fc rp=0∧rp.length>12 then 2 else svE f base fc rp
theorem xDA (f most:Int) (base fc rp:List (List Int)) (h13:Si.El13 rp) (hf:fc.length≤9223372036854775807):xcx f most base fc rp∧xbk f most base fc rp=askE f most base fc rp:=by
 obtain ⟨v1,v2⟩:=xH6 f base fc rp h13 hf
 unfold xcx xbk xjS askE
 rw [v2]
 refine ⟨v1,?_⟩
 by_cases h1:svE f base fc rp=1∨most<0∨most>3
 ·rw [if_pos h1]
  have:(svE f base fc rp==(1:Int)||decide (most<(0:Int))||decide (most>(3:Int)))=true:=by
   simp only [Bool.or_eq_true,beq_iff_eq,decide_eq_true_eq]; omega
  rw [this]; rfl
 ·rw [if_neg h1]
  have:(svE f base fc rp==(1:Int)||decide (most<(0:Int))||decide (most>(3:Int)))=false:=by
   simp only [Bool.or_eq_false_iff,beq_eq_false_iff_ne,decide_eq_false_iff_not,ne_eq]; omega
  rw [this,cond_false]
  by_cases h2:svE f base fc rp=0∧rp.length>12
  ·rw [if_pos h2]
   have:(svE f base fc rp==(0:Int)&&decide ((rp.length:Int)>(12:Int)))=true:=by
    simp only [Bool.and_eq_true,beq_iff_eq,decide_eq_true_eq]; omega
   rw [this]; rfl
  ·rw [if_neg h2]
   have:(svE f base fc rp==(0:Int)&&decide ((rp.length:Int)>(12:Int)))=false:=by
    rw [Bool.eq_false_iff]
    intro h
    simp only [Bool.and_eq_true,beq_iff_eq,decide_eq_true_eq] at h
    omega
   rw [this]; rfl
theorem xGm {f most:Int} {base fc rp:List (List Int)} (h:askE f most base fc rp=0):svE f base fc rp=0∧GS f base fc rp∧0≤most∧most≤3∧rp.length≤12:=by
 unfold askE at h
 split at h
 ·cases h
 ·rename_i h1
  split at h
  ·cases h
  ·rename_i h2
   rcases xvE f base fc rp with ⟨e,_⟩ | ⟨e,g,_⟩ | ⟨e,g,_⟩
   ·rw [e] at h; cases h
   ·rw [e] at h; cases h
   ·exact ⟨h,g,by omega,by omega,by omega⟩
theorem xGn {f most:Int} {base fc rp:List (List Int)} (h:svE f base fc rp=0) (h1:0≤most) (h2:most≤3) (h3:rp.length≤12):askE f most base fc rp=0:=by
 unfold askE
 rw [h,if_neg (by omega),if_neg (by omega)]
def lw (f:Int) (base fc rp w:List (List Int)):Int×List (List Int):=lg fc w rp 0 base f
section
variable {f most:Int} {base fc rp:List (List Int)} (g:GS f base fc rp) (hf:fc.length≤9223372036854775807) (hm:0≤most∧most≤3)
include g hf hm
theorem xB4 {s:Nat} (hs:s≤1000000) {q:Nat} (hq:q<(xby rp.length (s:Int)).length) :
  xbT f base fc rp ((xby rp.length (s:Int)).getD q [])∧xbg f base fc rp ((xby rp.length (s:Int)).getD q [])=(lw f base fc rp ((xby rp.length (s:Int)).getD q [])).1∧xbO f base fc rp ((xby rp.length (s:Int)).getD q [])=(lw f base fc rp ((xby rp.length (s:Int)).getD q [])).2:=by
 refine xEF g hf _ ?_
 rw [xCx (xF6 hq)]
 omega
theorem xIv {s:Nat} (hs:s≤1000000) (w0 s0:List (List Int)) :
  xa5 (xbF f most base fc rp [.i (s:Int),.i 18,.r s0,.r w0]) (xcD f most base fc rp [.i (s:Int),.i 18,.r s0,.r w0]) ∧
  (((xaW f most base fc rp [.i (s:Int),.i 18,.r s0,.r w0]).1=1∧∃ q,q<(xby rp.length (s:Int)).length∧(∀ j,j<q→(lw f base fc rp ((xby rp.length (s:Int)).getD j [])).1=18)∧(lw f base fc rp ((xby rp.length (s:Int)).getD q [])).1≠18 ∧
    gi (xaW f most base fc rp [.i (s:Int),.i 18,.r s0,.r w0]).2 1=(lw f base fc rp ((xby rp.length (s:Int)).getD q [])).1∧gr (xaW f most base fc rp [.i (s:Int),.i 18,.r s0,.r w0]).2 2=(lw f base fc rp ((xby rp.length (s:Int)).getD q [])).2∧gr (xaW f most base fc rp [.i (s:Int),.i 18,.r s0,.r w0]).2 3=(xby rp.length (s:Int)).getD q []) ∨
   ((xaW f most base fc rp [.i (s:Int),.i 18,.r s0,.r w0]).1=3∧gi (xaW f most base fc rp [.i (s:Int),.i 18,.r s0,.r w0]).2 1=18∧∀ j,j<(xby rp.length (s:Int)).length→(lw f base fc rp ((xby rp.length (s:Int)).getD j [])).1=18)):=by
 refine xlt (step:=xbF f most base fc rp [.i (s:Int),.i 18,.r s0,.r w0]) (xby rp.length (s:Int)).length
  (fun j xs=>∃ set w,xs=[.i (j:Int),.i 18,.r set,.r w]∧∀ q,q<j→(lw f base fc rp ((xby rp.length (s:Int)).getD q [])).1=18)
  (fun res=>(res.1=1∧∃ q,q<(xby rp.length (s:Int)).length∧(∀ j,j<q→(lw f base fc rp ((xby rp.length (s:Int)).getD j [])).1=18)∧(lw f base fc rp ((xby rp.length (s:Int)).getD q [])).1≠18 ∧
    gi res.2 1=(lw f base fc rp ((xby rp.length (s:Int)).getD q [])).1∧gr res.2 2=(lw f base fc rp ((xby rp.length (s:Int)).getD q [])).2∧gr res.2 3=(xby rp.length (s:Int)).getD q []) ∨
   (res.1=3∧gi res.2 1=18∧∀ j,j<(xby rp.length (s:Int)).length→(lw f base fc rp ((xby rp.length (s:Int)).getD j [])).1=18))
  (fun j xs hj ⟨set,w,e,h⟩=>?_) (fun xs ⟨set,w,e,h⟩=>?_) ⟨s0,w0,?_,fun q hq=>absurd hq (by omega)⟩
 ·subst e
  obtain ⟨l1,l2,l3⟩:=xB4 g hf hm hs hj
  unfold xbF
  simp only [gi_z,gi_1,dlt hj,Int.toNat_natCast,xaN l1,l2,l3]
  by_cases h1:(lw f base fc rp ((xby rp.length (s:Int)).getD j [])).1=18
  ·have b1:((lw f base fc rp ((xby rp.length (s:Int)).getD j [])).1 !=(18:Int))=false:=by rw [bne_eq_false_iff_eq]; exact h1
   rw [b1,cond_false,h1]
   refine .inl ⟨_,rfl,_,_,rfl,fun q hq=>?_⟩
   by_cases e:q=j
   ·subst e; exact h1
   ·exact h q (by omega)
  ·have b1:((lw f base fc rp ((xby rp.length (s:Int)).getD j [])).1 !=(18:Int))=true:=by rw [bne_iff_ne]; exact h1
   rw [b1,cond_true]
   exact .inr ⟨0,_,rfl,.inl ⟨rfl,j,hj,h,h1,by rw [gi_1,gi_z],by rw [gr_2,gr_z],by rw [gr_3,gr_z]⟩⟩
 ·subst e
  refine ⟨2,[.i ((xby rp.length (s:Int)).length:Int),.i 18,.r set,.r w],?_,.inr ⟨rfl,by rw [gi_1,gi_z],h⟩⟩
  unfold xbF
  simp only [gi_z,gi_1,gr_2,gr_3,gr_z,dnlt]
 ·unfold xcD
  rw [gi_1,gi_z,gr_2,gr_z,gr_3,gr_z]
  rfl
theorem xIN (hl:rp.length≤12) :
  xa5 (xbZ f most base fc rp) (xfQ f most base fc rp) ∧
  (((xch f most base fc rp).1=1∧∃ w,(alls rp.length (most.toNat+1)).find? (fun w=>(lw f base fc rp w).1 !=18)=some w∧gi (xch f most base fc rp).2 1=(lw f base fc rp w).1∧gr (xch f most base fc rp).2 2=(lw f base fc rp w).2∧gr (xch f most base fc rp).2 3=w) ∨
   ((xch f most base fc rp).1=3∧(alls rp.length (most.toNat+1)).find? (fun w=>(lw f base fc rp w).1 !=18)=none∧gi (xch f most base fc rp).2 1=18)):=by
 refine xlt (step:=xbZ f most base fc rp) (most.toNat+1)
  (fun s xs=>∃ set w,xs=[.i (s:Int),.i 18,.r set,.r w]∧∀ x∈alls rp.length s,(lw f base fc rp x).1=18)
  (fun res=>(res.1=1∧∃ w,(alls rp.length (most.toNat+1)).find? (fun w=>(lw f base fc rp w).1 !=18)=some w∧gi res.2 1=(lw f base fc rp w).1∧gr res.2 2=(lw f base fc rp w).2∧gr res.2 3=w) ∨
   (res.1=3∧(alls rp.length (most.toNat+1)).find? (fun w=>(lw f base fc rp w).1 !=18)=none∧gi res.2 1=18))
  (fun s xs hs ⟨set,w,e,h⟩=>?_) (fun xs ⟨set,w,e,h⟩=>?_) ⟨[],[],rfl,fun x hx=>by cases hx⟩
 ·subst e
  obtain ⟨l1,l2⟩:=xIv g hf hm (s:=s) (by omega) w set
  unfold xbZ
  simp only [gi_z,gi_1]
  rw [decide_eq_true (show (s:Int)≤most by omega),cond_true,xaN (by omega),xaN l1]
  rcases l2 with ⟨k1,q,k2,k3,k4,k5,k6,k7⟩ | ⟨k1,k2,k3⟩
  ·rw [k1,k5,k6,k7]
   refine .inr ⟨0,_,rfl,.inl ⟨rfl,(xby rp.length (s:Int)).getD q [],?_,?_,?_,?_⟩⟩
   ·obtain ⟨R,hR⟩:=xvx (m:=rp.length) hs
    have hD:=xF9 k2
    have e2:alls rp.length (most.toNat+1)=(alls rp.length s++(xby rp.length (s:Int)).take q)++(xby rp.length (s:Int)).getD q []::((xby rp.length (s:Int)).drop (q+1)++R):=by
     rw [hR]
     generalize xby rp.length (s:Int)=D at hD ⊢
     conv=>lhs; rw [hD]
     simp
    rw [e2]
    refine xAM (fun x hx=>?_) (by rw [bne_iff_ne]; exact k4)
    rw [bne_eq_false_iff_eq]
    rcases List.mem_append.1 hx with hx | hx
    ·exact h x hx
    ·obtain ⟨j,j1,_,rfl⟩:=xAx hx
     exact k3 j j1
   ·rw [gi_1,gi_z]
   ·rw [gr_2,gr_z]
   ·rw [gr_3,gr_z]
  ·rw [k1,k2]
   refine .inl ⟨_,by rw [xbQ (show s<4611686018427387904 by omega)]; rfl,_,_,rfl,fun x hx=>?_⟩
   rcases List.mem_append.1 hx with hx | hx
   ·exact h x hx
   ·exact xyt (P:=fun x=>(lw f base fc rp x).1=18) k3 x hx
 ·subst e
  refine ⟨2,[.i ((most.toNat+1:Nat):Int),.i 18,.r set,.r w],?_,.inr ⟨rfl,?_,by rw [gi_1,gi_z]⟩⟩
  ·unfold xbZ
   simp only [gi_z,gi_1,gr_2,gr_3,gr_z]
   rw [decide_eq_false (show ¬ ((most.toNat+1:Nat):Int)≤most by omega),cond_false]
  ·exact List.find?_eq_none.2 fun x hx=>by rw [h x hx]; simp
end
end Go.Proofs.YthfjhbbpdhjklaaGreat
set_option linter.unusedVariables false
namespace Go.Proofs.YthfjhbbpdhjklaaGreat
open Go Go.Sy
def okE (e:Int):Prop:=e=0∨e=18
instance (e:Int):Decidable (okE e):=by unfold okE; infer_instance
theorem xEs (e:Int):(e !=(0:Int)&&e !=(18:Int))=!decide (okE e):=by
 by_cases h:okE e
 ·rw [decide_eq_true h]
  unfold okE at h
  rcases h with rfl | rfl<;>rfl
 ·rw [decide_eq_false h]
  unfold okE at h
  rw [Bool.not_false,Bool.and_eq_true,bne_iff_ne,bne_iff_ne]
  exact ⟨fun k=>h (.inl k),fun k=>h (.inr k)⟩
def hul (a b:List Int):List Int:=[min (a.getD 0 0) (b.getD 0 0),max (a.getD 1 0) (b.getD 1 0),min (a.getD 2 0) (b.getD 2 0),max (a.getD 3 0) (b.getD 3 0)]
def q4 (b:List Int):List Int:=[b.getD 0 0,b.getD 1 0,b.getD 2 0,b.getD 3 0]
def hull:List (List Int)→List Int
 | []=>[0,0,0,0]
 | b::l=>l.foldl hul (q4 b)
theorem xFc {a b:List Int} (h1:VB a) (h2:VB b):VB (hul a b):=by
 unfold VB hul at *
 simp only [List.getD_cons_zero,List.getD_cons_succ]
 omega
theorem xHZ {b:List Int}:VB (q4 b)↔VB b:=Iff.rfl
theorem xEJ {a b:List Int} (h1:VB a) (h2:VB b) :
  xfj (a.getD 0 0) (a.getD 1 0) (a.getD 2 0) (a.getD 3 0) (b.getD 0 0) (b.getD 1 0) (b.getD 2 0) (b.getD 3 0)=0 ∧
  xf0 (a.getD 0 0) (a.getD 1 0) (a.getD 2 0) (a.getD 3 0) (b.getD 0 0) (b.getD 1 0) (b.getD 2 0) (b.getD 3 0)=(hul a b).getD 0 0 ∧
  xfZ (a.getD 0 0) (a.getD 1 0) (a.getD 2 0) (a.getD 3 0) (b.getD 0 0) (b.getD 1 0) (b.getD 2 0) (b.getD 3 0)=(hul a b).getD 1 0 ∧
  xfY (a.getD 0 0) (a.getD 1 0) (a.getD 2 0) (a.getD 3 0) (b.getD 0 0) (b.getD 1 0) (b.getD 2 0) (b.getD 3 0)=(hul a b).getD 2 0 ∧
  xfX (a.getD 0 0) (a.getD 1 0) (a.getD 2 0) (a.getD 3 0) (b.getD 0 0) (b.getD 1 0) (b.getD 2 0) (b.getD 3 0)=(hul a b).getD 3 0:=by
 have v1:=xqM a
 have v2:=xqM b
 rw [decide_eq_true h1] at v1
 rw [decide_eq_true h2] at v2
 unfold VB at h1 h2
 unfold xfj xf0 xfZ xfY xfX
 rw [v1,v2]
 rcases Si.xvj (a.getD 0 0) (a.getD 1 0) (b.getD 0 0) (b.getD 1 0) with ⟨_,_,x0,x1,x2⟩ | ⟨k,_⟩
 ·rcases Si.xvj (a.getD 2 0) (a.getD 3 0) (b.getD 2 0) (b.getD 3 0) with ⟨_,_,y0,y1,y2⟩ | ⟨k,_⟩
  ·rw [x0,x1,x2,y0,y1,y2]
   exact ⟨rfl,rfl,rfl,rfl,rfl⟩
  ·exfalso; apply k; unfold Si.V; omega
 ·exfalso; apply k; unfold Si.V; omega
theorem xlv {g:List (List Int)→List (List Int)} (h:∀ w,(g w).length≤16):∀ L:List (List (List Int)),(L.flatMap g).length≤16*L.length
 | []=>Nat.zero_le _
 | a::L=>by
  rw [List.flatMap_cons,List.length_append,List.length_cons]
  have:=h a
  have:=xlv h L
  omega
section
variable {f most:Int} {base fc rp:List (List Int)} (g:GS f base fc rp) (hf:fc.length≤9223372036854775807) (hm:0≤most∧most≤3)
include g in
theorem xzQ (w:List (List Int)):(lw f base fc rp w).2.length≤16:=by
 obtain ⟨h1,h2⟩:=xB2 fc w rp 0 base f g.vl g.rv
 unfold lw
 by_cases h:(lg fc w rp 0 base f).1=0
 ·exact (h1 h).2.1
 ·rw [h2 h]; exact Nat.zero_le _
include g in
theorem xFQ {w:List (List Int)}:∀ b∈(lw f base fc rp w).2,VB b:=by
 obtain ⟨h1,h2⟩:=xB2 fc w rp 0 base f g.vl g.rv
 unfold lw
 by_cases h:(lg fc w rp 0 base f).1=0
 ·exact (h1 h).2.2
 ·rw [h2 h]; intro b hb; cases hb
include g hf hm
theorem xHW (hl:rp.length≤12) {s:Nat} (hs:s≤3) (A:List (List Int)) (hA:A.length≤16*(s*2 ^ rp.length)) :
  xa5 (xdf f most base fc rp [.i (s:Int),.r A]) (xfy f most base fc rp [.i (s:Int),.r A]) ∧
  (((xei f most base fc rp [.i (s:Int),.r A]).1=1∧∃ w∈xby rp.length (s:Int),¬ okE (lw f base fc rp w).1∧gi (xei f most base fc rp [.i (s:Int),.r A]).2 1=(lw f base fc rp w).1) ∨
   ((xei f most base fc rp [.i (s:Int),.r A]).1=3∧(∀ w∈xby rp.length (s:Int),okE (lw f base fc rp w).1)∧gr (xei f most base fc rp [.i (s:Int),.r A]).2 1=A++(xby rp.length (s:Int)).flatMap fun w=>(lw f base fc rp w).2)):=by
 have hc:=xtM rp.length (s:Int)
 have h2:2 ^ rp.length≤2 ^ 12:=Nat.pow_le_pow_right (by decide) hl
 refine xlt (step:=xdf f most base fc rp [.i (s:Int),.r A]) (xby rp.length (s:Int)).length
  (fun j xs=>xs=[.i (j:Int),.r (A++((xby rp.length (s:Int)).take j).flatMap fun w=>(lw f base fc rp w).2)]∧∀ q,q<j→okE (lw f base fc rp ((xby rp.length (s:Int)).getD q [])).1)
  (fun res=>(res.1=1∧∃ w∈xby rp.length (s:Int),¬ okE (lw f base fc rp w).1∧gi res.2 1=(lw f base fc rp w).1) ∨
   (res.1=3∧(∀ w∈xby rp.length (s:Int),okE (lw f base fc rp w).1)∧gr res.2 1=A++(xby rp.length (s:Int)).flatMap fun w=>(lw f base fc rp w).2))
  (fun j xs hj ⟨e,h⟩=>?_) (fun xs ⟨e,h⟩=>?_) ⟨?_,fun q hq=>absurd hq (by omega)⟩
 ·subst e
  obtain ⟨l1,l2,l3⟩:=xB4 g hf hm (show s≤1000000 by omega) hj
  unfold xdf
  simp only [gi_z,gr_1,gr_z,dlt hj,Int.toNat_natCast,xaN l1,l2,l3,xEs]
  by_cases h1:okE (lw f base fc rp ((xby rp.length (s:Int)).getD j [])).1
  ·rw [decide_eq_true h1,Bool.not_true,cond_false]
   rw [xaN (by
    have:=xlv (g:=fun w=>(lw f base fc rp w).2) (xzQ g) ((xby rp.length (s:Int)).take j)
    have:=xzQ g ((xby rp.length (s:Int)).getD j [])
    rw [List.length_take] at *
    rw [List.length_append]
    have:s*2 ^ rp.length≤3*2 ^ rp.length:=Nat.mul_le_mul_right _ hs
    unfold xdo maxLen
    omega)]
   refine .inl ⟨_,rfl,?_,fun q hq=>?_⟩
   ·rw [xFg hj,List.flatMap_append,List.append_assoc]
    simp
   ·by_cases e:q=j
    ·subst e; exact h1
    ·exact h q (by omega)
  ·rw [decide_eq_false h1,Bool.not_false,cond_true]
   exact .inr ⟨0,_,rfl,.inl ⟨rfl,_,xF6 hj,h1,by rw [gi_1,gi_z]⟩⟩
 ·subst e
  refine ⟨2,[.i ((xby rp.length (s:Int)).length:Int),.r (A++(xby rp.length (s:Int)).flatMap fun w=>(lw f base fc rp w).2)],?_,.inr ⟨rfl,xyt (P:=fun w=>okE (lw f base fc rp w).1) h,by rw [gr_1,gr_z]⟩⟩
  unfold xdf
  simp only [gi_z,gr_1,gr_z,dnlt,List.take_length]
 ·unfold xfy
  rw [gr_1,gr_z,List.take_zero]
  simp
theorem xHX (hl:rp.length≤12) :
  xa5 (xdg f most base fc rp) (xg8 f most base fc rp) ∧
  (((xaw f most base fc rp).1=1∧∃ w∈alls rp.length (most.toNat+1),¬ okE (lw f base fc rp w).1∧gi (xaw f most base fc rp).2 0=(lw f base fc rp w).1) ∨
   ((xaw f most base fc rp).1=3∧(∀ w∈alls rp.length (most.toNat+1),okE (lw f base fc rp w).1)∧gr (xaw f most base fc rp).2 1=(alls rp.length (most.toNat+1)).flatMap fun w=>(lw f base fc rp w).2)):=by
 refine xlt (step:=xdg f most base fc rp) (most.toNat+1)
  (fun s xs=>xs=[.i (s:Int),.r ((alls rp.length s).flatMap fun w=>(lw f base fc rp w).2)]∧∀ x∈alls rp.length s,okE (lw f base fc rp x).1)
  (fun res=>(res.1=1∧∃ w∈alls rp.length (most.toNat+1),¬ okE (lw f base fc rp w).1∧gi res.2 0=(lw f base fc rp w).1) ∨
   (res.1=3∧(∀ w∈alls rp.length (most.toNat+1),okE (lw f base fc rp w).1)∧gr res.2 1=(alls rp.length (most.toNat+1)).flatMap fun w=>(lw f base fc rp w).2))
  (fun s xs hs ⟨e,h⟩=>?_) (fun xs ⟨e,h⟩=>?_) ⟨rfl,fun x hx=>by cases hx⟩
 ·subst e
  have hA:((alls rp.length s).flatMap fun w=>(lw f base fc rp w).2).length≤16*(s*2 ^ rp.length) :=
   Nat.le_trans (xlv (xzQ g) _) (Nat.mul_le_mul_left _ (xqd _ _))
  obtain ⟨l1,l2⟩:=xHW g hf hm hl (s:=s) (by omega) _ hA
  unfold xdg
  simp only [gi_z]
  rw [decide_eq_true (show (s:Int)≤most by omega),cond_true,xaN (by omega),xaN l1]
  rcases l2 with ⟨k1,w,k2,k3,k4⟩ | ⟨k1,k2,k3⟩
  ·rw [k1,k4]
   exact .inr ⟨0,_,rfl,.inl ⟨rfl,w,xwe.2 ⟨s,hs,k2⟩,k3,by rw [gi_z]⟩⟩
  ·rw [k1,k3]
   refine .inl ⟨_,by rw [xbQ (show s<4611686018427387904 by omega)]; rfl,?_,fun x hx=>?_⟩
   ·show _=[U.i ((s+1:Nat):Int),U.r ((alls rp.length s++xby rp.length (s:Int)).flatMap fun w=>(lw f base fc rp w).2)]
    rw [List.flatMap_append]
   ·rcases List.mem_append.1 hx with hx | hx
    ·exact h x hx
    ·exact k2 x hx
 ·subst e
  refine ⟨2,[.i ((most.toNat+1:Nat):Int),.r ((alls rp.length (most.toNat+1)).flatMap fun w=>(lw f base fc rp w).2)],?_,.inr ⟨rfl,h,by rw [gr_1,gr_z]⟩⟩
  unfold xdg
  simp only [gi_z,gr_1,gr_z]
  rw [decide_eq_false (show ¬ ((most.toNat+1:Nat):Int)≤most by omega),cond_false]
end
theorem xCa {L:List (List Int)} {j:Nat} (h:j+1<L.length):hull (L.take (j+2))=hul (hull (L.take (j+1))) (L.getD (j+1) []):=by
 match L,h with
 | b::L,h =>
  have h':j<L.length:=by simpa using h
  show (L.take (j+1)).foldl hul (q4 b)=hul ((L.take j).foldl hul (q4 b)) (L.getD j [])
  rw [xeG h',List.foldl_append]
  rfl
theorem xBg:∀ (L:List (List Int)) (a:List Int),VB a→(∀ b∈L,VB b)→VB (L.foldl hul a)
 | [],a,h,_=>h
 | x::L,a,h,hL=>xBg L (hul a x) (xFc h (hL x (by simp))) (fun y hy=>hL y (by simp [hy]))
theorem xBf:∀ {L:List (List Int)},L≠[]→(∀ b∈L,VB b)→VB (hull L)
 | [],h,_=>absurd rfl h
 | b::L,_,h=>by
  show VB (L.foldl hul (q4 b))
  have hb:VB (q4 b):=xHZ.2 (h b (by simp))
  have hL:∀ b∈L,VB b:=fun x hx=>h x (by simp [hx])
  exact xBg L (q4 b) hb hL
theorem xHV (f most:Int) (base fc rp:List (List Int)) {L:List (List Int)} (e:gr (xaw f most base fc rp).2 1=L) (hn:L≠[]) (hb:∀ b∈L,VB b) (hlen:L.length≤4611686018427387903) :
  xa5 (xct f most base fc rp) (xde f most base fc rp) ∧
  (xbl f most base fc rp).1=3∧gi (xbl f most base fc rp).2 1=(hull L).getD 0 0∧gi (xbl f most base fc rp).2 2=(hull L).getD 1 0∧gi (xbl f most base fc rp).2 3=(hull L).getD 2 0∧gi (xbl f most base fc rp).2 4=(hull L).getD 3 0:=by
 have hpos:0<L.length:=by
  cases L with
  | nil=>exact absurd rfl hn
  | cons a L=>simp
 have e0:xlA f most base fc rp=((L.length-1:Nat):Int):=by
  unfold xlA
  rw [e]
  simp only [xdu,loN]
  omega
 have h0:xde f most base fc rp=[.i 0,.i ((hull (L.take 1)).getD 0 0),.i ((hull (L.take 1)).getD 1 0),.i ((hull (L.take 1)).getD 2 0),.i ((hull (L.take 1)).getD 3 0)]:=by
  unfold xde
  rw [e]
  match L,hpos with
  | b::L,_=>rfl
 have key:=xf9 (σ:=Unit) (step:=xct f most base fc rp) (L.length-1)
  (fun j _=>[.i (j:Int),.i ((hull (L.take (j+1))).getD 0 0),.i ((hull (L.take (j+1))).getD 1 0),.i ((hull (L.take (j+1))).getD 2 0),.i ((hull (L.take (j+1))).getD 3 0)]) (fun _ s=>s) (fun _ _=>True) 2
  (fun _=>[.i ((L.length-1:Nat):Int),.i ((hull L).getD 0 0),.i ((hull L).getD 1 0),.i ((hull L).getD 2 0),.i ((hull L).getD 3 0)])
  (fun _ _ _ _=>trivial)
  (fun j _ hj _=>by
   have hj':j+1<L.length:=by omega
   have esh:shI (xdu (L.length:Int) (some 1) none).2.1 (j:Int)=((j+1:Nat):Int):=by
    simp only [xdu,shI]
    show ((1:Nat):Int)+(j:Int)=_
    omega
   have hv1:VB (hull (L.take (j+1))):=xBf (by
    intro k
    have:=congrArg List.length k
    rw [List.length_take,List.length_nil] at this
    omega) (fun b hb'=>hb b (List.mem_of_mem_take hb'))
   have hv2:=hb _ (xdS hj')
   obtain ⟨j4,j0,j1,j2,j3⟩:=xEJ hv1 hv2
   have s_1:xeh f most base fc rp [.i (j:Int),.i ((hull (L.take (j+1))).getD 0 0),.i ((hull (L.take (j+1))).getD 1 0),.i ((hull (L.take (j+1))).getD 2 0),.i ((hull (L.take (j+1))).getD 3 0)]=(L.getD (j+1) []).getD 0 0:=by
    unfold xeh; rw [e,gi_z,esh,Int.toNat_natCast]
   have s_2:xeg f most base fc rp [.i (j:Int),.i ((hull (L.take (j+1))).getD 0 0),.i ((hull (L.take (j+1))).getD 1 0),.i ((hull (L.take (j+1))).getD 2 0),.i ((hull (L.take (j+1))).getD 3 0)]=(L.getD (j+1) []).getD 1 0:=by
    unfold xeg; rw [e,gi_z,esh,Int.toNat_natCast]
   have s_3:xef f most base fc rp [.i (j:Int),.i ((hull (L.take (j+1))).getD 0 0),.i ((hull (L.take (j+1))).getD 1 0),.i ((hull (L.take (j+1))).getD 2 0),.i ((hull (L.take (j+1))).getD 3 0)]=(L.getD (j+1) []).getD 2 0:=by
    unfold xef; rw [e,gi_z,esh,Int.toNat_natCast]
   have s_4:xee f most base fc rp [.i (j:Int),.i ((hull (L.take (j+1))).getD 0 0),.i ((hull (L.take (j+1))).getD 1 0),.i ((hull (L.take (j+1))).getD 2 0),.i ((hull (L.take (j+1))).getD 3 0)]=(L.getD (j+1) []).getD 3 0:=by
    unfold xee; rw [e,gi_z,esh,Int.toNat_natCast]
   unfold xct
   rw [e0,s_1,s_2,s_3,s_4,e]
   simp only [gi_z,gi_1,gi_2,gi_3,gi_4,esh,j0,j1,j2,j3,j4]
   rw [decide_eq_true (show (j:Int)<((L.length-1:Nat):Int) by omega),cond_true,xaN,xaN (xey hj'),xbQ (show j<4611686018427387904 by omega)]
   ·rw [xCa hj']
    rfl
   ·simp only [xdu,loN]
    have:((Int.toNat 1:Nat):Int)=1:=rfl
    omega)
  (fun _ _=>by
   have e2:L.length-1+1=L.length:=by omega
   unfold xct
   rw [e0]
   simp only [gi_z,gi_1,gi_2,gi_3,gi_4,dnlt,e2,List.take_length])
  (s:=()) trivial
 have k1:xa5 (xct f most base fc rp) (xde f most base fc rp):=by rw [h0]; exact key.1
 have k2:xbl f most base fc rp=(3,[.i ((L.length-1:Nat):Int),.i ((hull L).getD 0 0),.i ((hull L).getD 1 0),.i ((hull L).getD 2 0),.i ((hull L).getD 3 0)]):=by unfold xbl; rw [h0]; exact key.2.1
 refine ⟨k1,?_⟩
 rw [k2]
 simp only [gi_z,gi_1,gi_2,gi_3,gi_4,and_self]
theorem xvA (f most:Int) (base fc rp:List (List Int)) (h13:Si.El13 rp) (hf:fc.length≤9223372036854775807) :
  xdA f most base fc rp ∧
  ((askE f most base fc rp≠0∧xbU f most base fc rp=askE f most base fc rp) ∨
   (askE f most base fc rp=0∧∃ w∈alls rp.length (most.toNat+1),¬ okE (lw f base fc rp w).1∧xbU f most base fc rp=(lw f base fc rp w).1) ∨
   (askE f most base fc rp=0∧(∀ w∈alls rp.length (most.toNat+1),okE (lw f base fc rp w).1)∧((alls rp.length (most.toNat+1)).flatMap fun w=>(lw f base fc rp w).2)=[]∧xbU f most base fc rp=18) ∨
   (askE f most base fc rp=0∧(∀ w∈alls rp.length (most.toNat+1),okE (lw f base fc rp w).1)∧((alls rp.length (most.toNat+1)).flatMap fun w=>(lw f base fc rp w).2)≠[]∧xbU f most base fc rp=0 ∧
    xbE f most base fc rp=(hull ((alls rp.length (most.toNat+1)).flatMap fun w=>(lw f base fc rp w).2)).getD 0 0∧xbD f most base fc rp=(hull ((alls rp.length (most.toNat+1)).flatMap fun w=>(lw f base fc rp w).2)).getD 1 0 ∧
    xbC f most base fc rp=(hull ((alls rp.length (most.toNat+1)).flatMap fun w=>(lw f base fc rp w).2)).getD 2 0∧xbB f most base fc rp=(hull ((alls rp.length (most.toNat+1)).flatMap fun w=>(lw f base fc rp w).2)).getD 3 0)):=by
 obtain ⟨a1,a2⟩:=xDA f most base fc rp h13 hf
 unfold xdA xbU xbE xbD xbC xbB
 rw [a2]
 by_cases h:askE f most base fc rp=0
 ·obtain ⟨_,g,m0,m3,hl⟩:=xGm h
  obtain ⟨l1,l2⟩:=xHX g hf ⟨m0,m3⟩ hl
  rw [h]
  have z0:((0:Int) !=0)=false:=rfl
  rw [z0]
  rcases l2 with ⟨k1,w,k2,k3,k4⟩ | ⟨k1,k2,k3⟩
  ·rw [k1]
   exact ⟨⟨a1,fun _=>⟨l1,fun k=>(by cases k)⟩⟩,.inr (.inl ⟨rfl,w,k2,k3,k4⟩)⟩
  ·unfold xpc xpb xpa xo9 xo8
   have hlen:=Nat.le_trans (xlv (g:=fun w=>(lw f base fc rp w).2) (xzQ g) (alls rp.length (most.toNat+1))) (Nat.mul_le_mul_left _ (xqd rp.length (most.toNat+1)))
   have h2:2 ^ rp.length≤2 ^ 12:=Nat.pow_le_pow_right (by decide) hl
   have h4:(most.toNat+1)*2 ^ rp.length≤4*2 ^ 12:=Nat.mul_le_mul (by omega) h2
   have hlen2:((alls rp.length (most.toNat+1)).flatMap fun w=>(lw f base fc rp w).2).length≤4611686018427387903:=by omega
   have hb:∀ b∈((alls rp.length (most.toNat+1)).flatMap fun w=>(lw f base fc rp w).2),VB b:=by
    intro b hb
    obtain ⟨w,_,hb⟩:=List.mem_flatMap.1 hb
    exact xFQ g b hb
   revert hlen2 hb k3
   clear hlen
   generalize (alls rp.length (most.toNat+1)).flatMap (fun w=>(lw f base fc rp w).2)=L
   intro k3 hlen hb
   rw [k1]
   by_cases hn:L=[]
   ·subst hn
    rw [k3]
    exact ⟨⟨a1,fun _=>⟨l1,fun _ k=>(by cases k)⟩⟩,.inr (.inr (.inl ⟨rfl,k2,rfl,rfl⟩))⟩
   ·have hpos:0<L.length:=by
     cases L with
     | nil=>exact absurd rfl hn
     | cons a L=>simp
    obtain ⟨j0,j1,j2,j3,j4,j5⟩:=xHV f most base fc rp k3 hn hb hlen
    have b0:((L.length:Int)==0)=false:=by rw [beq_eq_false_iff_ne]; omega
    have hr:inR (0:Int) L:=by unfold inR; omega
    rw [k3,b0,j1,j2,j3,j4,j5]
    refine ⟨⟨a1,fun _=>⟨l1,fun _ _=>⟨hr,hr,by omega,j0⟩⟩⟩,.inr (.inr (.inr ⟨rfl,k2,hn,rfl,rfl,rfl,rfl,rfl⟩))⟩
 ·have b:(askE f most base fc rp !=(0:Int))=true:=by rw [bne_iff_ne]; exact h
  rw [b]
  exact ⟨⟨a1,fun k=>(by cases k)⟩,.inl ⟨h,rfl⟩⟩
end Go.Proofs.YthfjhbbpdhjklaaGreat
set_option linter.unusedVariables false
namespace Go.Proofs.YthfjhbbpdhjklaaGreat
open Go Go.Sy
section
variable (f most:Int) (base fc rp:List (List Int))
variable {f most base fc rp}
end
end Go.Proofs.YthfjhbbpdhjklaaGreat
