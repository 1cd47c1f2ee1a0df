/- Several texts in one (wip/pack.py): XSyL XSyM XSyN XSyO XSyP XSyQ XSyR. -/
import Derived.TacticsIn
import Derived.Lib.SliceRun
import Derived.Test.YthfjhbbpdhjklaaGreatQTI02
set_option linter.unusedVariables false
namespace Go.Sy
open Go.RowKit
section
variable {P:Program} {X:List (Nat×Go.Obj)} {E:Env} {w0 w:World} {objs:List Obj} {n K:Nat}
def Fits (K:Nat) (x:Eff) (y:AV×Heap):Prop :=
 ∀ (X:List (Nat×Go.Obj)) (E1:Env) (w0 w':World),xah X E1 w0 y.2 w'→∃ E':Env,(∀ k,k<K→E' k=E1 k)∧(∀ k,(E' k).oneCell'=true)∧x.v.den E'=y.1.den E1 ∧
  (∀ o∈x.add,xa0 E' w' o.key o.own o.body)∧(∀ o∈x.add,∀ b,blkO (E' o.key)=some b→w0.heap.size≤b) ∧
  (∀ o∈x.add,∀ o'∈x.add,o.own=true→o.key≠o'.key→∀ b,blkO (E' o.key)=some b→blkO (E' o'.key)≠some b) ∧
  (∀ o∈x.add,∀ b,Inn E' w' o.key o.body b→w0.heap.size≤b) ∧
  (∀ o∈x.add,∀ b,Inn E' w' o.key o.body b→∀ o'∈x.add,o'.own=true→blkO (E' o'.key)≠some b)
theorem xnW {E1:Env} {H:Heap} {w':World} (hH:xah X E1 w0 H w'):∀ (acc:List (Option Nat)) (i:Nat) (add:List Obj),xio P K H.objs i acc=some add →
  ∀ o∈add,∃ j c,acc[j]?=some c∧o.key=K+(i+j)∧o.ver=K∧xa6 o.body=true ∧
   (∀ E':Env,E' o.key=xdz E1 c→xa0 E' w' o.key o.own o.body)∧(∀ b,blkO (xdz E1 c)=some b→w0.heap.size≤b) ∧
   (∀ k,c=some k→∃ ob∈H.objs,ob.key=k∧(o.own=true→ob.own=true)∧∀ e ks l,o.body=.nst e ks l→ob.body=.nst e ks l∧ob.own=true)∧(c=none→o.body=.nil)
 | [],i,add,h=>by cases h; simp
 | none::r,i,add,h=>by
  unfold xio at h
  cases hr:xio P K H.objs (i+1) r with
  | none=>rw [hr] at h; cases h
  | some add' =>
   rw [hr] at h
   cases h
   intro o ho
   rcases List.mem_cons.1 ho with rfl | ho
   ·exact ⟨0,none,rfl,rfl,rfl,rfl,fun E' hE=>hE,fun b hb=>(by cases hb),fun k hk=>(by cases hk),fun _=>rfl⟩
   ·obtain ⟨j,c,h1,h2,h3⟩:=xnW hH r (i+1) add' hr o ho
    exact ⟨j+1,c,by simpa using h1,by rw [h2]; omega,h3⟩
 | some k::r,i,add,h=>by
  have key:∀ (ow:Bool) (b:Body),xa6 b=true→(∀ E':Env,E' (K+i)=E1 k→xa0 E' w' (K+i) ow b)→(∀ g,blkO (E1 k)=some g→w0.heap.size≤g) →
    (∃ ob∈H.objs,ob.key=k∧(ow=true→ob.own=true)∧∀ e ks l,b=.nst e ks l→ob.body=.nst e ks l∧ob.own=true) →
    ((xio P K H.objs (i+1) r).map ((⟨K+i,K,ow,b⟩:Obj)::·))=some add→∀ o∈add,∃ j c,(some k::r)[j]?=some c∧o.key=K+(i+j)∧o.ver=K∧xa6 o.body=true ∧
   (∀ E':Env,E' o.key=xdz E1 c→xa0 E' w' o.key o.own o.body)∧(∀ b,blkO (xdz E1 c)=some b→w0.heap.size≤b) ∧
   (∀ k,c=some k→∃ ob∈H.objs,ob.key=k∧(o.own=true→ob.own=true)∧∀ e ks l,o.body=.nst e ks l→ob.body=.nst e ks l∧ob.own=true)∧(c=none→o.body=.nil):=by
   intro ow b h1 h2 h3 h4 h
   cases hr:xio P K H.objs (i+1) r with
   | none=>rw [hr] at h; cases h
   | some add' =>
    rw [hr] at h
    cases h
    intro o ho
    rcases List.mem_cons.1 ho with rfl | ho
    ·exact ⟨0,some k,rfl,rfl,rfl,h1,fun E' hE=>h2 E' hE,h3,fun k' hk=>by cases hk; exact h4,fun hk=>by cases hk⟩
    ·obtain ⟨j,c,h1,h2,h3⟩:=xnW hH r (i+1) add' hr o ho
     exact ⟨j+1,c,by simpa using h1,by rw [h2]; omega,h3⟩
  unfold xio at h
  split at h
  ·rename_i k0 ver b hf
   obtain ⟨hm,hk⟩:=xaj hf
   have hk:k0=k:=hk
   subst hk
   have hb:=hH.objs _ hm
   have hhigh:=hH.high _ hm rfl
   split at h
   ·have hb:E1 k0=.slice none 0 0:=hb
    exact key true .nil rfl (fun E' hE=>hE.trans hb) hhigh ⟨_,hm,rfl,fun _=>rfl,fun e ks l h=>by cases h⟩ h
   ·rename_i e ks l
    obtain ⟨vs,hb⟩:=hb
    exact key true (.nst e ks l) rfl (fun E' hE=>⟨vs,by rw [hE]; exact hb⟩) hhigh ⟨_,hm,rfl,fun _=>rfl,fun e ks l h=>⟨h,rfl⟩⟩ h
   ·split at h
    ·rename_i e ks l hrow
     refine key true (.row e ks l) rfl (fun E' hE=>?_) hhigh ⟨_,hm,rfl,fun _=>rfl,fun e ks l h=>by cases h⟩ h
     show xaY w' true e ks.length (E' (K+i)) l.length (rowV ks l)
     rw [hE]
     exact xbz hrow hb
    ·cases h
  ·rename_i k0 ver e ks l hf
   obtain ⟨hm,hk⟩:=xaj hf
   have hk:k0=k:=hk
   subst hk
   have hb:=hH.objs _ hm
   exact key false (.sub e ks l) rfl (fun E' hE=>⟨rfl,by rw [hE]; exact hb.2⟩) (fun g hg=>hH.fsh _ hm g (.inl ⟨rfl,hg⟩)) ⟨_,hm,rfl,fun h=>(by cases h),fun e ks l h=>by cases h⟩ h
  ·cases h
def isMq:Body→Bool
 | .mq _ _ _ _ _=>true
 | _=>false
theorem xrV {objs:List Obj}:∀ (acc:List (Option Nat)) (i:Nat) (add:List Obj),xio P K objs i acc=some add→∀ o∈add,isMq o.body=false
 | [],i,add,h=>by cases h; simp
 | c::r,i,add,h=>by
  have key:∀ (ow:Bool) (b:Body),isMq b=false→((xio P K objs (i+1) r).map ((⟨K+i,K,ow,b⟩:Obj)::·))=some add→∀ o∈add,isMq o.body=false:=by
   intro ow b hb h
   cases hr:xio P K objs (i+1) r with
   | none=>rw [hr] at h; cases h
   | some add' =>
    rw [hr] at h
    cases h
    intro o ho
    rcases List.mem_cons.1 ho with rfl | ho
    ·exact hb
    ·exact xrV r (i+1) add' hr o ho
  cases c with
  | none=>exact key true .nil rfl h
  | some k =>
   unfold xio at h
   split at h
   ·split at h
    ·exact key true .nil rfl h
    ·exact key true _ rfl h
    ·split at h
     ·exact key true _ rfl h
     ·cases h
   ·exact key false _ rfl h
   ·cases h
theorem xrW {objs:List Obj}:∀ (acc:List (Option Nat)) (i:Nat) (add:List Obj),xio P K objs i acc=some add→add.map (fun o=>o.key)=(List.range acc.length).map (fun j=>K+(i+j))∧∀ o∈add,o.ver=K∧xa6 o.body=true
 | [],i,add,h=>by cases h; simp
 | c::r,i,add,h=>by
  have key:∀ (ow:Bool) (b:Body),xa6 b=true→((xio P K objs (i+1) r).map ((⟨K+i,K,ow,b⟩:Obj)::·))=some add→add.map (fun o=>o.key)=(List.range (c::r).length).map (fun j=>K+(i+j))∧∀ o∈add,o.ver=K∧xa6 o.body=true:=by
   intro ow b hb h
   cases hr:xio P K objs (i+1) r with
   | none=>rw [hr] at h; cases h
   | some add' =>
    rw [hr] at h
    cases h
    obtain ⟨h1,h2⟩:=xrW r (i+1) add' hr
    refine ⟨?_,fun o ho=>?_⟩
    ·rw [List.map_cons,h1,List.length_cons,List.range_succ_eq_map,List.map_cons,List.map_map,Nat.add_zero]
     congr 1
     apply List.map_congr_left
     intro y _
     simp only [Function.comp]
     omega
    ·rcases List.mem_cons.1 ho with rfl | ho
     ·exact ⟨rfl,hb⟩
     ·exact h2 o ho
  cases c with
  | none=>exact key true .nil rfl h
  | some k =>
   unfold xio at h
   split at h
   ·split at h
    ·exact key true .nil rfl h
    ·exact key true _ rfl h
    ·split at h
     ·exact key true _ rfl h
     ·cases h
   ·exact key false _ rfl h
   ·cases h
theorem xw6 {y:AV×Heap} {x:Eff} (h:pack P K y=some x):xgo K x∧Fits K x y:=by
 unfold pack at h
 split at h
 case h_2=>cases h
 rename_i v acc hv
 cases hadd:xio P K y.2.objs 0 acc with
 | none=>rw [hadd] at h; cases h
 | some add =>
 rw [hadd] at h
 cases h
 obtain ⟨hk1,hk2⟩:=xrW acc 0 add hadd
 refine ⟨⟨rfl,fun o ho=>?_,?_,fun o ho=>(hk2 o ho).2,(xmf (E1:=fun _=>.nilFunc) y.1 [] v acc hv).2.1,fun o ho=>by rw [(hk2 o ho).1]; exact Nat.le_refl _⟩,fun X E1 w0 w' hH=>?_⟩
 ·have:o.key∈add.map fun o=>o.key:=List.mem_map.2 ⟨o,ho,rfl⟩
  rw [hk1] at this
  obtain ⟨j,hj,he⟩:=List.mem_map.1 this
  have:=List.mem_range.1 hj
  simp only []
  omega
 ·show (add.map fun o=>o.key).Nodup
  rw [hk1]
  exact List.Pairwise.map _ (fun a b hab=>by omega) List.nodup_range
 ·obtain ⟨p1,p2,p3⟩:=xmf (E1:=E1) y.1 [] v acc hv
  let E':Env:=fun k=>if k<K then E1 k else match acc[k-K]? with | some c=>xdz E1 c | none=>.nilFunc
  have hE1:∀ k,k<K→E' k=E1 k:=fun k hk=>if_pos hk
  have hE2:∀ (i:Nat) o,acc[i]?=some o→E' (K+i)=xdz E1 o:=fun i o hi=>by
   show (if K+i<K then _ else _)=_
   rw [if_neg (by omega),show K+i-K=i from by omega,hi]
  have spec:=xnW (P:=P) (K:=K) hH acc 0 add hadd
  have hnd:=p1.nodup (by simp)
  have inn:∀ o∈add,∀ b,Inn E' w' o.key o.body b→∃ ob∈y.2.objs,(ob.own=true∧xrz ob.body=true)∧Inn E1 w' ob.key ob.body b:=by
   intro o ho b hb
   obtain ⟨j,c,h1,h2,_,_,_,_,h4,h5⟩:=spec o ho
   cases c with
   | none=>rw [h5 rfl] at hb; exact hb.elim
   | some k =>
    obtain ⟨ob,hob,rfl,_,h6⟩:=h4 k rfl
    have hek:E' o.key=E1 ob.key:=by rw [h2,Nat.zero_add]; exact hE2 j _ h1
    generalize hbd:o.body=bd at hb
    cases bd with
    | nst e ks l =>
     obtain ⟨h7,h8⟩:=h6 e ks l hbd
     refine ⟨ob,hob,⟨h8,by rw [h7]; rfl⟩,?_⟩
     rw [h7]
     obtain ⟨a,j,u,q1,q2⟩:=hb
     exact ⟨a,j,u,by rw [← hek]; exact q1,q2⟩
    | mq kt et q ks l=>have:=xrV acc 0 add hadd o ho; rw [hbd] at this; cases this
    | _=>exact hb.elim
  refine ⟨E',hE1,fun k=>?_,p3 E' hE1 hE2,fun o ho=>?_,fun o ho b hb=>?_,fun o ho o' ho' hown hne b hb hb'=>?_,fun o ho b hb=>?_,fun o ho b hb o' ho' hown hb'=>?_⟩
  ·show (if k<K then E1 k else _).oneCell'=true
   split
   ·exact hH.env k
   ·split
    ·rename_i c _
     cases c with
     | none=>rfl
     | some k'=>exact hH.env k'
    ·rfl
  ·obtain ⟨j,c,h1,h2,_,_,h3,_⟩:=spec o ho
   exact h3 E' (by rw [h2,Nat.zero_add]; exact hE2 j c h1)
  ·obtain ⟨j,c,h1,h2,_,_,_,h3,_⟩:=spec o ho
   rw [h2,Nat.zero_add,hE2 j c h1] at hb
   exact h3 b hb
  ·obtain ⟨j,c,h1,h2,_,_,_,_,h4,_⟩:=spec o ho
   obtain ⟨j',c',h1',h2',_,_,_,_,h4',_⟩:=spec o' ho'
   rw [h2,Nat.zero_add,hE2 j c h1] at hb
   rw [h2',Nat.zero_add,hE2 j' c' h1'] at hb'
   cases c with
   | none=>cases hb
   | some k =>
    cases c' with
    | none=>cases hb'
    | some k' =>
     obtain ⟨ob,hob,rfl,how,_⟩:=h4 k rfl
     obtain ⟨ob',hob',rfl,_⟩:=h4' k' rfl
     by_cases hkk:ob.key=ob'.key
     ·rw [← hkk] at h1'
      have:=hnd j j' _ h1 h1'
      exact hne (by rw [h2,h2',this])
     ·exact hH.inj ob hob ob' hob' (how hown) hkk b hb hb'
  ·obtain ⟨ob,hob,hown,hI⟩:=inn o ho b hb
   exact hH.fsh ob hob b (.inr ⟨hown,hI⟩)
  ·obtain ⟨ob,hob,_,hI⟩:=inn o ho b hb
   obtain ⟨j',c',h1',h2',_,_,_,_,h4',_⟩:=spec o' ho'
   rw [h2',Nat.zero_add,hE2 j' c' h1'] at hb'
   cases c' with
   | none=>cases hb'
   | some k' =>
    obtain ⟨ob',hob',rfl,how,_⟩:=h4' k' rfl
    exact hH.deep ob hob b hI ob' hob' (how hown) hb'
mutual
theorem xwg {b:Bool}:∀ {x y z:AV},xn0 b x y=some z→(b=true→z=x)∧(b=false→z=y)
 | .bool x,.bool y,z,h=>by cases h; cases b<;>simp
 | .int k x,.int k' y,z,h=>by
  unfold xn0 at h
  split at h
  ·rename_i hk; subst hk; cases h; cases b<;>simp
  ·cases h
 | .agg xs,.agg ys,z,h=>by
  unfold xn0 at h
  cases hm:xoN b xs ys with
  | none=>simp [hm] at h
  | some zs =>
   simp only [hm,Option.map_some,Option.some.injEq] at h
   subst h
   have:=xqw hm
   exact ⟨fun hb=>by rw [this.1 hb],fun hb=>by rw [this.2 hb]⟩
 | .tup xs,.tup ys,z,h=>by
  unfold xn0 at h
  cases hm:xoN b xs ys with
  | none=>simp [hm] at h
  | some zs =>
   simp only [hm,Option.map_some,Option.some.injEq] at h
   subst h
   have:=xqw hm
   exact ⟨fun hb=>by rw [this.1 hb],fun hb=>by rw [this.2 hb]⟩
 | .sl x,.sl y,z,h=>by
  unfold xn0 at h
  split at h
  ·rename_i hk; subst hk; cases h; simp
  ·cases h
 | .bool _,.int _ _,_,h | .bool _,.ptr _ _,_,h | .bool _,.val _,_,h | .bool _,.fn _ _ _,_,h | .bool _,.agg _,_,h | .bool _,.tup _,_,h | .bool _,.sl _,_,h | .bool _,.ix _ _ _ _ _,_,h | .bool _,.yl _,_,h | .bool _,.vw _ _ _ _,_,h=>by simp [xn0] at h
 | .int _ _,.bool _,_,h | .int _ _,.ptr _ _,_,h | .int _ _,.val _,_,h | .int _ _,.fn _ _ _,_,h | .int _ _,.agg _,_,h | .int _ _,.tup _,_,h | .int _ _,.sl _,_,h | .int _ _,.ix _ _ _ _ _,_,h | .int _ _,.yl _,_,h | .int _ _,.vw _ _ _ _,_,h=>by simp [xn0] at h
 | .ptr _ _,_,_,h | .val _,_,_,h | .fn _ _ _,_,_,h | .ix _ _ _ _ _,_,_,h | .yl _,_,_,h | .vw _ _ _ _,_,_,h=>by simp [xn0] at h
 | .agg _,.bool _,_,h | .agg _,.int _ _,_,h | .agg _,.ptr _ _,_,h | .agg _,.val _,_,h | .agg _,.fn _ _ _,_,h | .agg _,.tup _,_,h | .agg _,.sl _,_,h | .agg _,.ix _ _ _ _ _,_,h | .agg _,.yl _,_,h | .agg _,.vw _ _ _ _,_,h=>by simp [xn0] at h
 | .tup _,.bool _,_,h | .tup _,.int _ _,_,h | .tup _,.ptr _ _,_,h | .tup _,.val _,_,h | .tup _,.fn _ _ _,_,h | .tup _,.agg _,_,h | .tup _,.sl _,_,h | .tup _,.ix _ _ _ _ _,_,h | .tup _,.yl _,_,h | .tup _,.vw _ _ _ _,_,h=>by simp [xn0] at h
 | .sl _,.bool _,_,h | .sl _,.int _ _,_,h | .sl _,.ptr _ _,_,h | .sl _,.val _,_,h | .sl _,.fn _ _ _,_,h | .sl _,.tup _,_,h | .sl _,.agg _,_,h | .sl _,.ix _ _ _ _ _,_,h | .sl _,.yl _,_,h | .sl _,.vw _ _ _ _,_,h=>by simp [xn0] at h
theorem xqw {b:Bool}:∀ {x y z:List AV},xoN b x y=some z→(b=true→z=x)∧(b=false→z=y)
 | [],[],z,h=>by cases h; simp
 | x::xs,y::ys,z,h=>by
  unfold xoN at h
  split at h
  ·rename_i u us h1 h2
   cases h
   have e1:=xwg h1
   have e2:=xqw h2
   exact ⟨fun hb=>by rw [e1.1 hb,e2.1 hb],fun hb=>by rw [e1.2 hb,e2.2 hb]⟩
  ·cases h
 | [],_::_,_,h | _::_,[],_,h=>by simp [xoN] at h
end
def xo8 (x z:Body):Prop:=z=x∨(x=.nil∧((∃ e ks,z=.row e ks [])∨∃ e ks,z=.nst e ks []))
theorem xdx {E:Env} {w:World} {key:Nat} {own:Bool} {e:TypeId} {ks:List CK} (h:E key=.slice none 0 0):xa0 E w key own (.row e ks []):=by
 show xaY w own e ks.length (E key) 0 []
 rw [h]
 exact ⟨⟨⟨none,0,rfl,Nat.le_refl _,Nat.zero_le _⟩,by simp,fun b hb=>by cases hb⟩,by simp,fun _=>.inl ⟨none,rfl,rfl⟩⟩
theorem xo8.ok {E:Env} {w:World} {key:Nat} {own:Bool} {x z:Body} (h:xo8 x z) (hx:xa0 E w key own x):xa0 E w key own z:=by
 rcases h with rfl | ⟨rfl,⟨e,ks,rfl⟩ | ⟨e,ks,rfl⟩⟩
 ·exact hx
 ·exact xdx hx
 ·have:xaY w own e 0 (E key) 0 []:=xdx (e:=e) (ks:=[]) hx
  exact ⟨[],⟨this.reads,by simp,fun ho=>by
   rcases this.own ho with h | ⟨g,cap,cur,h1,h2,h3,h4,h5,h6⟩
   ·exact .inl h
   ·have hx:E key=.slice none 0 0:=hx
    rw [hx] at h1; cases h1⟩,fun i _ _ hi=>by simp at hi⟩
def OLe (x z:Obj):Prop:=x.key=z.key∧(x.own=z.own∧xo8 x.body z.body∨z.own=false∧∃ e ks l,z.body=.sub e ks l∧(x.body=.sub e ks l∨x.body=.row e ks l∨x.body=.nil∧l=[]))
theorem OLe.ok {E:Env} {w:World} {x z:Obj} (h:OLe x z) (hx:xa0 E w x.key x.own x.body):xa0 E w z.key z.own z.body:=by
 obtain ⟨hk,⟨ho,hb⟩ | ⟨ho,e,ks,l,hz,hb⟩⟩:=h
 ·rw [← hk,← ho]; exact hb.ok hx
 ·rw [hz,ho,← hk]
  refine ⟨rfl,?_⟩
  rcases hb with hb | hb | ⟨hb,rfl⟩
  ·rw [hb] at hx; exact ⟨hx.2.reads,hx.2.len,fun h=>by cases h⟩
  ·rw [hb] at hx; exact ⟨hx.reads,hx.len,fun h=>by cases h⟩
  ·rw [hb] at hx
   exact xdx (e:=e) (ks:=ks) hx
theorem OLe.own {x z:Obj} (h:OLe x z) (ho:z.own=true):x.own=true:=by
 obtain ⟨_,⟨h1,_⟩ | ⟨h1,_⟩⟩:=h
 ·rw [h1]; exact ho
 ·rw [h1] at ho; cases ho
theorem OLe.inn {E:Env} {w:World} {x z:Obj} (h:OLe x z) {b:Nat} (hb:Inn E w z.key z.body b):Inn E w x.key x.body b:=by
 obtain ⟨hk,⟨_,hl⟩ | ⟨_,e,ks,l,hz,_⟩⟩:=h
 ·rcases hl with hl | ⟨_,⟨e,ks,hl⟩ | ⟨e,ks,hl⟩⟩
  ·rw [hl,← hk] at hb; exact hb
  ·rw [hl] at hb; exact hb.elim
  ·rw [hl] at hb
   obtain ⟨a,j,u,_,h2,_⟩:=hb
   simp at h2
 ·rw [hz] at hb; exact hb.elim
theorem xyA {b:Bool} {x y z:Body} (h:xyB b x y=some z):(b=true→xo8 x z)∧(b=false→xo8 y z)∧xa6 z=true:=by
 unfold xyB at h
 split at h
 ·cases h; exact ⟨fun _=>.inl rfl,fun _=>.inl rfl,rfl⟩
 ·cases h; exact ⟨fun hb=>.inr ⟨rfl,.inl ⟨_,_,by rw [hb]; rfl⟩⟩,fun hb=>.inl (by rw [hb]; rfl),rfl⟩
 ·cases h; exact ⟨fun hb=>.inl (by rw [hb]; rfl),fun hb=>.inr ⟨rfl,.inl ⟨_,_,by rw [hb]; rfl⟩⟩,rfl⟩
 ·split at h
  ·rename_i hc
   obtain ⟨rfl,rfl⟩:=hc
   cases h
   exact ⟨fun hb=>.inl (by rw [hb]; rfl),fun hb=>.inl (by rw [hb]; rfl),rfl⟩
  ·cases h
 ·cases h; exact ⟨fun hb=>.inr ⟨rfl,.inr ⟨_,_,by rw [hb]; rfl⟩⟩,fun hb=>.inl (by rw [hb]; rfl),rfl⟩
 ·cases h; exact ⟨fun hb=>.inl (by rw [hb]; rfl),fun hb=>.inr ⟨rfl,.inr ⟨_,_,by rw [hb]; rfl⟩⟩,rfl⟩
 ·split at h
  ·rename_i hc
   obtain ⟨rfl,rfl⟩:=hc
   cases h
   exact ⟨fun hb=>.inl (by rw [hb]; rfl),fun hb=>.inl (by rw [hb]; rfl),rfl⟩
  ·cases h
 ·cases h
theorem xyx {b:Bool} {x y z:Body} (h:xyy b x y=some z):∃ e ks l,z=.sub e ks l∧(b=true→(x=.sub e ks l∨x=.row e ks l∨x=.nil∧l=[]))∧(b=false→(y=.sub e ks l∨y=.row e ks l∨y=.nil∧l=[])):=by
 unfold xyy at h
 split at h
 ·split at h
  ·rename_i hc
   obtain ⟨rfl,rfl⟩:=hc
   cases h
   exact ⟨_,_,_,rfl,fun hb=>.inl (by rw [hb]; rfl),fun hb=>.inl (by rw [hb]; rfl)⟩
  ·cases h
 ·split at h
  ·rename_i hc
   obtain ⟨rfl,rfl⟩:=hc
   cases h
   exact ⟨_,_,_,rfl,fun hb=>.inl (by rw [hb]; rfl),fun hb=>.inr (.inl (by rw [hb]; rfl))⟩
  ·cases h
 ·split at h
  ·rename_i hc
   obtain ⟨rfl,rfl⟩:=hc
   cases h
   exact ⟨_,_,_,rfl,fun hb=>.inr (.inl (by rw [hb]; rfl)),fun hb=>.inl (by rw [hb]; rfl)⟩
  ·cases h
 ·cases h
  exact ⟨_,_,_,rfl,fun hb=>.inl (by rw [hb]; rfl),fun hb=>.inr (.inr ⟨rfl,by rw [hb]; rfl⟩)⟩
 ·cases h
  exact ⟨_,_,_,rfl,fun hb=>.inr (.inr ⟨rfl,by rw [hb]; rfl⟩),fun hb=>.inl (by rw [hb]; rfl)⟩
 ·cases h
def xwP (xs zs:List Obj):Prop:=∀ z∈zs,∃ x∈xs,OLe x z
theorem xtW {b:Bool}:∀ {xs ys zs:List Obj},xr2 b xs ys=some zs→(b=true→xwP xs zs)∧(b=false→xwP ys zs)∧zs.map (fun o=>(o.key,o.ver))=xs.map (fun o=>(o.key,o.ver))∧(∀ o∈zs,xa6 o.body=true)
 | [],[],zs,h=>by
  cases h
  refine ⟨fun _ z hz=>?_,fun _ z hz=>?_,rfl,fun z hz=>?_⟩<;>cases hz
 | ⟨k,v,o1,x⟩::xs,⟨k',v',o2,y⟩::ys,zs,h=>by
  unfold xr2 at h
  split at h
  ·rename_i hk
   subst hk
   split at h
   ·rename_i z zs' h1 h2
    cases h
    obtain ⟨b1,b2,b3,b4⟩:=xtW h2
    obtain ⟨a1,a2,a3⟩:(b=true→OLe ⟨k,v,o1,x⟩ ⟨k,v,z.1,z.2⟩)∧(b=false→OLe ⟨k,v',o2,y⟩ ⟨k,v,z.1,z.2⟩)∧xa6 z.2=true:=by
     cases hoo:(o1&&o2) with
     | true =>
      rw [hoo] at h1
      obtain ⟨z0,hz,rfl⟩:=Option.map_eq_some_iff.1 h1
      rw [Bool.and_eq_true] at hoo
      obtain ⟨rfl,rfl⟩:=hoo
      obtain ⟨c1,c2,c3⟩:=xyA hz
      exact ⟨fun hb=>⟨rfl,.inl ⟨rfl,c1 hb⟩⟩,fun hb=>⟨rfl,.inl ⟨rfl,c2 hb⟩⟩,c3⟩
     | false =>
      rw [hoo] at h1
      obtain ⟨z0,hz,rfl⟩:=Option.map_eq_some_iff.1 h1
      obtain ⟨e,ks,l,rfl,c1,c2⟩:=xyx hz
      exact ⟨fun hb=>⟨rfl,.inr ⟨rfl,e,ks,l,rfl,c1 hb⟩⟩,fun hb=>⟨rfl,.inr ⟨rfl,e,ks,l,rfl,c2 hb⟩⟩,rfl⟩
    refine ⟨fun hb o ho=>?_,fun hb o ho=>?_,by simp [b3],fun o ho=>?_⟩
    ·rcases List.mem_cons.1 ho with rfl | ho
     ·exact ⟨_,List.mem_cons_self,a1 hb⟩
     ·obtain ⟨p,q,r⟩:=b1 hb o ho; exact ⟨p,List.mem_cons_of_mem _ q,r⟩
    ·rcases List.mem_cons.1 ho with rfl | ho
     ·exact ⟨_,List.mem_cons_self,a2 hb⟩
     ·obtain ⟨p,q,r⟩:=b2 hb o ho; exact ⟨p,List.mem_cons_of_mem _ q,r⟩
    ·rcases List.mem_cons.1 ho with rfl | ho
     ·exact a3
     ·exact b4 o ho
   ·cases h
  ·cases h
 | [],_::_,_,h=>by simp [xr2] at h
 | _::_,[],_,h=>by simp [xr2] at h
theorem Fits.le {x z:Eff} {y:AV×Heap} (h:Fits K x y) (hv:∀ E,z.v.den E=x.v.den E) (ha:xwP x.add z.add):Fits K z y:=by
 intro X E1 w0 w' hH
 obtain ⟨E',h1,h2,h3,h4,h5,h6,h7,h8⟩:=h X E1 w0 w' hH
 refine ⟨E',h1,h2,by rw [hv]; exact h3,fun o ho=>?_,fun o ho=>?_,fun o ho o' ho' hown hne=>?_,fun o ho b hb=>?_,fun o ho b hb o' ho' hown=>?_⟩
 ·obtain ⟨x,hx,e⟩:=ha o ho
  exact e.ok (h4 x hx)
 ·obtain ⟨x,hx,e⟩:=ha o ho
  rw [← e.1]; exact h5 x hx
 ·obtain ⟨x,hx,e⟩:=ha o ho
  obtain ⟨x',hx',e'⟩:=ha o' ho'
  rw [← e.1,← e'.1]
  exact h6 x hx x' hx' (e.own hown) (by rw [e.1,e'.1]; exact hne)
 ·obtain ⟨x,hx,e⟩:=ha o ho
  exact h7 x hx b (e.inn hb)
 ·obtain ⟨x,hx,e⟩:=ha o ho
  obtain ⟨x',hx',e'⟩:=ha o' ho'
  rw [← e'.1]
  exact h8 x hx b (e.inn hb) x' hx' (e'.own hown)
theorem xtX {b:Bool} {x y z:Eff} (hx:xgo K x) (hy:xgo K y) (h:xyz b x y=some z) :
  xgo K z∧(z.holds→(b=true→x.holds)∧(b=false→y.holds))∧(∀ u,b=true→Fits K x u→Fits K z u)∧(∀ u,b=false→Fits K y u→Fits K z u):=by
 unfold xyz at h
 split at h
 case h_2=>cases h
 rename_i v add hv ha
 split at h
 case isFalse=>cases h
 rename_i hc
 rw [Bool.and_eq_true,Bool.and_eq_true] at hc
 have hnk:x.nk=y.nk:=Nat.eq_of_beq_eq_true hc.2
 cases h
 have hm:=xwg hv
 obtain ⟨m1,m2,m3,m4⟩:=xtW ha
 have hkeys:add.map (fun o=>o.key)=x.add.map fun o=>o.key:=by
  have:=congrArg (List.map (fun p:Nat×Nat=>p.1)) m3
  simpa [List.map_map,Function.comp_def] using this
 have hvers:∀ o∈add,∃ o'∈x.add,o'.key=o.key∧o'.ver=o.ver:=by
  intro o ho
  have:(o.key,o.ver)∈add.map fun o=>(o.key,o.ver):=List.mem_map.2 ⟨o,ho,rfl⟩
  rw [m3] at this
  obtain ⟨o',ho',he⟩:=List.mem_map.1 this
  exact ⟨o',ho',(Prod.mk.inj he).1,(Prod.mk.inj he).2⟩
 refine ⟨⟨rfl,fun o ho=>?_,by show (add.map _).Nodup; rw [hkeys]; exact hx.uniq,m4,?_,fun o ho=>?_⟩,fun hp=>?_,fun u hb hf=>?_,fun u hb hf=>?_⟩
 ·obtain ⟨o',ho',e1,_⟩:=hvers o ho
  rw [← e1]; exact hx.key o' ho'
 ·show AV.lt (K+x.nk) v
  cases b with
  | true=>rw [hm.1 rfl]; exact xpK _ hx.val
  | false=>rw [hm.2 rfl,hnk]; exact xpK _ hy.val
 ·obtain ⟨o',ho',_,e2⟩:=hvers o ho
  rw [← e2]; exact hx.ver o' ho'
 ·have hp:match xAS b x.p y.p with | none=>True | some p=>p:=hp
  cases hxp:x.p with
  | none=>cases hyp:y.p with
   | none=>simp [Eff.holds,hxp,hyp]
   | some q=>rw [hxp,hyp] at hp; exact ⟨fun _=>by simp [Eff.holds,hxp],fun hb=>by simp only [Eff.holds,hyp]; exact hp hb⟩
  | some p=>cases hyp:y.p with
   | none=>rw [hxp,hyp] at hp; exact ⟨fun hb=>by simp only [Eff.holds,hxp]; exact hp hb,fun _=>by simp [Eff.holds,hyp]⟩
   | some q=>rw [hxp,hyp] at hp; exact ⟨fun hb=>by simp only [Eff.holds,hxp]; exact hp.1 hb,fun hb=>by simp only [Eff.holds,hyp]; exact hp.2 hb⟩
 ·exact hf.le (fun E=>by show v.den E=x.v.den E; rw [hm.1 hb,xgd]) (m1 hb)
 ·exact hf.le (fun E=>by show v.den E=y.v.den E; rw [hm.2 hb,xgd]) (m2 hb)
theorem xzV {x y:Body} {q:Prop} (h:xlu x y=some q) (hq:q):xo8 x y:=by
 unfold xlu at h
 split at h
 ·exact .inl rfl
 ·cases h; subst hq; exact .inr ⟨rfl,.inl ⟨_,_,rfl⟩⟩
 ·split at h
  ·rename_i hc
   obtain ⟨rfl,rfl⟩:=hc
   cases h; subst hq; exact .inl rfl
  ·cases h
 ·cases h; subst hq; exact .inr ⟨rfl,.inr ⟨_,_,rfl⟩⟩
 ·split at h
  ·rename_i hc
   obtain ⟨rfl,rfl⟩:=hc
   cases h; subst hq; exact .inl rfl
  ·cases h
 ·split at h
  ·rename_i hc
   obtain ⟨rfl,rfl⟩:=hc
   cases h; subst hq; exact .inl rfl
  ·cases h
 ·cases h
theorem xv2:∀ {xs ys:List Obj} {q:Prop},xwX xs ys=some q→q→xwP xs ys
 | [],[],q,h,_=>fun z hz=>by cases hz
 | ⟨k,v,o1,x⟩::xs,⟨k',v',o2,y⟩::ys,q,h,hq=>by
  unfold xwX at h
  split at h
  ·rename_i hk
   obtain ⟨rfl,rfl⟩:=hk
   split at h
   ·rename_i p1 q1 h1 h2
    cases h
    intro o ho
    rcases List.mem_cons.1 ho with rfl | ho
    ·exact ⟨_,List.mem_cons_self,rfl,.inl ⟨rfl,xzV h1 hq.1⟩⟩
    ·obtain ⟨p,q,r⟩:=xv2 h2 hq.2 o ho; exact ⟨p,List.mem_cons_of_mem _ q,r⟩
   ·cases h
  ·cases h
 | [],_::_,_,h,_=>by simp [xwX] at h
 | _::_,[],_,h,_=>by simp [xwX] at h
theorem xx1 {x y:AV} (h:xBu x y=true) (E:Env):y.den E=x.den E:=by
 unfold xBu at h
 split at h
 ·rw [Nat.eq_of_beq_eq_true h]
 ·cases h
theorem xoA {p:Prop} {x:Eff} (h:({ x with p:=andP p x.p }:Eff).holds):p∧x.holds:=by
 have hp:match andP p x.p with | none=>True | some p=>p:=h
 cases hx:x.p with
 | none=>rw [hx] at hp; exact ⟨hp,by simp [Eff.holds,hx]⟩
 | some q=>rw [hx] at hp; exact ⟨hp.1,by simp only [Eff.holds,hx]; exact hp.2⟩
theorem xcz:∀ {t:Tree (AV×Heap)} {x:Eff},xas P K t=some x→xgo K x∧(x.holds→t.holds (Fits K x))
 | .ret y,x,h=>by
  obtain ⟨h1,h2⟩:=xw6 h
  exact ⟨h1,fun _=>h2⟩
 | .br b t e,x,h=>by
  unfold xas at h
  split at h
  ·rename_i x1 x2 h1 h2
   obtain ⟨a1,a2⟩:=xcz h1
   obtain ⟨b1,b2⟩:=xcz h2
   obtain ⟨m1,m2,m3,m4⟩:=xtX a1 b1 h
   exact ⟨m1,fun hp=>⟨fun hb=>xaM (fun u hu=>m3 u hb hu) (a2 ((m2 hp).1 hb)),fun hb=>xaM (fun u hu=>m4 u hb hu) (b2 ((m2 hp).2 hb))⟩⟩
  ·rename_i x1 h1 h2
   split at h
   ·cases h
    obtain ⟨a1,a2⟩:=xcz h1
    refine ⟨⟨a1.rm,a1.key,a1.uniq,a1.flat,a1.val,a1.ver⟩,fun hp=>?_⟩
    obtain ⟨q1,q2⟩:=xoA hp
    exact ⟨fun _=>a2 q2,fun hb=>by rw [q1] at hb; cases hb⟩
   ·cases h
  ·rename_i y1 h1 h2
   split at h
   ·cases h
    obtain ⟨a1,a2⟩:=xcz h2
    refine ⟨⟨a1.rm,a1.key,a1.uniq,a1.flat,a1.val,a1.ver⟩,fun hp=>?_⟩
    obtain ⟨q1,q2⟩:=xoA hp
    exact ⟨fun hb=>absurd (q1.symm.trans hb) (by simp),fun _=>a2 q2⟩
   ·cases h
  ·cases h
 | .need p t,x,h=>by
  unfold xas at h
  cases hc:xas P K t with
  | none=>rw [hc] at h; cases h
  | some x0 =>
   rw [hc] at h
   cases h
   obtain ⟨a1,a2⟩:=xcz hc
   refine ⟨⟨a1.rm,a1.key,a1.uniq,a1.flat,a1.val,a1.ver⟩,fun hp=>?_⟩
   have hp:match andP p x0.p with | none=>True | some p=>p:=hp
   cases hx:x0.p with
   | none=>rw [hx] at hp; exact ⟨hp,a2 (by simp [Eff.holds,hx])⟩
   | some q=>rw [hx] at hp; exact ⟨hp.1,a2 (by simp only [Eff.holds,hx]; exact hp.2)⟩
 | .ask p t e,x,h=>by
  unfold xas at h
  split at h
  ·rename_i x1 y1 h1 h2
   obtain ⟨a1,a2⟩:=xcz h1
   obtain ⟨b1,b2⟩:=xcz h2
   unfold askE at h
   split at h
   ·rename_i q hq
    split at h
    ·rename_i hc
     rw [Bool.and_eq_true] at hc
     cases h
     refine ⟨⟨b1.rm,b1.key,b1.uniq,b1.flat,b1.val,b1.ver⟩,fun hp=>?_⟩
     obtain ⟨q1,q2⟩:=xoA hp
     refine ⟨fun hpp=>?_,b2 q2⟩
     obtain ⟨q3,q4⟩:=q1 hpp
     have hx:x1.holds:=by
      unfold Eff.holds
      unfold xnh at q3
      cases hxp:x1.p with
      | none=>trivial
      | some r=>rw [hxp] at q3; exact q3
     exact xaM (fun u hu=>Fits.le hu (fun E=>xx1 hc.1 E) (xv2 hq q4)) (a2 hx)
    ·cases h
   ·cases h
  ·cases h
 | .bad,x,h=>by cases h
theorem xah.frozen {H:Heap} (h:xah X E w0 H w):xah X E w ⟨frozen H.objs,H.next⟩ w:=by
 have mem:∀ o∈Sy.frozen H.objs,∃ o'∈H.objs,o={ o' with own:=false,body:=xwR o'.body }:=fun o ho=>by
  obtain ⟨o',ho',rfl⟩:=List.mem_map.1 ho
  exact ⟨o',ho',rfl⟩
 have inn:∀ (k:Nat) (b:Body) (g:Nat),Inn E w k (xwR b) g→Inn E w k b g:=fun k b g hg=>by cases b<;>exact hg
 refine ⟨Blw.refl _ _,h.env,?_,?_,?_,?_,?_,?_,?_,?_,?_⟩
 ·intro o ho
  obtain ⟨o',ho',rfl⟩:=mem o ho
  have:=h.objs o' ho'
  obtain ⟨k,v,own,b⟩:=o'
  cases b with
  | cells=>exact this
  | row e ks l=>exact ⟨this.reads,this.len,fun h=>by cases h⟩
  | sub e ks l=>exact ⟨this.2.reads,this.2.len,fun h=>by cases h⟩
  | nst e ks l=>obtain ⟨vs,this⟩:=this; exact ⟨vs,⟨this.row.reads,this.row.len,fun h=>by cases h⟩,this.cell⟩
  | arr e sz els=>exact ⟨⟨this.1.reads,this.1.len,fun h=>by cases h⟩,this.2⟩
  | nil=>exact this
  | mp=>exact this
  | mq=>exact this
  | fin=>exact this
  | loop=>exact this
 ·intro o ho hown; obtain ⟨o',ho',rfl⟩:=mem o ho; cases hown
 ·intro o ho o2 ho2 hown; obtain ⟨o',ho',rfl⟩:=mem o ho; cases hown
 ·intro o ho o2 ho2 hk
  obtain ⟨o',ho',rfl⟩:=mem o ho
  obtain ⟨o2',ho2',rfl⟩:=mem o2 ho2
  have:=h.uniq o' ho' o2' ho2' hk
  rw [this]
 ·intro o ho; obtain ⟨o',ho',rfl⟩:=mem o ho
  obtain ⟨h1,h2⟩:=h.lt o' ho'
  refine ⟨h1,?_⟩
  obtain ⟨k,v,own,b⟩:=o'
  cases b<;>exact h2
 ·intro y hy
  refine ⟨(h.prot y hy).1,fun o ho=>?_⟩
  obtain ⟨o',ho',rfl⟩:=mem o ho; exact (h.prot y hy).2 o' ho'
 ·intro o ho b hb o2 ho2 hown; obtain ⟨o',ho',rfl⟩:=mem o2 ho2; cases hown
 ·intro y hy o ho hi
  obtain ⟨o',ho',rfl⟩:=mem o ho
  exact h.protD y hy o' ho' (inn _ _ _ hi)
 ·intro o ho b hb
  obtain ⟨o',ho',rfl⟩:=mem o ho
  rcases hb with ⟨h1,_⟩ | ⟨⟨h1,_⟩,_⟩
  ·obtain ⟨k,v,own,bd⟩:=o'
   cases bd<;>cases h1
  ·cases h1
theorem xnu {call:xgj} (hcall:xih P call) {f:FuncId} {args:List AV} {H:Heap} {x:Eff} (h:xas P H.next (call f args ⟨frozen H.objs,H.next⟩)=some x) (hH:xah X E w0 H w) (hargs:AV.ltL H.next args) :
  xgo H.next x∧(x.holds→Calls P f (AV.denL E args).toArray w fun e w'=>∃ E',e=.returned (x.v.den E')∧xnE E w H.next x E' w'):=by
 obtain ⟨h1,h2⟩:=xcz h
 refine ⟨h1,fun hp=>?_⟩
 refine hcall X w f args ⟨frozen H.objs,H.next⟩ E w _ hH.frozen hargs (xaM (fun y hy=>?_) (h2 hp))
 intro E1 w' hE hH' _ _ _
 obtain ⟨E',e1,e2,e3,e4,e5,e6,e7,e8⟩:=hy X E1 w w' hH'
 exact ⟨E',by rw [e3],fun k hk=>by rw [e1 k hk,hE k hk],e2,hH'.below,e4,fun o ho b hb=>.inl (e5 o ho b hb),e6,e7,e8⟩
end
end Go.Sy
set_option linter.unusedVariables false
namespace Go.Sy
open Go.RowKit
section
variable {P:Program} {Γ:Con} {X:List (Nat×Go.Obj)} {E:Env} {w0 w:World} {objs:List Obj} {n K:Nat}
structure xuM (E:Env) (w:World) (objs:List Obj):Prop where
 env:∀ k,(E k).oneCell'=true
 rows:∀ o∈objs,xa0 E w o.key false o.body∧xa6 o.body=true∧o.key<objs.length
 uniq:∀ o∈objs,∀ o'∈objs,o.key=o'.key→o=o'
def xvS (P:Program) (f:FuncId) (args:List AV) (objs:List Obj) (x:Eff):Prop :=
 xdE P f∧xgo objs.length x∧(x.holds→∀ (E:Env) (w:World),xuM E w objs→Calls P f (AV.denL E args).toArray w fun e w'=>∃ E',e=.returned (x.v.den E')∧xnE E w objs.length x E' w' fun b=>∃ o'∈objs,Inn E w o'.key o'.body b)
structure xCX (P:Program) (f:FuncId) (args:List AV) (objs:List Obj) (x:Eff) (rest:List AV) (e:TypeId) (ks:List CK) (l l':List (List Int)):Prop where
 isArgs:args=.sl 0::rest
 isObjs:objs=[⟨0,0,true,.row e ks l⟩]
 add:x.add=[⟨0,0,true,.row e ks l'⟩]
 keys:∀ k∈AV.keys x.v,k=0
 fn:xdE P f
 run:x.holds→∀ (E:Env) (w:World),(∀ k,(E k).oneCell'=true)→xaY w true e ks.length (E 0) l.length (rowV ks l) →
  Calls P f (AV.denL E args).toArray w fun ex w'=>ex=.returned (x.v.den E)∧xaY w' true e ks.length (E 0) l'.length (rowV ks l')∧Chg w w' (blkO (E 0)).toList
def xbh (P:Program) (Γ:Con):Prop:=∀ (f:FuncId) (args:List AV) (objs:List Obj) (x:Eff),Γ f args objs=some x →
 (x.rm=[]→xvS P f args objs x)∧(x.rm≠[]→∃ rest e ks l l',xCX P f args objs x rest e ks l l')
def xzE (P:Program) (objs:List Obj) (K:Nat) (x:xdV):Prop :=
 (∃ o∈objs,x.key=some o.key∧o.key<K∧(x.body=o.body∨(o.body=.nil∧∃ t,x.body=xfH P t)))∨(x.key=none∧∃ t,x.body=xfH P t)
structure xfO (P:Program) (objs:List Obj) (K:Nat) (acc acc':List xdV):Prop where
 ext:∃ r,acc'=acc++r
 ok:(∀ x∈acc,xzE P objs K x)→∀ x∈acc',xzE P objs K x
theorem xfO.refl (acc:List xdV):xfO P objs K acc acc:=⟨⟨[],by simp⟩,fun h=>h⟩
theorem xfO.trans {a b c:List xdV} (h:xfO P objs K a b) (k:xfO P objs K b c):xfO P objs K a c:=by
 obtain ⟨r,rfl⟩:=h.ext
 obtain ⟨s,rfl⟩:=k.ext
 exact ⟨⟨r++s,by simp⟩,fun hn=>k.ok (h.ok hn)⟩
theorem xfO.le {a b:List xdV} (h:xfO P objs K a b):a.length≤b.length:=by obtain ⟨r,rfl⟩:=h.ext; simp
theorem xfO.get {a b:List xdV} (h:xfO P objs K a b) {i:Nat} {o:xdV} (hi:a[i]?=some o):b[i]?=some o:=by
 obtain ⟨r,rfl⟩:=h.ext
 rw [List.getElem?_append_left (List.getElem?_eq_some_iff.1 hi).1]; exact hi
theorem xq1 {acc:List xdV} {x:xdV} (h:xzE P objs K x):xfO P objs K acc (acc++[x]) :=
 ⟨⟨[x],rfl⟩,fun hn y hy=>by
  rcases List.mem_append.1 hy with hy | hy
  ·exact hn y hy
  ·simp at hy; subst hy; exact h⟩
theorem xix {k:Nat}:∀ {l:List xdV} {i j:Nat},xk0 k l i=some j→∃ m x,j=i+m∧l[m]?=some x∧x.key=some k
 | [],i,j,h=>by cases h
 | x::r,i,j,h=>by
  unfold xk0 at h
  split at h
  ·rename_i k' hk'
   split at h
   ·rename_i hb
    cases h
    exact ⟨0,x,rfl,rfl,by rw [hk',Nat.eq_of_beq_eq_true hb]⟩
   ·obtain ⟨m,y,h1,h2,h3⟩:=xix h
    exact ⟨m+1,y,by omega,by simpa using h2,h3⟩
  ·obtain ⟨m,y,h1,h2,h3⟩:=xix h
   exact ⟨m+1,y,by omega,by simpa using h2,h3⟩
def xwQ (E Ec:Env) (acc:List xdV):Prop:=∀ i x,acc[i]?=some x→Ec i=xdz E x.key
theorem xsj {t:Option TypeId} {k i:Nat} {acc acc':List xdV} (hk:k<K) (h:canK P objs t k acc=some (i,acc')):xfO P objs K acc acc'∧i<acc'.length∧∀ E Ec:Env,xwQ E Ec acc'→Ec i=E k:=by
 unfold canK at h
 split at h
 ·rename_i j hj
  cases h
  obtain ⟨m,x,h1,h2,h3⟩:=xix hj
  have:i=m:=by omega
  subst this
  exact ⟨xfO.refl _,(List.getElem?_eq_some_iff.1 h2).1,fun E Ec he=>by rw [he i x h2,h3]; rfl⟩
 ·split at h
  ·rename_i o ho
   cases h
   obtain ⟨hm,hkk⟩:=xaj ho
   refine ⟨xq1 (.inl ⟨o,hm,by rw [hkk],by rw [hkk]; exact hk,?_⟩),by simp,fun E Ec he=>he acc.length ⟨some k,o.own,match o.body with | .nil=>xfH P t | b=>b⟩ (by rw [List.getElem?_append_right (Nat.le_refl _),Nat.sub_self]; rfl)⟩
   generalize o.body=b
   cases b with
   | nil=>exact .inr ⟨rfl,t,rfl⟩
   | _=>exact .inl rfl
  ·cases h
mutual
theorem xxy:∀ (v:AV) (t:Option TypeId) (acc:List xdV) (v':AV) (acc':List xdV),AV.lt K v→canV P objs t v acc=some (v',acc') →
  xfO P objs K acc acc'∧AV.lt acc'.length v'∧∀ E Ec:Env,xwQ E Ec acc'→v'.den Ec=v.den E
 | .sl k,t,acc,v',acc',hk,h=>by
  unfold canV at h
  split at h
  ·rename_i i acc1 hc
   cases h
   obtain ⟨a,b,c⟩:=xsj hk hc
   exact ⟨a,b,fun E Ec he=>c E Ec he⟩
  ·cases h
 | .ptr k off,t,acc,v',acc',hk,h=>by
  unfold canV at h
  split at h
  ·rename_i i acc1 hc
   cases h
   obtain ⟨a,b,c⟩:=xsj hk hc
   exact ⟨a,b,fun E Ec he=>by simp [AV.den,c E Ec he]⟩
  ·cases h
 | .fn f first caps,t,acc,v',acc',hk,h=>by
  unfold canV at h
  split at h
  ·rename_i first' acc1 h1
   split at h
   ·rename_i caps' acc2 h2
    cases h
    obtain ⟨a,b,c⟩:=xhl first [] acc first' acc1 hk.1 h1
    obtain ⟨a',b',c'⟩:=xhl caps [] acc1 caps' acc' hk.2 h2
    have:=a'.le
    refine ⟨a.trans a',⟨xwj a'.le _ b,b'⟩,fun E Ec he=>?_⟩
    simp only [AV.den,c E Ec (fun i x hi=>he i x (a'.get hi)),c' E Ec he]
   ·cases h
  ·cases h
 | .agg cs,t,acc,v',acc',hk,h=>by
  unfold canV at h
  split at h
  ·rename_i cs' acc1 h1
   cases h
   obtain ⟨a,b,c⟩:=xhl cs _ acc cs' acc' hk h1
   exact ⟨a,b,fun E Ec he=>by simp only [AV.den,c E Ec he]⟩
  ·cases h
 | .tup cs,t,acc,v',acc',hk,h=>by
  unfold canV at h
  split at h
  ·rename_i cs' acc1 h1
   cases h
   obtain ⟨a,b,c⟩:=xhl cs _ acc cs' acc' hk h1
   exact ⟨a,b,fun E Ec he=>by simp only [AV.den,c E Ec he]⟩
  ·cases h
 | .yl _,t,acc,v',acc',hk,h=>by cases h
 | .ix _ _ _ _ _,t,acc,v',acc',hk,h=>by cases h
 | .vw _ _ _ _,t,acc,v',acc',hk,h=>by cases h
 | .bool b,t,acc,v',acc',hk,h=>by simp only [canV] at h; cases h; exact ⟨xfO.refl _,trivial,fun _ _ _=>rfl⟩
 | .int k b,t,acc,v',acc',hk,h=>by simp only [canV] at h; cases h; exact ⟨xfO.refl _,trivial,fun _ _ _=>rfl⟩
 | .val v,t,acc,v',acc',hk,h=>by
  by_cases hv:v=.slice none 0 0
  ·subst hv
   simp only [canV] at h
   split at h
   ·cases h
    exact ⟨xq1 (.inr ⟨rfl,_,rfl⟩),(show acc.length<(acc++[_]).length by simp),fun E Ec he=>he acc.length ⟨none,true,xfH P t⟩ (by rw [List.getElem?_append_right (Nat.le_refl _),Nat.sub_self]; rfl)⟩
   ·cases h; exact ⟨xfO.refl _,trivial,fun _ _ _=>rfl⟩
  ·have e:canV P objs t (.val v) acc=some (.val v,acc):=by
    unfold canV
    split<;>first | rfl | (rename_i heq; cases heq; exact absurd rfl hv) | (rename_i heq; cases heq)
   rw [e] at h
   cases h
   exact ⟨xfO.refl _,trivial,fun _ _ _=>rfl⟩
theorem xhl:∀ (l:List AV) (ts:List TypeId) (acc:List xdV) (l':List AV) (acc':List xdV),AV.ltL K l→canL P objs ts l acc=some (l',acc') →
  xfO P objs K acc acc'∧AV.ltL acc'.length l'∧∀ E Ec:Env,xwQ E Ec acc'→AV.denL Ec l'=AV.denL E l
 | [],ts,acc,l',acc',_,h=>by cases h; exact ⟨xfO.refl _,trivial,fun _ _ _=>rfl⟩
 | a::r,ts,acc,l',acc',hk,h=>by
  unfold canL at h
  split at h
  ·rename_i a' acc1 h1
   split at h
   ·rename_i r' acc2 h2
    cases h
    obtain ⟨x1,x2,x3⟩:=xxy a _ acc a' acc1 hk.1 h1
    obtain ⟨y1,y2,y3⟩:=xhl r _ acc1 r' acc' hk.2 h2
    refine ⟨x1.trans y1,⟨xf5 y1.le _ x2,y2⟩,fun E Ec he=>?_⟩
    rw [AV.denL,AV.denL,x3 E Ec (fun i x hi=>he i x (y1.get hi)),y3 E Ec he]
   ·cases h
  ·cases h
end
theorem xoM (t:Option TypeId):xa6 (xfH P t)=true:=by
 unfold xfH
 split
 ·split<;>rfl
 ·rfl
theorem xrZ (t:Option TypeId) {Ec:Env} {w:World} {key:Nat} {own:Bool} (h:Ec key=.slice none 0 0):xa0 Ec w key own (xfH P t):=by
 unfold xfH
 split
 ·split
  ·exact xdx h
  ·exact h
 ·exact h
theorem xvJ {E1 E2:Env} {w:World} {k1 k2:Nat} {own:Bool} {b:Body} (hf:xa6 b=true) (hk:E2 k2=E1 k1) (h:xa0 E1 w k1 own b):xa0 E2 w k2 false b:=by
 cases b with
 | row e ks l =>
  have h:xaY w own e ks.length (E1 k1) l.length (rowV ks l):=h
  show xaY w false e ks.length (E2 k2) l.length (rowV ks l); rw [hk]; exact ⟨h.reads,h.len,fun h=>by cases h⟩
 | nil=>exact hk.trans h
 | nst e ks l=>obtain ⟨vs,h⟩:=h; exact ⟨vs,by rw [hk]; exact ⟨⟨h.row.reads,h.row.len,fun h=>by cases h⟩,h.cell⟩⟩
 | sub e ks l=>exact ⟨rfl,by rw [hk]; exact ⟨h.2.reads,h.2.len,fun h=>by cases h⟩⟩
 | mq kt et q ks l=>obtain ⟨b,es,clock,h⟩:=h; exact ⟨b,es,clock,by rw [hk]; exact h⟩
 | cells=>cases hf
 | arr=>cases hf
 | mp=>cases hf
 | fin=>cases hf
 | loop=>cases hf
structure xrK (P:Program) (E:Env) (w:World) (objs:List Obj):Prop where
 nil:∀ o∈objs,o.body=.nil→E o.key=.slice none 0 0
 row:∀ o∈objs,∀ e ks l,xdG P o.body=some (e,ks,l)→xaY w o.own e ks.length (E o.key) l.length (rowV ks l)
 nst:∀ o∈objs,∀ e ks l,o.body=.nst e ks l→∃ vs,xgl w o.own e ks (E o.key) l vs
 sub:∀ o∈objs,xm8 o.body=true→o.own=false
 mq:∀ o∈objs,∀ kt et q ks l,o.body=.mq kt et q ks l→∃ b es clock,MqOk w (E o.key) q ks l b es clock
theorem xah.objsR (hH:xah X E w0 ⟨objs,n⟩ w):xrK P E w objs :=
 ⟨fun o ho hb=>by have:=hH.objs o ho; rw [hb] at this; exact this,fun o ho e ks l hr=>xbz hr (hH.objs o ho),fun o ho e ks l hb=>by have:=hH.objs o ho; rw [hb] at this; exact this,fun o ho hs=>by
  have:=hH.objs o ho
  obtain ⟨k,v,own,b⟩:=o
  (cases b<;>first | exact this.1 | cases hs),fun o ho kt et q ks l hb=>by have:=hH.objs o ho; rw [hb] at this; exact this⟩
theorem xrK.flat (hH:xrK P E w objs) {o:Obj} (ho:o∈objs) (hf:xa6 o.body=true):xa0 E w o.key o.own o.body:=by
 cases hb:o.body with
 | row e ks l=>exact hH.row o ho e ks l (by rw [hb]; rfl)
 | nil=>exact hH.nil o ho hb
 | nst e ks l=>exact hH.nst o ho e ks l hb
 | sub e ks l=>exact ⟨hH.sub o ho (by rw [hb]; rfl),hH.row o ho e ks l (by rw [hb]; rfl)⟩
 | mq kt et q ks l=>exact hH.mq o ho kt et q ks l hb
 | cells=>rw [hb] at hf; cases hf
 | arr=>rw [hb] at hf; cases hf
 | mp=>rw [hb] at hf; cases hf
 | fin=>rw [hb] at hf; cases hf
 | loop=>rw [hb] at hf; cases hf
theorem xnx:∀ {es0 es:List xdV},xfo P es0=some es→(∀ x∈es0,xzE P objs K x)→es.map (·.key)=es0.map (·.key)∧∀ x∈es,xa6 x.body=true∧(∀ k,x.key=some k→k<K)∧∀ (E:Env) (w:World),xrK P E w objs→∀ (Ec:Env) (i:Nat),Ec i=xdz E x.key→xa0 Ec w i false x.body
 | [],es,h,_=>by cases h; simp
 | x::r,es,h,hok=>by
  have hx:=hok x (by simp)
  have key:∀ b:Body,((xfo P r).map ({ x with body:=b }::·))=some es→(xa6 b=true∧∀ (E:Env) (w:World),xrK P E w objs→∀ (Ec:Env) (i:Nat),Ec i=xdz E x.key→xa0 Ec w i false b) →
    es.map (·.key)=(x::r).map (·.key)∧∀ x∈es,xa6 x.body=true∧(∀ k,x.key=some k→k<K)∧∀ (E:Env) (w:World),xrK P E w objs→∀ (Ec:Env) (i:Nat),Ec i=xdz E x.key→xa0 Ec w i false x.body:=by
   intro b h hb
   cases hr:xfo P r with
   | none=>rw [hr] at h; cases h
   | some es' =>
    rw [hr] at h
    cases h
    obtain ⟨i1,i2⟩:=xnx hr (fun x hx=>hok x (by simp [hx]))
    refine ⟨by simp [i1],fun y hy=>?_⟩
    rcases List.mem_cons.1 hy with rfl | hy
    ·refine ⟨hb.1,fun k hk=>?_,hb.2⟩
     rcases hx with ⟨o,ho,h1,h2,h3⟩ | ⟨h1,_⟩
     ·rw [h1] at hk; cases hk; exact h2
     ·rw [h1] at hk; cases hk
    ·exact i2 y hy
  have same:xa6 x.body=true→xa6 x.body=true∧∀ (E:Env) (w:World),xrK P E w objs→∀ (Ec:Env) (i:Nat),Ec i=xdz E x.key→xa0 Ec w i false x.body:=by
   intro hf
   refine ⟨hf,fun E w hH Ec i he=>?_⟩
   rcases hx with ⟨o,ho,h1,h2,h3⟩ | ⟨h1,t,h3⟩
   ·rw [h1] at he
    rcases h3 with h3 | ⟨h3,t,h4⟩
    ·rw [h3] at hf ⊢; exact xvJ hf he (hH.flat ho hf)
    ·have hb:E o.key=.slice none 0 0:=hH.nil o ho h3
     rw [h4]; exact xrZ t (he.trans hb)
   ·rw [h1] at he
    rw [h3]; exact xrZ t he
  unfold xfo at h
  obtain ⟨xk,xo,xb⟩:=x
  cases xb with
  | row e ks l=>exact key _ h (same rfl)
  | nil=>exact key _ h (same rfl)
  | nst e ks l=>exact key _ h (same rfl)
  | sub e ks l =>
   refine key _ h ⟨rfl,fun E w hH Ec i he=>?_⟩
   rcases hx with ⟨o,ho,h1,h2,h3⟩ | ⟨h1,t,h3⟩
   ·simp only [] at h1 he
    rw [h1] at he
    rcases h3 with h3 | ⟨h3,t,h4⟩
    ·simp only [] at h3
     have:=hH.row o ho e ks l (by rw [← h3]; rfl)
     show xaY w false e ks.length (Ec i) l.length (rowV ks l)
     rw [he]
     exact ⟨this.reads,this.len,fun h=>by cases h⟩
    ·unfold xfH at h4
     split at h4
     ·split at h4<;>cases h4
     ·cases h4
   ·unfold xfH at h3
    split at h3
    ·split at h3<;>cases h3
    ·cases h3
  | arr e sz els =>
   simp only [] at h
   split at h
   ·rename_i e' ks l hr
    refine key _ h ⟨rfl,fun E w hH Ec i he=>?_⟩
    rcases hx with ⟨o,ho,h1,h2,h3⟩ | ⟨h1,t,h3⟩
    ·simp only [] at h1 he
     rw [h1] at he
     rcases h3 with h3 | ⟨h3,t,h4⟩
     ·simp only [] at h3
      have:=hH.row o ho _ _ _ (by rw [← h3]; exact hr)
      show xaY w false e' ks.length (Ec i) l.length (rowV ks l)
      rw [he]
      exact ⟨this.reads,this.len,fun h=>by cases h⟩
     ·have:=xoM (P:=P) t
      rw [← h4] at this
      cases this
    ·have:=xoM (P:=P) t
     rw [← h3] at this
     cases this
   ·cases h
  | mq kt et q ks l=>exact key _ h (same rfl)
  | cells=>cases h
  | mp=>cases h
  | fin=>cases h
  | loop=>cases h
theorem xoZ:∀ {es:List xdV} {i:Nat} {objs':List Obj},xq0 i es=some objs'→objs'=es.zipIdx.map fun y=>(⟨i+y.2,0,y.1.own,y.1.body⟩:Obj)
 | [],i,objs',h=>by cases h; rfl
 | x::r,i,objs',h=>by
  unfold xq0 at h
  split at h
  ·cases h
  ·cases hr:xq0 (i+1) r with
   | none=>rw [hr] at h; cases h
   | some o' =>
    rw [hr] at h
    cases h
    rw [xoZ hr,List.zipIdx_cons,List.map_cons,Nat.zero_add,List.zipIdx_succ,List.map_map]
    congr 1
    apply List.map_congr_left
    intro y _
    simp only [Function.comp]
    congr 1
    omega
theorem xxv {es:List xdV} {i k:Nat} {x:xdV} (h:es[i]?=some x) (hk:x.key=some k):xj7 K es i=k:=by
 unfold xj7
 rw [h]
 obtain ⟨a,b,c⟩:=x
 simp only [] at hk
 subst hk
 rfl
theorem xsf {es:List xdV} {i:Nat} (h:es.length≤i):xj7 K es i=K+(i-es.length):=by
 unfold xj7
 rw [List.getElem?_eq_none h]
theorem xzp {es:List xdV} {x y:Eff} (h:xwE K es x=some y):x.rm=[]:=by
 unfold xwE at h
 split at h
 ·rename_i hc
  rw [Bool.and_eq_true,Bool.and_eq_true] at hc
  simpa using hc.1.1
 ·cases h
theorem xvD (hΓ:xbh P Γ) (hH:xah X E w0 ⟨objs,n⟩ w) {f:FuncId} {args:List AV} {y:Eff} (h:xB6 P Γ f args objs K=some y) :
  xdE P f∧xdk n objs K y∧(y.holds→Calls P f (AV.denL E args).toArray w fun ex w'=>ex=.returned (y.v.den E)∧xe0 E objs w K y E w'):=by
 unfold xB6 at h
 split at h
 case h_2=>cases h
 rename_i key rest
 split at h
 case h_2=>cases h
 rename_i hkeys
 split at h
 case h_2=>cases h
 rename_i k0 ver b hf
 split at h
 case h_2=>cases h
 rename_i e ks l hr
 split at h
 case h_2=>cases h
 rename_i x hx
 split at h
 case h_2=>cases h
 rename_i r1 a1 a2 a3 e' ks' l' hrm hadd
 cases h
 obtain ⟨hm,hk⟩:=xaj hf
 have hk:k0=key:=hk
 subst hk
 obtain ⟨rest',e2,ks2,l2,l2',rc⟩:=(hΓ f _ _ x hx).2 (by rw [hrm]; simp)
 have ho:=rc.isObjs
 cases ho
 have ha:=rc.add
 rw [hadd] at ha
 cases ha
 have hargs:=rc.isArgs
 cases hargs
 have hrow:xaY w true e ks.length (E k0) l.length (rowV ks l):=xbz hr (hH.objs _ hm)
 have hv0:AV.all (fun k=>k=0) x.v:=(xaW x.v).2 rc.keys
 have hv:∀ p:Nat→Prop,p k0→AV.all p (x.v.ren fun _=>k0):=fun p hp=>xvP (fun _ _=>hp) x.v hv0
 refine ⟨rc.fn,xk2 ⟨_,hm,rfl,rfl⟩ xbA (hv _ (hH.lt _ hm).1),fun hp=>?_⟩
 let E0:Env:=fun k=>if k=0 then E k0 else E k
 have h0:E0 0=E k0:=if_pos rfl
 have hrun:=rc.run hp E0 w (fun k=>by show (if k=0 then E k0 else E k).oneCell'=true; split<;>exact hH.env _) (by rw [h0]; exact hrow)
 have hrest:AV.denL E0 (AV.weakL rest)=AV.denL E rest:=by
  rw [xk5]
  exact xbR (p:=fun _=>False) (fun k hk=>hk.elim) _ ((xcm _).2 (by rw [hkeys]; simp))
 have hden:AV.denL E0 (.sl 0::AV.weakL rest)=AV.denL E (.sl k0::rest):=by
  simp only [AV.denL,AV.den,h0,hrest]
 rw [hden] at hrun
 refine hrun.mono fun ex w' ⟨q1,q2,q3⟩=>⟨by rw [q1]; congr 1; exact (xvt (E:=E0) (E':=E) (fun k hk=>by subst hk; exact h0.symm) x.v hv0).symm,xjh hH.env ?_ ?_⟩
 ·rw [h0] at q2; exact q2
 ·rw [h0] at q3
  cases hb:blkO (E k0) with
  | none=>rw [hb] at q3; exact ⟨0,.inr q3⟩
  | some g=>rw [hb] at q3; exact ⟨g,.inl ⟨rfl,by simpa using q3⟩⟩
theorem xmX (t:Option TypeId):xog (xfH P t)=true:=by
 unfold xfH
 split
 ·split<;>rfl
 ·rfl
theorem xqZ:∀ {es0 es:List xdV},xfo P es0=some es→(∀ x∈es0,xzE P objs K x)→∀ y∈es,∀ (E Ec:Env) (w:World) (i b:Nat),Ec i=xdz E y.key→Inn Ec w i y.body b→∃ o∈objs,o.key<K∧Inn E w o.key o.body b
 | [],es,h,_,y,hy,_,_,_,_,_,_,_=>by cases h; cases hy
 | x::r,es,h,hok,y,hy,E,Ec,w,i,b,he,hi=>by
  have hx:=hok x (by simp)
  have key:∀ bd:Body,((xfo P r).map ({ x with body:=bd }::·))=some es→(xog bd=true∨bd=x.body)→∃ o∈objs,o.key<K∧Inn E w o.key o.body b:=by
   intro bd h hbd
   cases hr:xfo P r with
   | none=>rw [hr] at h; cases h
   | some es' =>
    rw [hr] at h
    cases h
    rcases List.mem_cons.1 hy with rfl | hy
    ·rcases hbd with hf | hbd
     ·exact xcL hf hi
     ·simp only [] at he hi
      rw [hbd] at hi
      rcases hx with ⟨o,ho,h1,h2,h3⟩ | ⟨h1,t,h3⟩
      ·rw [h1] at he
       rcases h3 with h3 | ⟨h3,t,h4⟩
       ·rw [h3] at hi
        exact ⟨o,ho,h2,xsY (E2:=Ec) (E1:=E) he hi⟩
       ·rw [h4] at hi
        exact xcL (xmX t) hi
      ·rw [h3] at hi
       exact xcL (xmX t) hi
    ·exact xqZ hr (fun x hx=>hok x (by simp [hx])) y hy E Ec w i b he hi
  unfold xfo at h
  obtain ⟨xk,xo,xb⟩:=x
  cases xb with
  | row e ks l=>exact key _ h (.inl rfl)
  | nil=>exact key _ h (.inl rfl)
  | nst e ks l=>exact key _ h (.inr rfl)
  | mq kt et q ks l=>exact key _ h (.inr rfl)
  | sub e ks l=>exact key _ h (.inl rfl)
  | arr e sz els =>
   simp only [] at h
   split at h
   ·exact key _ h (.inl rfl)
   ·cases h
  | cells=>cases h
  | mp=>cases h
  | fin=>cases h
  | loop=>cases h
theorem xq2 (hΓ:xbh P Γ) {f:FuncId} {args:List AV} {ft:List Nat} {y:Eff} (hargs:AV.ltL K args) (h:xuC P Γ f args objs K=some (ft,y)) :
  xdE P f∧xgo K y∧(y.holds→∀ (E:Env) (w:World),(∀ k,(E k).oneCell'=true)→xrK P E w objs→Calls P f (AV.denL E args).toArray w fun e w'=>∃ E',e=.returned (y.v.den E')∧xnE E w K y E' w' fun b=>∃ o'∈objs,o'.key<K∧Inn E w o'.key o'.body b):=by
 unfold xuC at h
 split at h
 case h_2=>cases h
 rename_i args' es0 hcan
 split at h
 case h_2=>cases h
 rename_i es hrows
 split at h
 case h_2=>cases h
 rename_i objs' hobjs
 split at h
 case h_2=>cases h
 rename_i x hx
 split at h
 case h_2=>cases h
 rename_i y' hy
 cases h
 obtain ⟨hfun,hwf,hcon⟩:=(hΓ f _ objs' x hx).1 (xzp hy)
 obtain ⟨c1,c2,c3⟩:=xhl args _ [] args' es0 hargs hcan
 obtain ⟨r1,r2⟩:=xnx (objs:=objs) (K:=K) hrows (c1.ok (by simp))
 have hspec:=xoZ hobjs
 have hlen:objs'.length=es.length:=by rw [hspec]; simp
 have hes:es.length=es0.length:=by simpa using congrArg List.length r1
 unfold xwE at hy
 split at hy
 case isFalse=>cases hy
 rename_i hc
 cases hy
 rw [Bool.and_eq_true,Bool.and_eq_true] at hc
 obtain ⟨⟨_,hc2⟩,hc3⟩:=hc
 have hvk:∀ i∈AV.keys x.v,i<es.length+x.nk∧∀ e,es[i]?=some e→∃ k,e.key=some k:=by
  intro i hi
  refine ⟨by have:=(xaW x.v).1 hwf.val i hi; rw [hlen] at this; exact this,fun e he=>?_⟩
  have:=List.all_eq_true.1 hc3 i hi
  rw [he] at this
  obtain ⟨a,b,c⟩:=e
  cases a with
  | none=>cases this
  | some k=>exact ⟨k,rfl⟩
 have hok:∀ i∈AV.keys x.v,(i<es.length∧∃ e k,es[i]?=some e∧e.key=some k∧k<K∧xj7 K es i=k)∨(es.length≤i∧i<es.length+x.nk∧xj7 K es i=K+(i-es.length)):=by
  intro i hi
  obtain ⟨h1,h2⟩:=hvk i hi
  by_cases hl:i<es.length
  ·have he:es[i]?=some es[i]:=List.getElem?_eq_getElem hl
   obtain ⟨k,hk⟩:=h2 _ he
   exact .inl ⟨hl,_,k,he,hk,(r2 _ (List.getElem_mem hl)).2.1 k hk,xxv he hk⟩
  ·exact .inr ⟨by omega,h1,xsf (by omega)⟩
 have hadd:∀ o∈x.add,es.length≤o.key∧o.key<es.length+x.nk∧xj7 K es o.key=K+(o.key-es.length):=by
  intro o ho
  obtain ⟨h1,h2⟩:=hwf.key o ho
  rw [hlen] at h1 h2
  exact ⟨h1,h2,xsf h1⟩
 have mem:∀ o∈x.add.map (fun o=>(⟨xj7 K es o.key,K,o.own,o.body⟩:Obj)),∃ o'∈x.add,o=⟨K+(o'.key-es.length),K,o'.own,o'.body⟩:=by
  intro o ho
  obtain ⟨o',ho',rfl⟩:=List.mem_map.1 ho
  exact ⟨o',ho',by rw [(hadd o' ho').2.2]⟩
 refine ⟨hfun,⟨rfl,?_,?_,?_,?_,?_⟩,fun hp E w henv hH=>?_⟩
 ·intro o ho
  obtain ⟨o',ho',rfl⟩:=mem o ho
  have:=hadd o' ho'
  simp only []
  omega
 ·rw [List.map_map]
  have:(x.add.map ((fun o:Obj=>o.key)∘fun o=>(⟨xj7 K es o.key,K,o.own,o.body⟩:Obj)))=(x.add.map fun o=>o.key).map fun k=>K+(k-es.length):=by
   rw [List.map_map]
   apply List.map_congr_left
   intro o ho
   exact (hadd o ho).2.2
  rw [this]
  refine List.pairwise_map.2 (List.Pairwise.imp_of_mem (fun {a b} ha hb hab=>?_) hwf.uniq)
  obtain ⟨oa,hoa,rfl⟩:=List.mem_map.1 ha
  obtain ⟨ob,hob,rfl⟩:=List.mem_map.1 hb
  have:=hadd oa hoa
  have:=hadd ob hob
  omega
 ·intro o ho
  obtain ⟨o',ho',rfl⟩:=mem o ho
  exact hwf.flat o' ho'
 ·refine xvP (p:=fun k=>k∈AV.keys x.v) (fun k hk=>?_) x.v ((xaW _).2 fun k hk=>hk)
  rcases hok k hk with ⟨_,e,k',_,_,h1,h2⟩ | ⟨h1,h2,h3⟩
  ·rw [h2]; show k'<K+x.nk; omega
  ·rw [h3]; show K+(k-es.length)<K+x.nk; omega
 ·intro o ho
  obtain ⟨o',ho',rfl⟩:=mem o ho
  exact Nat.le_refl _
 let Ec:Env:=fun i=>match es[i]? with | some e=>xdz E e.key | none=>.nilFunc
 have hEc:∀ (i:Nat) e,es[i]?=some e→Ec i=xdz E e.key:=fun i e he=>by show (match es[i]? with | some e=>_ | none=>_)=_; rw [he]
 have hEc0:xwQ E Ec es0:=by
  intro i e he
  have h1:(es0.map (·.key))[i]?=some e.key:=by simp [he]
  rw [← r1] at h1
  simp only [List.getElem?_map] at h1
  cases h2:es[i]? with
  | none=>rw [h2] at h1; cases h1
  | some e' =>
   rw [h2] at h1
   cases h1':e'.key with
   | none =>
    rw [hEc i e' h2,h1']
    simp [h1'] at h1
    rw [← h1]
   | some k =>
    rw [hEc i e' h2,h1']
    simp [h1'] at h1
    rw [← h1]
 have hpre:xuM Ec w objs':=by
  refine ⟨fun k=>?_,fun o ho=>?_,fun o ho o' ho' hk=>?_⟩
  ·show (match es[k]? with | some e=>xdz E e.key | none=>.nilFunc).oneCell'=true
   split
   ·rename_i e _
    cases e.key with
    | none=>rfl
    | some k'=>exact henv k'
   ·rfl
  ·rw [hspec] at ho
   obtain ⟨⟨e,j⟩,hj,rfl⟩:=List.mem_map.1 ho
   have he:=(List.mk_mem_zipIdx_iff_getElem? (l:=es) (x:=e) (i:=j)).1 hj
   obtain ⟨q1,q2,q3⟩:=r2 e (List.mem_of_getElem? he)
   refine ⟨?_,q1,?_⟩
   ·simp only [Nat.zero_add]; exact q3 E w hH Ec j (hEc j e he)
   ·rw [hlen]; simp only [Nat.zero_add]; exact (List.getElem?_eq_some_iff.1 he).1
  ·rw [hspec] at ho ho'
   obtain ⟨⟨e,j⟩,hj,rfl⟩:=List.mem_map.1 ho
   obtain ⟨⟨e',j'⟩,hj',rfl⟩:=List.mem_map.1 ho'
   simp only [] at hk
   have hjj:j=j':=by omega
   subst hjj
   have he:=(List.mk_mem_zipIdx_iff_getElem? (l:=es) (x:=e) (i:=j)).1 hj
   have he':=(List.mk_mem_zipIdx_iff_getElem? (l:=es) (x:=e') (i:=j)).1 hj'
   rw [he] at he'
   cases he'
   rfl
 have hcall:=hcon hp Ec w hpre
 rw [xk5,c3 E Ec hEc0] at hcall
 refine hcall.mono fun e w' ⟨E2,he,hg⟩=>?_
 let E':Env:=fun k=>if k<K then E k else E2 (es.length+(k-K))
 have hE':∀ i∈AV.keys x.v,E' (xj7 K es i)=E2 i:=by
  intro i hi
  rcases hok i hi with ⟨h0,en,k,h1,h2,h3,h4⟩ | ⟨h1,h2,h3⟩
  ·rw [h4,hg.agree i (by rw [hlen]; exact h0),hEc i en h1,h2]
   exact if_pos h3
  ·rw [h3]
   show (if K+(i-es.length)<K then _ else _)=_
   rw [if_neg (by omega)]
   congr 1
   omega
 have hE'a:∀ o∈x.add,E' (K+(o.key-es.length))=E2 o.key:=by
  intro o ho
  have:=hadd o ho
  show (if K+(o.key-es.length)<K then _ else _)=_
  rw [if_neg (by omega)]
  congr 1
  omega
 refine ⟨E',by rw [he]; congr 1; exact (xvt (p:=fun k=>k∈AV.keys x.v) (fun k hk=>hE' k hk) x.v ((xaW _).2 fun k hk=>hk)).symm,⟨fun k hk=>if_pos hk,fun k=>?_,hg.below,?_,?_,?_,?_,?_⟩⟩
 ·show (if k<K then E k else _).oneCell'=true
  split
  ·exact henv k
  ·exact hg.env _
 ·intro o ho
  obtain ⟨o',ho',rfl⟩:=mem o ho
  have hb:=hg.bodies o' ho'
  have hf:=hwf.flat o' ho'
  have he:=hE'a o' ho'
  obtain ⟨ok,ov,oo,ob⟩:=o'
  simp only [] at hb hf he ⊢
  cases ob with
  | row e ks l =>
   have hb:xaY w' oo e ks.length (E2 ok) l.length (rowV ks l):=hb
   show xaY w' oo e ks.length (E' _) l.length (rowV ks l)
   rw [he]; exact hb
  | nil=>exact he.trans hb
  | nst e ks l=>obtain ⟨vs,hb⟩:=hb; exact ⟨vs,by rw [he]; exact hb⟩
  | sub e ks l=>exact ⟨hb.1,by rw [he]; exact hb.2⟩
  | mq kt et q ks l=>obtain ⟨b,es,clock,hb⟩:=hb; exact ⟨b,es,clock,by rw [he]; exact hb⟩
  | cells=>cases hf
  | arr=>cases hf
  | mp=>cases hf
  | fin=>cases hf
  | loop=>cases hf
 ·intro o ho b hb
  obtain ⟨o',ho',rfl⟩:=mem o ho
  simp only [hE'a o' ho'] at hb
  refine (hg.own o' ho' b hb).imp id fun ⟨g1,g2,o1,ho1,hi⟩=>⟨g1,g2,?_⟩
  rw [hspec] at ho1
  obtain ⟨⟨en,j⟩,hj,rfl⟩:=List.mem_map.1 ho1
  have he:=(List.mk_mem_zipIdx_iff_getElem? (l:=es) (x:=en) (i:=j)).1 hj
  simp only [Nat.zero_add] at hi
  exact xqZ hrows (c1.ok (by simp)) en (List.mem_of_getElem? he) E Ec w j b (hEc j en he) hi
 ·intro o ho o2 ho2 hown hne b hb
  obtain ⟨o',ho',rfl⟩:=mem o ho
  obtain ⟨o2',ho2',rfl⟩:=mem o2 ho2
  simp only [hE'a o' ho'] at hb
  simp only [hE'a o2' ho2']
  exact hg.inj o' ho' o2' ho2' hown (fun e=>hne (by simp only [e])) b hb
 ·intro o ho b hb
  obtain ⟨o',ho',rfl⟩:=mem o ho
  exact hg.inn o' ho' b (xsY (hE'a o' ho') hb)
 ·intro o ho b hb o2 ho2 hown
  obtain ⟨o',ho',rfl⟩:=mem o ho
  obtain ⟨o2',ho2',rfl⟩:=mem o2 ho2
  simp only [hE'a o2' ho2']
  exact hg.dq o' ho' b (xsY (hE'a o' ho') hb) o2' ho2' hown
theorem xxR {a:AV} {k:Nat} {b:Body} {p:Option Prop} (ha:isVw a=true) (hs:srcA P objs a=some (k,b,p)):∃ e ks l,b=.row e ks l:=by
 cases a<;>simp [isVw] at ha
 simp only [srcA] at hs
 repeat' split at hs
 all_goals first | (cases hs; done) | (cases hs; exact ⟨_,_,_,rfl⟩)
theorem xnH:∀ {args:List AV} {K:Nat} {args':List AV} {add:List Obj} {ft:List Nat} {p:Option Prop},xlx P objs K args=some (args',add,ft,p)→∀ o∈add,∀ {E:Env} {w:World} {b:Nat} {C:Prop},Inn E w o.key o.body b→C
 | [],K,args',add,ft,p,h,o,ho,_,_,_,_,_=>by cases h; cases ho
 | a::r,K,args',add,ft,p,h,o,ho,E,w,b,C,hi=>by
  unfold xlx at h
  split at h
  ·rename_i ha
   split at h
   ·rename_i k b1 p1 r' add' ft' q hs hr
    cases h
    rcases List.mem_cons.1 ho with rfl | ho
    ·obtain ⟨e,ks,l,rfl⟩:=xxR ha hs
     exact hi.elim
    ·exact xnH hr o ho hi
   ·cases h
  ·split at h
   ·rename_i r' add' ft' q hr
    cases h
    exact xnH hr o ho hi
   ·cases h
def vals (E:Env) (args:List AV):List Value:=(args.filter isVw).map (AV.den E)
theorem xkc {K0:Nat}:∀ (args:List AV) (K:Nat) (args':List AV) (add:List Obj) (ft:List Nat) (p:Option Prop),K0≤K→AV.ltL K0 args→xlx P objs K args=some (args',add,ft,p) →
  add.length=(args.filter isVw).length∧AV.ltL (K+add.length) args'∧(∀ o∈add,K≤o.key∧o.key<K+add.length) ∧
  ∀ (X:List (Nat×Go.Obj)) (E:Env) (w0 w:World) (n:Nat),xah X E w0 ⟨objs,n⟩ w→xnh p→∀ E2:Env,(∀ k,k<K0→E2 k=E k)→(∀ i v,(vals E args)[i]?=some v→E2 (K+i)=v)→AV.denL E2 args'=AV.denL E args∧xrK P E2 w add
 | [],K,args',add,ft,p,_,_,h=>by
  cases h
  exact ⟨rfl,trivial,by simp,fun X E w0 w n hH _ E2 _ _=>⟨rfl,⟨by simp,by simp,by simp,by simp,by simp⟩⟩⟩
 | a::r,K,args',add,ft,p,hK,hl,h=>by
  unfold xlx at h
  split at h
  ·rename_i ha
   split at h
   ·rename_i k b p1 r' add' ft' q hs hr
    cases h
    obtain ⟨i1,i2,i3,i4⟩:=xkc r (K+1) r' add' ft' q (by omega) hl.2 hr
    refine ⟨by simp [ha,i1],⟨show K<K+(add'.length+1) by omega,xwj (show K+1+add'.length≤K+(add'.length+1) by omega) _ i2⟩,?_,?_⟩
    ·intro o ho
     rcases List.mem_cons.1 ho with rfl | ho
     ·exact ⟨Nat.le_refl _,by simp⟩
     ·have:=i3 o ho
      simp only [List.length_cons]
      omega
    ·intro X E w0 w n hH hp E2 e1 e2
     obtain ⟨hp1,hq⟩:=xoq hp
     have hv:vals E (a::r)=a.den E::vals E r:=by simp [vals,ha]
     obtain ⟨j1,j2⟩:=i4 X E w0 w n hH hq E2 e1 (fun i v hi=>by
      have:=e2 (i+1) v (by rw [hv]; simpa using hi)
      rw [show K+1+i=K+(i+1) by omega]; exact this)
     have h0:E2 K=a.den E:=e2 0 _ (by rw [hv]; rfl)
     obtain ⟨eb,kb,lb,hbrow⟩:=xxR ha hs
     refine ⟨by simp only [AV.denL,AV.den,h0,j1],?_,?_,?_,?_,?_⟩
     ·intro o ho hb
      rcases List.mem_cons.1 ho with rfl | ho
      ·simp only [] at hb
       subst hb
       cases a<;>simp [isVw] at ha
       simp only [srcA] at hs
       repeat' split at hs
       all_goals cases hs
      ·exact j2.nil o ho hb
     ·intro o ho e ks l hro
      rcases List.mem_cons.1 ho with rfl | ho
      ·obtain ⟨_,_,_,_,hso⟩:=xnK hH hs
       show xaY w false e ks.length (E2 K) l.length (rowV ks l)
       rw [h0]
       exact xpV hro (hso hp1)
      ·exact j2.row o ho e ks l hro
     ·intro o ho e ks l hro
      rcases List.mem_cons.1 ho with rfl | ho
      ·simp only [] at hro; rw [hbrow] at hro; cases hro
      ·exact j2.nst o ho e ks l hro
     ·intro o ho hsb
      rcases List.mem_cons.1 ho with rfl | ho
      ·rfl
      ·exact j2.sub o ho hsb
     ·intro o ho kt et q ks l hro
      rcases List.mem_cons.1 ho with rfl | ho
      ·simp only [] at hro; rw [hbrow] at hro; cases hro
      ·exact j2.mq o ho kt et q ks l hro
   ·cases h
  ·rename_i ha
   split at h
   ·rename_i r' add' ft' q hr
    cases h
    obtain ⟨i1,i2,i3,i4⟩:=xkc r K r' add ft p hK hl.2 hr
    refine ⟨by simp [ha,i1],⟨xf5 (by omega) _ hl.1,i2⟩,i3,fun X E w0 w n hH hp E2 e1 e2=>?_⟩
    have hv:vals E (a::r)=vals E r:=by simp [vals,ha]
    obtain ⟨j1,j2⟩:=i4 X E w0 w n hH hp E2 e1 (by rw [← hv]; exact e2)
    exact ⟨by simp only [AV.denL,j1,xhL e1 a hl.1],j2⟩
   ·cases h
theorem xq4 (hΓ:xbh P Γ) (hH:xah X E w0 ⟨objs,n⟩ w) {f:FuncId} {args:List AV} {ft:List Nat} {y:Eff} (hargs:AV.ltL K args) (h:xvH P Γ f args objs K=some (ft,y)) :
  xdE P f∧xgo K y∧(y.holds→Calls P f (AV.denL E args).toArray w fun e w'=>∃ E',e=.returned (y.v.den E')∧xnE E w K y E' w' fun b=>∃ o'∈objs,Inn E w o'.key o'.body b):=by
 unfold xvH at h
 split at h
 ·obtain ⟨h1,h2,h3⟩:=xq2 hΓ hargs h
  exact ⟨h1,h2,fun hp=>(h3 hp E w hH.env hH.objsR).mono fun e w' ⟨E',he,hg⟩=>⟨E',he,hg.mono fun b ⟨o,ho,_,hi⟩=>⟨o,ho,hi⟩⟩⟩
 ·split at h
  case h_2=>cases h
  rename_i args' add ft1 p hv
  split at h
  case h_2=>cases h
  rename_i ft' x hc
  cases h
  obtain ⟨i1,i2,i3,i4⟩:=xkc (K0:=K) args K args' add ft1 p (Nat.le_refl _) hargs hv
  obtain ⟨h1,h2,h3⟩:=xq2 hΓ i2 hc
  refine ⟨h1,⟨h2.rm,fun o ho=>?_,h2.uniq,h2.flat,?_,fun o ho=>?_⟩,fun hp=>?_⟩
  ·have:=h2.key o ho
   refine ⟨by omega,?_⟩
   simp only []
   split
   ·rename_i hc
    rw [Bool.and_eq_true,Bool.and_eq_true] at hc
    have:x.add=[]:=by simpa using hc.1.2
    rw [this] at ho
    cases ho
   ·omega
  ·simp only []
   split
   ·rename_i hc
    rw [Bool.and_eq_true,Bool.and_eq_true] at hc
    exact (xaW x.v).2 fun k hk=>by have:=List.all_eq_true.1 hc.2 k hk; simpa using this
   ·have:=h2.val
    rw [show K+add.length+x.nk=K+(add.length+x.nk) by omega] at this
    exact this
  ·have:=h2.ver o ho
   omega
  ·obtain ⟨hp1,hp2⟩:=xoq (p:=p) (q:=x.p) hp
   let E2:Env:=fun k=>match (if K≤k then (vals E args)[k-K]? else (none:Option Value)) with | some v=>v | none=>E k
   have e1:∀ k,k<K→E2 k=E k:=fun k hk=>by show (match (if K≤k then (vals E args)[k-K]? else (none:Option Value)) with | some v=>v | none=>E k)=E k; rw [if_neg (by omega)]
   have e2:∀ i v,(vals E args)[i]?=some v→E2 (K+i)=v:=fun i v hi=>by
    show (match (if K≤K+i then (vals E args)[K+i-K]? else none) with | some v=>v | none=>E (K+i))=v
    rw [if_pos (by omega),Nat.add_sub_cancel_left,hi]
   have e3:∀ k,(E2 k).oneCell'=true:=fun k=>by
    show (match (if K≤k then (vals E args)[k-K]? else none) with | some v=>v | none=>E k).oneCell'=true
    split
    ·rename_i v hv
     split at hv
     ·obtain ⟨a,ha,rfl⟩:=List.mem_map.1 (List.mem_of_getElem? hv)
      have:=(List.mem_filter.1 ha).2
      cases a<;>simp [isVw] at this
      exact xnU (hH.env _) _ _ _
     ·cases hv
    ·exact hH.env k
   obtain ⟨j1,j2⟩:=i4 X E w0 w n hH hp1 E2 e1 e2
   have hR:xrK P E2 w (add++objs.filter fun o=>Nat.blt o.key K):=by
    have old:∀ o∈objs.filter (fun o=>Nat.blt o.key K),o∈objs∧E2 o.key=E o.key:=fun o ho=>by
     obtain ⟨a,b⟩:=List.mem_filter.1 ho
     exact ⟨a,e1 _ (by simpa using b)⟩
    refine ⟨fun o ho hb=>?_,fun o ho e ks l hr=>?_,fun o ho e ks l hr=>?_,fun o ho hr=>?_,fun o ho kt et q ks l hr=>?_⟩
    ·rcases List.mem_append.1 ho with ho | ho
     ·exact j2.nil o ho hb
     ·obtain ⟨a,b⟩:=old o ho
      rw [b]; exact (hH.objsR (P:=P)).nil o a hb
    ·rcases List.mem_append.1 ho with ho | ho
     ·exact j2.row o ho e ks l hr
     ·obtain ⟨a,b⟩:=old o ho
      rw [b]; exact hH.objsR.row o a e ks l hr
    ·rcases List.mem_append.1 ho with ho | ho
     ·exact j2.nst o ho e ks l hr
     ·obtain ⟨a,b⟩:=old o ho
      rw [b]; exact (hH.objsR (P:=P)).nst o a e ks l hr
    ·rcases List.mem_append.1 ho with ho | ho
     ·exact j2.sub o ho hr
     ·obtain ⟨a,b⟩:=old o ho
      exact (hH.objsR (P:=P)).sub o a hr
    ·rcases List.mem_append.1 ho with ho | ho
     ·exact j2.mq o ho kt et q ks l hr
     ·obtain ⟨a,b⟩:=old o ho
      rw [b]; exact (hH.objsR (P:=P)).mq o a kt et q ks l hr
   have:=h3 hp2 E2 w e3 hR
   rw [j1] at this
   refine this.mono fun e w' ⟨E',he,hg⟩=>?_
   let E3:Env:=fun k=>if k<K then E k else E' k
   have e4:∀ k,k<K+add.length+x.nk→E3 k=E' k:=fun k hk=>by
    show (if k<K then E k else E' k)=E' k
    split
    ·rename_i hk; rw [hg.agree k (by omega),e1 k hk]
    ·rfl
   have hk3:∀ o∈x.add,E3 o.key=E' o.key:=fun o ho=>e4 _ (h2.key o ho).2
   refine ⟨E3,by rw [he]; congr 1; exact (xcy (fun k hk=>e4 k hk) _ h2.val).symm,⟨fun k hk=>if_pos hk,fun k=>?_,hg.below,?_,?_,?_,?_,?_⟩⟩
   ·show (if k<K then E k else E' k).oneCell'=true
    split
    ·exact hH.env k
    ·exact hg.env k
   ·intro o ho
    exact xmz (h2.flat o ho) (hk3 o ho) (hg.bodies o ho)
   ·intro o ho b hb
    rw [hk3 o ho] at hb
    refine (hg.own o ho b hb).imp id fun ⟨g1,g2,o1,ho1,hk1,hi⟩=>⟨g1,g2,?_⟩
    rcases List.mem_append.1 ho1 with ho1 | ho1
    ·exact xnH hv o1 ho1 hi
    ·obtain ⟨q1,q2⟩:=List.mem_filter.1 ho1
     exact ⟨o1,q1,xgD (e1 _ (by simpa using q2)) hi⟩
   ·intro o ho o2 ho2 hown hne b hb
    rw [hk3 o ho] at hb
    rw [hk3 o2 ho2]
    exact hg.inj o ho o2 ho2 hown hne b hb
   ·intro o ho b hb
    exact hg.inn o ho b (xgD (hk3 o ho) hb)
   ·intro o ho b hb o2 ho2 hown
    rw [hk3 o2 ho2]
    exact hg.dq o ho b (xgD (hk3 o ho) hb) o2 ho2 hown
end
end Go.Sy
set_option linter.unusedVariables false
namespace Go.Sy
open Go.RowKit
theorem xbH {α:Type} (s:Nat→α) (d:Nat) (v:α):upd s d v d=v:=by unfold upd; rw [xcM]
theorem xcS {α:Type} (s:Nat→α) {d t:Nat} (v:α) (h:t≠d):upd s d v t=s t:=by unfold upd; rw [xhQ h]
abbrev FR (r:Option Nat):Fence:={ Fence.wide with round:=r }
theorem xlq {r:Option Nat} {n:Nat} {P:Program} {f:FuncId} {args:Array Value} {w:World} {R:Ending→World→Prop}:CallsIn (FR r) n P f args w R↔Calls P f args w R:=callsIn_wide (n:=n)
section
variable {P:Program} {Γ:Con} {call:xgj} {yld:Nat→List AV→Heap→Tree (AV×Heap)} {X:List (Nat×Go.Obj)} {w0:World}
def xdH (ctx:Ctx):Prop:=∀ c∈ctx,c.2.2=c.2.1
theorem xqW:∀ {ctx:Ctx} {p:Prop},xur ctx p→xdH ctx→p
 | [],_,h,_=>h
 | (g,want,b)::r,_,h,hc=>xqW (ctx:=r) h (fun c hc'=>hc c (List.mem_cons_of_mem _ hc')) (hc (g,want,b) List.mem_cons_self)
def xjn (E:Env) (n:Nat) (a:Act) (t:Nat):Slot→Prop
 | .is v=>a.tmps.getD t undef=v.den E∧AV.lt n v
 | .when g want v=>AV.lt n v∧(a.tmps.getD g undef=.bool want→a.tmps.getD t undef=v.den E)∧(a.tmps.getD g undef≠.bool want→a.tmps.getD t undef=undef)
 | .junk=>True
structure xaH (E:Env) (n N:Nat) (D:List Deferred) (s:xaS) (a:Act):Prop where
 defers:a.defers=D
 size:N≤a.tmps.size
 ok:∀ t,xjn E n a t (s t)
def xj9 (s:xaS) (seen:List Nat):Prop:=∀ t g want v,s t=.when g want v→g∈seen
theorem xaH.env {E E':Env} {n n' N:Nat} {D:List Deferred} {s:xaS} {a:Act} (h:xaH E n N D s a) (hE:∀ k,k<n→E' k=E k) (hn:n≤n'):xaH E' n' N D s a:=by
 refine ⟨h.defers,h.size,fun t=>?_⟩
 have:=h.ok t
 cases hs:s t with
 | is v=>rw [hs] at this; exact ⟨by rw [xhL hE v this.2]; exact this.1,xf5 hn v this.2⟩
 | when g want v=>rw [hs] at this; exact ⟨xf5 hn v this.1,fun hg=>by rw [xhL hE v this.1]; exact this.2.1 hg,this.2.2⟩
 | junk=>trivial
theorem xgK {a:Act} {d:Nat} (t:Nat) (v:Value) (hd:d<a.tmps.size):(a.put (some d) v).tmps.getD t undef=if t=d then v else a.tmps.getD t undef:=by
 simp only [Act.put,Array.getD_eq_getD_getElem?,Array.getElem?_setIfInBounds]
 by_cases h:d=t
 ·subst h; simp [hd]
 ·rw [if_neg h,if_neg (by omega)]
theorem xaH.put {E:Env} {n N:Nat} {D:List Deferred} {s:xaS} {a:Act} (h:xaH E n N D s a) {dst:Option Nat} (hd:∀ d,dst=some d→d<N∧∀ t g want v,s t=.when g want v→g≠d) {sl:Slot} {u:Value}
  (hsl:match sl with | .is v=>u=v.den E∧AV.lt n v | .when g want v=>AV.lt n v∧dst≠some g∧(a.tmps.getD g undef=.bool want→u=v.den E)∧(a.tmps.getD g undef≠.bool want→u=undef) | .junk=>True) :
  xaH E n N D (Sy.put s dst sl) (a.put dst u):=by
 cases dst with
 | none=>exact h
 | some d =>
  obtain ⟨hdN,hg⟩:=hd d rfl
  have hlt:d<a.tmps.size:=Nat.lt_of_lt_of_le hdN h.size
  refine ⟨by simp only [Act.put]; exact h.defers,by simp only [Act.put,Array.size_setIfInBounds]; exact h.size,fun t=>?_⟩
  show xjn E n _ t (upd s d sl t)
  by_cases ht:t=d
  ·subst ht
   rw [xbH]
   cases sl with
   | is v=>exact ⟨by rw [xgK _ _ hlt,if_pos rfl]; exact hsl.1,hsl.2⟩
   | when g want v =>
    have hne:g≠t:=fun e=>hsl.2.1 (by rw [e])
    refine ⟨hsl.1,fun hb=>?_,fun hb=>?_⟩
    ·rw [xgK _ _ hlt,if_neg hne] at hb
     rw [xgK _ _ hlt,if_pos rfl]
     exact hsl.2.2.1 hb
    ·rw [xgK _ _ hlt,if_neg hne] at hb
     rw [xgK _ _ hlt,if_pos rfl]
     exact hsl.2.2.2 hb
   | junk=>trivial
  ·rw [xcS _ _ ht]
   have:=h.ok t
   cases hs:s t with
   | is v=>rw [hs] at this; exact ⟨by rw [xgK _ _ hlt,if_neg ht]; exact this.1,this.2⟩
   | when g want v =>
    rw [hs] at this
    refine ⟨this.1,fun hb=>?_,fun hb=>?_⟩
    ·rw [xgK _ _ hlt,if_neg (hg t g want v hs)] at hb
     rw [xgK _ _ hlt,if_neg ht]
     exact this.2.1 hb
    ·rw [xgK _ _ hlt,if_neg (hg t g want v hs)] at hb
     rw [xgK _ _ hlt,if_neg ht]
     exact this.2.2 hb
   | junk=>trivial
theorem xll {s:xaS} {seen:List Nat} {N:Nat} {seen':List Nat} {dst:Option Nat} {sl:Slot} (h:xj9 s seen) (hs:xel N dst seen=some seen') (hsl:∀ g want v,sl=.when g want v→g∈seen):xj9 (put s dst sl) seen':=by
 intro t g want v ht
 cases dst with
 | none=>cases hs; exact h t g want v ht
 | some d =>
  simp only [xel] at hs
  split at hs
  ·cases hs
   refine List.mem_cons_of_mem _ ?_
   by_cases hd:t=d
   ·subst hd
    have ht:upd s t sl t=.when g want v:=ht
    rw [xbH] at ht
    exact hsl g want v ht
   ·have ht:upd s d sl t=.when g want v:=ht
    rw [xcS _ _ hd] at ht
    exact h t g want v ht
  ·cases hs
theorem xzS {N:Nat} {s:xaS} {seen seen':List Nat} {dst:Option Nat} (h:xj9 s seen) (hs:xel N dst seen=some seen'):∀ d,dst=some d→d<N∧∀ t g want v,s t=.when g want v→g≠d:=by
 intro d hd
 subst hd
 simp only [xel] at hs
 split at hs
 ·rename_i hc
  rw [Bool.and_eq_true] at hc
  refine ⟨by simpa using hc.1,fun t g want v ht hg=>?_⟩
  subst hg
  have:=h t g want v ht
  have h2:seen.any (Nat.beq g)=true:=List.any_eq_true.2 ⟨g,this,xcM g⟩
  rw [h2] at hc
  simp at hc
 ·cases hs
theorem xzn {ctx:Ctx} {g:Nat} {want:Bool} {a:Act} (hctx:∀ c∈ctx,a.tmps.getD c.1 undef=.bool c.2.1) (h:ctx.any (fun c=>Nat.beq c.1 g&&(c.2.1==want))=true):a.tmps.getD g undef=.bool want:=by
 obtain ⟨c,hc,hb⟩:=List.any_eq_true.1 h
 rw [Bool.and_eq_true] at hb
 have h1:c.1=g:=Nat.eq_of_beq_eq_true hb.1
 have h2:c.2.1=want:=by simpa using hb.2
 rw [← h1,← h2]
 exact hctx c hc
theorem xgv {E:Env} {n N:Nat} {D:List Deferred} {s:xaS} {a:Act} (h:xaH E n N D s a) (ctx:Ctx) (hctx:∀ c∈ctx,a.tmps.getD c.1 undef=.bool c.2.1) :
  ∀ x v,readS ctx s x=some v→a.eval x=v.den E∧AV.lt n v:=by
 intro x v hx
 cases x with
 | tmp t =>
  simp only [readS] at hx
  have:=h.ok t
  split at hx
  ·rename_i v' hs
   cases hx
   rw [hs] at this
   exact this
  ·rename_i g want v' hs
   rw [hs] at this
   split at hx
   ·rename_i hc
    cases hx
    exact ⟨this.2.1 (xzn hctx hc),this.1⟩
   ·cases hx
  ·cases hx
 | const c=>cases hx; exact ⟨(xgG E c).symm,xfI _ c⟩
 | global g=>cases hx; exact ⟨rfl,trivial⟩
 | func f=>cases hx; exact ⟨rfl,trivial,trivial⟩
theorem xec {E:Env} {n N:Nat} {D:List Deferred} {s:xaS} {a:Act} (h:xaH E n N D s a):∀ (m g:Nat) (want:Bool) (ctx:Ctx),xbg s m g want=some ctx →
  (a.tmps.getD g undef=.bool want↔xdH ctx)∧(xdH ctx→∀ c∈ctx,a.tmps.getD c.1 undef=.bool c.2.1)∧∃ b r,ctx=(g,want,b)::r
 | 0,_,_,_,h=>by cases h
 | m+1,g,want,ctx,hc=>by
  unfold xbg at hc
  have hg:=h.ok g
  split at hc
  ·rename_i v hs
   split at hc
   case h_2=>cases hc
   rename_i b hvb
   cases hc
   rw [hs] at hg
   have hg1:a.tmps.getD g undef=.bool b:=by rw [hg.1,← xgd,hvb]; rfl
   refine ⟨⟨fun e c hc=>?_,fun hc=>?_⟩,fun hc c hmem=>?_,b,[],rfl⟩
   ·rw [hg1] at e
    cases e
    simp at hc; subst hc; rfl
   ·have:=hc (g,want,b) (by simp)
    simp at this
    rw [hg1,this]
   ·have:=hc (g,want,b) (by simp)
    simp at this hmem
    subst hmem
    show a.tmps.getD g undef=.bool want
    rw [hg1,this]
  ·rename_i g1 w1 v hs
   split at hc
   case h_2=>cases hc
   rename_i b hvb
   rw [hs] at hg
   have hvd:v.den E=.bool b:=by rw [← xgd,hvb]; rfl
   cases hr:xbg s m g1 w1 with
   | none=>rw [hr] at hc; cases hc
   | some r =>
    rw [hr] at hc
    cases hc
    obtain ⟨ih1,ih2,_⟩:=xec h m g1 w1 r hr
    have fwd:a.tmps.getD g undef=.bool want→b=want∧xdH r:=by
     intro e
     by_cases h1:a.tmps.getD g1 undef=.bool w1
     ·have:=hg.2.1 h1
      rw [e,hvd] at this
      cases this
      exact ⟨rfl,ih1.1 h1⟩
     ·have:=hg.2.2 h1
      rw [e] at this
      cases this
    have bwd:b=want→xdH r→a.tmps.getD g undef=.bool want:=fun hb hr'=>by
     rw [hg.2.1 (ih1.2 hr'),← hb,hvd]
    have split:xdH ((g,want,b)::r)↔b=want∧xdH r:=by simp [xdH]
    refine ⟨⟨fun e=>split.2 (fwd e),fun hc=>bwd (split.1 hc).1 (split.1 hc).2⟩,fun hc c hmem=>?_,b,r,rfl⟩
    obtain ⟨h1,h2⟩:=split.1 hc
    rcases List.mem_cons.1 hmem with rfl | hmem
    ·exact bwd h1 h2
    ·exact ih2 h2 c hmem
  ·cases hc
theorem xwl {E:Env} {n N:Nat} {D:List Deferred} {s:xaS} {a:Act} (h:xaH E n N D s a) {g:Nat} {v:Bool} (hg:a.tmps.getD g undef=.bool v):xaH E n N D (xqB g v s) a:=by
 refine ⟨h.defers,h.size,fun t=>?_⟩
 unfold xqB
 by_cases ht:t=g
 ·subst ht; rw [xbH]; exact ⟨hg,trivial⟩
 ·rw [xcS _ _ ht]
  have:=h.ok t
  cases hs:s t with
  | is x=>rw [hs] at this; exact this
  | junk=>trivial
  | when g' w x =>
   rw [hs] at this
   simp only []
   cases hb:Nat.beq g' g with
   | false=>simp only [Bool.false_eq_true,if_false]; exact this
   | true =>
    have hgg:g'=g:=Nat.eq_of_beq_eq_true hb
    subst hgg
    simp only [if_true]
    cases hw:(w==v) with
    | true =>
     have:w=v:=by simpa using hw
     subst this
     exact ⟨(by assumption:xjn E n a t (.when g' w x)).2.1 hg,(by assumption:xjn E n a t (.when g' w x)).1⟩
    | false =>
     refine ⟨this.2.2 (fun e=>?_),trivial⟩
     rw [hg] at e
     cases e
     simp at hw
theorem xiV {g:Nat} {v:Bool} {s:xaS} {t g':Nat} {w:Bool} {x:AV} (h:xqB g v s t=.when g' w x):s t=.when g' w x:=by
 unfold xqB at h
 by_cases ht:t=g
 ·subst ht; rw [xbH] at h; cases h
 ·rw [xcS _ _ ht] at h
  cases hs:s t with
  | is y=>rw [hs] at h; cases h
  | junk=>rw [hs] at h; cases h
  | when g2 w2 y =>
   rw [hs] at h
   simp only [] at h
   split at h
   ·split at h<;>cases h
   ·exact h
def xmE (a:Act):Ctx→Prop
 | []=>True
 | (g,want,b)::r=>a.tmps.getD g undef=.bool b∧(b=want→xmE a r)
theorem xoX {a:Act} {g:Nat} {want b:Bool}:∀ {l:Ctx},xmE a l→(xdH l→a.tmps.getD g undef=.bool b)→xmE a (l++[(g,want,b)])
 | [],_,h=>⟨h (fun c hc=>by cases hc),fun _=>trivial⟩
 | (g',w',b')::r,hc,h=>⟨hc.1,fun hb=>xoX (hc.2 hb) (fun hr=>h (fun c hm=>by
   rcases List.mem_cons.1 hm with rfl | hm
   ·exact hb
   ·exact hr c hm))⟩
theorem xd8 {ctx:Ctx}:xdH ctx.reverse↔xdH ctx:=by simp [xdH]
theorem xj4 {E:Env} {n N:Nat} {D:List Deferred} {s:xaS} {a:Act} (h:xaH E n N D s a):∀ (m g:Nat) (want:Bool) (ctx:Ctx),xbg s m g want=some ctx→xmE a ctx.reverse
 | 0,_,_,_,hc=>by cases hc
 | m+1,g,want,ctx,hc=>by
  unfold xbg at hc
  have hg:=h.ok g
  split at hc
  ·rename_i v hs
   split at hc
   case h_2=>cases hc
   rename_i b hvb
   cases hc
   rw [hs] at hg
   exact ⟨by rw [hg.1,← xgd,hvb]; rfl,fun _=>trivial⟩
  ·rename_i g1 w1 v hs
   split at hc
   case h_2=>cases hc
   rename_i b hvb
   rw [hs] at hg
   cases hr:xbg s m g1 w1 with
   | none=>rw [hr] at hc; cases hc
   | some r =>
    rw [hr] at hc
    cases hc
    obtain ⟨q1,_,_⟩:=xec h m g1 w1 r hr
    rw [List.reverse_cons]
    refine xoX (xj4 h m g1 w1 r hr) (fun hcs=>?_)
    rw [hg.2.1 (q1.2 (xd8.1 hcs)),← xgd,hvb]; rfl
  ·cases hc
theorem xnA {E:Env} {n N:Nat} {D:List Deferred} {a:Act} {t e:xaS→Tree RCfg} {Q:RCfg→Prop}:∀ (rs:Ctx) (s:xaS),xaH E n N D s a→xmE a rs→(brG rs s t e).holds Q →
  (xdH rs→∃ s',xaH E n N D s' a∧(∀ u g w v,s' u=.when g w v→s u=.when g w v)∧(t s').holds Q)∧(¬ xdH rs→∃ s',xaH E n N D s' a∧(∀ u g w v,s' u=.when g w v→s u=.when g w v)∧(e s').holds Q)
 | [],s,hS,_,h=>⟨fun _=>⟨s,hS,fun _ _ _ _ h=>h,h⟩,fun hn=>absurd (fun c hc=>by cases hc) hn⟩
 | (g,want,b)::rest,s,hS,hc,h=>by
  have split:xdH ((g,want,b)::rest)↔b=want∧xdH rest:=by simp [xdH]
  by_cases hb:b=want
  ·have hg:a.tmps.getD g undef=.bool want:=by rw [hc.1,hb]
   obtain ⟨i1,i2⟩:=xnA rest (xqB g want s) (xwl hS hg) (hc.2 hb) (h.1 (by simp [hb]))
   refine ⟨fun hcs=>?_,fun hcs=>?_⟩
   ·obtain ⟨s',q1,q2,q3⟩:=i1 (split.1 hcs).2
    exact ⟨s',q1,fun u g' w v hu=>xiV (q2 u g' w v hu),q3⟩
   ·obtain ⟨s',q1,q2,q3⟩:=i2 (fun hr=>hcs (split.2 ⟨hb,hr⟩))
    exact ⟨s',q1,fun u g' w v hu=>xiV (q2 u g' w v hu),q3⟩
  ·have hbw:b=!want:=by cases b<;>cases want<;>simp_all
   have hg:a.tmps.getD g undef=.bool (!want):=by rw [hc.1,hbw]
   refine ⟨fun hcs=>absurd (split.1 hcs).1 hb,fun _=>⟨_,xwl hS hg,fun u g' w v hu=>xiV hu,h.2 (by simp [hb])⟩⟩
section
variable {rnd:Option Nat} {E:Env} {H:Heap} {n N:Nat} {D:List Deferred} {s:xaS} {a:Act} {w:World}
def xuI (P:Program) (yld:Nat→List AV→Heap→Tree (AV×Heap)):Prop:=∀ (X:List (Nat×Go.Obj)) (w0:World) (key:Nat) (args:List AV) (H:Heap) (E:Env) (w:World) (R:Ending→World→Prop),
 xah X E w0 H w→key<H.next→AV.ltL H.next args →
 (yld key args H).holds (fun x=>∀ E' w',(∀ k,k<H.next→E' k=E k)→xah X E' w0 x.2 w'→AV.lt x.2.next x.1→H.next≤x.2.next→Old H x.2→R (.returned (x.1.den E')) w') →
 ∃ fn tmps assign body,(Instr.yield (blk (E key)) (AV.denL E args).toArray).run P w=.ok (.round (blk (E key)) fn tmps assign body) w∧RoundIn (FR none) 0 P (blk (E key)) fn tmps assign body w R
theorem xht {o:Oper} {nx:Next} {w':World} {v:Value} {K:Act→World→Prop} {Q:Exit→Act→World→Prop} (ho:∀ c,o.op≠.defer c) (hr:(execOp a.eval o).run P w=.ok nx w') (hv:nx=.value v∨(nx=.skip∧v=undef)) (hK:K (a.put o.dst v) w') :
  o.wpIn (FR rnd) 0 P a w K Q:=by
 refine ⟨fun _ _=>trivial,?_⟩
 rw [Oper.semAt_eq _ _ _ ho,hr]
 rcases hv with rfl | ⟨rfl,rfl⟩
 ·exact hK
 ·exact hK
theorem xh2 {o:Oper} {f:FuncId} {args:Array Value} {w':World} {K:Act→World→Prop} {Q:Exit→Act→World→Prop} (ho:∀ c,o.op≠.defer c) (hr:(execOp a.eval o).run P w=.ok (.enter f args) w')
  (hc:Calls P f args w' fun e w''=>∃ v,e=.returned v∧K (a.put o.dst v) w''):o.wpIn (FR rnd) 0 P a w K Q:=by
 refine ⟨fun _ _=>trivial,?_⟩
 rw [Oper.semAt_eq _ _ _ ho,hr]
 refine ⟨fun h=>(by cases h),(xlq.2 hc).mono fun e w'' he=>?_⟩
 obtain ⟨v,rfl,hk⟩:=he
 exact hk
theorem xsM {o:Oper} {l:Nat} {f:FuncId} {tmps:Array Value} {assign body:Code} {w':World} {K:Act→World→Prop} {Q:Exit→Act→World→Prop} (ho:∀ c,o.op≠.defer c) (hr:(execOp a.eval o).run P w=.ok (.round l f tmps assign body) w')
  (hc:RoundIn (FR none) 0 P l f tmps assign body w' fun e w''=>∃ v,e=.returned v∧K (a.put o.dst v) w''):o.wpIn (FR rnd) 0 P a w K Q:=by
 refine ⟨fun _ _=>trivial,?_⟩
 rw [Oper.semAt_eq _ _ _ ho,hr]
 refine ⟨fun h=>(by cases h),?_⟩
 have hc':RoundIn (FR rnd) 0 P l f tmps assign body w' fun e w''=>∃ v,e=.returned v∧K (a.put o.dst v) w'':=hc
 refine RoundIn.mono hc' fun e w'' he=>?_
 obtain ⟨v,rfl,hk⟩:=he
 exact hk
def Post (X:List (Nat×Go.Obj)) (w0:World) (E:Env) (H:Heap) (N:Nat) (D:List Deferred) (K:Act→World→Prop) (x:RCfg):Prop :=
 ∀ E' a' w',(∀ k,k<H.next→E' k=E k)→xaH E' x.2.next N D x.1 a'→xah X E' w0 x.2 w'→H.next≤x.2.next→Old H x.2→K a' w'
def Goal (rnd:Option Nat) (P:Program) (a:Act) (w:World) (o:Oper) (K:Act→World→Prop) (Q:Exit→Act→World→Prop):Ctx→Prop
 | []=>o.wpIn (FR rnd) 0 P a w K Q
 | c::r=>(xdH (c::r)→o.wpIn (FR rnd) 0 P a w K Q)∧(¬ xdH (c::r)→K (a.put o.dst undef) w)
def xxI (a:Act) (o:Oper):Ctx→Prop
 | []=>True
 | (g,want,b)::r=>(a.tmps.getD g undef=.bool want↔xdH ((g,want,b)::r))∧(xdH ((g,want,b)::r)→∀ c∈(g,want,b)::r,a.tmps.getD c.1 undef=.bool c.2.1)∧o.dst≠some g
theorem xxI.vals {o:Oper} {ctx:Ctx} (h:xxI a o ctx) (hc:xdH ctx):∀ c∈ctx,a.tmps.getD c.1 undef=.bool c.2.1:=by
 cases ctx with
 | nil=>intro c hc; cases hc
 | cons c r=>obtain ⟨g,want,b⟩:=c; exact h.2.1 hc
theorem xvl {o:Oper} {ctx:Ctx} {K:Act→World→Prop} {Q:Exit→Act→World→Prop} (h1:xdH ctx→o.wpIn (FR rnd) 0 P a w K Q) (h2:∀ c r,ctx=c::r→¬ xdH ctx→K (a.put o.dst undef) w):Goal rnd P a w o K Q ctx:=by
 cases ctx with
 | nil=>exact h1 (fun c hc=>by cases hc)
 | cons c r=>exact ⟨h1,h2 c r rfl⟩
theorem xiS (hS:xaH E n N D s a) {o:Oper} (hd:∀ d,o.dst=some d→d<N∧∀ t g want v,s t=.when g want v→g≠d) {ctx:Ctx} (hctx:xxI a o ctx) {v:AV} (hl:AV.lt n v) :
  (xdH ctx→xaH E n N D (Sy.put s o.dst (xiK ctx v)) (a.put o.dst (v.den E)))∧(∀ c r,ctx=c::r→¬ xdH ctx→xaH E n N D (Sy.put s o.dst (xiK ctx v)) (a.put o.dst undef)):=by
 cases ctx with
 | nil=>exact ⟨fun _=>hS.put hd ⟨rfl,hl⟩,fun c r e=>by cases e⟩
 | cons c r =>
  obtain ⟨g,want,b⟩:=c
  exact ⟨fun hc=>hS.put hd ⟨hl,hctx.2.2,fun _=>rfl,fun hn=>absurd (hctx.1.2 hc) hn⟩,fun c r _ hc=>hS.put hd ⟨hl,hctx.2.2,fun he=>absurd (hctx.1.1 he) hc,fun _=>rfl⟩⟩
def Does (rnd:Option Nat) (P:Program) (E:Env) (objs:List Obj) (K0:Nat) (a:Act) (w:World) (o:Oper) (x:Eff):Prop :=
 x.holds→∀ (K:Act→World→Prop) (Q:Exit→Act→World→Prop),(∀ E' w',xe0 E objs w K0 x E' w'→K (a.put o.dst (x.v.den E')) w')→o.wpIn (FR rnd) 0 P a w K Q
theorem xse {objs:List Obj} {K0:Nat} {o:Oper} {x:Eff} (ho:∀ c,o.op≠.defer c) (h:OpOk P E objs w K0 a.eval o x):Does rnd P E objs K0 a w o x:=by
 intro hp K Q hK
 obtain ⟨E',w',nx,hr,hv,he⟩:=h hp
 exact xht ho hr hv (hK E' w' he)
theorem xjF {objs:List Obj} {K0:Nat} {o:Oper} {x:Eff} {f:FuncId} {args:Array Value} (hE:∀ k,(E k).oneCell'=true) (ho:∀ c,o.op≠.defer c) (hr:(execOp a.eval o).run P w=.ok (.enter f args) w) (hw:xgo K0 x)
  (h:x.holds→Calls P f args w fun e w'=>∃ E',e=.returned (x.v.den E')∧xnE E w K0 x E' w' fun b=>∃ o'∈objs,Inn E w o'.key o'.body b):Does rnd P E objs K0 a w o x:=by
 intro hp K Q hK
 refine xh2 ho hr ((h hp).mono fun e w' ⟨E',he,hg⟩=>⟨_,he,?_⟩)
 obtain ⟨h1,h2⟩:=hg.effOk (objs:=objs) hE hw fun _ h=>h
 rw [← h2]
 exact hK _ _ h1
theorem xtI {x:Eff} (h:x.pure=true):x.rm=[]∧x.add=[]∧x.nk=0:=by
 unfold Eff.pure at h
 rw [Bool.and_eq_true,Bool.and_eq_true] at h
 exact ⟨by simpa using h.1.1,by simpa using h.1.2,Nat.eq_of_beq_eq_true h.2⟩
theorem xmj {α:Type} {ctx:Ctx} {p:Option Prop} {t:Tree α} {Q:α→Prop} (h:(xtV ctx p t).holds Q):(∀ q,p=some q→xur ctx q)∧t.holds Q:=by
 cases p with
 | none=>exact ⟨fun q hq=>by (cases hq),h⟩
 | some p=>exact ⟨fun q hq=>by (cases hq; exact h.1),h.2⟩
theorem xld (hS:xaH E H.next N D s a) (hH:xah X E w0 H w) {o:Oper} (hd:∀ d,o.dst=some d→d<N∧∀ t g want v,s t=.when g want v→g≠d)
  {ctx:Ctx} (hctx:xxI a o ctx) (hch:xmE a ctx.reverse) {x:Eff} (hwf:xdk H.next H.objs H.next x) (hr:xdH ctx→Does rnd P E H.objs H.next a w o x) {K:Act→World→Prop} {Q:Exit→Act→World→Prop}
  (h:(xq6 s H o.dst ctx x).holds (Post X w0 E H N D K)):Goal rnd P a w o K Q ctx:=by
 have hd':∀ s':xaS,(∀ u g w v,s' u=.when g w v→s u=.when g w v)→∀ d,o.dst=some d→d<N∧∀ t g want v,s' t=.when g want v→g≠d:=fun s' hw d hdd=>⟨(hd d hdd).1,fun t g want v ht=>(hd d hdd).2 t g want v (hw t g want v ht)⟩
 have skip:∀ s':xaS,xaH E H.next N D s' a→(∀ u g w v,s' u=.when g w v→s u=.when g w v)→(Post X w0 E H N D K (Sy.put s' o.dst (.is (.val undef)),H))→K (a.put o.dst undef) w:=fun s' hS' hw hp =>
  hp E _ w (fun _ _=>rfl) (hS'.put (hd' s' hw) ⟨rfl,trivial⟩) hH (Nat.le_refl _) (Old.refl _)
 have hfr:∀ o∈H.objs,(o.key<H.next∨H.next+x.nk≤o.key)∧xa7 (fun k=>k<H.next∨H.next+x.nk≤k) o.body:=fun o ho=>⟨.inl (hH.lt o ho).1,xaU (fun k hk=>.inl hk) (hH.lt o ho).2⟩
 unfold xq6 at h
 split at h
 ·rename_i hpure
  obtain ⟨hn1,h⟩:=xmj h
  obtain ⟨e1,e2,e3⟩:=xtI hpure
  have hl:AV.lt H.next x.v:=xdU (fun k hk=>by rw [e3] at hk; show k<H.next; omega) _ hwf.val
  obtain ⟨p1,p2⟩:=xiS hS hd hctx hl
  refine xvl (fun hc=>?_) (fun c r e hc=>h E _ w (fun _ _=>rfl) (p2 c r e hc) hH (Nat.le_refl _) (Old.refl _))
  refine hr hc ?_ K Q fun E' w' he=>?_
  ·unfold Eff.holds
   cases hp:x.p with
   | none=>trivial
   | some p=>exact xqW (hn1 p hp) hc
  ·have hE:∀ k,E' k=E k:=fun k=>he.agree k (by omega)
   have hH2:=hH.effAt hwf he hfr (Nat.le_refl _) (by omega)
   have:xeB x H.objs=H.objs:=by simp [xeB,e1,e2]
   rw [this] at hH2
   have hEE:E'=E:=funext hE
   subst hEE
   exact h E' _ w' (fun _ _=>rfl) (p1 hc) hH2 (Nat.le_refl _) (Old.refl _)
 ·have go:∀ s':xaS,xaH E H.next N D s' a→(∀ u g w v,s' u=.when g w v→s u=.when g w v)→(xtV [] x.p (.ret (Sy.put s' o.dst (.is x.v),H.eff x))).holds (Post X w0 E H N D K)→xdH ctx→o.wpIn (FR rnd) 0 P a w K Q:=fun s' hS' hw hp hb=>by
   obtain ⟨hn1,hp⟩:=xmj hp
   refine hr hb ?_ K Q fun E' w' he=>?_
   ·unfold Eff.holds
    cases hp:x.p with
    | none=>trivial
    | some p=>exact hn1 p hp
   ·have hH2:=hH.effAt hwf he hfr (n':=H.next+x.nk) (by omega) (Nat.le_refl _)
    have hE:∀ k,k<H.next→E' k=E k:=fun k hk=>he.agree k (.inl hk)
    refine hp E' _ w' hE ((hS'.env hE (by simp [Heap.eff])).put (hd' s' hw) ⟨rfl,xdU (fun k hk=>by show k<H.next+x.nk; omega) _ hwf.val⟩) hH2 (by simp [Heap.eff]) (Old.eff hwf.ver)
  cases ctx with
  | nil=>exact go s hS (fun _ _ _ _ h=>h) h (fun c hc=>by cases hc)
  | cons c r =>
   obtain ⟨b1,b2⟩:=xnA _ s hS hch h
   refine ⟨fun hb=>?_,fun hb=>?_⟩
   ·obtain ⟨s',q1,q2,q3⟩:=b1 (xd8.2 hb)
    exact go s' q1 q2 q3 hb
   ·obtain ⟨s',q1,q2,q3⟩:=b2 (fun hc=>hb (xd8.1 hc))
    exact skip s' q1 q2 q3
theorem xeg (h:xaH E n N D s a) {ctx:Ctx} (hctx:∀ c∈ctx,a.tmps.getD c.1 undef=.bool c.2.1) {c:Operand} {side:Bool} (hc:∀ t,c=.tmp t→a.tmps.getD t undef=.bool side):∀ x v,xe7 ctx s c side x=some v→a.eval x=v.den E∧AV.lt n v:=by
 intro x v hx
 cases x with
 | tmp t =>
  simp only [xe7] at hx
  have:=h.ok t
  split at hx
  ·rename_i v' hs
   cases hx
   rw [hs] at this
   exact this
  ·rename_i g want v' hs
   rw [hs] at this
   split at hx
   ·rename_i hcc
    cases hx
    exact ⟨this.2.1 (xzn hctx hcc),this.1⟩
   ·split at hx
    ·rename_i g'
     split at hx
     ·rename_i hcc
      cases hx
      rw [Bool.and_eq_true] at hcc
      have hg:g=g':=Nat.eq_of_beq_eq_true hcc.1
      have hw:want=side:=by simpa using hcc.2
      subst hg; subst hw
      exact ⟨this.2.1 (hc _ rfl),this.1⟩
     ·cases hx
    ·cases hx
  ·cases hx
 | const k=>cases hx; exact ⟨(xgG E k).symm,xfI _ k⟩
 | global g=>cases hx; exact ⟨rfl,trivial⟩
 | func f=>cases hx; exact ⟨rfl,trivial,trivial⟩
theorem xpA {b:Bool} {x:Operand} (h:xxg b x=true):x=.const (.bool b):=by
 unfold xxg at h
 split at h
 ·rename_i b'; have:b'=b:=by simpa using h
  rw [this]
 ·cases h
theorem xwI {v u:AV} (h:xvI v=some u):u=v∧∃ b,v.weak=.bool b:=by
 unfold xvI at h
 split at h
 ·cases h; exact ⟨rfl,_,rfl⟩
 ·cases h; exact ⟨rfl,_,rfl⟩
 ·cases h
theorem xtK (h:xaH E n N D s a) {ctx:Ctx} (hctx:∀ c∈ctx,a.tmps.getD c.1 undef=.bool c.2.1) {c x y:Operand} {v:AV} (hp:xtL ctx s c x y=some v):∃ cb,a.eval c=.bool cb∧(if cb then a.eval x else a.eval y)=v.den E∧AV.lt n v:=by
 unfold xtL at hp
 split at hp
 ·rename_i k h1
  have hc:a.eval c=.bool k:=(xgv h ctx hctx c _ h1).1
  have hct:∀ t,c=.tmp t→a.tmps.getD t undef=.bool k:=fun t ht=>by subst ht; exact hc
  refine ⟨k,hc,?_⟩
  cases k with
  | true =>
   simp only [] at hp
   cases hs:xe7 ctx s c true x with
   | none=>rw [hs] at hp; cases hp
   | some u =>
    rw [hs] at hp
    obtain ⟨rfl,_⟩:=xwI hp
    exact xeg h hctx (side:=true) hct x _ hs
  | false =>
   simp only [] at hp
   cases hs:xe7 ctx s c false y with
   | none=>rw [hs] at hp; cases hp
   | some u =>
    rw [hs] at hp
    obtain ⟨rfl,_⟩:=xwI hp
    exact xeg h hctx (side:=false) hct y _ hs
 ·rename_i cb h1
  split at hp
  case h_2=>cases hp
  rename_i xb yb h2 h3
  have hc:=(xgv h ctx hctx c _ h1).1
  refine ⟨cb,hc,?_⟩
  have hct:∀ t,c=.tmp t→a.tmps.getD t undef=.bool cb:=fun t ht=>by subst ht; exact hc
  have wk:∀ {o:Option AV} {b:Bool},o.map AV.weak=some (.bool b)→∃ u,o=some u∧u.den E=.bool b:=by
   intro o b ho
   cases o with
   | none=>cases ho
   | some u =>
    have ho:u.weak=.bool b:=Option.some.inj ho
    exact ⟨u,rfl,by rw [← xgd,ho]; rfl⟩
  obtain ⟨ux,hux,dux⟩:=wk h2
  obtain ⟨uy,huy,duy⟩:=wk h3
  have hx:cb=true→a.eval x=.bool xb:=fun hb=>by rw [(xeg h hctx (side:=true) (fun t ht=>by rw [hct t ht,hb]) x _ hux).1,dux]
  have hy:cb=false→a.eval y=.bool yb:=fun hb=>by rw [(xeg h hctx (side:=false) (fun t ht=>by rw [hct t ht,hb]) y _ huy).1,duy]
  split at hp
  ·rename_i hl
   cases hp
   have:=xpA hl
   cases cb
   ·exact ⟨by simp [hy rfl,AV.den],trivial⟩
   ·exact ⟨by subst this; rfl,trivial⟩
  ·split at hp
   ·rename_i hl
    cases hp
    have:=xpA hl
    cases cb
    ·exact ⟨by subst this; rfl,trivial⟩
    ·exact ⟨by simp [hx rfl,AV.den],trivial⟩
   ·cases hp
    cases cb
    ·exact ⟨by simp [hy rfl,AV.den],trivial⟩
    ·exact ⟨by simp [hx rfl,AV.den],trivial⟩
 ·cases hp
theorem xyE {b:Bool} {o:Option AV} (h:litV b o=true):o=some (.val (.bool b)):=by
 unfold litV at h
 split at h
 ·rename_i b'
  have:b'=b:=by simpa using h
  rw [this]
 ·cases h
theorem xqp (h:xaH E n N D s a) {ctx:Ctx} (hctx:∀ c∈ctx,a.tmps.getD c.1 undef=.bool c.2.1) {c x y:Operand} {v:AV} (hp:xsL ctx s c x y=some v):∃ cb,a.eval c=.bool cb∧(if cb then a.eval x else a.eval y)=v.den E∧AV.lt n v:=by
 unfold xsL at hp
 split at hp
 ·rename_i w hw
  cases hp
  unfold xxU at hw
  split at hw
  case h_2=>cases hw
  rename_i cb h1
  have hc:=(xgv h ctx hctx c _ h1).1
  have hct:∀ t,c=.tmp t→a.tmps.getD t undef=.bool cb:=fun t ht=>by subst ht; exact hc
  refine ⟨cb,hc,?_,trivial⟩
  split at hw
  ·rename_i hq
   cases hw
   rw [Bool.and_eq_true] at hq
   have e1:=xpA hq.1
   have e2:=xyE hq.2
   cases cb with
   | true=>exact (xeg h hctx (side:=true) hct x _ e2).1
   | false=>subst e1; rfl
  ·split at hw
   ·rename_i hq
    cases hw
    rw [Bool.and_eq_true] at hq
    have e1:=xpA hq.1
    have e2:=xyE hq.2
    cases cb with
    | true=>subst e1; rfl
    | false=>exact (xeg h hctx (side:=false) hct y _ e2).1
   ·cases hw
 ·exact xtK h hctx hp
theorem xz0 (h:xaH E n N D s a) (ctx:Ctx):∀ x v,readS ctx s x=some v→AV.lt n v:=by
 intro x v hx
 cases x with
 | tmp t =>
  simp only [readS] at hx
  have:=h.ok t
  split at hx
  ·rename_i v' hs; cases hx; rw [hs] at this; exact this.2
  ·rename_i g want v' hs
   rw [hs] at this
   split at hx
   ·cases hx; exact this.1
   ·cases hx
  ·cases hx
 | const c=>cases hx; exact xfI _ c
 | global g=>cases hx; trivial
 | func f=>cases hx; exact ⟨trivial,trivial⟩
theorem xw5 {ctx:Ctx} {s:xaS} {c a b:Operand} {v:AV} (h:xsL ctx s c a b=some v) (n:Nat):AV.lt n v:=by
 unfold xsL at h
 split at h
 ·cases h; trivial
 have key:∀ {o:Option AV},o.bind xvI=some v→AV.lt n v:=by
  intro o ho
  cases o with
  | none=>cases ho
  | some u =>
   have ho:xvI u=some v:=ho
   unfold xvI at ho
   split at ho<;>first | (cases ho; trivial) | cases ho
 unfold xtL at h
 split at h
 ·rename_i k _
  cases k
  ·exact key h
  ·exact key h
 ·split at h
  ·split at h
   ·cases h; trivial
   ·split at h<;>(cases h; trivial)
  ·cases h
 ·cases h
theorem xnP {o:Oper} {f:Operand} {args:Array Operand} {ts:Array TypeId} (ho:o.op=.call { callee:=.value f,args:=args,argTypes:=ts }) {fi:FuncId} {first caps vs:List AV}
  (hf:a.eval f=(AV.fn (.func fi) first caps).den E) (hargs:args.toList.map a.eval=AV.denL E vs) (hfun:xdE P fi) :
  (execOp a.eval o).run P w=.ok (.enter fi (AV.denL E (first++vs++caps)).toArray) w:=by
 obtain ⟨fn,h1,h2,h3⟩:=hfun
 have h4:fn.body.isNone=false:=by cases hb:fn.body with
  | none=>rw [hb] at h3; cases h3
  | some _=>rfl
 have e1:(args.map a.eval)=(AV.denL E vs).toArray:=by apply Array.ext'; rw [Array.toList_map]; exact hargs
 simp only [execOp,ho,resolve,hf,AV.den,Deferred.ofValue,Sem.run_bind,Sem.run_pure,Result.andThen_ok,invoke,callFunc,run_program,h1,e1,h4]
 have h5:(fn.name == "runtime.NumGoroutine")=false:=by simpa using h2
 simp only [h5,Bool.false_eq_true,if_false,Sem.run_pure]
 congr 2
 simp [xar]
theorem xv3 {o:Oper} {c x y:Operand} {cb:Bool} (ho:o.op=.pick c x y) (hc:a.eval c=.bool cb) :
  (execOp a.eval o).run P w=.ok (.value (if cb then a.eval x else a.eval y)) w:=by
 simp only [execOp,ho,hc,asBool,Sem.run_bind,Sem.run_pure,Result.andThen_ok]
theorem xuV {o:Oper} {f:Operand} {args:Array Operand} {ts:Array TypeId} (ho:o.op=.call { callee:=.value f,args:=args,argTypes:=ts }) {key:Nat} {vs:List AV}
  (hf:a.eval f=(AV.yl key).den E) (hargs:args.toList.map a.eval=AV.denL E vs) {nx:Next} {w':World} (hy:(Instr.yield (blk (E key)) (AV.denL E vs).toArray).run P w=.ok nx w') :
  (execOp a.eval o).run P w=.ok nx w':=by
 have e1:(args.map a.eval)=(AV.denL E vs).toArray:=by apply Array.ext'; rw [Array.toList_map]; exact hargs
 simp only [execOp,ho,resolve,hf,AV.den,Deferred.ofValue,Sem.run_bind,Sem.run_pure,Result.andThen_ok,invoke,e1]
 simpa using hy
theorem xvF (hΓ:xbh P Γ) (hcall:xih P call) (hk:xft P call) {f:FuncId} {args:List AV} {x:Eff} (h:xAv P Γ call f args H.objs H.next=some x) (hH:xah X E w0 H w) (hargs:AV.ltL H.next args) :
  xdE P f∧xgo H.next x∧(x.holds→Calls P f (AV.denL E args).toArray w fun e w'=>∃ E',e=.returned (x.v.den E')∧xnE E w H.next x E' w' fun b=>∃ o'∈H.objs,Inn E w o'.key o'.body b):=by
 unfold xAv at h
 split at h
 ·rename_i ft y hc
  cases h
  exact xq4 hΓ (n:=H.next) hH hargs hc
 ·split at h
  ·cases h
  obtain ⟨h1,h2⟩:=xnu hcall h hH hargs
  exact ⟨hk f args _ fun e=>(by rw [e] at h; cases h),h1,fun hp=>(h2 hp).mono fun e w' ⟨E',he,hg⟩=>⟨E',he,hg.mono fun _ h=>h.elim⟩⟩
theorem xiP (w:World) (bo:BinOp) (t:TypeId) (x y:Operand) (a a':Option Addr) (n c n' c':Nat):(eqGuard bo t x y (.slice a n c) (.slice a' n' c')).run P w=.ok () w:=by
 unfold eqGuard
 split<;>rfl
theorem xnO (w:World) (t e:TypeId) (a:Option Addr) (n c n' c':Nat) (h:P.underlying t=some (.slice e)) :
  (binOp .neq t (.slice a n c) (.slice none n' c')).run P w=.ok (.bool !a.isNone) w:=by
 simp only [binOp]
 simp [Op.equal,Op.maxDepth,Lib.run_equalIn_slice_nil w 9999 t e a n c n' c' h]
theorem xu4 {rd:Operand→Option AV} {objs:List Obj} {bo:BinOp} {t:TypeId} {x y:Operand} {p:Prop} {v:Bool} (h:xyu P rd objs bo t x y=some (p,v)) :
  ∃ key te,∃ o:Obj,∃ e ks l,rd x=some (.sl key)∧rd y=some (.val (.slice none 0 0))∧P.underlying t=some (.slice te)∧o∈objs∧o.key=key∧xdG P o.body=some (e,ks,l)∧p=(l=[])∧ks.length≠0∧((bo=.eql∧v=true)∨(bo=.neq∧v=false)):=by
 unfold xyu at h
 split at h
 case h_2=>cases h
 rename_i b te hb hu
 split at h
 case isFalse=>cases h
 rename_i hy
 split at h
 case h_2=>cases h
 rename_i key hx
 split at h
 case h_2=>cases h
 rename_i o hf
 split at h
 case h_2=>cases h
 rename_i e k0 ks l hr
 cases h
 obtain ⟨hm,hk⟩:=xaj hf
 refine ⟨key,te,o,e,k0::ks,l,hx,?_,hu,hm,hk,hr,rfl,by simp,?_⟩
 ·unfold xAZ at hy
  split at hy
  ·assumption
  ·cases hy
 ·cases bo<;>simp at hb<;>simp [← hb]
theorem xsD {own:Bool} {e:TypeId} {ks:List CK} {v:Value} {l:List (List Int)} {c:Nat} (hr:xaY w own e ks.length v l.length (rowV ks l)) (hv:v=.slice none l.length c) (hk:ks.length≠0):∀ a r,l≠a::r:=by
 intro a r hl
 ·have hpos:0<(rowV ks l).length:=by rw [xaT,hl]; exact Nat.mul_pos (by simp) (by omega)
  obtain ⟨a0,h0,_⟩:=hr.reads.cell 0 ((rowV ks l)[0]'hpos) (List.getElem?_eq_getElem hpos)
  rw [hv] at h0
  cases h0
theorem xl8 (hΓ:xbh P Γ) (hcall:xih P call) (hk:xft P call) (hyld:xuI P yld)
  (hS:xaH E H.next N D s a) (hH:xah X E w0 H w) {o:Oper} (hd:∀ d,o.dst=some d→d<N∧∀ t g want v,s t=.when g want v→g≠d)
  {ctx:Ctx} (hctx:xxI a o ctx) (hch:xmE a ctx.reverse) {K:Act→World→Prop} {Q:Exit→Act→World→Prop}
  (h:(xrm P Γ call yld o s H ctx).holds (Post X w0 E H N D K)):Goal rnd P a w o K Q ctx:=by
 have hrd:xdH ctx→∀ x v,readS ctx s x=some v→a.eval x=v.den E∧AV.lt H.next v:=fun hb=>xgv hS ctx (hctx.vals hb)
 have hrl:=xz0 hS ctx
 have hd':∀ s':xaS,(∀ u g w v,s' u=.when g w v→s u=.when g w v)→∀ d,o.dst=some d→d<N∧∀ t g want v,s' t=.when g want v→g≠d:=fun s' hw d hdd=>⟨(hd d hdd).1,fun t g want v ht=>(hd d hdd).2 t g want v (hw t g want v ht)⟩
 have skip:∀ s':xaS,xaH E H.next N D s' a→(∀ u g w v,s' u=.when g w v→s u=.when g w v)→(Post X w0 E H N D K (Sy.put s' o.dst (.is (.val undef)),H))→K (a.put o.dst undef) w:=fun s' hS' hw hp =>
  hp E _ w (fun _ _=>rfl) (hS'.put (hd' s' hw) ⟨rfl,trivial⟩) hH (Nat.le_refl _) (Old.refl _)
 unfold xrm at h
 simp only [] at h
 split at h
 ·-- pick
  rename_i c x y hop
  split at h
  ·rename_i v hv
   have hl:AV.lt H.next v:=xw5 hv _
   obtain ⟨p1,p2⟩:=xiS hS hd hctx hl
   refine xvl (fun hc=>?_) (fun c r e hc=>h E _ w (fun _ _=>rfl) (p2 c r e hc) hH (Nat.le_refl _) (Old.refl _))
   obtain ⟨cb,hcv,hval,_⟩:=xqp hS (hctx.vals hc) hv
   refine xht (fun c e=>by rw [hop] at e; cases e) (xv3 hop hcv) (.inl rfl) ?_
   rw [hval]
   exact h E _ w (fun _ _=>rfl) (p1 hc) hH (Nat.le_refl _) (Old.refl _)
  ·exact h.elim
 ·-- call
  rename_i f args ts hop
  have hnd:∀ c,o.op≠.defer c:=fun c e=>by rw [hop] at e; cases e
  split at h
  ·rename_i fi first caps vs hf hvs
   have hfl:=hrl _ _ hf
   have hvl:AV.ltL H.next vs:=(xen _ _).2 (xkm (Q:=AV.lt H.next) hrl _ _ hvs)
   have hargs:AV.ltL H.next (first++vs++caps):=by
    rw [xen]
    intro v hv
    simp only [List.mem_append] at hv
    rcases hv with (hv | hv) | hv
    ·exact (xen _ _).1 hfl.1 v hv
    ·exact (xen _ _).1 hvl v hv
    ·exact (xen _ _).1 hfl.2 v hv
   have hrun:xdE P fi→xdH ctx→(execOp a.eval o).run P w=.ok (.enter fi (AV.denL E (first++vs++caps)).toArray) w:=fun hfun hb =>
    xnP hop (hrd hb _ _ hf).1 (xfy (fun x v hx=>(hrd hb x v hx).1) _ _ hvs) hfun
   split at h
   ·rename_i x hx
    obtain ⟨h1,h2,h3⟩:=xvD (n:=H.next) hΓ hH hx
    refine xld hS hH hd hctx hch h2 (fun hb=>fun hp K Q hK=>xh2 hnd (hrun h1 hb) ((h3 hp).mono fun e w' ⟨he,hg⟩=>⟨_,he,hK _ _ hg⟩)) h
   split at h
   ·rename_i x hx
    have hx:xAv P Γ call fi (first++vs++caps) H.objs H.next=some x:=by
     unfold xCQ at hx
     split at hx
     ·cases hx
     ·exact hx
    obtain ⟨h1,h2,h3⟩:=xvF hΓ hcall hk hx hH hargs
    exact xld hS hH hd hctx hch h2.eff (fun hb=>xjF hH.env hnd (hrun h1 hb) h2 h3) h
   ·have go:∀ s':xaS,xaH E H.next N D s' a→(∀ u g w v,s' u=.when g w v→s u=.when g w v)→((call fi (first++vs++caps) H).bind fun (x:AV×Heap)=>Tree.ret (Sy.put s' o.dst (.is x.1),x.2)).holds (Post X w0 E H N D K)→xdH ctx→o.wpIn (FR rnd) 0 P a w K Q:=by
     intro s' hS' hw h hb
     have hne:call fi (first++vs++caps) H≠.bad:=fun e=>by rw [e] at h; exact h
     refine xh2 hnd (hrun (hk _ _ _ hne) hb) (hcall X w0 fi _ H E w _ hH hargs (xaM (fun x hx=>?_) (xbw h)))
     intro E' w' hE hH' hlv hle hold
     exact ⟨_,rfl,hx E' _ w' hE ((hS'.env hE hle).put (hd' s' hw) ⟨rfl,hlv⟩) hH' hle hold⟩
    split at h
    ·exact go s hS (fun _ _ _ _ h=>h) h (fun c hc=>by cases hc)
    ·rename_i c r
     obtain ⟨b1,b2⟩:=xnA _ s hS hch h
     refine ⟨fun hb=>?_,fun hb=>?_⟩
     ·obtain ⟨s',q1,q2,q3⟩:=b1 (xd8.2 hb)
      exact go s' q1 q2 q3 hb
     ·obtain ⟨s',q1,q2,q3⟩:=b2 (fun hc=>hb (xd8.1 hc))
      exact skip s' q1 q2 q3
  ·-- a yield
   rename_i key vs hf hvs
   have hfl:key<H.next:=hrl _ _ hf
   have hvl:AV.ltL H.next vs:=(xen _ _).2 (xkm (Q:=AV.lt H.next) hrl _ _ hvs)
   have go:∀ s':xaS,xaH E H.next N D s' a→(∀ u g w v,s' u=.when g w v→s u=.when g w v)→((yld key vs H).bind fun (x:AV×Heap)=>Tree.ret (Sy.put s' o.dst (.is x.1),x.2)).holds (Post X w0 E H N D K)→xdH ctx→o.wpIn (FR rnd) 0 P a w K Q:=by
    intro s' hS' hw h hb
    obtain ⟨fn,tmps,assign,body,hy,hr⟩:=hyld X w0 key vs H E w (fun e w''=>∃ v,e=.returned v∧K (a.put o.dst v) w'') hH hfl hvl (xaM (fun x hx=>by
     intro E' w' hE hH' hlv hle hold
     exact ⟨_,rfl,hx E' _ w' hE ((hS'.env hE hle).put (hd' s' hw) ⟨rfl,hlv⟩) hH' hle hold⟩) (xbw h))
    exact xsM hnd (xuV hop (hrd hb _ _ hf).1 (xfy (fun x v hx=>(hrd hb x v hx).1) _ _ hvs) hy) hr
   split at h
   ·exact go s hS (fun _ _ _ _ h=>h) h (fun c hc=>by cases hc)
   ·rename_i c r
    obtain ⟨b1,b2⟩:=xnA _ s hS hch h
    refine ⟨fun hb=>?_,fun hb=>?_⟩
    ·obtain ⟨s',q1,q2,q3⟩:=b1 (xd8.2 hb)
     exact go s' q1 q2 q3 hb
    ·obtain ⟨s',q1,q2,q3⟩:=b2 (fun hc=>hb (xd8.1 hc))
     exact skip s' q1 q2 q3
  ·exact h.elim
 ·-- all else
  split at h
  ·rename_i x hx
   have hfr:∀ o∈H.objs,o.key≠H.next∧xa7 (fun k=>k≠H.next) o.body:=fun o ho=>⟨by have:=(hH.lt o ho).1; omega,xaU (fun k hk=>by omega) (hH.lt o ho).2⟩
   have hwf:=(xAx (P:=P) hH hrl (Nat.le_refl _) o.op hx (fun _=>hfr)).1
   have hnd:∀ c,o.op≠.defer c:=fun c e=>by
    rw [e] at hx
    unfold xmC at hx
    simp [xfk] at hx
   exact xld hS hH hd hctx hch hwf (fun hb=>xse hnd (xhR hH (hrd hb) (Nat.le_refl _) o hx (fun _=>hfr)).2.1) h
  ·split at h
   ·rename_i bo t x y yt hop
    split at h
    ·rename_i p v hn
     obtain ⟨key,te,ok,e,ks,l,n1,n2,n3,n4,n5,n6,n7,n9,n8⟩:=xu4 hn
     have hnd:∀ c,o.op≠.defer c:=fun c e=>by rw [hop] at e; cases e
     obtain ⟨aa,c,hv,hlc,_⟩:=(xbz n6 (hH.objs _ n4)).reads.is
     rw [n5] at hv
     have hempty:aa=none→p:=by
      rintro rfl
      rw [n7]
      cases hl:l with
      | nil=>rfl
      | cons e0 r0=>exact absurd hl (xsD (xbz n6 (hH.objs _ n4)) (by rw [n5]; exact hv) n9 _ _)
     have hrun:xdH ctx→(execOp a.eval o).run P w=.ok (.value (.bool (if aa.isNone then v else !v))) w:=by
      intro hc
      have h1:=(hrd hc x _ n1).1
      have h2:=(hrd hc y _ n2).1
      simp only [AV.den] at h1 h2
      rw [hv] at h1
      rcases n8 with ⟨rfl,rfl⟩ | ⟨rfl,rfl⟩
      ·simp only [execOp,hop,h1,h2,Sem.run_bind,xiP,Lib.run_eql_slice_nil w t te aa l.length c 0 0 n3,Result.andThen_ok,Sem.run_pure]
       cases aa<;>rfl
      ·simp only [execOp,hop,h1,h2,Sem.run_bind,xiP,xnO w t te aa l.length c 0 0 n3,Result.andThen_ok,Sem.run_pure]
       cases aa<;>rfl
     have hl:∀ u:Bool,AV.lt H.next (.val (.bool u)):=fun _=>trivial
     have side:∀ u:Bool,(Tree.ret (Sy.put s o.dst (xiK ctx (.val (.bool u))),H)).holds (Post X w0 E H N D K)→(xdH ctx→(execOp a.eval o).run P w=.ok (.value (.bool u)) w)→Goal rnd P a w o K Q ctx:=by
      intro u h hr
      obtain ⟨p1,p2⟩:=xiS hS hd hctx (hl u)
      refine xvl (fun hc=>?_) (fun c r e hc=>h E _ w (fun _ _=>rfl) (p2 c r e hc) hH (Nat.le_refl _) (Old.refl _))
      exact xht hnd (hr hc) (.inl rfl) (h E _ w (fun _ _=>rfl) (p1 hc) hH (Nat.le_refl _) (Old.refl _))
     cases haa:aa with
     | none=>exact side v (h.1 (hempty haa)) (fun hc=>by rw [hrun hc,haa]; rfl)
     | some a0=>exact side (!v) h.2 (fun hc=>by rw [hrun hc,haa]; rfl)
    ·exact h.elim
   ·exact h.elim
theorem xoU {ops:Array Oper} {o:Oper} (h:xmq ops o=some none):o.guard=none:=by
 unfold xmq at h
 split at h
 ·assumption
 ·split at h
  ·split at h<;>cases h
  ·cases h
theorem xoT {ops:Array Oper} {o:Oper} {g:Nat} {want:Bool} (h:xmq ops o=some (some (g,want))):∃ j oj,o.guard=some (j,want)∧ops[j]?=some oj∧oj.dst=some g:=by
 unfold xmq at h
 split at h
 ·cases h
 ·rename_i j want' hg
  split at h
  ·rename_i oj hj
   split at h
   ·rename_i d hd
    cases h
    exact ⟨j,oj,hg,hj,hd⟩
   ·cases h
  ·cases h
theorem xnG {ops:Array Oper} {a:Act} {j g:Nat} {oj:Oper} {b:Bool} (hj:ops[j]?=some oj) (hd:oj.dst=some g) (hb:a.tmps.getD g undef=.bool b):yielded ops a.tmps j=some b:=by
 unfold yielded
 have hg:a.tmps[g]?=some (.bool b):=by
  rw [Array.getD_eq_getD_getElem?] at hb
  cases ht:a.tmps[g]? with
  | none=>rw [ht] at hb; cases hb
  | some v=>rw [ht] at hb; simp at hb; rw [hb]
 simp [hj,hd,hg]
end
end
end Go.Sy
set_option linter.unusedVariables false
namespace Go.Sy
open Go.RowKit
section
variable {P:Program} {X:List (Nat×Go.Obj)} {w0 w:World} {base:Nat}
structure MExt (m m':MS):Prop where
 us:∃ r,m'.us=r++m.us
 km:∀ k u,xgR k m.km=some u→xgR k m'.km=some u
theorem MExt.refl (m:MS):MExt m m:=⟨⟨[],rfl⟩,fun _ _ h=>h⟩
theorem MExt.trans {a b c:MS} (h:MExt a b) (k:MExt b c):MExt a c:=by
 obtain ⟨r,hr⟩:=h.us
 obtain ⟨s,hs⟩:=k.us
 exact ⟨⟨s++r,by rw [hs,hr,List.append_assoc]⟩,fun x u hx=>k.km x u (h.km x u hx)⟩
def Pre (us:List U) (xs:List U):Prop:=∃ t,xs=us.reverse++t
theorem Pre.of_ext {m m':MS} {xs:List U} (h:MExt m m') (hp:Pre m'.us xs):Pre m.us xs:=by
 obtain ⟨r,hr⟩:=h.us
 obtain ⟨t,ht⟩:=hp
 exact ⟨r.reverse++t,by rw [ht,hr]; simp⟩
theorem Pre.get {u:U} {us xs:List U} (h:Pre (u::us) xs):xs[us.length]?=some u:=by
 obtain ⟨t,rfl⟩:=h
 simp
structure KEnv (base:Nat) (E1 E2:Env) (km:List (Nat×Option Nat)):Prop where
 old:∀ k,k<base→E2 k=E1 k
 new:∀ k u,xgR k km=some u→E2 k=xdz E1 u
theorem KEnv.of_ext {E1 E2:Env} {m m':MS} (h:MExt m m') (hk:KEnv base E1 E2 m'.km):KEnv base E1 E2 m.km:=⟨hk.old,fun k u hu=>hk.new k u (h.km k u hu)⟩
def xrL (base:Nat) (km:List (Nat×Option Nat)) (k:Nat):Prop:=k<base∨∃ u,xgR k km=some u
theorem xiX {m m':MS} (h:MExt m m') {k:Nat} (hk:xrL base m.km k):xrL base m'.km k:=hk.imp id fun ⟨u,hu⟩=>⟨u,h.km k u hu⟩
theorem xsm {k:Nat} {v:Option Nat} {m m':MS} (h:addK k v m=some m'):MExt m m'∧xgR k m'.km=some v∧m'.us=m.us:=by
 unfold addK at h
 split at h
 ·rename_i hn
  cases h
  refine ⟨⟨⟨[],rfl⟩,fun k' u hu=>?_⟩,by simp [xgR,xcM],rfl⟩
  by_cases hk:k'=k
  ·subst hk; rw [hn] at hu; cases hu
  ·simp only [xgR,xhQ hk]; exact hu
 ·rename_i u hu
  split at h
  ·rename_i he
   cases h
   exact ⟨MExt.refl _,by rw [hu,he],rfl⟩
  ·cases h
theorem xzT {a b:Value} (h:xzU a b=true):a=b:=by
 unfold xzU at h
 split at h
 ·rename_i x y; have e:x=y:=by simpa using h
  rw [e]
 ·rename_i k x k' y
  split at h
  ·rename_i hk
   subst hk
   rw [of_decide_eq_true h]
  ·cases h
 ·rfl
 ·rfl
 ·rfl
 ·rfl
 ·rfl
 ·cases h
structure xDY (base:Nat) (s v:AV) (m m':MS):Prop where
 ext:MExt m m'
 fill:∀ xs,Pre m'.us xs→(xeA xs s m.us.length).2=m'.us.length∧(∀ E1 E2,KEnv base E1 E2 m'.km→(xeA xs s m.us.length).1.den E2=v.den E1)∧AV.all (xrL base m'.km) (xeA xs s m.us.length).1∧(xeA xs s m.us.length).1.scalar=v.scalar
structure xDZ (base:Nat) (s v:List AV) (m m':MS):Prop where
 ext:MExt m m'
 fill:∀ xs,Pre m'.us xs→(xcl xs s m.us.length).2=m'.us.length∧(∀ E1 E2,KEnv base E1 E2 m'.km→AV.denL E2 (xcl xs s m.us.length).1=AV.denL E1 v)∧AV.allL (xrL base m'.km) (xcl xs s m.us.length).1∧(xcl xs s m.us.length).1.length=v.length∧(xcl xs s m.us.length).1.all AV.scalar=v.all AV.scalar
theorem xpM (v:AV):v.weak.scalar=v.scalar:=by
 cases v with
 | val x=>cases x<;>rfl
 | _=>rfl
mutual
theorem xoO:∀ (s v:AV) (m m':MS),xdN base s v m=some m'→xDY base s v m m'
 | .bool b,v,m,m',h=>by
  unfold xdN at h
  split at h
  ·rename_i b' hw
   cases h
   refine ⟨⟨⟨[.b b'],rfl⟩,fun _ _ h=>h⟩,fun xs hp=>⟨by simp [xeA],fun E1 E2 _=>?_,trivial,?_⟩⟩
   ·have:=hp.get
    simp only [xeA,AV.den,gb,this]
    rw [← xgd E1 v,hw]; rfl
   ·rw [← xpM v,hw]; rfl
  ·cases h
 | .int k b,v,m,m',h=>by
  unfold xdN at h
  split at h
  ·rename_i k' n hw
   split at h
   ·rename_i hk
    subst hk
    cases h
    refine ⟨⟨⟨[.i n],rfl⟩,fun _ _ h=>h⟩,fun xs hp=>⟨by simp [xeA],fun E1 E2 _=>?_,trivial,?_⟩⟩
    ·have:=hp.get
     simp only [xeA,AV.den,gi,this]
     rw [← xgd E1 v,hw]; rfl
    ·rw [← xpM v,hw]; rfl
   ·cases h
  ·cases h
 | .val c,v,m,m',h=>by
  cases v with
  | val c' =>
   unfold xdN at h
   split at h
   ·rename_i hc
    cases h
    have:=xzT hc
    subst this
    exact ⟨MExt.refl _,fun xs _=>⟨rfl,fun _ _ _=>rfl,trivial,rfl⟩⟩
   ·cases h
  | _=>simp [xdN] at h
 | .ptr k off,v,m,m',h=>by
  cases v with
  | ptr k' off' =>
   unfold xdN at h
   split at h
   ·rename_i hc
    obtain ⟨rfl,rfl,hk⟩:=hc
    cases h
    exact ⟨MExt.refl _,fun xs _=>⟨rfl,fun E1 E2 he=>by simp [xeA,AV.den,he.old k hk],.inl hk,rfl⟩⟩
   ·cases h
  | _=>simp [xdN] at h
 | .yl k,v,m,m',h=>by
  cases v with
  | yl k' =>
   unfold xdN at h
   split at h
   ·rename_i hc
    obtain ⟨rfl,hk⟩:=hc
    cases h
    exact ⟨MExt.refl _,fun xs _=>⟨rfl,fun E1 E2 he=>by simp [xeA,AV.den,he.old k hk],.inl hk,rfl⟩⟩
   ·cases h
  | _=>simp [xdN] at h
 | .sl k,v,m,m',h=>by
  cases v with
  | sl k' =>
   unfold xdN at h
   split at h
   ·rename_i hk
    have hk:k<base:=by simpa using hk
    split at h
    ·rename_i he
     subst he
     cases h
     exact ⟨MExt.refl _,fun xs _=>⟨rfl,fun E1 E2 he=>he.old k hk,.inl hk,rfl⟩⟩
    ·cases h
   ·obtain ⟨h1,h2,h3⟩:=xsm h
    exact ⟨h1,fun xs _=>⟨by rw [h3]; rfl,fun E1 E2 he=>he.new k _ h2,.inr ⟨_,h2⟩,rfl⟩⟩
  | val c =>
   by_cases hc:c=.slice none 0 0
   ·subst hc
    simp only [xdN] at h
    split at h
    ·cases h
    ·obtain ⟨h1,h2,h3⟩:=xsm h
     exact ⟨h1,fun xs _=>⟨by rw [h3]; rfl,fun E1 E2 he=>he.new _ _ h2,.inr ⟨_,h2⟩,rfl⟩⟩
   ·have e:xdN base (.sl k) (.val c) m=none:=by
     unfold xdN
     split<;>first | rfl | (exfalso; simp only [reduceCtorEq] at *; done) | (exfalso; simp_all; done)
    rw [e] at h; cases h
  | _=>simp [xdN] at h
 | .fn f a b,v,m,m',h=>by
  cases v with
  | fn f' a' b' =>
   unfold xdN at h
   split at h
   ·rename_i hf
    subst hf
    split at h
    ·rename_i m1 h1
     have r1:=xeN a a' m m1 h1
     have r2:=xeN b b' m1 m' h
     refine ⟨r1.ext.trans r2.ext,fun xs hp=>?_⟩
     obtain ⟨a1,a2,a3,a4,a5⟩:=r1.fill xs (hp.of_ext r2.ext)
     obtain ⟨b1,b2,b3,b4,b5⟩:=r2.fill xs hp
     have e:xeA xs (.fn f a b) m.us.length=(.fn f (xcl xs a m.us.length).1 (xcl xs b m1.us.length).1,m'.us.length):=by
      simp only [xeA,a1,b1]
     rw [e]
     refine ⟨rfl,fun E1 E2 he=>?_,⟨xjL (fun k hk=>xiX r2.ext hk) _ a3,b3⟩,rfl⟩
     simp only [AV.den,a2 E1 E2 (he.of_ext r2.ext),b2 E1 E2 he]
    ·cases h
   ·cases h
  | _=>simp [xdN] at h
 | .agg cs,v,m,m',h=>by
  cases v with
  | agg cs' =>
   unfold xdN at h
   have r:=xeN cs cs' m m' h
   refine ⟨r.ext,fun xs hp=>?_⟩
   obtain ⟨a1,a2,a3,a4,a5⟩:=r.fill xs hp
   have e:xeA xs (.agg cs) m.us.length=(.agg (xcl xs cs m.us.length).1,m'.us.length):=by simp only [xeA,a1]
   rw [e]
   exact ⟨rfl,fun E1 E2 he=>by simp only [AV.den,a2 E1 E2 he],a3,rfl⟩
  | _=>simp [xdN] at h
 | .tup cs,v,m,m',h=>by
  cases v with
  | tup cs' =>
   unfold xdN at h
   have r:=xeN cs cs' m m' h
   refine ⟨r.ext,fun xs hp=>?_⟩
   obtain ⟨a1,a2,a3,a4,a5⟩:=r.fill xs hp
   have e:xeA xs (.tup cs) m.us.length=(.tup (xcl xs cs m.us.length).1,m'.us.length):=by simp only [xeA,a1]
   rw [e]
   exact ⟨rfl,fun E1 E2 he=>by simp only [AV.den,a2 E1 E2 he],a3,rfl⟩
  | _=>simp [xdN] at h
 | .ix _ _ _ _ _,v,m,m',h=>by cases v<;>simp [xdN] at h
 | .vw _ _ (some _) _,v,m,m',h=>by cases v<;>simp [xdN] at h
 | .vw k sz none hi0,v,m,m',h=>by
  cases v with
  | vw k' sz' lo hi =>
   cases lo with
   | some _=>simp [xdN] at h
   | none =>
   unfold xdN at h
   split at h
   ·rename_i hc
    obtain ⟨rfl,rfl,hk⟩:=hc
    cases h
    refine ⟨⟨⟨[.i hi],rfl⟩,fun _ _ h=>h⟩,fun xs hp=>⟨by simp [xeA],fun E1 E2 he=>?_,.inl hk,rfl⟩⟩
    have:=hp.get
    simp only [xeA,AV.den,gi,this,he.old k hk]
   ·cases h
  | _=>simp [xdN] at h
theorem xeN:∀ (s v:List AV) (m m':MS),xkE base s v m=some m'→xDZ base s v m m'
 | [],[],m,m',h=>by cases h; exact ⟨MExt.refl _,fun xs _=>⟨rfl,fun _ _ _=>rfl,trivial,rfl,rfl⟩⟩
 | a::r,a'::r',m,m',h=>by
  unfold xkE at h
  split at h
  ·rename_i m1 h1
   have r1:=xoO a a' m m1 h1
   have r2:=xeN r r' m1 m' h
   refine ⟨r1.ext.trans r2.ext,fun xs hp=>?_⟩
   obtain ⟨a1,a2,a3,a5⟩:=r1.fill xs (hp.of_ext r2.ext)
   obtain ⟨b1,b2,b3,b4,b5⟩:=r2.fill xs hp
   have e:xcl xs (a::r) m.us.length=((xeA xs a m.us.length).1::(xcl xs r m1.us.length).1,m'.us.length):=by
    simp only [xcl,a1,b1]
   rw [e]
   refine ⟨rfl,fun E1 E2 he=>?_,⟨xdU (fun k hk=>xiX r2.ext hk) _ a3,b3⟩,by simp [b4],by simp [a5,b5]⟩
   simp only [AV.denL,a2 E1 E2 (he.of_ext r2.ext),b2 E1 E2 he]
  ·cases h
 | [],_::_,_,_,h=>by simp [xkE] at h
 | _::_,[],_,_,h=>by simp [xkE] at h
end
structure xC0 (base:Nat) (s v:List (List AV)) (m m':MS):Prop where
 ext:MExt m m'
 fill:∀ xs,Pre m'.us xs→(xje xs s m.us.length).2=m'.us.length∧(∀ E1 E2,KEnv base E1 E2 m'.km→AV.denL E2 (xje xs s m.us.length).1.flatten=AV.denL E1 v.flatten)∧AV.allL (xrL base m'.km) (xje xs s m.us.length).1.flatten ∧
  (xje xs s m.us.length).1.map List.length=v.map List.length∧(xje xs s m.us.length).1.flatten.all AV.scalar=v.flatten.all AV.scalar
theorem xm2:∀ (s v:List (List AV)) (m m':MS),xn1 base s v m=some m'→xC0 base s v m m'
 | [],[],m,m',h=>by cases h; exact ⟨MExt.refl _,fun xs _=>⟨rfl,fun _ _ _=>rfl,trivial,rfl,rfl⟩⟩
 | a::r,a'::r',m,m',h=>by
  unfold xn1 at h
  split at h
  ·rename_i m1 h1
   have r1:=xeN a a' m m1 h1
   have r2:=xm2 r r' m1 m' h
   refine ⟨r1.ext.trans r2.ext,fun xs hp=>?_⟩
   obtain ⟨a1,a2,a3,a4,a5⟩:=r1.fill xs (hp.of_ext r2.ext)
   obtain ⟨b1,b2,b3,b4,b5⟩:=r2.fill xs hp
   have e:xje xs (a::r) m.us.length=((xcl xs a m.us.length).1::(xje xs r m1.us.length).1,m'.us.length):=by
    simp only [xje,a1,b1]
   rw [e]
   refine ⟨rfl,fun E1 E2 he=>?_,?_,by simp [a4,b4],by simp [a5,b5,List.all_append]⟩
   ·simp only [List.flatten_cons]
    rw [xar,xar,List.map_append,List.map_append,← xar,← xar,← xar,← xar,a2 E1 E2 (he.of_ext r2.ext),b2 E1 E2 he]
   ·simp only [List.flatten_cons]
    rw [xeD] at *
    intro y hy
    rcases List.mem_append.1 hy with hy | hy
    ·exact xdU (fun k hk=>xiX r2.ext hk) _ (a3 y hy)
    ·exact b3 y hy
  ·cases h
 | [],_::_,_,_,h=>by simp [xn1] at h
 | _::_,[],_,_,h=>by simp [xn1] at h
def xCZ (b0 b:Body):Prop:=(∀ e ks l,b=.nst e ks l→b0=.nst e ks l∨l=[])∧∀ kt et q ks l,b=.mq kt et q ks l→b0=.mq kt et q ks l
def xgX (b0 b:Body):Prop:=(xm8 b=true→xm8 b0=true)∧xCZ b0 b
theorem xgX.flat {b0 b:Body} (h:xog b=true):xgX b0 b:=by
 cases b<;>first | (cases h; done) | exact ⟨(fun h=>by cases h),(fun _ _ _ h=>(by cases h)),fun _ _ _ _ _ h=>(by cases h)⟩
theorem xgX.refl (b:Body):xgX b b:=⟨fun h=>h,(fun _ _ _ h=>.inl h),fun _ _ _ _ _ h=>h⟩
theorem xgX.nst {b0:Body} {e:TypeId} {ks:List NK}:xgX b0 (.nst e ks []):=⟨(fun h=>by cases h),(fun _ _ _ h=>by cases h; exact .inr rfl),fun _ _ _ _ _ h=>(by cases h)⟩
structure xCd (P:Program) (base:Nat) (s b:Body) (m m':MS):Prop where
 ext:MExt m m'
 fill:∀ xs,Pre m'.us xs→(xgc xs s m.us.length).2=m'.us.length∧(∀ (E1 E2:Env) (w:World) (k1 k2:Nat) (own:Bool),KEnv base E1 E2 m'.km→E2 k2=E1 k1→xa0 E1 w k1 own b→xa0 E2 w k2 own (xgc xs s m.us.length).1)∧xa7 (xrL base m'.km) (xgc xs s m.us.length).1
 from_:∀ xs,Pre m'.us xs→xgX b (xgc xs s m.us.length).1
theorem xuU:∀ {a b:Option Code},xsB a b=true→a=b:=by
 intro a b h
 unfold xsB at h
 split at h
 ·rfl
 ·rfl
 ·rw [Nat.eq_of_beq_eq_true h]
 ·cases h
theorem xgQ {s b:Body} {m m':MS} (h:xds P base s b m=some m'):xCd P base s b m m':=by
 cases s with
 | cells cs =>
  cases b with
  | cells cs' =>
   simp only [xds] at h
   have r:=xeN cs cs' m m' h
   refine ⟨r.ext,fun xs hp=>?_,fun xs hp=>by simp only [xgc]; exact xgX.flat rfl⟩
   obtain ⟨a1,a2,a3,a4,a5⟩:=r.fill xs hp
   have e:xgc xs (.cells cs) m.us.length=(.cells (xcl xs cs m.us.length).1,m'.us.length):=by simp only [xgc,a1]
   rw [e]
   refine ⟨rfl,fun E1 E2 w k1 k2 own he hk hb=>?_,a3⟩
   obtain ⟨g,T,h1,h2⟩:=hb
   exact ⟨g,T,hk.trans h1,by rw [a2 E1 E2 he]; exact h2⟩
  | _=>simp [xds] at h
 | row e ks l =>
  have fillrow:∀ xs,xgc xs (.row e ks l) m.us.length=(.row e ks (gr xs m.us.length),m.us.length+1):=fun xs=>rfl
  have common:(match xdG P b with
    | some (e',ks',l)=>if e=e'∧ks=ks' then some { m with us:=.r l::m.us } else none
    | none=>none)=some m'→xCd P base (.row e ks l) b m m':=by
   intro h
   split at h
   ·rename_i e' ks' l' hr
    split at h
    ·rename_i hc
     obtain ⟨rfl,rfl⟩:=hc
     cases h
     refine ⟨⟨⟨[.r l'],rfl⟩,fun _ _ h=>h⟩,fun xs hp=>?_,fun xs hp=>xgX.flat rfl⟩
     rw [fillrow]
     refine ⟨by simp,fun E1 E2 w k1 k2 own he hk hb=>?_,xbA⟩
     have:=hp.get
     simp only [gr,this]
     have hrow:=xbz hr hb
     show xaY w own e ks.length (E2 k2) l'.length (rowV ks l')
     rw [hk]; exact hrow
    ·cases h
   ·cases h
  cases b with
  | nil =>
   simp only [xds] at h
   cases h
   refine ⟨⟨⟨[.r []],rfl⟩,fun _ _ h=>h⟩,fun xs hp=>?_,fun xs hp=>xgX.flat rfl⟩
   rw [fillrow]
   refine ⟨by simp,fun E1 E2 w k1 k2 own he hk hb=>?_,xbA⟩
   have:=hp.get
   simp only [gr,this]
   have hb:E1 k1=.slice none 0 0:=hb
   exact xdx (hk.trans hb)
  | row e' ks' l'=>exact common h
  | sub e' ks' l'=>exact common h
  | nst e' ks' l'=>exact common h
  | arr e' sz' els'=>exact common h
  | cells cs=>exact common h
  | mp=>exact common h
  | mq=>exact common h
  | fin=>exact common h
  | loop=>exact common h
 | nst e ks l =>
  have fillrow:∀ xs,xgc xs (.nst e ks l) m.us.length=(.nst e ks (gr xs m.us.length),m.us.length+1):=fun xs=>rfl
  cases b with
  | nil =>
   simp only [xds] at h
   cases h
   refine ⟨⟨⟨[.r []],rfl⟩,fun _ _ h=>h⟩,fun xs hp=>?_,fun xs hp=>by rw [fillrow]; have:=hp.get; simp only [gr,this]; exact xgX.nst⟩
   rw [fillrow]
   refine ⟨by simp,fun E1 E2 w k1 k2 own he hk hb=>?_,trivial⟩
   have:=hp.get
   simp only [gr,this]
   have hb:E1 k1=.slice none 0 0:=hb
   exact xo8.ok (x:=.nil) (.inr ⟨rfl,.inr ⟨e,ks,rfl⟩⟩) (hk.trans hb)
  | nst e' ks' l' =>
   simp only [xds] at h
   split at h
   ·rename_i hc
    obtain ⟨rfl,rfl⟩:=hc
    cases h
    refine ⟨⟨⟨[.r l'],rfl⟩,fun _ _ h=>h⟩,fun xs hp=>?_,fun xs hp=>by rw [fillrow]; have:=hp.get; simp only [gr,this]; exact xgX.refl _⟩
    rw [fillrow]
    refine ⟨by simp,fun E1 E2 w k1 k2 own he hk hb=>?_,trivial⟩
    have:=hp.get
    simp only [gr,this]
    obtain ⟨vs,hb⟩:=hb
    exact ⟨vs,by rw [hk]; exact hb⟩
   ·cases h
  | _=>simp [xds] at h
 | sub e ks l =>
  have fillrow:∀ xs,xgc xs (.sub e ks l) m.us.length=(.sub e ks (gr xs m.us.length),m.us.length+1):=fun xs=>rfl
  cases b with
  | sub e' ks' l' =>
   simp only [xds] at h
   split at h
   ·rename_i hc
    obtain ⟨rfl,rfl⟩:=hc
    cases h
    refine ⟨⟨⟨[.r l'],rfl⟩,fun _ _ h=>h⟩,fun xs hp=>?_,fun xs hp=>by rw [fillrow]; have:=hp.get; simp only [gr,this]; exact xgX.refl _⟩
    rw [fillrow]
    refine ⟨by simp,fun E1 E2 w k1 k2 own he hk hb=>?_,trivial⟩
    have:=hp.get
    simp only [gr,this]
    exact ⟨hb.1,by rw [hk]; exact hb.2⟩
   ·cases h
  | _=>simp [xds] at h
 | arr e sz els =>
  cases b with
  | arr e' sz' els' =>
   simp only [xds] at h
   split at h
   ·rename_i hc
    obtain ⟨rfl,rfl⟩:=hc
    have r:=xm2 els els' m m' h
    refine ⟨r.ext,fun xs hp=>?_,fun xs hp=>by simp only [xgc]; exact xgX.flat rfl⟩
    obtain ⟨a1,a2,a3,a4,a5⟩:=r.fill xs hp
    have e1:xgc xs (.arr e sz els) m.us.length=(.arr e sz (xje xs els m.us.length).1,m'.us.length):=by simp only [xgc,a1]
    rw [e1]
    refine ⟨rfl,fun E1 E2 w k1 k2 own he hk hb=>?_,a3⟩
    obtain ⟨h1,h2,h3⟩:=hb
    refine ⟨?_,fun el hel=>?_,by rw [a5]; exact h3⟩
    ·have hlen:(xje xs els m.us.length).1.length=els'.length:=by simpa using congrArg List.length a4
     rw [hk,hlen,a2 E1 E2 he]; exact h1
    ·have:el.length∈(xje xs els m.us.length).1.map List.length:=List.mem_map.2 ⟨el,hel,rfl⟩
     rw [a4] at this
     obtain ⟨el',hel',hl⟩:=List.mem_map.1 this
     rw [← hl]; exact h2 el' hel'
   ·cases h
  | _=>simp [xds] at h
 | nil =>
  cases b with
  | nil =>
   cases h
   exact ⟨MExt.refl _,fun xs _=>⟨rfl,fun E1 E2 w k1 k2 own he hk hb=>hk.trans hb,xmA⟩,fun xs _=>xgX.flat rfl⟩
  | _=>simp [xds] at h
 | mp kt et q n ke l0 =>
  cases b with
  | mp kt' et' q' n' ke' l =>
   simp only [xds] at h
   split at h
   ·rename_i hc
    obtain ⟨rfl,rfl,rfl,rfl,rfl⟩:=hc
    cases h
    refine ⟨⟨⟨[.r l],rfl⟩,fun _ _ h=>h⟩,fun xs hp=>⟨by simp [xgc],fun E1 E2 w k1 k2 own he hk hb=>?_,trivial⟩,fun xs hp=>xgX.flat rfl⟩
    have hg:=hp.get
    obtain ⟨b,es,clock,h1,h2,h3,h4,h5⟩:=hb
    have e:(xgc xs (.mp kt et q n ke l0) m.us.length).1=.mp kt et q n ke l:=by simp only [xgc,gr,hg]
    rw [e]
    exact ⟨b,es,clock,hk.trans h1,h2,h3,h4,h5⟩
   ·cases h
  | _=>simp [xds] at h
 | mq kt et q ks l0 =>
  cases b with
  | mq kt' et' q' ks' l =>
   simp only [xds] at h
   split at h
   ·rename_i hc
    obtain ⟨rfl,rfl,rfl,rfl⟩:=hc
    cases h
    have e:∀ xs,Pre (.r l::m.us) xs→(xgc xs (.mq kt et q ks l0) m.us.length).1=.mq kt et q ks l:=fun xs hp=>by
     have hg:=hp.get
     simp only [xgc,gr,hg]
    refine ⟨⟨⟨[.r l],rfl⟩,fun _ _ h=>h⟩,fun xs hp=>⟨by simp [xgc],fun E1 E2 w k1 k2 own he hk hb=>?_,trivial⟩,fun xs hp=>by rw [e xs hp]; exact xgX.refl _⟩
    obtain ⟨b,es,clock,h1⟩:=hb
    rw [e xs hp]
    exact ⟨b,es,clock,by rw [hk]; exact h1⟩
   ·cases h
  | _=>simp [xds] at h
 | loop=>cases b<;>simp [xds] at h
 | fin st pend =>
  cases b with
  | fin st' pend' =>
   simp only [xds] at h
   split at h
   ·rename_i hc
    rw [Bool.and_eq_true] at hc
    have e1:=Nat.eq_of_beq_eq_true hc.1
    have e2:=xuU hc.2
    subst e1 e2
    cases h
    exact ⟨MExt.refl _,fun xs _=>⟨rfl,fun E1 E2 w k1 k2 own he hk hb=>by
     obtain ⟨l,r,h1,h2⟩:=hb
     exact ⟨l,r,hk.trans h1,h2⟩,trivial⟩,fun xs _=>xgX.flat rfl⟩
   ·cases h
  | _=>simp [xds] at h
theorem xgZ {tmps:Nat→Option AV}:∀ (l:List (Nat×AV)) (m m':MS),xiU base tmps l m=some m'→MExt m m'∧∀ xs,Pre m'.us xs→(xaD xs l m.us.length).2=m'.us.length ∧
  ∀ t v,xdA t (xaD xs l m.us.length).1=some v→∃ v',tmps t=some v'∧AV.all (xrL base m'.km) v∧∀ E1 E2,KEnv base E1 E2 m'.km→v.den E2=v'.den E1
 | [],m,m',h=>by cases h; exact ⟨MExt.refl _,fun xs _=>⟨rfl,fun t v h=>by cases h⟩⟩
 | (t,s)::r,m,m',h=>by
  unfold xiU at h
  split at h
  ·rename_i v0 hv0
   split at h
   ·rename_i m1 h1
    have r1:=xoO s v0 m m1 h1
    obtain ⟨r2,r3⟩:=xgZ r m1 m' h
    refine ⟨r1.ext.trans r2,fun xs hp=>?_⟩
    obtain ⟨a1,a2,a3,a4⟩:=r1.fill xs (hp.of_ext r2)
    obtain ⟨b1,b2⟩:=r3 xs hp
    have e:xaD xs ((t,s)::r) m.us.length=((t,(xeA xs s m.us.length).1)::(xaD xs r m1.us.length).1,m'.us.length):=by
     simp only [xaD,a1,b1]
    rw [e]
    refine ⟨rfl,fun t' v ht=>?_⟩
    simp only [xdA] at ht
    split at ht
    ·rename_i hb
     cases ht
     rw [Nat.eq_of_beq_eq_true hb]
     exact ⟨v0,hv0,xdU (fun k hk=>xiX r2 hk) _ a3,fun E1 E2 he=>a2 E1 E2 (he.of_ext r2)⟩
    ·exact b2 t' v ht
   ·cases h
  ·cases h
theorem xnn {xs:List U} {ver:Nat}:∀ (l:List Obj) (j:Nat),(xaR ver xs l j).1.map (fun o=>o.key)=l.map fun o=>o.key
 | [],j=>rfl
 | o::r,j=>by simp [xaR,xnn r]
theorem xhx {objs:List Obj} {ver:Nat}:∀ (l:List Obj) (m m':MS),xkD P base objs l m=some m'→MExt m m'∧∀ xs,Pre m'.us xs→(xaR ver xs l m.us.length).2=m'.us.length ∧
  ∀ o∈(xaR ver xs l m.us.length).1,o.ver=ver∧(∃ s∈l,s.key=o.key)∧xa7 (xrL base m'.km) o.body∧∃ o'∈objs,o'.key=o.key∧(o.own=true→o'.own=true)∧xgX o'.body o.body ∧
   ∀ (E1 E2:Env) (w:World),KEnv base E1 E2 m'.km→E2 o.key=E1 o.key→xa0 E1 w o.key o'.own o'.body→xa0 E2 w o.key o.own o.body
 | [],m,m',h=>by cases h; exact ⟨MExt.refl _,fun xs _=>⟨rfl,fun o ho=>by cases ho⟩⟩
 | s::r,m,m',h=>by
  unfold xkD at h
  split at h
  ·rename_i o' ho'
   obtain ⟨hm,hk⟩:=xaj ho'
   split at h
   ·rename_i hown
    split at h
    ·rename_i m1 h1
     have r1:=xgQ h1
     obtain ⟨r2,r3⟩:=xhx (ver:=ver) r m1 m' h
     refine ⟨r1.ext.trans r2,fun xs hp=>?_⟩
     obtain ⟨a1,a2,a3⟩:=r1.fill xs (hp.of_ext r2)
     obtain ⟨b1,b2⟩:=r3 xs hp
     have e:xaR ver xs (s::r) m.us.length=(⟨s.key,ver,s.own,(xgc xs s.body m.us.length).1⟩::(xaR ver xs r m1.us.length).1,m'.us.length):=by
      simp only [xaR,a1,b1]
     rw [e]
     refine ⟨rfl,fun o ho=>?_⟩
     rcases List.mem_cons.1 ho with rfl | ho
     ·refine ⟨rfl,⟨s,by simp,rfl⟩,xaU (fun k hk=>xiX r2 hk) a3,o',hm,hk,?_,r1.from_ xs (hp.of_ext r2),fun E1 E2 w he hke hb=>?_⟩
      ·intro ht
       rcases hown with h2 | h2
       ·rw [← h2]; exact ht
       ·rw [h2] at ht; cases ht
      ·have hb2:=a2 E1 E2 w s.key s.key o'.own (he.of_ext r2) hke hb
       rcases hown with h2 | h2
       ·simp only []; rw [h2]; exact hb2
       ·simp only []; rw [h2]
        generalize (xgc xs s.body m.us.length).1=bb at hb2
        cases bb with
        | cells=>exact hb2
        | row e ks l=>exact ⟨hb2.reads,hb2.len,fun h=>by cases h⟩
        | sub e ks l=>exact ⟨rfl,hb2.2.reads,hb2.2.len,fun h=>by cases h⟩
        | nst e ks l=>obtain ⟨vs,hb2⟩:=hb2; exact ⟨vs,⟨hb2.row.reads,hb2.row.len,fun h=>by cases h⟩,hb2.cell⟩
        | arr e sz els=>exact ⟨⟨hb2.1.reads,hb2.1.len,fun h=>by cases h⟩,hb2.2⟩
        | nil=>exact hb2
        | mp=>exact hb2
        | mq=>exact hb2
        | fin=>exact hb2
        | loop=>exact hb2
     ·obtain ⟨p1,⟨s',p2,p3⟩,p4⟩:=b2 o ho
      exact ⟨p1,⟨s',by simp [p2],p3⟩,p4⟩
    ·cases h
   ·cases h
  ·cases h
def xri (own:Bool) (b0 b:Body):Prop:=(xm8 b=true→xm8 b0=true∨own=true)∧xCZ b0 b
theorem xgX.o {own:Bool} {b0 b:Body} (h:xgX b0 b):xri own b0 b:=⟨fun hs=>.inl (h.1 hs),h.2⟩
theorem RT.flat (t:RT) (l:List (List Int)):xa6 (t.body l)=true:=by cases t<;>rfl
theorem RT.nil (t:RT) {E:Env} {w:World} {key:Nat} (h:E key=.slice none 0 0):xa0 E w key t.own (t.body []):=by
 cases t with
 | row e ks=>exact xdx h
 | nst e ks=>exact xo8.ok (x:=.nil) (.inr ⟨rfl,.inr ⟨e,ks,rfl⟩⟩) h
 | sub e ks =>
  have:xa0 E w key false (.row e ks []):=xdx h
  exact ⟨rfl,this⟩
 | ro e ks=>exact xdx h
theorem RT.from_nil (t:RT):xri true .nil (t.body []):=by
 cases t with
 | row e ks=>exact (xgX.flat rfl).o
 | nst e ks=>exact xgX.nst.o
 | sub e ks=>exact ⟨fun _=>.inr rfl,(fun _ _ _ h=>by cases h),(fun _ _ _ _ _ h=>by cases h)⟩
 | ro e ks=>exact (xgX.flat rfl).o
theorem xgy {b:Body} {m m1:MS} {e:TypeId} {ks:List CK} (h1:xds P 0 (.row e ks []) b m=some m1):m1.km=m.km:=by
 unfold xds at h1
 simp only [] at h1
 split at h1
 ·cases h1; rfl
 ·split at h1
  ·split at h1
   ·cases h1; rfl
   ·cases h1
  ·cases h1
theorem xqx {b:Body} {m m1:MS} {e:TypeId} {ks:List NK} (h1:xds P 0 (.nst e ks []) b m=some m1):m1.km=m.km:=by
 unfold xds at h1
 simp only [] at h1
 split at h1
 ·cases h1; rfl
 ·split at h1
  ·cases h1; rfl
  ·cases h1
 ·cases h1
theorem xu9 {t:RT} {own:Bool} {b:Body} {m m1:MS} {k ok:Nat} (hk':xgR k m.km=some (some ok)) (h:xtY P t own b m=some m1):m1.km=m.km∧(∃ q,m1.us=q++m.us)∧m1.us.length=m.us.length+1∧(t.own=true→own=true) ∧
  ∀ xs,Pre m1.us xs→xri own b (t.body (gr xs m.us.length))∧∀ (E1 E2:Env) (w:World),E2 k=E1 ok→xa0 E1 w ok own b→xa0 E2 w k t.own (t.body (gr xs m.us.length)):=by
 have base:∀ {s:Body} {q:List (List Int)→Body},m1.km=m.km→xCd P 0 s b m m1→(∀ xs j,xgc xs s j=(q (gr xs j),j+1))→(∀ l,xa6 (q l)=true)→(∃ xs,Pre m1.us xs) →
   (∃ q,m1.us=q++m.us)∧m1.us.length=m.us.length+1∧∀ xs,Pre m1.us xs→xgX b (q (gr xs m.us.length))∧∀ (E1 E2:Env) (w:World),E2 k=E1 ok→xa0 E1 w ok own b→xa0 E2 w k own (q (gr xs m.us.length)):=by
  intro s q hkm1 r1 hfill hflat hex
  have hl:m1.us.length=m.us.length+1:=by
   obtain ⟨xs,hp⟩:=hex
   rw [← (r1.fill xs hp).1,hfill]
  refine ⟨r1.ext.us,hl,fun xs hp=>?_⟩
  obtain ⟨a1,a2,a3⟩:=r1.fill xs hp
  refine ⟨by have:=r1.from_ xs hp; rw [hfill] at this; exact this,fun E1 E2 w he hb=>?_⟩
  have hkenv:KEnv 0 E1 (fun x=>xdz E1 ((xgR x m1.km).getD none)) m1.km:=⟨fun k hk=>by omega,fun k u hu=>by simp [hu]⟩
  have e2:(fun x=>xdz E1 ((xgR x m1.km).getD none)) k=E1 ok:=by
   show xdz E1 ((xgR k m1.km).getD none)=E1 ok
   rw [hkm1,hk']; rfl
  have hb2:=a2 E1 _ w ok k own hkenv e2 hb
  rw [hfill] at hb2
  exact xmz (hflat _) (he.trans e2.symm) hb2
 have hex:∃ xs,Pre m1.us xs:=⟨m1.us.reverse,[],by simp⟩
 cases t with
 | row e ks =>
  unfold xtY at h
  simp only [] at h
  split at h
  ·obtain ⟨p1,p2,p3⟩:=base (q:=fun l=>.row e ks l) (xgy h) (xgQ h) (fun _ _=>rfl) (fun _=>rfl) hex
   exact ⟨xgy h,p1,p2,fun _=>rfl,fun xs hp=>⟨(p3 xs hp).1.o,(p3 xs hp).2⟩⟩
  ·cases h
 | nst e ks =>
  unfold xtY at h
  simp only [] at h
  split at h
  ·obtain ⟨p1,p2,p3⟩:=base (q:=fun l=>.nst e ks l) (xqx h) (xgQ h) (fun _ _=>rfl) (fun _=>rfl) hex
   exact ⟨xqx h,p1,p2,fun _=>rfl,fun xs hp=>⟨(p3 xs hp).1.o,(p3 xs hp).2⟩⟩
  ·cases h
 | sub e ks =>
  unfold xtY at h
  simp only [] at h
  split at h
  ·rename_i hc
   obtain ⟨p1,p2,p3⟩:=base (q:=fun l=>.row e ks l) (xgy h) (xgQ h) (fun _ _=>rfl) (fun _=>rfl) hex
   refine ⟨xgy h,p1,p2,(fun h=>by cases h),fun xs hp=>⟨⟨fun _=>?_,(fun _ _ _ h=>by cases h),(fun _ _ _ _ _ h=>by cases h)⟩,fun E1 E2 w he hb=>?_⟩⟩
   ·rcases Bool.or_eq_true_iff.1 hc with h | h
    ·exact .inr h
    ·exact .inl h
   ·have:=(p3 xs hp).2 E1 E2 w he hb
    have hr:xaY w own e ks.length (E2 k) (gr xs m.us.length).length (rowV ks (gr xs m.us.length)):=this
    exact ⟨rfl,hr.reads,hr.len,(fun h=>by cases h)⟩
  ·cases h
 | ro e ks =>
  have h:xds P 0 (.row e ks []) b m=some m1:=h
  obtain ⟨p1,p2,p3⟩:=base (q:=fun l=>.row e ks l) (xgy h) (xgQ h) (fun _ _=>rfl) (fun _=>rfl) hex
  refine ⟨xgy h,p1,p2,(fun h=>by cases h),fun xs hp=>⟨(p3 xs hp).1.o,fun E1 E2 w he hb=>?_⟩⟩
  have:=(p3 xs hp).2 E1 E2 w he hb
  have hr:xaY w own e ks.length (E2 k) (gr xs m.us.length).length (rowV ks (gr xs m.us.length)):=this
  exact ⟨hr.reads,hr.len,(fun h=>by cases h)⟩
theorem xhw {objs:List Obj} {ver:Nat} {km:List (Nat×Option Nat)}:∀ (l:List RT) (k:Nat) (m m':MS),m.km=km→xkC P objs k l m=some m'→m'.km=km∧(∃ r,m'.us=r++m.us)∧∀ xs,Pre m'.us xs →
  ∀ o∈xcX ver xs k l m.us.length,o.ver=ver∧k≤o.key∧o.key<k+l.length∧xa6 o.body=true ∧
   ((∃ o'∈objs,xgR o.key km=some (some o'.key)∧(o.own=true→o'.own=true)∧xri o'.own o'.body o.body∧∀ (E1 E2:Env) (w:World),E2 o.key=E1 o'.key→xa0 E1 w o'.key o'.own o'.body→xa0 E2 w o.key o.own o.body) ∨
    ((∀ k',xgR o.key km≠some (some k'))∧xri true .nil o.body∧∀ (E2:Env) (w:World),E2 o.key=.slice none 0 0→xa0 E2 w o.key o.own o.body))
 | [],k,m,m',hkm,h=>by cases h; exact ⟨hkm,⟨[],rfl⟩,fun xs _ o ho=>by cases ho⟩
 | t::r,k,m,m',hkm,h=>by
  unfold xkC at h
  split at h
  ·rename_i k' hk'
   split at h
   ·rename_i ok ov own b ho'
    split at h
    ·rename_i m1 h1
     obtain ⟨hm,hkk⟩:=xaj ho'
     have hkk:ok=k':=hkk
     subst hkk
     obtain ⟨t1,⟨q,hq⟩,hl,t4,t5⟩:=xu9 hk' h1
     have hkm1:m1.km=km:=by rw [t1,hkm]
     obtain ⟨r2,⟨r3,hr3⟩,r4⟩:=xhw (ver:=ver) r (k+1) m1 m' hkm1 h
     refine ⟨r2,⟨r3++q,by rw [hr3,hq,List.append_assoc]⟩,fun xs hp o ho=>?_⟩
     have hp1:Pre m1.us xs:=by
      obtain ⟨t,ht⟩:=hp
      exact ⟨r3.reverse++t,by rw [ht,hr3]; simp⟩
     obtain ⟨a1,a2⟩:=t5 xs hp1
     simp only [xcX] at ho
     rcases List.mem_cons.1 ho with rfl | ho
     ·exact ⟨rfl,Nat.le_refl _,by simp,RT.flat t _,.inl ⟨_,hm,by rw [← hkm]; exact hk',t4,a1,fun E1 E2 w he hb=>a2 E1 E2 w he hb⟩⟩
     ·obtain ⟨p1,p3,p4,p5,p6⟩:=r4 xs hp o (by rw [hl]; exact ho)
      exact ⟨p1,by omega,by simp; omega,p5,p6⟩
    ·cases h
   ·cases h
  ·rename_i hne
   obtain ⟨r2,⟨r3,hr3⟩,r4⟩:=xhw (ver:=ver) r (k+1) _ m' (by exact hkm) h
   refine ⟨r2,⟨r3++[.r []],by rw [hr3]; simp⟩,fun xs hp o ho=>?_⟩
   have hp1:Pre (U.r []::m.us) xs:=by
    obtain ⟨t,ht⟩:=hp
    exact ⟨r3.reverse++t,by rw [ht,hr3]; simp⟩
   simp only [xcX] at ho
   rcases List.mem_cons.1 ho with rfl | ho
   ·have:=hp1.get
    refine ⟨rfl,Nat.le_refl _,by simp,RT.flat t _,.inr ⟨fun k' hk'=>hne k' (by rw [hkm]; exact hk'),by simp only [gr,this]; exact RT.from_nil t,fun E2 w he=>?_⟩⟩
    simp only [gr,this]
    exact RT.nil t he
   ·obtain ⟨p1,p3,p4,p5,p6⟩:=r4 xs hp o (by simpa using ho)
    exact ⟨p1,by omega,by simp; omega,p5,p6⟩
end
end Go.Sy
set_option linter.unusedVariables false
namespace Go.Sy
open Go.RowKit
section
variable {P:Program} {X:List (Nat×Go.Obj)} {w0 w:World} {N:Nat} {D:List Deferred} {a:Act}
theorem xkF {k:Nat}:∀ {l:List (Nat×Option Nat)} {u:Option Nat},xgR k l=some u→(k,u)∈l
 | [],u,h=>by cases h
 | (k',v)::r,u,h=>by
  unfold xgR at h
  split at h
  ·rename_i hb; cases h; rw [Nat.eq_of_beq_eq_true hb]; exact List.mem_cons_self
  ·exact List.mem_cons_of_mem _ (xkF h)
theorem xhK:∀ {l:List Nat},xk4 l=true→l.Nodup
 | [],_=>List.nodup_nil
 | a::r,h=>by
  unfold xk4 at h
  rw [Bool.and_eq_true] at h
  refine List.nodup_cons.2 ⟨fun hm=>?_,xhK h.2⟩
  rw [xjK.2 hm] at h
  cases h.1
theorem xjB:∀ {l:List (Nat×Option Nat)} {k1 k2 v:Nat},(l.filterMap (·.2)).Nodup→(k1,some v)∈l→(k2,some v)∈l→k1=k2
 | (k,none)::r,k1,k2,v,hn,h1,h2=>by
  rcases List.mem_cons.1 h1 with h1 | h1
  ·cases h1
  ·rcases List.mem_cons.1 h2 with h2 | h2
   ·cases h2
   ·exact xjB (by simpa using hn) h1 h2
 | (k,some u)::r,k1,k2,v,hn,h1,h2=>by
  have hn:u∉r.filterMap (·.2)∧(r.filterMap (·.2)).Nodup:=by simpa using hn
  rcases List.mem_cons.1 h1 with h1 | h1<;>rcases List.mem_cons.1 h2 with h2 | h2
  ·cases h1; cases h2; rfl
  ·cases h1; exact absurd ((List.mem_filterMap (f:=fun x:Nat×Option Nat=>x.2)).2 ⟨_,h2,rfl⟩) hn.1
  ·cases h2; exact absurd ((List.mem_filterMap (f:=fun x:Nat×Option Nat=>x.2)).2 ⟨_,h1,rfl⟩) hn.1
  ·exact xjB hn.2 h1 h2
theorem xhj {k:Nat}:∀ {l:List Obj},xgn k l=true↔∃ o∈l,o.key=k
 | []=>by simp [xgn]
 | o::r=>by
  unfold xgn
  rw [Bool.or_eq_true,xhj (l:=r)]
  constructor
  ·rintro (h | ⟨o',h1,h2⟩)
   ·exact ⟨o,by simp,Nat.eq_of_beq_eq_true h⟩
   ·exact ⟨o',by simp [h1],h2⟩
  ·rintro ⟨o',h1,h2⟩
   rcases List.mem_cons.1 h1 with rfl | h1
   ·exact .inl (by rw [h2]; exact xcM k)
   ·exact .inr ⟨o',h1,h2⟩
theorem xoe {k:Nat}:∀ {l:List Obj},xqJ k l=true↔∃ o∈l,o.key=k∧o.own=true
 | []=>by simp [xqJ]
 | o::r=>by
  unfold xqJ
  rw [Bool.or_eq_true,Bool.and_eq_true,xoe (l:=r)]
  constructor
  ·rintro (h | ⟨o',h1,h2⟩)
   ·exact ⟨o,by simp,Nat.eq_of_beq_eq_true h.1,h.2⟩
   ·exact ⟨o',by simp [h1],h2⟩
  ·rintro ⟨o',h1,h2,h3⟩
   rcases List.mem_cons.1 h1 with rfl | h1
   ·exact .inl ⟨by rw [h2]; exact xcM k,h3⟩
   ·exact .inr ⟨o',h1,h2,h3⟩
theorem xah.remap {E1 E2:Env} {H:Heap} (hH:xah X E1 w0 H w) {l:List Obj} {n':Nat} (env:∀ k,(E2 k).oneCell'=true) (objs:∀ o∈l,xa0 E2 w o.key o.own o.body)
  (org:Nat→Option Nat) (horg:∀ o∈l,(org o.key=none∧blkO (E2 o.key)=none∧xri true .nil o.body)∨∃ o'∈H.objs,org o.key=some o'.key∧E2 o.key=E1 o'.key∧(o.own=true→o'.own=true)∧xri o'.own o'.body o.body)
  (hinj:∀ o∈l,∀ o'∈l,o.own=true→∀ k,org o.key=some k→org o'.key=some k→o.key=o'.key)
  (uniq:∀ o∈l,∀ o'∈l,o.key=o'.key→o=o') (lt:∀ o∈l,o.key<n'∧xa7 (fun k=>k<n') o.body):xah X E2 w0 ⟨l,n'⟩ w:=by
 have inn:∀ o∈l,∀ b,Inn E2 w o.key o.body b→∃ o'∈H.objs,(o.own=true∧xrz o.body=true→o'.own=true∧xrz o'.body=true)∧E2 o.key=E1 o'.key∧Inn E1 w o'.key o'.body b:=by
  intro o ho b hb
  generalize hbd:o.body=bd at hb
  cases bd with
  | nst e ks l0 =>
   obtain ⟨a,j,u,q1,q2,q3,q4⟩:=hb
   have hne:l0≠[]:=by rintro rfl; simp at q2
   rcases horg o ho with ⟨_,_,h5⟩ | ⟨o',ho',h1,h2,h3,h5⟩
   ·rcases h5.2.1 e ks l0 hbd with h | h
    ·cases h
    ·exact absurd h hne
   ·rcases h5.2.1 e ks l0 hbd with h | h
    ·exact ⟨o',ho',fun h'=>⟨h3 h'.1,by rw [h]; rfl⟩,h2,by rw [h]; exact ⟨a,j,u,by rw [← h2]; exact q1,q2,q3,q4⟩⟩
    ·exact absurd h hne
  | mq kt et q ks l0 =>
   obtain ⟨m,es,clock,q1,q2⟩:=hb
   rcases horg o ho with ⟨_,_,h5⟩ | ⟨o',ho',h1,h2,h3,h5⟩
   ·cases h5.2.2 kt et q ks l0 hbd
   ·have h:=h5.2.2 kt et q ks l0 hbd
    exact ⟨o',ho',fun h'=>⟨h3 h'.1,by cases h'.2⟩,h2,by rw [h]; exact ⟨m,es,clock,by rw [← h2]; exact q1,q2⟩⟩
  | _=>exact hb.elim
 refine ⟨hH.below,env,objs,?_,?_,uniq,lt,?_,?_,?_,?_⟩
 ·intro o ho hown b hb
  rcases horg o ho with ⟨_,h,_⟩ | ⟨o',ho',h1,h2,h3,_⟩
  ·rw [h] at hb; cases hb
  ·rw [h2] at hb; exact hH.high o' ho' (h3 hown) b hb
 ·intro o ho o2 ho2 hown hne b hb hb2
  rcases horg o ho with ⟨_,h,_⟩ | ⟨o',ho',h1,h2,h3,_⟩
  ·rw [h] at hb; cases hb
  ·rcases horg o2 ho2 with ⟨_,h,_⟩ | ⟨o2',ho2',h1',h2',h3',_⟩
   ·rw [h] at hb2; cases hb2
   ·rw [h2] at hb
    rw [h2'] at hb2
    refine hH.inj o' ho' o2' ho2' (h3 hown) (fun e=>hne ?_) b hb hb2
    rw [← e] at h1'
    exact hinj o ho o2 ho2 hown _ h1 h1'
 ·intro y hy
  refine ⟨(hH.prot y hy).1,fun o ho hb=>?_⟩
  rcases horg o ho with ⟨_,h,_⟩ | ⟨o',ho',h1,h2,h3,_⟩
  ·rw [h] at hb; cases hb
  ·rw [h2] at hb; exact (hH.prot y hy).2 o' ho' hb
 ·intro o ho b hb o2 ho2 hown hb2
  obtain ⟨o',ho',_,_,hI⟩:=inn o ho b hb
  rcases horg o2 ho2 with ⟨_,h,_⟩ | ⟨o2',ho2',h1',h2',h3',_⟩
  ·rw [h] at hb2; cases hb2
  ·rw [h2'] at hb2
   exact hH.deep o' ho' b hI o2' ho2' (h3' hown) hb2
 ·intro y hy o ho hb
  obtain ⟨o',ho',_,_,hI⟩:=inn o ho _ hb
  exact hH.protD y hy o' ho' hI
 ·intro o ho b hb
  rcases hb with ⟨h1,h2⟩ | ⟨h1,h2⟩
  ·rcases horg o ho with ⟨_,h,_⟩ | ⟨o',ho',_,h4,_,h5⟩
   ·rw [h] at h2; cases h2
   ·rw [h4] at h2
    rcases h5.1 h1 with h6 | h6
    ·exact hH.fsh o' ho' b (.inl ⟨h6,h2⟩)
    ·exact hH.high o' ho' h6 b h2
  ·obtain ⟨o',ho',h3,_,hI⟩:=inn o ho b h2
   exact hH.fsh o' ho' b (.inr ⟨h3 h1,hI⟩)
theorem xgx {S:Spec} {st:List Obj} {wr:List Nat} {ver:Nat} {c:Cfg} {xs:List U} {tm:Nat→Option AV} {E1:Env} (h:S.match_ P st ver c=some xs) (hH:xah X E1 w0 c.heap w) (hS:xaH E1 c.heap.next N D (xal c.tmps) a)
  (hst1:∀ o∈st,o∈c.heap.objs) (hst2:∀ o∈st,o.key<S.base∧xa7 (fun k=>k<S.base) o.body) (htm:∀ t v,wr.any (Nat.beq t)=false→tm t=some v→c.tmps t=some v∧AV.lt S.base v) :
  ∃ E2:Env,(∀ k,k<S.base→E2 k=E1 k)∧xaH E2 (S.gen st wr tm xs).heap.next N D (xal (S.gen st wr tm xs).tmps) a∧xah X E2 w0 (S.gen st wr tm xs).heap w∧(∀ o∈(S.gen st wr tm xs).heap.objs,o.ver=S.base∨o∈st):=by
 unfold Spec.match_ at h
 split at h
 case h_2=>cases h
 rename_i m1 h1
 split at h
 case h_2=>cases h
 rename_i m2 h2
 split at h
 case h_2=>cases h
 rename_i m3 h3
 split at h
 case isFalse=>cases h
 rename_i hc
 cases h
 simp only [Bool.and_eq_true] at hc
 obtain ⟨⟨⟨⟨⟨c1,c2⟩,c3⟩,c4⟩,c5⟩,c6⟩:=hc
 obtain ⟨e1,f1⟩:=xgZ S.slots ⟨[],[]⟩ m1 h1
 obtain ⟨e2,f2⟩:=xhx (ver:=S.base) S.objs m1 m2 h2
 obtain ⟨km3,⟨r3,hr3⟩,f3⟩:=xhw (ver:=S.base) S.rows S.base m2 m3 rfl h3
 have p3:Pre m3.us m3.us.reverse:=⟨[],by simp⟩
 have p2:Pre m2.us m3.us.reverse:=⟨r3.reverse,by rw [hr3]; simp⟩
 have p1:Pre m1.us m3.us.reverse:=p2.of_ext e2
 obtain ⟨s1,s2⟩:=f1 _ p1
 obtain ⟨o1,o2⟩:=f2 _ p2
 have r1:=f3 _ p3
 have s1:(xaD m3.us.reverse S.slots 0).2=m1.us.length:=s1
 have s2:∀ t v,xdA t (xaD m3.us.reverse S.slots 0).1=some v→∃ v',c.tmps t=some v'∧AV.all (xrL S.base m1.km) v∧∀ E1 E2,KEnv S.base E1 E2 m1.km→v.den E2=v'.den E1:=s2
 have hgen:S.gen st wr tm m3.us.reverse=⟨fun t=>match xdA t (xaD m3.us.reverse S.slots 0).1 with | some v=>some v | none=>if wr.any (Nat.beq t) then none else tm t,
   ⟨(xaR S.base m3.us.reverse S.objs m1.us.length).1++xcX S.base m3.us.reverse S.base S.rows m2.us.length++st,S.base+S.rows.length+1⟩⟩:=by
  have hs:xaD m3.us.reverse S.slots 0=((xaD m3.us.reverse S.slots 0).1,m1.us.length):=Prod.ext rfl s1
  have ho:xaR S.base m3.us.reverse S.objs m1.us.length=((xaR S.base m3.us.reverse S.objs m1.us.length).1,m2.us.length):=Prod.ext rfl o1
  unfold Spec.gen
  rw [hs]
  simp only []
  rw [ho]
  rfl
 rw [hgen]
 simp only []
 have kmr:∀ k u,xgR k m2.km=some u→S.base≤k∧k<S.base+S.rows.length:=by
  intro k u hu
  have:=List.all_eq_true.1 c2 _ (xkF hu)
  simp only [Bool.and_eq_true] at this
  exact ⟨Nat.le_of_ble_eq_true this.2,by simpa using this.1⟩
 let E2:Env:=fun k=>if k<S.base then E1 k else match xgR k m2.km with | some (some k')=>E1 k' | _=>.slice none 0 0
 have hold:∀ k,k<S.base→E2 k=E1 k:=fun k hk=>if_pos hk
 have hnew:∀ k,¬ k<S.base→E2 k=(match xgR k m2.km with | some (some k')=>E1 k' | _=>.slice none 0 0):=fun k hk=>if_neg hk
 have hkenv:KEnv S.base E1 E2 m2.km:=by
  refine ⟨hold,fun k u hu=>?_⟩
  have:=kmr k u hu
  rw [hnew k (by omega),hu]
  cases u<;>rfl
 have keyin:∀ k,xrL S.base m2.km k→k<S.base+S.rows.length+1:=by
  rintro k (hk | ⟨u,hu⟩)
  ·omega
  ·have:=kmr k u hu; omega
 have hslot:∀ t v,c.tmps t=some v→a.tmps.getD t undef=v.den E1:=fun t v ht=>by
  have:=hS.ok t
  have e:xal c.tmps t=.is v:=by simp [xal,ht]
  rw [e] at this
  exact this.1
 refine ⟨E2,hold,⟨hS.defers,hS.size,fun t=>?_⟩,?_,?_⟩
 ·-- slots
  let F:Nat→Option AV:=fun t=>match xdA t (xaD m3.us.reverse S.slots 0).1 with | some v=>some v | none=>if wr.any (Nat.beq t) then none else tm t
  show xjn E2 (S.base+S.rows.length+1) a t (xal F t)
  cases hl:xdA t (xaD m3.us.reverse S.slots 0).1 with
  | some v =>
   have e:xal F t=.is v:=by simp only [xal,F,hl]
   rw [e]
   obtain ⟨v',q1,q2,q3⟩:=s2 t v hl
   refine ⟨?_,xdU (fun k hk=>keyin k (xiX e2 hk)) _ q2⟩
   rw [hslot t v' q1,q3 E1 E2 (hkenv.of_ext e2)]
  | none =>
   cases hw:wr.any (Nat.beq t) with
   | true =>
    have e:xal F t=.junk:=by simp only [xal,F,hl,hw,if_true]
    rw [e]; trivial
   | false =>
    cases ht:tm t with
    | none =>
     have e:xal F t=.junk:=by simp only [xal,F,hl,hw,Bool.false_eq_true,if_false,ht]
     rw [e]; trivial
    | some v =>
     have e:xal F t=.is v:=by simp only [xal,F,hl,hw,Bool.false_eq_true,if_false,ht]
     rw [e]
     obtain ⟨q1,q2⟩:=htm t v hw ht
     refine ⟨?_,xf5 (by omega) _ q2⟩
     rw [hslot t v q1]
     exact (xhL hold v q2).symm
 ·-- the heap
  have okey:∀ o∈(xaR S.base m3.us.reverse S.objs m1.us.length).1,o.key<S.base∧∀ o'∈st,o'.key≠o.key:=by
   intro o ho
   obtain ⟨_,⟨s,hs,hsk⟩,_⟩:=o2 o ho
   have:=List.all_eq_true.1 c5 s hs
   simp only [Bool.and_eq_true] at this
   rw [← hsk]
   refine ⟨by simpa using this.1,fun o' ho' hk=>?_⟩
   have h2:xgn s.key st=true:=xhj.2 ⟨o',ho',hk⟩
   rw [h2] at this
   cases this.2
  have hnd:(((xaR S.base m3.us.reverse S.objs m1.us.length).1).map (fun o=>o.key)).Nodup:=by
   rw [xnn]; exact xhK c4
  have rkey:∀ o∈xcX S.base m3.us.reverse S.base S.rows m2.us.length,S.base≤o.key∧o.key<S.base+S.rows.length:=fun o ho=>by
   obtain ⟨_,q1,q2,_⟩:=r1 o ho
   exact ⟨q1,q2⟩
  have rnd:∀ (l:List RT) (k j:Nat),((xcX S.base m3.us.reverse k l j).map (fun o=>o.key)).Nodup∧∀ o∈xcX S.base m3.us.reverse k l j,k≤o.key:=by
   intro l
   induction l with
   | nil=>intro k j; simp [xcX]
   | cons y l ih =>
    intro k j
    obtain ⟨i1,i2⟩:=ih (k+1) (j+1)
    refine ⟨?_,fun o ho=>?_⟩
    ·simp only [xcX,List.map_cons,List.nodup_cons]
     refine ⟨fun hm=>?_,i1⟩
     obtain ⟨o,ho,hk⟩:=List.mem_map.1 hm
     have:=i2 o ho
     omega
    ·simp only [xcX] at ho
     rcases List.mem_cons.1 ho with rfl | ho
     ·exact Nat.le_refl _
     ·have:=i2 o ho; omega
  have mem:∀ o,o∈(xaR S.base m3.us.reverse S.objs m1.us.length).1++xcX S.base m3.us.reverse S.base S.rows m2.us.length++st→o∈(xaR S.base m3.us.reverse S.objs m1.us.length).1∨o∈xcX S.base m3.us.reverse S.base S.rows m2.us.length∨o∈st:=by
   intro o ho
   rcases List.mem_append.1 ho with ho | ho
   ·rcases List.mem_append.1 ho with ho | ho
    ·exact .inl ho
    ·exact .inr (.inl ho)
   ·exact .inr (.inr ho)
  refine hH.remap (fun k=>?_) ?_ (fun k=>if k<S.base then some k else match xgR k m2.km with | some (some k')=>some k' | _=>none) ?_ ?_ ?_ ?_
  ·show (if k<S.base then E1 k else _).oneCell'=true
   split
   ·exact hH.env k
   ·split
    ·exact hH.env _
    ·rfl
  ·intro o ho
   rcases mem o ho with ho | ho | ho
   ·obtain ⟨_,_,_,o',ho',q1,q2,_,q3⟩:=o2 o ho
    have hb:=hH.objs o' ho'
    rw [q1] at hb
    exact q3 E1 E2 w hkenv (hold _ (okey o ho).1) hb
   ·obtain ⟨_,q3,q4,_,q6⟩:=r1 o ho
    rcases q6 with ⟨o',ho',t1,t2,_,t3⟩ | ⟨t1,_,t2⟩
    ·exact t3 E1 E2 w (by rw [hnew _ (by omega),t1]) (hH.objs o' ho')
    ·refine t2 E2 w ?_
     rw [hnew _ (by omega)]
     split
     ·rename_i k' hk'; exact absurd hk' (t1 k')
     ·rfl
   ·exact (hH.objs o (hst1 o ho)).keep (hold _ (hst2 o ho).1) (xaU (fun k hk=>hold k hk) (hst2 o ho).2) (fun _ _=>rfl) (Nat.le_refl _) (fun _ _=>rfl)
  ·intro o ho
   rcases mem o ho with ho | ho | ho
   ·obtain ⟨_,_,_,o',ho',q1,q2,qb,q3⟩:=o2 o ho
    have hlt:=(okey o ho).1
    exact .inr ⟨o',ho',by rw [q1]; exact if_pos hlt,by rw [q1]; exact hold _ hlt,q2,qb.o⟩
   ·obtain ⟨_,q3,q4,_,q6⟩:=r1 o ho
    have hlt:¬ o.key<S.base:=by omega
    rcases q6 with ⟨o',ho',t1,t2,tb,t3⟩ | ⟨t1,tb,t2⟩
    ·exact .inr ⟨o',ho',by simp only [if_neg hlt,t1],by rw [hnew _ hlt,t1],t2,tb⟩
    ·refine .inl ⟨?_,?_,tb⟩
     ·simp only [if_neg hlt]
     ·rw [hnew _ hlt]
      split
      ·rename_i k' hk'; exact absurd hk' (t1 k')
      ·rfl
   ·have hlt:=(hst2 o ho).1
    exact .inr ⟨o,hst1 o ho,if_pos hlt,hold _ hlt,fun h=>h,(xgX.refl _).o⟩
  ·intro o ho o' ho' hown k hk hk'
   have target:∀ o,o∈xcX S.base m3.us.reverse S.base S.rows m2.us.length→∀ k,(if o.key<S.base then some o.key else match xgR o.key m2.km with | some (some k')=>some k' | _=>none)=some k→xgR o.key m2.km=some (some k):=by
    intro o ho k hk
    have:=rkey o ho
    rw [if_neg (by omega)] at hk
    split at hk
    ·rename_i k' hk'; cases hk; exact hk'
    ·cases hk
   have low:∀ o,(o∈(xaR S.base m3.us.reverse S.objs m1.us.length).1∨o∈st)→∀ k,(if o.key<S.base then some o.key else match xgR o.key m2.km with | some (some k')=>some k' | _=>none)=some k→o.key=k∧(xgn k S.objs=true∨xgn k st=true):=by
    intro o ho k hk
    have hlt:o.key<S.base:=by
     rcases ho with ho | ho
     ·exact (okey o ho).1
     ·exact (hst2 o ho).1
    rw [if_pos hlt] at hk
    cases hk
    refine ⟨rfl,?_⟩
    rcases ho with ho | ho
    ·obtain ⟨_,⟨s,hs,hsk⟩,_⟩:=o2 o ho
     exact .inl (xhj.2 ⟨s,hs,hsk⟩)
    ·exact .inr (xhj.2 ⟨o,ho,rfl⟩)
   have apart:∀ o,o∈xcX S.base m3.us.reverse S.base S.rows m2.us.length→∀ k,xgR o.key m2.km=some (some k)→xgn k S.objs≠true∧xqJ k st≠true:=by
    intro o ho k hk
    have:=List.all_eq_true.1 c3 k (List.mem_filterMap.2 ⟨_,xkF hk,rfl⟩)
    simp only [Bool.and_eq_true] at this
    exact ⟨fun h=>(by rw [h] at this; cases this.1),fun h=>(by rw [h] at this; cases this.2)⟩
   have lowO:∀ o,o∈(xaR S.base m3.us.reverse S.objs m1.us.length).1→∀ k,o.key=k→xgn k S.objs=true:=by
    intro o ho k hk
    obtain ⟨_,⟨s,hs,hsk⟩,_⟩:=o2 o ho
    exact xhj.2 ⟨s,hs,hsk.trans hk⟩
   rcases mem o ho with h | h | h<;>rcases mem o' ho' with h' | h' | h'
   ·rw [(low o (.inl h) k hk).1,(low o' (.inl h') k hk').1]
   ·exact absurd (lowO o h k (low o (.inl h) k hk).1) (apart o' h' k (target o' h' k hk')).1
   ·rw [(low o (.inl h) k hk).1,(low o' (.inr h') k hk').1]
   ·exact absurd (lowO o' h' k (low o' (.inl h') k hk').1) (apart o h k (target o h k hk)).1
   ·exact xjB (xhK c1) (xkF (target o h k hk)) (xkF (target o' h' k hk'))
   ·-- an own row out of what still stands
    exfalso
    have ht:=target o h k hk
    have hkey:=(low o' (.inr h') k hk').1
    obtain ⟨_,_,_,_,q6⟩:=r1 o h
    rcases q6 with ⟨o1,ho1,t1,t2,_⟩ | ⟨t1,_⟩
    ·rw [ht] at t1
     have e:o1.key=k:=by injection t1 with t1; injection t1 with t1; exact t1.symm
     have:=hH.uniq o' (hst1 o' h') o1 ho1 (by rw [hkey,e])
     exact (apart o h k ht).2 (xoe.2 ⟨o',h',hkey,by rw [this]; exact t2 hown⟩)
    ·exact t1 k ht
   ·rw [(low o (.inr h) k hk).1,(low o' (.inl h') k hk').1]
   ·exact absurd (xoe.2 ⟨o,h,(low o (.inr h) k hk).1,hown⟩) (apart o' h' k (target o' h' k hk')).2
   ·rw [(low o (.inr h) k hk).1,(low o' (.inr h') k hk').1]
  ·intro o ho o' ho' hk
   rcases mem o ho with h | h | h<;>rcases mem o' ho' with h' | h' | h'
   ·exact xhb hnd h h' hk
   ·have:=(okey o h).1; have:=rkey o' h'; omega
   ·exact absurd hk.symm ((okey o h).2 o' h')
   ·have:=(okey o' h').1; have:=rkey o h; omega
   ·exact xhb (rnd S.rows S.base m2.us.length).1 h h' hk
   ·have:=(hst2 o' h').1; have:=rkey o h; omega
   ·exact absurd hk ((okey o' h').2 o h)
   ·have:=(hst2 o h).1; have:=rkey o' h'; omega
   ·exact hH.uniq o (hst1 o h) o' (hst1 o' h') hk
  ·intro o ho
   rcases mem o ho with ho | ho | ho
   ·obtain ⟨_,_,q,_⟩:=o2 o ho
    have:=(okey o ho).1
    exact ⟨by omega,xaU keyin q⟩
   ·obtain ⟨_,_,q4,q5,_⟩:=r1 o ho
    exact ⟨by omega,xca q5⟩
   ·have:=hst2 o ho
    exact ⟨by omega,xaU (fun k hk=>by omega) this.2⟩
 ·intro o ho
  rcases List.mem_append.1 ho with ho | ho
  ·rcases List.mem_append.1 ho with ho | ho
   ·exact .inl (o2 o ho).1
   ·exact .inl (r1 o ho).1
  ·exact .inr ho
theorem xu8 {S:Spec} {st:List Obj} {ver:Nat} {c:Cfg} {xs:List U} (h:S.match_ P st ver c=some xs):xpU c.heap.objs ver st=true:=by
 unfold Spec.match_ at h
 split at h
 case h_2=>cases h
 split at h
 case h_2=>cases h
 split at h
 case h_2=>cases h
 split at h
 case isFalse=>cases h
 rename_i hc
 simp only [Bool.and_eq_true] at hc
 exact hc.2
theorem xoD {objs:List Obj} {ver:Nat}:∀ {st:List Obj},xpU objs ver st=true→∀ o∈st,∃ o'∈objs,o'.key=o.key∧o'.ver<ver
 | [],_,o,ho=>by cases ho
 | s::r,h,o,ho=>by
  unfold xpU at h
  rw [Bool.and_eq_true] at h
  rcases List.mem_cons.1 ho with rfl | ho
  ·have h1:=h.1
   split at h1
   ·rename_i o' hf
    obtain ⟨hm,hk⟩:=xaj hf
    exact ⟨o',hm,hk,by simpa using h1⟩
   ·cases h1
  ·exact xoD h.2 o ho
end
end Go.Sy
set_option linter.unusedVariables false
namespace Go.Sy
open Go.RowKit
theorem xBA {look:Nat→Nat} {o:Oper} {m:Nat} (h:(CheckFast.one look o).testBit m=true):∃ e∈o.after,Region.binds .any e=true∧(e.on=m∨(look e.on).testBit m=true):=by
 have key:∀ (l:List Edge) (s:Nat),(l.foldl (fun s e=>if Region.binds .any e then s ||| 2 ^ e.on ||| look e.on else s) s).testBit m=true→s.testBit m=true∨∃ e∈l,Region.binds .any e=true∧(e.on=m∨(look e.on).testBit m=true):=by
  intro l
  induction l with
  | nil=>intro s h; exact .inl h
  | cons e r ih =>
   intro s h
   rcases ih _ h with h | ⟨e',he',h2⟩
   ·dsimp only at h
    by_cases hb:Region.binds .any e=true
    ·rw [if_pos hb] at h
     simp only [Nat.testBit_or,Nat.testBit_two_pow,Bool.or_eq_true,decide_eq_true_eq] at h
     rcases h with (h | h) | h
     ·exact .inl h
     ·exact .inr ⟨e,by simp,hb,.inl h⟩
     ·exact .inr ⟨e,by simp,hb,.inr h⟩
    ·rw [if_neg hb] at h
     exact .inl h
   ·exact .inr ⟨e',by simp [he'],h2⟩
 unfold CheckFast.one at h
 rw [← Array.foldl_toList] at h
 rcases key _ _ h with h | ⟨e,he,h2⟩
 ·simp at h
 ·exact ⟨e,by simpa using he,h2⟩
theorem xqy:∀ (l:List Oper) (acc:List Nat) (j:Nat),j<acc.length→(xem l acc).getD j 0=acc.getD j 0
 | [],acc,j,_=>rfl
 | o::r,acc,j,h=>by
  unfold xem
  rw [CheckFast.force_eq,xqy r _ j (by simp; omega)]
  simp [List.getD_eq_getElem?_getD,List.getElem?_append_left h]
theorem xtZ:∀ (l:List Oper) (acc:List Nat) (k:Nat) (o:Oper) (m:Nat),l[k]?=some o→((xem l acc).getD (acc.length+k) 0).testBit m=true →
  ∃ e∈o.after,Region.binds .any e=true∧(e.on=m∨(e.on<acc.length+k∧((xem l acc).getD e.on 0).testBit m=true))
 | [],acc,k,o,m,h,_=>by simp at h
 | x::r,acc,0,o,m,h,hb=>by
  simp only [List.getElem?_cons_zero,Option.some.injEq] at h
  subst h
  unfold xem at hb ⊢
  rw [CheckFast.force_eq] at hb ⊢
  rw [xqy r _ _ (by simp)] at hb
  have hb':(CheckFast.one (fun i=>acc.getD i 0) x).testBit m=true:=by simpa [List.getD_eq_getElem?_getD] using hb
  obtain ⟨e,he,h1,h2⟩:=xBA hb'
  refine ⟨e,he,h1,?_⟩
  rcases h2 with h2 | h2
  ·exact .inl h2
  ·have hlt:e.on<acc.length:=by
    rcases Nat.lt_or_ge e.on acc.length with h | h
    ·exact h
    ·simp [List.getD_eq_getElem?_getD,List.getElem?_eq_none h] at h2
   refine .inr ⟨by omega,?_⟩
   rw [xqy r _ _ (by simp; omega)]
   simpa [List.getD_eq_getElem?_getD,List.getElem?_append_left hlt] using h2
 | x::r,acc,k+1,o,m,h,hb=>by
  simp only [List.getElem?_cons_succ] at h
  unfold xem at hb ⊢
  rw [CheckFast.force_eq] at hb ⊢
  have e1:acc.length+(k+1)=(acc++[CheckFast.one (fun i=>acc.getD i 0) x]).length+k:=by simp; omega
  rw [e1] at hb ⊢
  exact xtZ r _ k o m h hb
def xo7 (ops:Array Oper) (S:Nat→Bool):Prop:=∀ i o,ops[i]?=some o→S i=true→∀ e∈o.after,Region.binds .any e=true→S e.on=true
theorem xig {ops:Array Oper} {S:Nat→Bool} (hS:xo7 ops S):∀ (n j:Nat),j<n→∀ o,ops[j]?=some o→(∀ e∈o.after,Region.binds .any e=true→S e.on=true)→∀ m,((xem ops.toList []).getD j 0).testBit m=true→S m=true
 | 0,j,h,_,_,_,_,_=>by omega
 | n+1,j,hj,o,ho,hpre,m,hm=>by
  have hm':((xem ops.toList []).getD (([]:List Nat).length+j) 0).testBit m=true:=by simpa using hm
  obtain ⟨e,he,hb,h2⟩:=xtZ ops.toList [] j o m (by simpa using ho) hm'
  rcases h2 with h2 | ⟨h2,h3⟩
  ·rw [← h2]; exact hpre e he hb
  ·have hse:=hpre e he hb
   have h2:e.on<j:=by simpa using h2
   cases hoe:ops[e.on]? with
   | none =>
    exfalso
    have hlen:∀ (l:List Oper) (acc:List Nat),(xem l acc).length=acc.length+l.length:=by
     intro l
     induction l with
     | nil=>intro acc; simp [xem]
     | cons x r ih=>intro acc; unfold xem; rw [CheckFast.force_eq,ih]; simp; omega
    have hge:ops.size≤e.on:=by
     rcases Nat.lt_or_ge e.on ops.size with h | h
     ·simp [h] at hoe
     ·exact h
    rw [List.getD_eq_getElem?_getD,List.getElem?_eq_none (by rw [hlen]; simpa using hge)] at h3
    simp at h3
   | some oe=>exact xig hS n e.on (by omega) oe hoe (hS e.on oe hoe hse) m h3
theorem xgN {t:Nat}:∀ (L:List Item) (i:Nat) (S S':Nat→Bool) (s s':xaS),s t=s' t→(∀ k it,L[k]?=some it→it.o.dst=some t→S (i+k)=S' (i+k))→xbv S i L s t=xbv S' i L s' t
 | [],_,_,_,_,_,h,_=>h
 | it::r,i,S,S',s,s',h,hS=>by
  unfold xbv
  refine xgN r (i+1) S S' _ _ ?_ (fun k x hx hd=>by have:=hS (k+1) x (by simpa using hx) hd; rwa [show i+(k+1)=i+1+k by omega] at this)
  by_cases hd:it.o.dst=some t
  ·have h0:=hS 0 it (by simp) hd
   simp only [Nat.add_zero] at h0
   rw [h0]
   split
   ·simp [put,hd,xbH]
   ·exact h
  ·have hput:∀ (s:xaS),put s it.o.dst it.slot t=s t:=fun s=>by
    unfold put
    cases hdd:it.o.dst with
    | none=>rfl
    | some d=>exact xcS _ _ (fun e=>hd (by rw [hdd,e]))
   split<;>split<;>simp [hput,h]
def xfP (key:Nat) (l:List Obj):List Obj:=l.filter fun o=>Nat.beq o.key key
theorem xoh (key:Nat):∀ (l:List Obj),xai key l=(xfP key l).head?
 | []=>rfl
 | o::r=>by
  unfold xai xfP
  cases h:Nat.beq o.key key with
  | true=>simp [h]
  | false =>
   simp only [List.filter_cons,h,Bool.false_eq_true,if_false]
   exact xoh key r
theorem xmZ {o:Obj} {l:List Obj}:o∈l↔o∈xfP o.key l:=by
 unfold xfP
 rw [List.mem_filter]
 simp
structure Fine (it:Item):Prop where
 pure:it.x.pure=true∨it.ctx=[]∨it.sure=true
 rm:∀ k∈it.x.rm,k<it.key
 touch:∀ o∈it.x.add,it.touch o.key=true
 ver:∀ o∈it.x.add,it.key≤o.ver
 noLoop:∀ o∈it.x.add,xu2 o.body=true
 below:∀ o∈it.x.add,AV.ltL (it.key+it.x.nk) o.body.cellsOf
 val:AV.lt (it.key+it.x.nk) it.x.v
theorem xuj {it:Item} (h:it.fine=true):Fine it:=by
 unfold Item.fine at h
 simp only [Bool.and_eq_true,Bool.or_eq_true,List.all_eq_true] at h
 obtain ⟨⟨⟨h1,h2⟩,h3⟩,h4⟩:=h
 refine ⟨by rcases h1 with (h1 | h1) | h1; exact .inl h1; exact .inr (.inl (by simpa using h1)); exact .inr (.inr h1),fun k hk=>by simpa using h2 k hk,fun o ho=>(h3 o ho).1.1.1,fun o ho=>Nat.le_of_ble_eq_true (h3 o ho).1.1.2,fun o ho=>(h3 o ho).1.2,fun o ho=>(xcm _).2 fun k hk=>by simpa using (h3 o ho).2 k hk,(xaW _).2 fun k hk=>by simpa using h4 k hk⟩
theorem xmG {it:Item} {key:Nat}:it.touch key=true↔key∈it.x.rm∨(it.key≤key∧key<it.key+it.x.nk):=by
 unfold Item.touch
 rw [Bool.or_eq_true,Bool.and_eq_true,xjK]
 simp
theorem Fine.addLt {it:Item} (h:Fine it) {o:Obj} (ho:o∈it.x.add):o.key<it.key+it.x.nk:=by
 rcases xmG.1 (h.touch o ho) with h1 | h1
 ·have:=h.rm _ h1; omega
 ·exact h1.2
theorem xl4 {p:Nat→Prop} {b:Body} (h:xu2 b=true) (hl:AV.allL p b.cellsOf):xa7 p b:=by
 cases b with
 | loop=>cases h
 | _=>exact hl
theorem xkA {it:Item} {key:Nat} (hf:Fine it) (h:it.touch key=false) (l:List Obj):xfP key (xeB it.x l)=xfP key l:=by
 unfold xfP xeB
 rw [List.filter_append]
 have h1:it.x.add.filter (fun o=>Nat.beq o.key key)=[]:=by
  rw [List.filter_eq_nil_iff]
  intro o ho hb
  rw [← Nat.eq_of_beq_eq_true hb,hf.touch o ho] at h
  cases h
 rw [h1,List.nil_append,List.filter_filter]
 apply List.filter_congr
 intro o _
 cases hk:Nat.beq o.key key with
 | false=>rfl
 | true =>
  rw [Nat.eq_of_beq_eq_true hk]
  have:it.x.rm.any (Nat.beq key)=false:=by
   unfold Item.touch at h
   rw [Bool.or_eq_false_iff] at h
   exact h.1
  rw [this]; rfl
theorem xkB {x:Eff} {key:Nat} {l l':List Obj} (h:xfP key l=xfP key l'):xfP key (xeB x l)=xfP key (xeB x l'):=by
 unfold xeB
 have e:∀ l:List Obj,xfP key (l.filter (fun o=>!(x.rm.any (Nat.beq o.key))))=(xfP key l).filter (fun o=>!(x.rm.any (Nat.beq o.key))):=by
  intro l
  unfold xfP
  rw [List.filter_filter,List.filter_filter]
  apply List.filter_congr
  intro o _
  exact Bool.and_comm _ _
 unfold xfP at e ⊢
 rw [List.filter_append,List.filter_append,e,e]
 unfold xfP at h
 rw [h]
theorem xfF {key:Nat}:∀ (L:List Item) (i:Nat) (S S':Nat→Bool) (l l':List Obj),(∀ it∈L,Fine it)→xfP key l=xfP key l'→(∀ k it,L[k]?=some it→it.touch key=true→S (i+k)=S' (i+k))→xfP key (xeb S i L l)=xfP key (xeb S' i L l')
 | [],_,_,_,_,_,_,h,_=>h
 | it::r,i,S,S',l,l',hf,h,hS=>by
  unfold xeb
  refine xfF r (i+1) S S' _ _ (fun y hy=>hf y (by simp [hy])) ?_ (fun k x hx hd=>by have:=hS (k+1) x (by simpa using hx) hd; rwa [show i+(k+1)=i+1+k by omega] at this)
  by_cases hd:it.touch key=true
  ·have h0:=hS 0 it (by simp) hd
   simp only [Nat.add_zero] at h0
   rw [h0]
   split
   ·exact xkB h
   ·exact h
  ·have hne:it.touch key=false:=by simpa using hd
   split<;>split<;>simp [xkA (hf it (by simp)) hne,h]
theorem xtS {key:Nat} {j:Nat} {x:Item}:∀ (L:List Item) (i k:Nat) (S S':Nat→Bool) (l:List Obj),(∀ it∈L,Fine it)→L[k]?=some x→i+k=j→S j=false→(∀ m,S' m=(S m||Nat.beq m j)) →
  (∀ k' it,L[k']?=some it→k<k'→x.touch key=true→it.touch key=true→S (i+k')=false)→xfP key (xeb S' i L l)=xfP key (xeB x.x (xeb S i L l))
 | [],_,_,_,_,_,_,h,_,_,_,_=>by simp at h
 | it::r,i,0,S,S',l,hf,h,hj,hSj,hS',hafter=>by
  simp only [List.getElem?_cons_zero,Option.some.injEq] at h
  subst h
  have hj:i=j:=by omega
  subst hj
  have hfr:∀ y∈r,Fine y:=fun y hy=>hf y (by simp [hy])
  unfold xeb
  rw [hS',hSj,xcM]
  simp only [Bool.or_true,if_true,Bool.false_eq_true,if_false]
  have hother:∀ k' y,r[k']?=some y→S' (i+1+k')=S (i+1+k'):=fun k' y _=>by
   rw [hS',xhQ (by omega)]; simp
  by_cases ht:it.touch key=true
  ·-- nothing behind it touches the key
   have hno:∀ (l:List Obj),xfP key (xeb S (i+1) r l)=xfP key l:=by
    intro l
    have:=xfF (key:=key) r (i+1) S (fun _=>false) l l hfr rfl (fun k' y hy hty=>by
     have:=hafter (k'+1) y (by simpa using hy) (by omega) ht hty
     rwa [show i+(k'+1)=i+1+k' by omega] at this)
    rw [this]
    have e:∀ (L:List Item) (i:Nat) (l:List Obj),xeb (fun _=>false) i L l=l:=by
     intro L
     induction L with
     | nil=>intro i l; rfl
     | cons y r ih=>intro i l; unfold xeb; simp only [Bool.false_eq_true,if_false]; exact ih _ _
    rw [e]
   rw [xfF (key:=key) r (i+1) S' S _ _ hfr rfl (fun k' y hy _=>hother k' y hy),hno]
   exact xkB (x:=it.x) (hno l).symm
  ·have hne:it.touch key=false:=by simpa using ht
   rw [xkA (hf it (by simp)) hne]
   exact xfF r (i+1) S' S _ _ hfr (xkA (hf it (by simp)) hne l) (fun k' y hy _=>hother k' y hy)
 | it::r,i,k+1,S,S',l,hf,h,hj,hSj,hS',hafter=>by
  simp only [List.getElem?_cons_succ] at h
  unfold xeb
  have e:S' i=S i:=by rw [hS',xhQ (by omega)]; simp
  rw [e]
  exact xtS r (i+1) k S S' _ (fun y hy=>hf y (by simp [hy])) h (by omega) hSj hS' (fun k' y hy hlt hx hty=>by
   have:=hafter (k'+1) y (by simpa using hy) (by omega) hx hty
   rwa [show i+(k'+1)=i+1+k' by omega] at this)
end Go.Sy
set_option linter.unusedVariables false
namespace Go.Sy
open Go.RowKit
section congr
variable {P:Program} {Γ:Con} {ρ ρ':Operand→Option AV} {objs objs':List Obj} {K:Nat}
theorem xhq:∀ (l:List Operand),(∀ x∈l,ρ x=ρ' x)→xkn ρ l=xkn ρ' l
 | [],_=>rfl
 | x::r,h=>by
  unfold xkn
  rw [h x (by simp),xhq r (fun y hy=>h y (by simp [hy]))]
theorem xkl:∀ (l:List (Nat×Operand)),(∀ x∈l.map (·.2),ρ x=ρ' x)→xfZ ρ l=xfZ ρ' l
 | [],_=>rfl
 | (i,x)::r,h=>by
  unfold xfZ
  rw [h x (by simp),xkl r (fun y hy=>h y (by simp at hy ⊢; exact .inr hy))]
theorem xmQ {sz:Nat}:∀ (l:List (Nat×Operand)) (j:Nat),(∀ x∈l.map (·.2),ρ x=ρ' x)→xgY ρ sz j l=xgY ρ' sz j l
 | [],_,_=>rfl
 | (i,x)::r,j,h=>by
  unfold xgY
  rw [h x (by simp),xmQ r (j+1) (fun y hy=>h y (by simp at hy ⊢; exact .inr hy))]
theorem xow {t:TypeId} {len:Nat} (l:List (Nat×Operand)) (h:∀ x∈l.map (·.2),ρ x=ρ' x):xdb P ρ K t len l=xdb P ρ' K t len l:=by
 unfold xdb
 simp only [xmQ l 0 h]
theorem xxm {k:NK} {v:AV} (h:∀ key∈v.keys,xai key objs=xai key objs'):encK P objs K k v=encK P objs' K k v:=by
 cases k with
 | c k=>rfl
 | s e ks =>
  cases v with
  | sl key=>simp only [encK,h key (by simp [AV.keys])]
  | val x =>
   by_cases hv:x=.slice none 0 0
   ·subst hv; rfl
   ·have e1:∀ os:List Obj,encK P os K (.s e ks) (.val x)=none:=by
     intro os
     unfold encK
     split<;>first | rfl | (rename_i heq; cases heq; exact absurd rfl hv) | (rename_i heq; cases heq)
    rw [e1,e1]
  | _=>rfl
theorem xsc:∀ {ks:List NK} {vs:List AV},(∀ key∈AV.keysL vs,xai key objs=xai key objs')→encE P objs K ks vs=encE P objs' K ks vs
 | [],[],_=>rfl
 | k::ks,v::vs,h=>by
  unfold encE
  rw [xxm (fun key hk=>h key (by simp [AV.keysL,hk])),xsc (fun key hk=>h key (by simp [AV.keysL,hk]))]
 | [],_::_,_=>rfl
 | _::_,[],_=>rfl
theorem xsb {ks:List NK}:∀ {els:List (List AV)},(∀ el∈els,∀ key∈AV.keysL el,xai key objs=xai key objs')→encR P objs K ks els=encR P objs' K ks els
 | [],_=>rfl
 | el::els,h=>by
  unfold encR
  rw [xsc (h el (by simp)),xsb (fun el' hel=>h el' (by simp [hel]))]
theorem xuP {x:Eff} (h:∀ o∈x.add,∀ e sz els,o.body=.arr e sz els→∀ el∈els,∀ key∈AV.keysL el,xai key objs=xai key objs'):xrl P objs K x=xrl P objs' K x:=by
 unfold xrl
 split
 ·rename_i k ver e sz els v
  have:=fun ks=>xsb (P:=P) (K:=K) (ks:=ks) (h _ (List.mem_singleton.2 rfl) e sz els rfl)
  simp only [this]
 ·rfl
theorem xoH {sz:Nat}:∀ {l:List (Nat×Operand)} {j:Nat} {els:List (List AV)},xgY ρ sz j l=some els→(∀ key∈l.flatMap (fun p=>xr4 (ρ p.2)),xai key objs=xai key objs')→∀ el∈els,∀ key∈AV.keysL el,xai key objs=xai key objs'
 | [],_,els,h,_=>by cases h; simp
 | (i,x)::r,j,els,h,hk=>by
  unfold xgY at h
  split at h
  ·split at h
   ·rename_i v hv
    split at h
    ·split at h
     ·rename_i els' hr
      cases h
      intro el hel
      rcases List.mem_cons.1 hel with rfl | hel
      ·exact fun key hkey=>hk key (by simp only [List.flatMap_cons,List.mem_append]; left; rw [hv]; exact hkey)
      ·exact xoH hr (fun key hkey=>hk key (by simp only [List.flatMap_cons,List.mem_append]; exact .inr hkey)) el hel
     ·cases h
    ·cases h
   ·cases h
  ·cases h
theorem xou {t:TypeId} {len:Nat} (l:List (Nat×Operand)) (h:∀ x∈l.map (·.2),ρ x=ρ' x) (hf:∀ key∈l.flatMap (fun p=>xr4 (ρ p.2)),xai key objs=xai key objs') :
  ((xdb P ρ K t len l).map fun x=>(xrl P objs K x).getD x)=(xdb P ρ' K t len l).map fun x=>(xrl P objs' K x).getD x:=by
 rw [← xow l h]
 cases hb:xdb P ρ K t len l with
 | none=>rfl
 | some x =>
  simp only [Option.map_some]
  rw [xuP]
  unfold xdb at hb
  split at hb
  ·split at hb
   ·split at hb
    ·rename_i els hels
     split at hb
     ·cases hb
      intro o ho e sz els' hbody
      simp only [List.mem_singleton] at ho
      subst ho
      cases hbody
      exact xoH hels hf
     ·cases hb
    ·cases hb
   ·cases hb
  ·cases hb
theorem xjr (x:Option Operand) (h:∀ y,x=some y→ρ y=ρ' y):xsI ρ x=xsI ρ' x:=by
 cases x with
 | none=>rfl
 | some y=>simp only [xsI,h y rfl]
def xdF (objs objs':List Obj) (v:Option AV):Prop:=∀ key∈keyOf v,xai key objs=xai key objs'
theorem xvd {t:TypeId} {v:AV} (h:xdF objs objs' (some v)):xxc P objs t v=xxc P objs' t v:=by
 cases v<;>first | rfl | (simp only [xxc]; rw [h _ (by simp [keyOf])])
theorem xt4 {t:TypeId} {v:AV} (h:xdF objs objs' (some v)):xqA P objs K t v=xqA P objs' K t v:=by
 cases v<;>first | rfl | (simp only [xqA]; rw [h _ (by simp [keyOf])])
theorem xrJ {t:TypeId} {s x:AV} (hs:xdF objs objs' (some s)) (h:xdF objs objs' (some x)):xlr P objs K t s x=xlr P objs' K t s x:=by
 cases x with
 | sl key2 =>
  have hk2:=h key2 (by simp [keyOf])
  simp only [xlr]
  rw [hk2]
  have hk:tgtA objs s=tgtA objs' s:=by
   cases s with
   | sl key=>exact hs key (by simp [keyOf])
   | _=>rfl
  rw [hk]
 | _=>rfl
theorem xtv {t:TypeId} {v x:AV} (h:xdF objs objs' (some x)):xpT P objs K t v x=xpT P objs' K t v x:=by
 cases x<;>first | rfl | (simp only [xpT]; rw [h _ (by simp [keyOf])])
theorem xps {t:TypeId} {x i:AV} (h:xdF objs objs' (some x)):xhi P objs t x i=xhi P objs' t x i:=by
 unfold xhi
 split
 ·rfl
 ·rename_i e _
  cases x with
  | sl key =>
   have hk:xai key objs=xai key objs':=h key (by simp [keyOf])
   generalize intA i=oi
   generalize xhS P e=os
   cases oi with
   | none=>rfl
   | some n=>cases os with
    | none=>rfl
    | some s=>cases s with
     | zero=>rfl
     | succ s=>simp only [hk]
  | vw key sz lo hi =>
   have hk:xai key objs=xai key objs':=h key (by simp [keyOf])
   generalize intA i=oi
   generalize xhS P e=os
   cases oi with
   | none=>rfl
   | some n=>cases os with
    | none=>rfl
    | some s=>cases s with
     | zero=>rfl
     | succ s=>simp only [hk]
  | _=>rfl
 ·rfl
theorem xj6 {d:Nat} {x:AV} (h:xdF objs objs' (some x)):xgF P objs d x=xgF P objs' d x:=by
 cases x<;>first | rfl | (simp only [xgF]; rw [h _ (by simp [keyOf])])
theorem xpq {t:TypeId} {x i:AV} (h:xdF objs objs' (some x)):xhh P objs t x i=xhh P objs' t x i:=by
 unfold xhh
 split
 ·exact xj6 h
 ·exact xps h
theorem xtz {t:TypeId} {x:AV} {lo hi:Option Int} (h:xdF objs objs' (some x)):xpX P objs t x lo hi=xpX P objs' t x lo hi:=by
 cases x with
 | sl key=>simp only [xpX,xiL]; rw [h _ (by simp [keyOf])]
 | vw key sz l0 h0 =>
  cases l0 with
  | none=>simp only [xpX,xiL]; rw [h _ (by simp [keyOf])]
  | some _=>rfl
 | _=>rfl
theorem xsv {t:TypeId} {x:AV} (h:xdF objs objs' (some x)):xnN P objs K t x=xnN P objs' K t x:=by
 cases x with
 | sl key=>simp only [xnN]; rw [h _ (by simp [keyOf])]
 | val v=>cases v with
  | slice a n c=>cases a<;>cases n<;>cases c<;>rfl
  | _=>rfl
 | _=>rfl
theorem xst {t:TypeId} {x:AV} {lo:Option Int} {hi mx:Int} (h:xdF objs objs' (some x)):xnM P objs K t x lo hi mx=xnM P objs' K t x lo hi mx:=by
 cases x<;>first | rfl | (simp only [xnM]; rw [h _ (by simp [keyOf])])
theorem xux {t:TypeId} {x:AV} (h:xdF objs objs' (some x)):xsi P objs K t x=xsi P objs' K t x:=by
 cases x<;>first | rfl | (simp only [xsi,xla]; rw [h _ (by simp [keyOf])])
theorem xnL {x:AV} (h:xdF objs objs' (some x)):srcA P objs x=srcA P objs' x:=by
 cases x<;>first | rfl | (simp only [srcA]; rw [h _ (by simp [keyOf])])
theorem xwT {x:AV} (h:xdF objs objs' (some x)):tgtA objs x=tgtA objs' x:=by
 cases x<;>first | rfl | (simp only [tgtA]; rw [h _ (by simp [keyOf])])
theorem xxe {t:Option TypeDesc} {x:AV} (h:xdF objs objs' (some x)):lenA P objs t x=lenA P objs' t x:=by
 unfold lenA
 split
 ·rename_i e key
  have hk:xai key objs=xai key objs':=h key (by simp [keyOf])
  rw [hk]
 ·rfl
 ·rename_i e key sz lo hi
  have hk:xai key objs=xai key objs':=h key (by simp [keyOf])
  rw [hk]
 ·rfl
theorem xra {t:TypeId} {s x:AV} (hs:xdF objs objs' (some s)) (h:xdF objs objs' (some x)):xgU P objs K t s x=xgU P objs' K t s x:=by
 unfold xgU
 rw [xnL h,xwT hs]
theorem xq8 {t:TypeId} {s x:AV} (hs:xdF objs objs' (some s)) (h:xdF objs objs' (some x)):xjl P objs K t s x=xjl P objs' K t s x:=by
 cases s with
 | vw key sz lo hi =>
  simp only [xjl]
  rw [xnL h,hs _ (by simp [keyOf])]
 | _=>rfl
theorem xsU {t:TypeId} {x ix:AV} {ok:Bool} (h:xdF objs objs' (some x)):xn4 P objs t x ix ok=xn4 P objs' t x ix ok:=by
 cases x<;>first | rfl | (simp only [xn4]; rw [h _ (by simp [keyOf])])
theorem xpg {t:TypeId} {x ix v:AV} (h:xdF objs objs' (some x)):xhf P objs K t x ix v=xhf P objs' K t x ix v:=by
 cases x<;>first | rfl | (simp only [xhf]; rw [h _ (by simp [keyOf])])
theorem xxl {k:NK} {v:AV} (h:∀ key∈v.keys,xai key objs=xai key objs'):encQ P objs k v=encQ P objs' k v:=by
 cases k with
 | c k=>rfl
 | s e ks =>
  cases v with
  | sl key=>simp only [encQ,h key (by simp [AV.keys])]
  | val x =>
   by_cases hv:x=.slice none 0 0
   ·subst hv; rfl
   ·have e1:∀ os:List Obj,encQ P os (.s e ks) (.val x)=none:=by
     intro os
     unfold encQ
     split<;>first | rfl | (rename_i heq; cases heq; exact absurd rfl hv) | (rename_i heq; cases heq)
    rw [e1,e1]
  | _=>rfl
theorem xmx:∀ {ks:List NK} {vs:List AV},(∀ key∈AV.keysL vs,xai key objs=xai key objs')→xrF P objs ks vs=xrF P objs' ks vs
 | [],[],_=>rfl
 | k::ks,v::vs,h=>by
  unfold xrF
  rw [xxl (fun key hk=>h key (by simp [AV.keysL,hk])),xmx (fun key hk=>h key (by simp [AV.keysL,hk]))]
 | [],_::_,_=>rfl
 | _::_,[],_=>rfl
theorem xsS {t:TypeId} {x ix:AV} {ok:Bool} (h:xdF objs objs' (some x)):xn3 P objs K t x ix ok=xn3 P objs' K t x ix ok:=by
 have hz:∀ et z,xls P et=some (.agg z)→∀ ks,xrF P objs ks z=xrF P objs' ks z:=fun et z hz ks=>xmx fun key hk=>by
  have:=xrd hz (fun _=>False)
  exact ((xcm z).1 this key hk).elim
 cases x with
 | sl key =>
  simp only [xn3]
  rw [h _ (by simp [keyOf])]
  split
  ·rename_i kt et q ks l _
   cases intK q ix with
   | none=>rfl
   | some n =>
    cases hze:xls P et with
    | none=>rfl
    | some z =>
     cases z with
     | agg z=>simp only [hz et z hze ks]
     | _=>rfl
  ·rfl
 | _=>rfl
theorem xpe {t:TypeId} {x ix v:AV} (h:xdF objs objs' (some x)) (hv:∀ key∈AV.keysL v.cells,xai key objs=xai key objs'):xhe P objs K t x ix v=xhe P objs' K t x ix v:=by
 cases x with
 | sl key =>
  simp only [xhe]
  rw [h _ (by simp [keyOf])]
  split
  ·rename_i kt et q ks l _
   cases intK q ix with
   | none=>rfl
   | some n=>cases v with
    | agg cs=>simp only [xmx (P:=P) (objs:=objs) (objs':=objs') (ks:=ks) (vs:=cs) hv]
    | _=>rfl
  ·rfl
 | _=>rfl
theorem xrS:∀ {l:List Operand} {vs:List AV},xkn ρ l=some vs→(∀ key∈l.flatMap (fun x=>keyOf (ρ x)),xai key objs=xai key objs')→∀ v∈vs,xdF objs objs' (some v)
 | [],vs,h,_,v,hv=>by cases h; cases hv
 | x::r,vs,h,hk,v,hv=>by
  unfold xkn at h
  split at h
  ·rename_i u us h1 h2
   cases h
   rcases List.mem_cons.1 hv with rfl | hv
   ·intro key hkey
    exact hk key (by simp only [List.flatMap_cons,List.mem_append]; rw [h1]; exact .inl hkey)
   ·exact xrS h2 (fun key hkey=>hk key (by simp only [List.flatMap_cons,List.mem_append]; exact .inr hkey)) v hv
  ·cases h
theorem xo3 (op:Op) (h:∀ x∈op.operands,ρ x=ρ' x) (hf:∀ key∈xnj ρ op,xai key objs=xai key objs'):xfk P ρ objs K op=xfk P ρ' objs' K op:=by
 unfold xfk
 split
 ·rename_i x; rw [h x (by simp [Op.operands])]
 ·rename_i x; rw [h x (by simp [Op.operands])]
 ·rfl
 ·rename_i x; rw [h x (by simp [Op.operands])]
 ·rename_i t len parts
  exact xou parts.toList (fun x hx=>h x (by
   obtain ⟨p,hp,rfl⟩:=List.mem_map.1 hx
   simp only [Op.operands,List.mem_toArray,List.mem_map]
   exact ⟨p,hp,rfl⟩)) hf
 ·rename_i t parts
  rw [xkl parts.toList (fun x hx=>h x (by
   obtain ⟨p,hp,rfl⟩:=List.mem_map.1 hx
   simp only [Op.operands,List.mem_toArray,List.mem_map]
   exact ⟨p,hp,rfl⟩))]
 ·rename_i t x
  rw [← h x (by simp [Op.operands])]
  cases hx:ρ x with
  | none=>rfl
  | some v =>
   simp only []
   rw [xt4 (objs':=objs') (by rw [← hx]; exact hf),xvd (objs':=objs') (by rw [← hx]; exact hf)]
 ·rename_i t x y
  rw [← h x (by simp [Op.operands]),← h y (by simp [Op.operands])]
  cases hx:ρ x with
  | none=>rfl
  | some v=>cases hy:ρ y with
   | none=>rfl
   | some u=>exact xtv (by rw [← hx]; exact hf)
 ·rename_i x; rw [h x (by simp [Op.operands])]
 ·rename_i x y _; rw [h x (by simp [Op.operands]),h y (by simp [Op.operands])]
 ·rename_i x; rw [h x (by simp [Op.operands])]
 ·rename_i x; rw [h x (by simp [Op.operands])]
 ·rename_i x; rw [h x (by simp [Op.operands])]
 ·rename_i first caps
  rw [xhq first.toList (fun x hx=>h x (by simp only [Op.operands,Array.mem_append]; exact .inl (by simpa using hx))),
   xhq caps.toList (fun x hx=>h x (by simp only [Op.operands,Array.mem_append]; exact .inr (by simpa using hx)))]
 ·rename_i x _
  rw [← h x (by simp [Op.operands])]
  cases hx:ρ x with
  | none=>rfl
  | some v =>
   have hv:xdF objs objs' (some v):=by rw [← hx]; exact hf
   split
   ·rename_i v' fd he _
    cases he
    split
    ·exact xj6 hv
    ·rfl
   ·rfl
 ·rename_i x _; rw [h x (by simp [Op.operands])]
 ·rename_i x i; rw [h x (by simp [Op.operands]),h i (by simp [Op.operands])]
 ·rename_i x i
  rw [← h x (by simp [Op.operands]),← h i (by simp [Op.operands])]
  cases hx:ρ x with
  | none=>rfl
  | some v=>cases hi:ρ i with
   | none=>rfl
   | some u=>exact xpq (by rw [← hx]; exact hf)
 ·rename_i x _; rw [h x (by simp [Op.operands])]
 ·rename_i t x lo hi
  rw [← h x (by simp [Op.operands]),xjr (ρ:=ρ) (ρ':=ρ') lo (fun y hy=>h y (by subst hy; simp [Op.operands])),xjr (ρ:=ρ) (ρ':=ρ') hi (fun y hy=>h y (by subst hy; simp [Op.operands]))]
  cases hx:ρ x with
  | none=>rfl
  | some v =>
   have hv:xdF objs objs' (some v):=by rw [← hx]; exact hf
   split
   ·rename_i v' lo hi he _ _
    cases he
    exact xtz hv
   ·rfl
 ·rename_i t x lo hi mx
  rw [← h x (by simp [Op.operands]),← h mx (by simp [Op.operands]),xjr (ρ:=ρ) (ρ':=ρ') lo (fun y hy=>h y (by subst hy; simp [Op.operands])),xjr (ρ:=ρ) (ρ':=ρ') hi (fun y hy=>h y (by subst hy; simp [Op.operands]))]
  have e1:hi.bind ρ=hi.bind ρ':=by
   cases hi with
   | none=>rfl
   | some y=>exact h y (by simp [Op.operands])
  rw [← e1]
  cases hx:ρ x with
  | none=>rfl
  | some v =>
   have hv:xdF objs objs' (some v):=by rw [← hx]; exact hf
   simp only []
   rw [xsv hv]
   simp only [xst hv]
 ·rfl
 ·rename_i t x ix ok
  rw [← h x (by simp [Op.operands]),← h ix (by simp [Op.operands])]
  cases hx:ρ x with
  | none=>rfl
  | some v=>cases hi:ρ ix with
   | none=>rfl
   | some u=>simp only []; rw [xsS (by rw [← hx]; exact hf),xsU (by rw [← hx]; exact hf)]
 ·rename_i t x ix y
  rw [← h x (by simp [Op.operands]),← h ix (by simp [Op.operands]),← h y (by simp [Op.operands])]
  cases hx:ρ x with
  | none=>rfl
  | some v=>cases hi:ρ ix with
   | none=>rfl
   | some u=>cases hy:ρ y with
    | none=>rfl
    | some z =>
     have h1:xdF objs objs' (some v):=by rw [← hx]; exact fun key hk=>hf key (by simp only [xnj,List.mem_append]; exact .inl hk)
     simp only []
     rw [xpe h1 (fun key hk=>hf key (by simp only [xnj,List.mem_append]; right; rw [hy]; exact hk)),xpg h1]
 ·rename_i b args argTypes
  rw [← xhq args.toList (fun x hx=>h x (by simp only [Op.operands,Call.operands,Array.mem_append]; exact .inr (by simpa using hx)))]
  cases hvs:xkn ρ args.toList with
  | none=>rfl
  | some vs =>
   have hsame:=xrS (objs:=objs) (objs':=objs') hvs hf
   simp only []
   split
   ·rfl
   ·rfl
   ·split
    ·rename_i x; exact xxe (hsame x (by simp))
    ·rfl
   ·split
    ·rename_i s x t t' _
     rw [xrJ (hsame s (by simp)) (hsame x (by simp)),xra (hsame s (by simp)) (hsame x (by simp)),xq8 (hsame s (by simp)) (hsame x (by simp))]
    ·rfl
   ·split
    ·rename_i x t _
     exact xux (hsame x (by simp))
    ·rfl
   ·rfl
 ·rfl
mutual
theorem xyL:∀ v:AV,v.weak.keys=v.keys
 | .bool _ | .int _ _ | .ptr _ _ | .fn _ _ _ | .sl _ | .ix _ _ _ _ _ | .yl _ | .vw _ _ _ _=>rfl
 | .val v=>by cases v<;>rfl
 | .agg cs=>by simp only [AV.weak,AV.keys,xiW cs]
 | .tup cs=>by simp only [AV.weak,AV.keys,xiW cs]
theorem xiW:∀ l:List AV,AV.keysL (AV.weakL l)=AV.keysL l
 | []=>rfl
 | a::r=>by simp only [AV.weakL,AV.keysL,xyL a,xiW r]
end
theorem xvg (v:Option AV):xr4 (v.map AV.weak)=xr4 v:=by
 cases v with
 | none=>rfl
 | some v=>cases v with
  | val u=>cases u<;>rfl
  | agg cs=>exact xiW cs
  | tup cs=>show AV.keys (AV.tup (AV.weakL cs))++[]=AV.keys (AV.tup cs)++[]; simp only [AV.keys,xiW cs]
  | _=>rfl
theorem xvR (op:Op) (h:∀ x∈op.operands,ρ x=ρ' x) (hf:∀ key∈xnj ρ op,xai key objs=xai key objs'):xmC P ρ objs K op=xmC P ρ' objs' K op:=by
 have hw:∀ x∈op.operands,(ρ x).map AV.weak=(ρ' x).map AV.weak:=fun x hx=>by rw [h x hx]
 have kw:∀ v:Option AV,keyOf (v.map AV.weak)=keyOf v:=by
  intro v
  cases v with
  | none=>rfl
  | some v=>cases v with
   | val u=>cases u<;>rfl
   | _=>rfl
 have fw:∀ op,xnj (fun z=>(ρ z).map AV.weak) op=xnj ρ op:=by
  intro op
  unfold xnj
  split<;>simp only [kw,xvg]
 have w0:xfk P (fun z=>(ρ z).map AV.weak) objs K op=xfk P (fun z=>(ρ' z).map AV.weak) objs' K op:=xo3 _ hw (fun key hk=>by rw [fw] at hk; exact hf key hk)
 unfold xmC
 split
 ·rename_i x y _
  rw [h x (by simp [Op.operands]),h y (by simp [Op.operands]),w0]
 ·rename_i x
  rw [h x (by simp [Op.operands]),w0]
 ·rename_i x
  rw [h x (by simp [Op.operands]),w0]
 ·exact w0
 ·exact w0
 ·exact xo3 _ h hf
theorem xsk {t:Option TypeId} {k i:Nat} {acc acc':List xdV} (h:canK P objs t k acc=some (i,acc')) :
  (∀ x∈acc,x∈acc')∧((∀ x∈acc',∀ k,x.key=some k→xai k objs=xai k objs')→canK P objs' t k acc=some (i,acc')):=by
 unfold canK at h ⊢
 split at h
 ·rename_i j hj
  cases h
  exact ⟨fun _ hx=>hx,fun _=>rfl⟩
 ·rename_i hn
  split at h
  ·rename_i o ho
   cases h
   refine ⟨fun x hx=>by simp [hx],fun hs=>?_⟩
   rw [← hs ⟨some k,o.own,match o.body with | .nil=>xfH P t | b=>b⟩ (List.mem_append.2 (.inr (List.mem_singleton.2 rfl))) k rfl,ho]
  ·cases h
mutual
theorem xxz:∀ (v:AV) (t:Option TypeId) (acc:List xdV) (v':AV) (acc':List xdV),canV P objs t v acc=some (v',acc') →
  (∀ x∈acc,x∈acc')∧((∀ x∈acc',∀ k,x.key=some k→xai k objs=xai k objs')→canV P objs' t v acc=some (v',acc'))
 | .sl k,t,acc,v',acc',h=>by
  unfold canV at h ⊢
  split at h
  ·rename_i i acc1 hc
   cases h
   obtain ⟨a,b⟩:=xsk (objs':=objs') hc
   exact ⟨a,fun hs=>by rw [b hs]⟩
  ·cases h
 | .ptr k off,t,acc,v',acc',h=>by
  unfold canV at h ⊢
  split at h
  ·rename_i i acc1 hc
   cases h
   obtain ⟨a,b⟩:=xsk (objs':=objs') hc
   exact ⟨a,fun hs=>by rw [b hs]⟩
  ·cases h
 | .fn f first caps,t,acc,v',acc',h=>by
  unfold canV at h ⊢
  split at h
  ·rename_i first' acc1 h1
   split at h
   ·rename_i caps' acc2 h2
    cases h
    obtain ⟨a,b⟩:=xhm first [] acc first' acc1 h1
    obtain ⟨a',b'⟩:=xhm caps [] acc1 caps' acc' h2
    exact ⟨fun x hx=>a' x (a x hx),fun hs=>by rw [b (fun x hx=>hs x (a' x hx))]; simp only []; rw [b' hs]⟩
   ·cases h
  ·cases h
 | .agg cs,t,acc,v',acc',h=>by
  unfold canV at h ⊢
  split at h
  ·rename_i cs' acc1 h1
   cases h
   obtain ⟨a,b⟩:=xhm cs _ acc cs' acc' h1
   exact ⟨a,fun hs=>by rw [b hs]⟩
  ·cases h
 | .tup cs,t,acc,v',acc',h=>by
  unfold canV at h ⊢
  split at h
  ·rename_i cs' acc1 h1
   cases h
   obtain ⟨a,b⟩:=xhm cs _ acc cs' acc' h1
   exact ⟨a,fun hs=>by rw [b hs]⟩
  ·cases h
 | .yl _,t,acc,v',acc',h=>by cases h
 | .ix _ _ _ _ _,t,acc,v',acc',h=>by cases h
 | .vw _ _ _ _,t,acc,v',acc',h=>by cases h
 | .bool b,t,acc,v',acc',h=>by simp only [canV] at h ⊢; cases h; exact ⟨fun _ hx=>hx,fun _=>rfl⟩
 | .int k b,t,acc,v',acc',h=>by simp only [canV] at h ⊢; cases h; exact ⟨fun _ hx=>hx,fun _=>rfl⟩
 | .val v,t,acc,v',acc',h=>by
  by_cases hv:v=.slice none 0 0
  ·subst hv
   simp only [canV] at h ⊢
   split at h
   ·cases h; exact ⟨fun x hx=>by simp [hx],fun _=>rfl⟩
   ·cases h; exact ⟨fun _ hx=>hx,fun _=>rfl⟩
  ·have e:∀ objs,canV P objs t (.val v) acc=some (.val v,acc):=by
    intro objs
    unfold canV
    split<;>first | rfl | (rename_i heq; cases heq; exact absurd rfl hv) | (rename_i heq; cases heq)
   rw [e] at h
   cases h
   exact ⟨fun _ hx=>hx,fun _=>e _⟩
theorem xhm:∀ (l:List AV) (ts:List TypeId) (acc:List xdV) (l':List AV) (acc':List xdV),canL P objs ts l acc=some (l',acc') →
  (∀ x∈acc,x∈acc')∧((∀ x∈acc',∀ k,x.key=some k→xai k objs=xai k objs')→canL P objs' ts l acc=some (l',acc'))
 | [],ts,acc,l',acc',h=>by cases h; exact ⟨fun _ hx=>hx,fun _=>by unfold canL; rfl⟩
 | a::r,ts,acc,l',acc',h=>by
  unfold canL at h ⊢
  split at h
  ·rename_i a' acc1 h1
   split at h
   ·rename_i r' acc2 h2
    cases h
    obtain ⟨x1,x2⟩:=xxz a _ acc a' acc1 h1
    obtain ⟨y1,y2⟩:=xhm r _ acc1 r' acc' h2
    exact ⟨fun x hx=>y1 x (x1 x hx),fun hs=>by rw [x2 (fun x hx=>hs x (y1 x hx))]; simp only []; rw [y2 hs]⟩
   ·cases h
  ·cases h
end
theorem xoY:∀ {es0 es:List xdV},xfo P es0=some es→es.map (·.key)=es0.map (·.key)
 | [],es,h=>by cases h; rfl
 | x::r,es,h=>by
  have key:∀ b:Body,((xfo P r).map ({ x with body:=b }::·))=some es→es.map (·.key)=(x::r).map (·.key):=by
   intro b h
   cases hr:xfo P r with
   | none=>rw [hr] at h; cases h
   | some es'=>rw [hr] at h; cases h; simp [xoY hr]
  unfold xfo at h
  obtain ⟨xk,xo,xb⟩:=x
  cases xb with
  | row e ks l=>exact key _ h
  | nst e ks l=>exact key _ h
  | sub e ks l=>exact key _ h
  | nil=>exact key _ h
  | arr e sz els =>
   simp only [] at h
   split at h
   ·exact key _ h
   ·cases h
  | cells=>cases h
  | mq=>exact key _ h
  | mp=>cases h
  | fin=>cases h
  | loop=>cases h
theorem xq3 {f:FuncId} {args:List AV} {ft:List Nat} {y:Eff} (h:xuC P Γ f args objs K=some (ft,y)) (hf:∀ key∈ft,xai key objs=xai key objs'):xuC P Γ f args objs' K=some (ft,y):=by
 have h0:=h
 unfold xuC at h
 split at h
 case h_2=>cases h
 rename_i args' es0 hcan
 split at h
 case h_2=>cases h
 rename_i es hrows
 split at h
 case h_2=>cases h
 rename_i o' hobjs
 split at h
 case h_2=>cases h
 rename_i x hx
 split at h
 case h_2=>cases h
 rename_i y' hy
 cases h
 have hkeys:=xoY hrows
 have hcan':=(xhm (objs':=objs') _ _ _ _ _ hcan).2 (fun x hx k hk=>hf k (by
  have h1:some k∈es0.map (·.key):=List.mem_map.2 ⟨x,hx,hk⟩
  rw [← hkeys] at h1
  obtain ⟨z,hz,hzk⟩:=List.mem_map.1 h1
  exact List.mem_filterMap.2 ⟨z,hz,hzk⟩))
 unfold xuC at h0 ⊢
 rw [hcan] at h0
 rw [hcan']
 exact h0
theorem xiw (k:Nat):∀ a b:List Obj,xai k (a++b)=match xai k a with | some o=>some o | none=>xai k b
 | [],b=>rfl
 | x::r,b=>by
  simp only [List.cons_append,xai]
  split
  ·rfl
  ·exact xiw k r b
theorem xiv (k K:Nat):∀ l:List Obj,xai k (l.filter fun o=>Nat.blt o.key K)=if k<K then xai k l else none
 | []=>by simp [xai]
 | x::r=>by
  have ih:=xiv k K r
  rw [List.filter_cons]
  by_cases hx:Nat.blt x.key K=true
  ·rw [if_pos hx]
   simp only [xai]
   split
   ·rename_i he
    have:=Nat.eq_of_beq_eq_true he
    rw [if_pos (by rw [← this]; simpa using hx)]
   ·exact ih
  ·rw [if_neg hx,ih]
   split
   ·rename_i hk
    simp only [xai]
    rw [if_neg]
    intro he
    have:=Nat.eq_of_beq_eq_true he
    exact hx (by simp; omega)
   ·rfl
theorem xkd:∀ {args:List AV} {K:Nat} {args':List AV} {add:List Obj} {ft:List Nat} {p:Option Prop},xlx P objs K args=some (args',add,ft,p)→(∀ key∈ft,xai key objs=xai key objs')→xlx P objs' K args=some (args',add,ft,p)∧∀ o∈add,K≤o.key
 | [],K,args',add,ft,p,h,_=>by cases h; exact ⟨rfl,by simp⟩
 | a::r,K,args',add,ft,p,h,hf=>by
  unfold xlx at h ⊢
  split at h
  ·rename_i ha
   split at h
   ·rename_i k b p1 r' add' ft' q hs hr
    cases h
    obtain ⟨i1,i2⟩:=xkd hr (fun key hk=>hf key (List.mem_cons_of_mem _ hk))
    have hs':srcA P objs' a=some (k,b,p1):=by
     rw [← hs]
     refine (xnL (fun key hk=>?_)).symm
     cases a<;>simp [isVw] at ha
     rename_i key0 _ _ _
     simp only [keyOf,List.mem_singleton] at hk
     subst hk
     have:k=key:=by
      simp only [srcA] at hs
      repeat' split at hs
      all_goals first | (cases hs; rfl) | cases hs
     exact hf key (by rw [this]; exact List.mem_cons_self)
    simp only [hs',i1]
    refine ⟨trivial,fun o ho=>?_⟩
    rcases List.mem_cons.1 ho with rfl | ho
    ·exact Nat.le_refl _
    ·have:=i2 o ho; omega
   ·cases h
  ·rename_i ha
   split at h
   ·rename_i r' add' ft' q hr
    cases h
    obtain ⟨i1,i2⟩:=xkd hr hf
    simp only [i1]
    exact ⟨trivial,i2⟩
   ·cases h
theorem xvG {f:FuncId} {args:List AV} {ft:List Nat} {y:Eff} (h:xvH P Γ f args objs K=some (ft,y)) (hf:∀ key∈ft,xai key objs=xai key objs'):xvH P Γ f args objs' K=some (ft,y):=by
 unfold xvH at h ⊢
 split at h
 ·exact xq3 h hf
 ·split at h
  case h_2=>cases h
  rename_i args' add ft1 p hv
  split at h
  case h_2=>cases h
  rename_i ft' x hc
  cases h
  obtain ⟨i1,i2⟩:=xkd (objs':=objs') hv (fun key hk=>hf key (List.mem_append.2 (.inl hk)))
  have hc':=xq3 (objs':=add++objs'.filter fun o=>Nat.blt o.key K) hc (fun key hk=>by
   rw [xiw,xiw]
   cases xai key add with
   | some o=>rfl
   | none =>
    simp only []
    rw [xiv,xiv]
    split
    ·rename_i hlt
     exact hf key (List.mem_append.2 (.inr (List.mem_filter.2 ⟨hk,by simpa using hlt⟩)))
    ·rfl)
  simp only [i1,hc']
theorem xp4 {ctx:Ctx} {s s':xaS} (x:Operand) (h:∀ t,x=.tmp t→s t=s' t):readS ctx s x=readS ctx s' x:=by
 cases x with
 | tmp t=>simp only [readS,h t rfl]
 | _=>rfl
theorem xuZ {ctx:Ctx} {s s':xaS} {c a b:Operand} (h:∀ x∈[c,a,b],∀ t,x=.tmp t→s t=s' t):xsL ctx s c a b=xsL ctx s' c a b:=by
 have e:∀ side x,x∈[c,a,b]→xe7 ctx s c side x=xe7 ctx s' c side x:=by
  intro side x hx
  cases x with
  | tmp t=>simp only [xe7,h _ hx t rfl]
  | _=>rfl
 unfold xsL xtL xxU
 rw [xp4 c (h c (by simp)),e true a (by simp),e false b (by simp)]
theorem xg1 {s s':xaS}:∀ (m g:Nat) (want:Bool) (ctx:Ctx),xbg s m g want=some ctx→(∀ c∈ctx,s' c.1=s c.1)→xbg s' m g want=some ctx
 | 0,_,_,_,h,_=>by cases h
 | m+1,g,want,ctx,h,hs=>by
  unfold xbg at h
  split at h
  ·rename_i v hg
   split at h
   case h_2=>cases h
   rename_i b hv
   cases h
   have e:=hs (g,want,b) (by simp)
   unfold xbg
   simp only [e,hg,hv]
  ·rename_i g1 w1 v hg
   split at h
   case h_2=>cases h
   rename_i b hv
   cases hr:xbg s m g1 w1 with
   | none=>rw [hr] at h; cases h
   | some r =>
    rw [hr] at h
    cases h
    have e:=hs (g,want,b) (by simp)
    have ih:=xg1 (s':=s') m g1 w1 r hr (fun c hc=>hs c (List.mem_cons_of_mem _ hc))
    unfold xbg
    simp only [e,hg,hv,ih]
    rfl
  ·cases h
theorem xqK {s:xaS} {m g:Nat} {want:Bool} {ctx:Ctx} (h:xbg s m g want=some ctx):∃ b r,ctx=(g,want,b)::r:=by
 cases m with
 | zero=>cases h
 | succ m =>
  unfold xbg at h
  split at h
  ·split at h
   ·cases h; exact ⟨_,_,rfl⟩
   ·cases h
  ·rename_i g1 w1 v _
   split at h
   case h_2=>cases h
   rename_i b _
   cases hr:xbg s m g1 w1 with
   | none=>rw [hr] at h; cases h
   | some r=>rw [hr] at h; cases h; exact ⟨b,r,rfl⟩
  ·cases h
end congr
end Go.Sy
