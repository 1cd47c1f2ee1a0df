/- Several texts in one (wip/pack.py): XSyK XSyL XSyM XSyN XSyO XSyP XSyQ. -/
import Derived.TacticsIn
import Derived.Lib.SliceRun
import Derived.Test.YthfjhbbpdhjklaaGreatQTT02
set_option linter.unusedVariables false
namespace Go.Sy
open Go.RowKit
section
variable {P:Program} {X:List (Nat×Go.Obj)} {E:Env} {w0 w:World} {objs:List Obj} {n K:Nat} {ρ:Operand→Option AV} {e:Operand→Value}
theorem xw3 {o:Oper} {z:Eff} (h:xdq n objs K z∧OpOk P E objs w K e o z∧z.nk≤1):xdq n objs K z.strong∧OpOk P E objs w K e o z.strong∧z.strong.nk≤1:=by
 obtain ⟨h1,h2,h3⟩:=h
 refine ⟨⟨h1.rm,h1.key,h1.uniq,h1.all,xA8 h1.val,h1.ver⟩,fun hp=>?_,h3⟩
 obtain ⟨E',w',nx,hr,hv,he⟩:=h2 hp
 refine ⟨E',w',nx,hr,?_,⟨he.agree,he.env,he.chg,he.bodies,he.own,he.ro,he.inj,he.dp,he.dq,he.df⟩⟩
 show nx=.value (z.v.strong.den E')∨(nx=.skip∧z.v.strong.den E'=undef)
 rw [xAT]; exact hv
theorem xhy (hH:xae X E w0 ⟨objs,n⟩ w) (hρ:∀ x v,ρ x=some v→e x=v.den E∧AV.lt K v) (hKn:K≤n) (o:Oper) {z:Eff} (h:xm2 P ρ objs K o.op=some z) (hfr:z.nk≠0→∀ o∈objs,o.key≠K∧xbn (fun k=>k≠K) o.body) :
  xdq n objs K z∧OpOk P E objs w K e o z∧z.nk≤1:=by
 have hρ':∀ x v,(ρ x).map AV.weak=some v→e x=v.den E∧AV.lt K v:=by
  intro x v hx
  cases hv:ρ x with
  | none=>rw [hv] at hx; cases hx
  | some u =>
   rw [hv] at hx
   cases hx
   exact ⟨by rw [xe7]; exact (hρ x u hv).1,xnl u (hρ x u hv).2⟩
 have wk:∀ {z:Eff},(z.nk≠0→∀ o∈objs,o.key≠K∧xbn (fun k=>k≠K) o.body)→xfR P (fun z=>(ρ z).map AV.weak) objs K o.op=some z→xdq n objs K z∧OpOk P E objs w K e o z∧z.nk≤1:=fun hfr h=>xqI hH hρ' hKn o h hfr
 have st:∀ {z:Eff},(z.nk≠0→∀ o∈objs,o.key≠K∧xbn (fun k=>k≠K) o.body)→(xfR P (fun z=>(ρ z).map AV.weak) objs K o.op).map Eff.strong=some z→xdq n objs K z∧OpOk P E objs w K e o z∧z.nk≤1:=by
  intro z hfr h
  cases hz:xfR P (fun z=>(ρ z).map AV.weak) objs K o.op with
  | none=>rw [hz] at h; cases h
  | some z0 =>
   rw [hz] at h
   cases h
   exact xw3 (wk hfr hz)
 unfold xm2 at h
 split at h
 ·split at h
  ·exact st hfr h
  ·exact wk hfr h
 ·split at h
  ·exact st hfr h
  ·exact wk hfr h
 ·split at h
  ·exact st hfr h
  ·exact wk hfr h
 ·exact wk hfr h
 ·exact wk hfr h
 ·exact xqI hH hρ hKn o h hfr
theorem xDC (hH:xae X E w0 ⟨objs,n⟩ w) (hρ:∀ x v,ρ x=some v→AV.lt K v) (hKn:K≤n) (op:Op) {z:Eff} (h:xm2 P ρ objs K op=some z) (hfr:z.nk≠0→∀ o∈objs,o.key≠K∧xbn (fun k=>k≠K) o.body):xdq n objs K z∧z.nk≤1:=by
 obtain ⟨h1,_,h3⟩:=xhy (P:=P) (e:=fun x=>match ρ x with | some v=>v.den E | none=>undef) hH (fun x v hx=>⟨by simp [hx],hρ x v hx⟩) hKn { (default:Oper) with op:=op } h hfr
 exact ⟨h1,h3⟩
theorem xaV {α:Type} {Q Q':α→Prop} (h:∀ a,Q a→Q' a):∀ {t:Tree α},t.holds Q→t.holds Q'
 | .ret a,ht=>h a ht
 | .br _ _ _,ht=>⟨fun hb=>xaV h (ht.1 hb),fun hb=>xaV h (ht.2 hb)⟩
 | .need _ _,ht=>⟨ht.1,xaV h ht.2⟩
 | .ask _ _ _,ht=>⟨fun hp=>xaV h (ht.1 hp),xaV h ht.2⟩
 | .bad,ht=>ht
theorem xbv {α β:Type} {f:α→Tree β} {Q:β→Prop}:∀ {t:Tree α},(t.bind f).holds Q→t.holds fun a=>(f a).holds Q
 | .ret _,ht=>ht
 | .br _ _ _,ht=>⟨fun hb=>xbv (ht.1 hb),fun hb=>xbv (ht.2 hb)⟩
 | .need _ _,ht=>⟨ht.1,xbv ht.2⟩
 | .ask _ _ _,ht=>⟨fun hp=>xbv (ht.1 hp),xbv ht.2⟩
 | .bad,ht=>ht
def Tree.all {α:Type}:Tree α→(α→Prop)→Prop
 | .ret a,Q=>Q a
 | .br _ t e,Q=>t.all Q∧e.all Q
 | .need _ t,Q=>t.all Q
 | .ask _ t e,Q=>t.all Q∧e.all Q
 | .bad,_=>True
theorem xdv {α β:Type} {f:α→Tree β} {Q:β→Prop}:∀ {t:Tree α},(t.all fun a=>(f a).all Q)→(t.bind f).all Q
 | .ret _,ht=>ht
 | .br _ _ _,ht=>⟨xdv ht.1,xdv ht.2⟩
 | .need _ t,ht=>xdv (t:=t) ht
 | .ask _ _ _,ht=>⟨xdv ht.1,xdv ht.2⟩
 | .bad,ht=>ht
theorem xcu {α:Type} {Q Q':α→Prop} (h:∀ a,Q a→Q' a):∀ {t:Tree α},t.all Q→t.all Q'
 | .ret a,ht=>h a ht
 | .br _ _ _,ht=>⟨xcu h ht.1,xcu h ht.2⟩
 | .need _ t,ht=>xcu h (t:=t) ht
 | .ask _ _ _,ht=>⟨xcu h ht.1,xcu h ht.2⟩
 | .bad,ht=>ht
theorem xk0 {α:Type} {Q Q':α→Prop}:∀ {t:Tree α},t.holds Q→t.all Q'→t.holds fun a=>Q a∧Q' a
 | .ret _,h,h'=>⟨h,h'⟩
 | .br _ _ _,h,h'=>⟨fun hb=>xk0 (h.1 hb) h'.1,fun hb=>xk0 (h.2 hb) h'.2⟩
 | .need _ t,h,h'=>⟨h.1,xk0 (t:=t) h.2 h'⟩
 | .ask _ _ _,h,h'=>⟨fun hp=>xk0 (h.1 hp) h'.1,xk0 h.2 h'.2⟩
 | .bad,h,_=>h
theorem xij {α:Type} {Q:α→Prop} (h:∀ a,Q a):∀ (t:Tree α),t.all Q
 | .ret a=>h a
 | .br _ t e=>⟨xij h t,xij h e⟩
 | .need _ t=>xij h t
 | .ask _ t e=>⟨xij h t,xij h e⟩
 | .bad=>trivial
theorem xew {α:Type} {p:Prop} {o:Option α} {a:α} (h:xaH p o=some a):p∧o=some a:=by
 unfold xaH at h
 split at h
 ·rename_i hp; exact ⟨hp,h⟩
 ·cases h
theorem xaN {α:Type} {p:Prop} (hp:p) (o:Option α):xaH p o=o:=by unfold xaH; exact if_pos hp
theorem xgz {α:Type} {a:α} {Q:α→Prop} (hQ:Q a):∀ {t:Tree α},t.opt=some a→t.holds Q
 | .ret b,h=>by cases h; exact hQ
 | .br b t e,h=>by
  cases b with
  | true=>exact ⟨fun _=>xgz hQ h,fun hb=>(by cases hb)⟩
  | false=>exact ⟨fun hb=>(by cases hb),fun _=>xgz hQ h⟩
 | .need p t,h=>⟨(xew h).1,xgz hQ (xew h).2⟩
 | .ask p t e,h=>⟨fun hp=>xgz hQ (((xew h).1 hp).trans (xew h).2),xgz hQ (xew h).2⟩
 | .bad,h=>by cases h
def xci (P:Program) (f:FuncId):Prop:=∃ fn,P.funcs[f]?=some fn∧fn.name ≠ "runtime.NumGoroutine" ∧ fn.body.isSome=true
def Old (H H':Heap):Prop:=∀ o'∈H'.objs,o'.ver<H.next→o'∈H.objs
theorem Old.refl (H:Heap):Old H H:=fun o h _=>h
theorem Old.trans {A B C:Heap} (h:Old A B) (k:Old B C) (hn:A.next≤B.next):Old A C:=fun o ho hv=>h o (k o ho (Nat.lt_of_lt_of_le hv hn)) hv
theorem Old.eff {H:Heap} {x:Eff} (hv:∀ o∈x.add,H.next≤o.ver):Old H (H.eff x):=by
 intro o ho hlt
 rcases List.mem_append.1 ho with ho | ho
 ·exact absurd (hv o ho) (by omega)
 ·exact (List.mem_filter.1 ho).1
def xiD (P:Program) (call:xhh):Prop:=∀ (X:List (Nat×Go.Obj)) (w0:World) (f:FuncId) (args:List AV) (H:Heap) (E:Env) (w:World) (R:Ending→World→Prop),
 xae X E w0 H w→AV.ltL H.next args →
 (call f args H).holds (fun x=>∀ E' w',(∀ k,k<H.next→E' k=E k)→xae X E' w0 x.2 w'→AV.lt x.2.next x.1→H.next≤x.2.next→Old H x.2→R (.returned (x.1.den E')) w') →
 Calls P f (AV.denL E args).toArray w R
def xeV (P:Program) (call:xhh):Prop:=∀ f args H,call f args H≠.bad→xci P f
structure xm5 (E:Env) (w:World) (K:Nat) (x:Eff) (E':Env) (w':World) (S:Nat→Prop:=fun _=>False):Prop where
 agree:∀ k,k<K→E' k=E k
 env:∀ k,(E' k).oneCell'=true
 below:Blw w.heap.size w w'
 bodies:∀ o∈x.add,xbm E' w' o.key o.own o.body
 own:∀ o∈x.add,∀ b,blkO (E' o.key)=some b→w.heap.size≤b∨(o.own=false∧xoW o.body=false∧S b)
 inj:∀ o∈x.add,∀ o'∈x.add,o.own=true→o.key≠o'.key→∀ b,blkO (E' o.key)=some b→blkO (E' o'.key)≠some b
 inn:∀ o∈x.add,∀ b,Inn E' w' o.key o.body b→w.heap.size≤b
 dq:∀ o∈x.add,∀ b,Inn E' w' o.key o.body b→∀ o'∈x.add,o'.own=true→blkO (E' o'.key)≠some b
theorem xm5.mono {E:Env} {w:World} {K:Nat} {x:Eff} {E':Env} {w':World} {S S':Nat→Prop} (h:xm5 E w K x E' w' S) (hS:∀ b,S b→S' b):xm5 E w K x E' w' S' :=
 ⟨h.agree,h.env,h.below,h.bodies,fun o ho b hb=>(h.own o ho b hb).imp id fun ⟨h1,h2,h3⟩=>⟨h1,h2,hS b h3⟩,h.inj,h.inn,h.dq⟩
structure xhg (K:Nat) (x:Eff):Prop where
 rm:x.rm=[]
 key:∀ o∈x.add,K≤o.key∧o.key<K+x.nk
 uniq:(x.add.map fun o=>o.key).Nodup
 flat:∀ o∈x.add,xbt o.body=true
 val:AV.lt (K+x.nk) x.v
 ver:∀ o∈x.add,K≤o.ver
theorem xgC {p:Nat→Prop} {b:Body} (h:xbt b=true):xbn p b:=by
 cases b with
 | row=>trivial
 | nil=>trivial
 | nst=>trivial
 | sub=>trivial
 | mq=>trivial
 | mf=>trivial
 | cells=>cases h
 | arr=>cases h
 | mp=>cases h
 | fin=>cases h
 | loop=>cases h
theorem xi6:∀ {xs:List Obj} {o o':Obj},(xs.map (fun o=>o.key)).Nodup→o∈xs→o'∈xs→o.key=o'.key→o=o'
 | [],o,o',hn,ho,ho',hk=>absurd ho List.not_mem_nil
 | x::xs,o,o',hn,ho,ho',hk=>by
  rw [List.map_cons,List.nodup_cons] at hn
  rcases List.mem_cons.1 ho with h1 | h1<;>rcases List.mem_cons.1 ho' with h2 | h2
  ·rw [h1,h2]
  ·exact absurd (List.mem_map.2 ⟨o',h2,by rw [← hk,h1]⟩) hn.1
  ·exact absurd (List.mem_map.2 ⟨o,h1,by rw [hk,h2]⟩) hn.1
  ·exact xi6 hn.2 h1 h2 hk
theorem xhg.eff {x:Eff} (h:xhg K x):xdq n objs K x :=
 ⟨by rw [h.rm]; simp,fun o ho=>.inr (h.key o ho),fun o ho o' ho' hk=>xi6 h.uniq ho ho' hk,fun o ho=>xgC (h.flat o ho),xeT (fun k hk=>.inr hk) _ h.val,h.ver⟩
theorem xht {E1 E2:Env} {w:World} {key:Nat} {b:Body} (hk:E2 key=E1 key) {g:Nat} (h:Inn E2 w key b g):Inn E1 w key b g:=by
 cases b with
 | nst e ks l=>obtain ⟨a,j,u,h1,h2⟩:=h; exact ⟨a,j,u,by rw [← hk]; exact h1,h2⟩
 | mq kt et q ks l=>obtain ⟨m,es,clock,h1,h2⟩:=h; exact ⟨m,es,clock,by rw [← hk]; exact h1,h2⟩
 | _=>exact h.elim
theorem xww {E1 E2:Env} {w:World} {k1 k2:Nat} {b:Body} (hk:E2 k2=E1 k1) {g:Nat} (h:Inn E2 w k2 b g):Inn E1 w k1 b g:=by
 cases b with
 | nst e ks l=>obtain ⟨a,j,u,h1,h2⟩:=h; exact ⟨a,j,u,by rw [← hk]; exact h1,h2⟩
 | mq kt et q ks l=>obtain ⟨m,es,clock,h1,h2⟩:=h; exact ⟨m,es,clock,by rw [← hk]; exact h1,h2⟩
 | _=>exact h.elim
theorem xoj {E1 E2:Env} {w:World} {key:Nat} {own:Bool} {b:Body} (hf:xbt b=true) (hk:E2 key=E1 key) (h:xbm E1 w key own b):xbm E2 w key own b:=by
 cases b with
 | row e ks l=>show xa8 w own e ks.length (E2 key) l.length (rowV ks l); rw [hk]; exact h
 | nil=>exact hk.trans h
 | nst e ks l=>obtain ⟨vs,h⟩:=h; exact ⟨vs,by rw [hk]; exact h⟩
 | sub e ks l=>exact ⟨h.1,by rw [hk]; exact h.2⟩
 | mq kt et q ks l=>obtain ⟨b,es,clock,h⟩:=h; exact ⟨b,es,clock,by rw [hk]; exact h⟩
 | mf kt et q ents=>obtain ⟨b,es,clock,h⟩:=h; exact ⟨b,es,clock,by rw [hk]; exact h⟩
 | cells=>cases hf
 | arr=>cases hf
 | mp=>cases hf
 | fin=>cases hf
 | loop=>cases hf
theorem xm5.effOk {x:Eff} {E':Env} {w':World} {S:Nat→Prop} (hE:∀ k,(E k).oneCell'=true) (hw:xhg K x) (h:xm5 E w K x E' w' S) (hS:∀ b,S b→∃ o'∈objs,Inn E w o'.key o'.body b):xeW E objs w K x (fun k=>if K+x.nk≤k then E k else E' k) w'∧x.v.den (fun k=>if K+x.nk≤k then E k else E' k)=x.v.den E':=by
 have hkey:∀ o∈x.add,(if K+x.nk≤o.key then E o.key else E' o.key)=E' o.key:=fun o ho=>if_neg (by have:=(hw.key o ho).2; omega)
 refine ⟨⟨fun k hk=>?_,fun k=>?_,?_,fun o ho=>xoj (hw.flat o ho) (hkey o ho) (h.bodies o ho),?_,?_,?_,?_,?_,?_⟩,xdt (fun k (hk:k<K+x.nk)=>if_neg (by omega)) _ hw.val⟩
 ·rcases hk with hk | hk
  ·show (if K+x.nk≤k then E k else E' k)=E k
   rw [if_neg (by omega)]; exact h.agree k hk
  ·exact if_pos hk
 ·show (if K+x.nk≤k then E k else E' k).oneCell'=true
  split
  ·exact hE k
  ·exact h.env k
 ·rw [hw.rm]; exact Chg.of_below h.below _
 ·intro o ho hown b hb
  simp only [hkey o ho] at hb
  rcases h.own o ho b hb with h1 | ⟨h1,_⟩
  ·exact .inl h1
  ·rw [hown] at h1; cases h1
 ·intro o ho _ b hb
  simp only [hkey o ho] at hb
  rcases h.own o ho b hb with h1 | ⟨_,_,h1⟩
  ·exact .inl h1
  ·exact .inr (.inr (.inr (hS b h1)))
 ·intro o ho o' ho' hown hne b hb; simp only [hkey o ho] at hb; simp only [hkey o' ho']; exact h.inj o ho o' ho' hown hne b hb
 ·intro o ho b hb; exact .inl (h.inn o ho b (xht (hkey o ho) hb))
 ·intro o ho b hb o' ho' hown; simp only [hkey o' ho']; exact h.dq o ho b (xht (hkey o ho) hb) o' ho' hown
 ·intro o ho b hb
  rcases hb with ⟨hsub,hb⟩ | ⟨_,hb⟩
  ·simp only [hkey o ho] at hb
   rcases h.own o ho b hb with h1 | ⟨_,h1,_⟩
   ·exact .inl h1
   ·rw [h1] at hsub; cases hsub
  ·exact .inl (h.inn o ho b (xht (hkey o ho) hb))
def xeu (E:Env):Option Nat→Value
 | some k=>E k
 | none=>.slice none 0 0
theorem xpS {k:Nat}:∀ {l:List (Option Nat)} {i j:Nat},xwx k l i=some j→∃ m,j=i+m∧l[m]?=some (some k)
 | [],i,j,h=>by cases h
 | some k'::r,i,j,h=>by
  unfold xwx at h
  split at h
  ·rename_i hb; cases h; exact ⟨0,rfl,by simp [Nat.eq_of_beq_eq_true hb]⟩
  ·obtain ⟨m,h1,h2⟩:=xpS h
   exact ⟨m+1,by omega,by simpa using h2⟩
 | none::r,i,j,h=>by
  unfold xwx at h
  obtain ⟨m,h1,h2⟩:=xpS h
  exact ⟨m+1,by omega,by simpa using h2⟩
theorem xpT {k:Nat}:∀ {l:List (Option Nat)} {i:Nat},xwx k l i=none→some k∉l
 | [],i,h=>by simp
 | some k'::r,i,h=>by
  unfold xwx at h
  split at h
  ·cases h
  ·rename_i hb
   intro hm
   rcases List.mem_cons.1 hm with hm | hm
   ·cases hm; exact hb (xdh k)
   ·exact xpT h hm
 | none::r,i,h=>by
  unfold xwx at h
  intro hm
  rcases List.mem_cons.1 hm with hm | hm
  ·cases hm
  ·exact xpT h hm
structure xdR (acc acc':List (Option Nat)):Prop where
 ext:∃ r,acc'=acc++r
 nodup:(∀ i j k:Nat,acc[i]?=some (some k)→acc[j]?=some (some k)→i=j)→∀ i j k:Nat,acc'[i]?=some (some k)→acc'[j]?=some (some k)→i=j
theorem xdR.refl (acc:List (Option Nat)):xdR acc acc:=⟨⟨[],by simp⟩,fun h=>h⟩
theorem xdR.trans {a b c:List (Option Nat)} (h:xdR a b) (k:xdR b c):xdR a c:=by
 obtain ⟨r,rfl⟩:=h.ext
 obtain ⟨s,rfl⟩:=k.ext
 exact ⟨⟨r++s,by simp⟩,fun hn=>k.nodup (h.nodup hn)⟩
theorem xdR.le {a b:List (Option Nat)} (h:xdR a b):a.length≤b.length:=by obtain ⟨r,rfl⟩:=h.ext; simp
theorem xdR.get {a b:List (Option Nat)} (h:xdR a b) {i:Nat} {o:Option Nat} (hi:a[i]?=some o):b[i]?=some o:=by
 obtain ⟨r,rfl⟩:=h.ext
 rw [List.getElem?_append_left (List.getElem?_eq_some_iff.1 hi).1]; exact hi
theorem xmu {acc:List (Option Nat)} {o:Option Nat} (h:∀ k,o=some k→some k∉acc):xdR acc (acc++[o]):=by
 refine ⟨⟨[o],rfl⟩,fun hn i j k hi hj=>?_⟩
 have key:∀ i k:Nat,(acc++[o])[i]?=some (some k)→(i<acc.length∧acc[i]?=some (some k))∨(i=acc.length∧o=some k):=by
  intro i k hi
  by_cases hl:i<acc.length
  ·rw [List.getElem?_append_left hl] at hi; exact .inl ⟨hl,hi⟩
  ·rw [List.getElem?_append_right (by omega)] at hi
   have:i-acc.length=0:=by have:=(List.getElem?_eq_some_iff.1 hi).1; simp at this; omega
   rw [this] at hi
   simp at hi
   exact .inr ⟨by omega,hi⟩
 rcases key i k hi with ⟨_,h1⟩ | ⟨e1,h1⟩<;>rcases key j k hj with ⟨_,h2⟩ | ⟨e2,h2⟩
 ·exact hn i j k h1 h2
 ·exact absurd (List.mem_of_getElem? h1) (h k h2)
 ·exact absurd (List.mem_of_getElem? h2) (h k h1)
 ·omega
mutual
theorem xlr {K:Nat} {E1:Env}:∀ (v:AV) (acc:List (Option Nat)) (v':AV) (acc':List (Option Nat)),xnq K v acc=some (v',acc') →
  xdR acc acc'∧AV.lt (K+acc'.length) v'∧∀ E':Env,(∀ k,k<K→E' k=E1 k)→(∀ i o,acc'[i]?=some o→E' (K+i)=xeu E1 o)→v'.den E'=v.den E1
 | .sl k,acc,v',acc',h=>by
  unfold xnq at h
  split at h
  ·rename_i hk
   cases h
   have hk:k<K:=by simpa using hk
   exact ⟨xdR.refl _,show k<_ by omega,fun E' h1 _=>h1 k hk⟩
  ·split at h
   ·rename_i i hi
    cases h
    obtain ⟨m,h1,h2⟩:=xpS hi
    have hm:i=m:=by omega
    subst hm
    have hlt:=(List.getElem?_eq_some_iff.1 h2).1
    exact ⟨xdR.refl _,show K+i<_ by omega,fun E' _ h3=>h3 i _ h2⟩
   ·rename_i hi
    cases h
    refine ⟨xmu (fun k' hk'=>by cases hk'; exact xpT hi),show K+acc.length<K+(acc++[some k]).length by simp,fun E' _ h3=>h3 acc.length (some k) (by simp)⟩
 | .val (.slice none 0 0),acc,v',acc',h=>by
  simp only [xnq] at h
  cases h
  exact ⟨xmu (fun k' hk'=>by cases hk'),show K+acc.length<K+(acc++[none]).length by simp,fun E' _ h3=>h3 acc.length none (by simp)⟩
 | .ptr k off,acc,v',acc',h=>by
  unfold xnq at h
  split at h
  ·rename_i hk
   cases h
   have hk:k<K:=by simpa using hk
   exact ⟨xdR.refl _,show k<_ by omega,fun E' h1 _=>by simp [AV.den,h1 k hk]⟩
  ·cases h
 | .yl k,acc,v',acc',h=>by
  unfold xnq at h
  split at h
  ·rename_i hk
   cases h
   have hk:k<K:=by simpa using hk
   exact ⟨xdR.refl _,show k<_ by omega,fun E' h1 _=>by simp [AV.den,h1 k hk]⟩
  ·cases h
 | .vw k sz lo hi,acc,v',acc',h=>by
  unfold xnq at h
  split at h
  ·rename_i hk
   cases h
   have hk:k<K:=by simpa using hk
   exact ⟨xdR.refl _,show k<_ by omega,fun E' h1 _=>by simp [AV.den,h1 k hk]⟩
  ·cases h
 | .fn _ _ _,acc,v',acc',h=>by cases h
 | .ix _ _ _ _ _,acc,v',acc',h=>by cases h
 | .agg cs,acc,v',acc',h=>by
  unfold xnq at h
  split at h
  ·rename_i cs' acc1 hl
   cases h
   obtain ⟨h1,h2,h3⟩:=xn6 (E1:=E1) cs acc cs' acc' hl
   exact ⟨h1,h2,fun E' a b=>by simp [AV.den,h3 E' a b]⟩
  ·cases h
 | .tup cs,acc,v',acc',h=>by
  unfold xnq at h
  split at h
  ·rename_i cs' acc1 hl
   cases h
   obtain ⟨h1,h2,h3⟩:=xn6 (E1:=E1) cs acc cs' acc' hl
   exact ⟨h1,h2,fun E' a b=>by simp [AV.den,h3 E' a b]⟩
  ·cases h
 | .bool b,acc,v',acc',h=>by simp only [xnq] at h; cases h; exact ⟨xdR.refl _,trivial,fun _ _ _=>rfl⟩
 | .ifc t v,acc,v',acc',h=>by
  unfold xnq at h
  split at h
  ·rename_i u acc1 hl
   cases h
   obtain ⟨h1,h2,h3⟩:=xlr (E1:=E1) v acc u acc' hl
   exact ⟨h1,h2,fun E' a b=>by simp [AV.den,h3 E' a b]⟩
  ·cases h
 | .fs n ents,acc,v',acc',h=>by simp only [xnq] at h; cases h; exact ⟨xdR.refl _,trivial,fun _ _ _=>rfl⟩
 | .int k b,acc,v',acc',h=>by simp only [xnq] at h; cases h; exact ⟨xdR.refl _,trivial,fun _ _ _=>rfl⟩
 | .val v,acc,v',acc',h=>by
  unfold xnq at h
  split at h<;>first
   | (cases h; done)
   | (rename_i heq; cases heq)
   | skip
  all_goals first
   | (cases h; exact ⟨xmu (fun k' hk'=>by cases hk'),(by show K+_<K+_; simp),fun E' _ h3=>h3 _ none (by simp)⟩)
   | (cases h; exact ⟨xdR.refl _,trivial,fun _ _ _=>rfl⟩)
theorem xn6 {K:Nat} {E1:Env}:∀ (l:List AV) (acc:List (Option Nat)) (l':List AV) (acc':List (Option Nat)),xBC K l acc=some (l',acc') →
  xdR acc acc'∧AV.ltL (K+acc'.length) l'∧∀ E':Env,(∀ k,k<K→E' k=E1 k)→(∀ i o,acc'[i]?=some o→E' (K+i)=xeu E1 o)→AV.denL E' l'=AV.denL E1 l
 | [],acc,l',acc',h=>by cases h; exact ⟨xdR.refl _,trivial,fun _ _ _=>rfl⟩
 | a::r,acc,l',acc',h=>by
  unfold xBC at h
  split at h
  ·rename_i a' acc1 ha
   split at h
   ·rename_i r' acc2 hr
    cases h
    obtain ⟨a1,a2,a3⟩:=xlr (E1:=E1) a acc a' acc1 ha
    obtain ⟨b1,b2,b3⟩:=xn6 (E1:=E1) r acc1 r' acc' hr
    have:=b1.le
    refine ⟨a1.trans b1,⟨xeM (by omega) _ a2,b2⟩,fun E' h1 h2=>?_⟩
    rw [AV.denL,AV.denL,a3 E' h1 (fun i o hi=>h2 i o (b1.get hi)),b3 E' h1 h2]
   ·cases h
  ·cases h
end
end
end Go.Sy
set_option linter.unusedVariables false
namespace Go.Sy
open Go.RowKit
section
variable {P:Program} {X:List (Nat×Go.Obj)} {E:Env} {w0 w:World} {objs:List Obj} {n K:Nat}
def Fits (K:Nat) (x:Eff) (y:AV×Heap):Prop :=
 ∀ (X:List (Nat×Go.Obj)) (E1:Env) (w0 w':World),xae X E1 w0 y.2 w'→∃ E':Env,(∀ k,k<K→E' k=E1 k)∧(∀ k,(E' k).oneCell'=true)∧x.v.den E'=y.1.den E1 ∧
  (∀ o∈x.add,xbm E' w' o.key o.own o.body)∧(∀ o∈x.add,∀ b,blkO (E' o.key)=some b→w0.heap.size≤b) ∧
  (∀ o∈x.add,∀ o'∈x.add,o.own=true→o.key≠o'.key→∀ b,blkO (E' o.key)=some b→blkO (E' o'.key)≠some b) ∧
  (∀ o∈x.add,∀ b,Inn E' w' o.key o.body b→w0.heap.size≤b) ∧
  (∀ o∈x.add,∀ b,Inn E' w' o.key o.body b→∀ o'∈x.add,o'.own=true→blkO (E' o'.key)≠some b)
theorem xpG {E1:Env} {H:Heap} {w':World} (hH:xae X E1 w0 H w'):∀ (acc:List (Option Nat)) (i:Nat) (add:List Obj),xjZ P K H.objs i acc=some add →
  ∀ o∈add,∃ j c,acc[j]?=some c∧o.key=K+(i+j)∧o.ver=K∧xbt o.body=true ∧
   (∀ E':Env,E' o.key=xeu E1 c→xbm E' w' o.key o.own o.body)∧(∀ b,blkO (xeu E1 c)=some b→w0.heap.size≤b) ∧
   (∀ k,c=some k→∃ ob∈H.objs,ob.key=k∧(o.own=true→ob.own=true)∧∀ e ks l,o.body=.nst e ks l→ob.body=.nst e ks l∧ob.own=true)∧(c=none→o.body=.nil)
 | [],i,add,h=>by cases h; simp
 | none::r,i,add,h=>by
  unfold xjZ at h
  cases hr:xjZ P K H.objs (i+1) r with
  | none=>rw [hr] at h; cases h
  | some add' =>
   rw [hr] at h
   cases h
   intro o ho
   rcases List.mem_cons.1 ho with rfl | ho
   ·exact ⟨0,none,rfl,rfl,rfl,rfl,fun E' hE=>hE,fun b hb=>(by cases hb),fun k hk=>(by cases hk),fun _=>rfl⟩
   ·obtain ⟨j,c,h1,h2,h3⟩:=xpG hH r (i+1) add' hr o ho
    exact ⟨j+1,c,by simpa using h1,by rw [h2]; omega,h3⟩
 | some k::r,i,add,h=>by
  have key:∀ (ow:Bool) (b:Body),xbt b=true→(∀ E':Env,E' (K+i)=E1 k→xbm E' w' (K+i) ow b)→(∀ g,blkO (E1 k)=some g→w0.heap.size≤g) →
    (∃ ob∈H.objs,ob.key=k∧(ow=true→ob.own=true)∧∀ e ks l,b=.nst e ks l→ob.body=.nst e ks l∧ob.own=true) →
    ((xjZ P K H.objs (i+1) r).map ((⟨K+i,K,ow,b⟩:Obj)::·))=some add→∀ o∈add,∃ j c,(some k::r)[j]?=some c∧o.key=K+(i+j)∧o.ver=K∧xbt o.body=true ∧
   (∀ E':Env,E' o.key=xeu E1 c→xbm E' w' o.key o.own o.body)∧(∀ b,blkO (xeu E1 c)=some b→w0.heap.size≤b) ∧
   (∀ k,c=some k→∃ ob∈H.objs,ob.key=k∧(o.own=true→ob.own=true)∧∀ e ks l,o.body=.nst e ks l→ob.body=.nst e ks l∧ob.own=true)∧(c=none→o.body=.nil):=by
   intro ow b h1 h2 h3 h4 h
   cases hr:xjZ P K H.objs (i+1) r with
   | none=>rw [hr] at h; cases h
   | some add' =>
    rw [hr] at h
    cases h
    intro o ho
    rcases List.mem_cons.1 ho with rfl | ho
    ·exact ⟨0,some k,rfl,rfl,rfl,h1,fun E' hE=>h2 E' hE,h3,fun k' hk=>by cases hk; exact h4,fun hk=>by cases hk⟩
    ·obtain ⟨j,c,h1,h2,h3⟩:=xpG hH r (i+1) add' hr o ho
     exact ⟨j+1,c,by simpa using h1,by rw [h2]; omega,h3⟩
  unfold xjZ at h
  split at h
  ·rename_i k0 ver b hf
   obtain ⟨hm,hk⟩:=xan hf
   have hk:k0=k:=hk
   subst hk
   have hb:=hH.objs _ hm
   have hhigh:=hH.high _ hm rfl
   split at h
   ·have hb:E1 k0=.slice none 0 0:=hb
    exact key true .nil rfl (fun E' hE=>hE.trans hb) hhigh ⟨_,hm,rfl,fun _=>rfl,fun e ks l h=>by cases h⟩ h
   ·rename_i e ks l
    obtain ⟨vs,hb⟩:=hb
    exact key true (.nst e ks l) rfl (fun E' hE=>⟨vs,by rw [hE]; exact hb⟩) hhigh ⟨_,hm,rfl,fun _=>rfl,fun e ks l h=>⟨h,rfl⟩⟩ h
   ·rename_i kt et q ents
    obtain ⟨b,es,clock,hb⟩:=hb
    exact key true (.mf kt et q ents) rfl (fun E' hE=>⟨b,es,clock,by rw [hE]; exact hb⟩) hhigh ⟨_,hm,rfl,fun _=>rfl,fun e ks l h=>by cases h⟩ h
   ·split at h
    ·rename_i e ks l hrow
     refine key true (.row e ks l) rfl (fun E' hE=>?_) hhigh ⟨_,hm,rfl,fun _=>rfl,fun e ks l h=>by cases h⟩ h
     show xa8 w' true e ks.length (E' (K+i)) l.length (rowV ks l)
     rw [hE]
     exact xbR hrow hb
    ·cases h
  ·rename_i k0 ver e ks l hf
   obtain ⟨hm,hk⟩:=xan hf
   have hk:k0=k:=hk
   subst hk
   have hb:=hH.objs _ hm
   exact key false (.sub e ks l) rfl (fun E' hE=>⟨rfl,by rw [hE]; exact hb.2⟩) (fun g hg=>hH.fsh _ hm g (.inl ⟨rfl,hg⟩)) ⟨_,hm,rfl,fun h=>(by cases h),fun e ks l h=>by cases h⟩ h
  ·cases h
def isMq:Body→Bool
 | .mq _ _ _ _ _=>true
 | _=>false
theorem xu9 {objs:List Obj}:∀ (acc:List (Option Nat)) (i:Nat) (add:List Obj),xjZ P K objs i acc=some add→∀ o∈add,isMq o.body=false
 | [],i,add,h=>by cases h; simp
 | c::r,i,add,h=>by
  have key:∀ (ow:Bool) (b:Body),isMq b=false→((xjZ P K objs (i+1) r).map ((⟨K+i,K,ow,b⟩:Obj)::·))=some add→∀ o∈add,isMq o.body=false:=by
   intro ow b hb h
   cases hr:xjZ P K objs (i+1) r with
   | none=>rw [hr] at h; cases h
   | some add' =>
    rw [hr] at h
    cases h
    intro o ho
    rcases List.mem_cons.1 ho with rfl | ho
    ·exact hb
    ·exact xu9 r (i+1) add' hr o ho
  cases c with
  | none=>exact key true .nil rfl h
  | some k =>
   unfold xjZ at h
   split at h
   ·split at h
    ·exact key true .nil rfl h
    ·exact key true _ rfl h
    ·exact key true _  rfl h
    ·split at h
     ·exact key true _ rfl h
     ·cases h
   ·exact key false _ rfl h
   ·cases h
theorem xva {objs:List Obj}:∀ (acc:List (Option Nat)) (i:Nat) (add:List Obj),xjZ P K objs i acc=some add→add.map (fun o=>o.key)=(List.range acc.length).map (fun j=>K+(i+j))∧∀ o∈add,o.ver=K∧xbt o.body=true
 | [],i,add,h=>by cases h; simp
 | c::r,i,add,h=>by
  have key:∀ (ow:Bool) (b:Body),xbt b=true→((xjZ P K objs (i+1) r).map ((⟨K+i,K,ow,b⟩:Obj)::·))=some add→add.map (fun o=>o.key)=(List.range (c::r).length).map (fun j=>K+(i+j))∧∀ o∈add,o.ver=K∧xbt o.body=true:=by
   intro ow b hb h
   cases hr:xjZ P K objs (i+1) r with
   | none=>rw [hr] at h; cases h
   | some add' =>
    rw [hr] at h
    cases h
    obtain ⟨h1,h2⟩:=xva r (i+1) add' hr
    refine ⟨?_,fun o ho=>?_⟩
    ·rw [List.map_cons,h1,List.length_cons,List.range_succ_eq_map,List.map_cons,List.map_map,Nat.add_zero]
     congr 1
     apply List.map_congr_left
     intro y _
     simp only [Function.comp]
     omega
    ·rcases List.mem_cons.1 ho with rfl | ho
     ·exact ⟨rfl,hb⟩
     ·exact h2 o ho
  cases c with
  | none=>exact key true .nil rfl h
  | some k =>
   unfold xjZ at h
   split at h
   ·split at h
    ·exact key true .nil rfl h
    ·exact key true _ rfl h
    ·exact key true _  rfl h
    ·split at h
     ·exact key true _ rfl h
     ·cases h
   ·exact key false _ rfl h
   ·cases h
theorem xAv {y:AV×Heap} {x:Eff} (h:pack P K y=some x):xhg K x∧Fits K x y:=by
 unfold pack at h
 split at h
 case h_2=>cases h
 rename_i v acc hv
 cases hadd:xjZ P K y.2.objs 0 acc with
 | none=>rw [hadd] at h; cases h
 | some add =>
 rw [hadd] at h
 cases h
 obtain ⟨hk1,hk2⟩:=xva acc 0 add hadd
 refine ⟨⟨rfl,fun o ho=>?_,?_,fun o ho=>(hk2 o ho).2,(xlr (E1:=fun _=>.nilFunc) y.1 [] v acc hv).2.1,fun o ho=>by rw [(hk2 o ho).1]; exact Nat.le_refl _⟩,fun X E1 w0 w' hH=>?_⟩
 ·have:o.key∈add.map fun o=>o.key:=List.mem_map.2 ⟨o,ho,rfl⟩
  rw [hk1] at this
  obtain ⟨j,hj,he⟩:=List.mem_map.1 this
  have:=List.mem_range.1 hj
  simp only []
  omega
 ·show (add.map fun o=>o.key).Nodup
  rw [hk1]
  exact List.Pairwise.map _ (fun a b hab=>by omega) List.nodup_range
 ·obtain ⟨p1,p2,p3⟩:=xlr (E1:=E1) y.1 [] v acc hv
  let E':Env:=fun k=>if k<K then E1 k else match acc[k-K]? with | some c=>xeu E1 c | none=>.nilFunc
  have hE1:∀ k,k<K→E' k=E1 k:=fun k hk=>if_pos hk
  have hE2:∀ (i:Nat) o,acc[i]?=some o→E' (K+i)=xeu E1 o:=fun i o hi=>by
   show (if K+i<K then _ else _)=_
   rw [if_neg (by omega),show K+i-K=i from by omega,hi]
  have spec:=xpG (P:=P) (K:=K) hH acc 0 add hadd
  have hnd:=p1.nodup (by simp)
  have inn:∀ o∈add,∀ b,Inn E' w' o.key o.body b→∃ ob∈y.2.objs,(ob.own=true∧xuI ob.body=true)∧Inn E1 w' ob.key ob.body b:=by
   intro o ho b hb
   obtain ⟨j,c,h1,h2,_,_,_,_,h4,h5⟩:=spec o ho
   cases c with
   | none=>rw [h5 rfl] at hb; exact hb.elim
   | some k =>
    obtain ⟨ob,hob,rfl,_,h6⟩:=h4 k rfl
    have hek:E' o.key=E1 ob.key:=by rw [h2,Nat.zero_add]; exact hE2 j _ h1
    generalize hbd:o.body=bd at hb
    cases bd with
    | nst e ks l =>
     obtain ⟨h7,h8⟩:=h6 e ks l hbd
     refine ⟨ob,hob,⟨h8,by rw [h7]; rfl⟩,?_⟩
     rw [h7]
     obtain ⟨a,j,u,q1,q2⟩:=hb
     exact ⟨a,j,u,by rw [← hek]; exact q1,q2⟩
    | mq kt et q ks l=>have:=xu9 acc 0 add hadd o ho; rw [hbd] at this; cases this
    | _=>exact hb.elim
  refine ⟨E',hE1,fun k=>?_,p3 E' hE1 hE2,fun o ho=>?_,fun o ho b hb=>?_,fun o ho o' ho' hown hne b hb hb'=>?_,fun o ho b hb=>?_,fun o ho b hb o' ho' hown hb'=>?_⟩
  ·show (if k<K then E1 k else _).oneCell'=true
   split
   ·exact hH.env k
   ·split
    ·rename_i c _
     cases c with
     | none=>rfl
     | some k'=>exact hH.env k'
    ·rfl
  ·obtain ⟨j,c,h1,h2,_,_,h3,_⟩:=spec o ho
   exact h3 E' (by rw [h2,Nat.zero_add]; exact hE2 j c h1)
  ·obtain ⟨j,c,h1,h2,_,_,_,h3,_⟩:=spec o ho
   rw [h2,Nat.zero_add,hE2 j c h1] at hb
   exact h3 b hb
  ·obtain ⟨j,c,h1,h2,_,_,_,_,h4,_⟩:=spec o ho
   obtain ⟨j',c',h1',h2',_,_,_,_,h4',_⟩:=spec o' ho'
   rw [h2,Nat.zero_add,hE2 j c h1] at hb
   rw [h2',Nat.zero_add,hE2 j' c' h1'] at hb'
   cases c with
   | none=>cases hb
   | some k =>
    cases c' with
    | none=>cases hb'
    | some k' =>
     obtain ⟨ob,hob,rfl,how,_⟩:=h4 k rfl
     obtain ⟨ob',hob',rfl,_⟩:=h4' k' rfl
     by_cases hkk:ob.key=ob'.key
     ·rw [← hkk] at h1'
      have:=hnd j j' _ h1 h1'
      exact hne (by rw [h2,h2',this])
     ·exact hH.inj ob hob ob' hob' (how hown) hkk b hb hb'
  ·obtain ⟨ob,hob,hown,hI⟩:=inn o ho b hb
   exact hH.fsh ob hob b (.inr ⟨hown,hI⟩)
  ·obtain ⟨ob,hob,_,hI⟩:=inn o ho b hb
   obtain ⟨j',c',h1',h2',_,_,_,_,h4',_⟩:=spec o' ho'
   rw [h2',Nat.zero_add,hE2 j' c' h1'] at hb'
   cases c' with
   | none=>cases hb'
   | some k' =>
    obtain ⟨ob',hob',rfl,how,_⟩:=h4' k' rfl
    exact hH.deep ob hob b hI ob' hob' (how hown) hb'
mutual
theorem xwc {b:Bool}:∀ {x y z:AV},xoT b x y=some z→(b=true→z=x)∧(b=false→z=y)
 | .bool x,.bool y,z,h=>by cases h; cases b<;>simp
 | .int k x,.int k' y,z,h=>by
  unfold xoT at h
  split at h
  ·rename_i hk; subst hk; cases h; cases b<;>simp
  ·cases h
 | .agg xs,.agg ys,z,h=>by
  unfold xoT at h
  cases hm:xqu b xs ys with
  | none=>simp [hm] at h
  | some zs =>
   simp only [hm,Option.map_some,Option.some.injEq] at h
   subst h
   have:=xrV hm
   exact ⟨fun hb=>by rw [this.1 hb],fun hb=>by rw [this.2 hb]⟩
 | .tup xs,.tup ys,z,h=>by
  unfold xoT at h
  cases hm:xqu b xs ys with
  | none=>simp [hm] at h
  | some zs =>
   simp only [hm,Option.map_some,Option.some.injEq] at h
   subst h
   have:=xrV hm
   exact ⟨fun hb=>by rw [this.1 hb],fun hb=>by rw [this.2 hb]⟩
 | .sl x,.sl y,z,h=>by
  unfold xoT at h
  split at h
  ·rename_i hk; subst hk; cases h; simp
  ·cases h
 | .bool _,.int _ _,_,h | .bool _,.ptr _ _,_,h | .bool _,.val _,_,h | .bool _,.fn _ _ _,_,h | .bool _,.agg _,_,h | .bool _,.tup _,_,h | .bool _,.sl _,_,h | .bool _,.ix _ _ _ _ _,_,h | .bool _,.yl _,_,h | .bool _,.vw _ _ _ _,_,h=>by simp [xoT] at h
 | .int _ _,.bool _,_,h | .int _ _,.ptr _ _,_,h | .int _ _,.val _,_,h | .int _ _,.fn _ _ _,_,h | .int _ _,.agg _,_,h | .int _ _,.tup _,_,h | .int _ _,.sl _,_,h | .int _ _,.ix _ _ _ _ _,_,h | .int _ _,.yl _,_,h | .int _ _,.vw _ _ _ _,_,h=>by simp [xoT] at h
 | .ptr _ _,_,_,h | .val _,_,_,h | .fn _ _ _,_,_,h | .ix _ _ _ _ _,_,_,h | .yl _,_,_,h | .vw _ _ _ _,_,_,h=>by simp [xoT] at h
 | .agg _,.bool _,_,h | .agg _,.int _ _,_,h | .agg _,.ptr _ _,_,h | .agg _,.val _,_,h | .agg _,.fn _ _ _,_,h | .agg _,.tup _,_,h | .agg _,.sl _,_,h | .agg _,.ix _ _ _ _ _,_,h | .agg _,.yl _,_,h | .agg _,.vw _ _ _ _,_,h=>by simp [xoT] at h
 | .tup _,.bool _,_,h | .tup _,.int _ _,_,h | .tup _,.ptr _ _,_,h | .tup _,.val _,_,h | .tup _,.fn _ _ _,_,h | .tup _,.agg _,_,h | .tup _,.sl _,_,h | .tup _,.ix _ _ _ _ _,_,h | .tup _,.yl _,_,h | .tup _,.vw _ _ _ _,_,h=>by simp [xoT] at h
 | .sl _,.bool _,_,h | .sl _,.int _ _,_,h | .sl _,.ptr _ _,_,h | .sl _,.val _,_,h | .sl _,.fn _ _ _,_,h | .sl _,.tup _,_,h | .sl _,.agg _,_,h | .sl _,.ix _ _ _ _ _,_,h | .sl _,.yl _,_,h | .sl _,.vw _ _ _ _,_,h=>by simp [xoT] at h
theorem xrV {b:Bool}:∀ {x y z:List AV},xqu b x y=some z→(b=true→z=x)∧(b=false→z=y)
 | [],[],z,h=>by cases h; simp
 | x::xs,y::ys,z,h=>by
  unfold xqu at h
  split at h
  ·rename_i u us h1 h2
   cases h
   have e1:=xwc h1
   have e2:=xrV h2
   exact ⟨fun hb=>by rw [e1.1 hb,e2.1 hb],fun hb=>by rw [e1.2 hb,e2.2 hb]⟩
  ·cases h
 | [],_::_,_,h | _::_,[],_,h=>by simp [xqu] at h
end
def xqL (x z:Body):Prop:=z=x∨(x=.nil∧((∃ e ks,z=.row e ks [])∨∃ e ks,z=.nst e ks []))
theorem xek {E:Env} {w:World} {key:Nat} {own:Bool} {e:TypeId} {ks:List CK} (h:E key=.slice none 0 0):xbm E w key own (.row e ks []):=by
 show xa8 w own e ks.length (E key) 0 []
 rw [h]
 exact ⟨⟨⟨none,0,rfl,Nat.le_refl _,Nat.zero_le _⟩,by simp,fun b hb=>by cases hb⟩,by simp,fun _=>.inl ⟨none,rfl,rfl⟩⟩
theorem xqL.ok {E:Env} {w:World} {key:Nat} {own:Bool} {x z:Body} (h:xqL x z) (hx:xbm E w key own x):xbm E w key own z:=by
 rcases h with rfl | ⟨rfl,⟨e,ks,rfl⟩ | ⟨e,ks,rfl⟩⟩
 ·exact hx
 ·exact xek hx
 ·have:xa8 w own e 0 (E key) 0 []:=xek (e:=e) (ks:=[]) hx
  exact ⟨[],⟨this.reads,by simp,fun ho=>by
   rcases this.own ho with h | ⟨g,cap,cur,h1,h2,h3,h4,h5,h6⟩
   ·exact .inl h
   ·have hx:E key=.slice none 0 0:=hx
    rw [hx] at h1; cases h1⟩,fun i _ _ hi=>by simp at hi⟩
def OLe (x z:Obj):Prop:=x.key=z.key∧(x.own=z.own∧xqL x.body z.body∨z.own=false∧∃ e ks l,z.body=.sub e ks l∧(x.body=.sub e ks l∨x.body=.row e ks l∨x.body=.nil∧l=[]))
theorem OLe.ok {E:Env} {w:World} {x z:Obj} (h:OLe x z) (hx:xbm E w x.key x.own x.body):xbm E w z.key z.own z.body:=by
 obtain ⟨hk,⟨ho,hb⟩ | ⟨ho,e,ks,l,hz,hb⟩⟩:=h
 ·rw [← hk,← ho]; exact hb.ok hx
 ·rw [hz,ho,← hk]
  refine ⟨rfl,?_⟩
  rcases hb with hb | hb | ⟨hb,rfl⟩
  ·rw [hb] at hx; exact ⟨hx.2.reads,hx.2.len,fun h=>by cases h⟩
  ·rw [hb] at hx; exact ⟨hx.reads,hx.len,fun h=>by cases h⟩
  ·rw [hb] at hx
   exact xek (e:=e) (ks:=ks) hx
theorem OLe.own {x z:Obj} (h:OLe x z) (ho:z.own=true):x.own=true:=by
 obtain ⟨_,⟨h1,_⟩ | ⟨h1,_⟩⟩:=h
 ·rw [h1]; exact ho
 ·rw [h1] at ho; cases ho
theorem OLe.inn {E:Env} {w:World} {x z:Obj} (h:OLe x z) {b:Nat} (hb:Inn E w z.key z.body b):Inn E w x.key x.body b:=by
 obtain ⟨hk,⟨_,hl⟩ | ⟨_,e,ks,l,hz,_⟩⟩:=h
 ·rcases hl with hl | ⟨_,⟨e,ks,hl⟩ | ⟨e,ks,hl⟩⟩
  ·rw [hl,← hk] at hb; exact hb
  ·rw [hl] at hb; exact hb.elim
  ·rw [hl] at hb
   obtain ⟨a,j,u,_,h2,_⟩:=hb
   simp at h2
 ·rw [hz] at hb; exact hb.elim
theorem xBR {b:Bool} {x y z:Body} (h:xBS b x y=some z):(b=true→xqL x z)∧(b=false→xqL y z)∧xbt z=true:=by
 unfold xBS at h
 split at h
 ·cases h; exact ⟨fun _=>.inl rfl,fun _=>.inl rfl,rfl⟩
 ·cases h; exact ⟨fun hb=>.inr ⟨rfl,.inl ⟨_,_,by rw [hb]; rfl⟩⟩,fun hb=>.inl (by rw [hb]; rfl),rfl⟩
 ·cases h; exact ⟨fun hb=>.inl (by rw [hb]; rfl),fun hb=>.inr ⟨rfl,.inl ⟨_,_,by rw [hb]; rfl⟩⟩,rfl⟩
 ·split at h
  ·rename_i hc
   obtain ⟨rfl,rfl⟩:=hc
   cases h
   exact ⟨fun hb=>.inl (by rw [hb]; rfl),fun hb=>.inl (by rw [hb]; rfl),rfl⟩
  ·cases h
 ·cases h; exact ⟨fun hb=>.inr ⟨rfl,.inr ⟨_,_,by rw [hb]; rfl⟩⟩,fun hb=>.inl (by rw [hb]; rfl),rfl⟩
 ·cases h; exact ⟨fun hb=>.inl (by rw [hb]; rfl),fun hb=>.inr ⟨rfl,.inr ⟨_,_,by rw [hb]; rfl⟩⟩,rfl⟩
 ·split at h
  ·rename_i hc
   obtain ⟨rfl,rfl⟩:=hc
   cases h
   exact ⟨fun hb=>.inl (by rw [hb]; rfl),fun hb=>.inl (by rw [hb]; rfl),rfl⟩
  ·cases h
 ·cases h
theorem xBO {b:Bool} {x y z:Body} (h:xBP b x y=some z):∃ e ks l,z=.sub e ks l∧(b=true→(x=.sub e ks l∨x=.row e ks l∨x=.nil∧l=[]))∧(b=false→(y=.sub e ks l∨y=.row e ks l∨y=.nil∧l=[])):=by
 unfold xBP at h
 split at h
 ·split at h
  ·rename_i hc
   obtain ⟨rfl,rfl⟩:=hc
   cases h
   exact ⟨_,_,_,rfl,fun hb=>.inl (by rw [hb]; rfl),fun hb=>.inl (by rw [hb]; rfl)⟩
  ·cases h
 ·split at h
  ·rename_i hc
   obtain ⟨rfl,rfl⟩:=hc
   cases h
   exact ⟨_,_,_,rfl,fun hb=>.inl (by rw [hb]; rfl),fun hb=>.inr (.inl (by rw [hb]; rfl))⟩
  ·cases h
 ·split at h
  ·rename_i hc
   obtain ⟨rfl,rfl⟩:=hc
   cases h
   exact ⟨_,_,_,rfl,fun hb=>.inr (.inl (by rw [hb]; rfl)),fun hb=>.inl (by rw [hb]; rfl)⟩
  ·cases h
 ·cases h
  exact ⟨_,_,_,rfl,fun hb=>.inl (by rw [hb]; rfl),fun hb=>.inr (.inr ⟨rfl,by rw [hb]; rfl⟩)⟩
 ·cases h
  exact ⟨_,_,_,rfl,fun hb=>.inr (.inr ⟨rfl,by rw [hb]; rfl⟩),fun hb=>.inl (by rw [hb]; rfl)⟩
 ·cases h
def xAf (xs zs:List Obj):Prop:=∀ z∈zs,∃ x∈xs,OLe x z
theorem xxC {b:Bool}:∀ {xs ys zs:List Obj},xvf b xs ys=some zs→(b=true→xAf xs zs)∧(b=false→xAf ys zs)∧zs.map (fun o=>(o.key,o.ver))=xs.map (fun o=>(o.key,o.ver))∧(∀ o∈zs,xbt o.body=true)
 | [],[],zs,h=>by
  cases h
  refine ⟨fun _ z hz=>?_,fun _ z hz=>?_,rfl,fun z hz=>?_⟩<;>cases hz
 | ⟨k,v,o1,x⟩::xs,⟨k',v',o2,y⟩::ys,zs,h=>by
  unfold xvf at h
  split at h
  ·rename_i hk
   subst hk
   split at h
   ·rename_i z zs' h1 h2
    cases h
    obtain ⟨b1,b2,b3,b4⟩:=xxC h2
    obtain ⟨a1,a2,a3⟩:(b=true→OLe ⟨k,v,o1,x⟩ ⟨k,v,z.1,z.2⟩)∧(b=false→OLe ⟨k,v',o2,y⟩ ⟨k,v,z.1,z.2⟩)∧xbt z.2=true:=by
     cases hoo:(o1&&o2) with
     | true =>
      rw [hoo] at h1
      obtain ⟨z0,hz,rfl⟩:=Option.map_eq_some_iff.1 h1
      rw [Bool.and_eq_true] at hoo
      obtain ⟨rfl,rfl⟩:=hoo
      obtain ⟨c1,c2,c3⟩:=xBR hz
      exact ⟨fun hb=>⟨rfl,.inl ⟨rfl,c1 hb⟩⟩,fun hb=>⟨rfl,.inl ⟨rfl,c2 hb⟩⟩,c3⟩
     | false =>
      rw [hoo] at h1
      obtain ⟨z0,hz,rfl⟩:=Option.map_eq_some_iff.1 h1
      obtain ⟨e,ks,l,rfl,c1,c2⟩:=xBO hz
      exact ⟨fun hb=>⟨rfl,.inr ⟨rfl,e,ks,l,rfl,c1 hb⟩⟩,fun hb=>⟨rfl,.inr ⟨rfl,e,ks,l,rfl,c2 hb⟩⟩,rfl⟩
    refine ⟨fun hb o ho=>?_,fun hb o ho=>?_,by simp [b3],fun o ho=>?_⟩
    ·rcases List.mem_cons.1 ho with rfl | ho
     ·exact ⟨_,List.mem_cons_self,a1 hb⟩
     ·obtain ⟨p,q,r⟩:=b1 hb o ho; exact ⟨p,List.mem_cons_of_mem _ q,r⟩
    ·rcases List.mem_cons.1 ho with rfl | ho
     ·exact ⟨_,List.mem_cons_self,a2 hb⟩
     ·obtain ⟨p,q,r⟩:=b2 hb o ho; exact ⟨p,List.mem_cons_of_mem _ q,r⟩
    ·rcases List.mem_cons.1 ho with rfl | ho
     ·exact a3
     ·exact b4 o ho
   ·cases h
  ·cases h
 | [],_::_,_,h=>by simp [xvf] at h
 | _::_,[],_,h=>by simp [xvf] at h
theorem Fits.le {x z:Eff} {y:AV×Heap} (h:Fits K x y) (hv:∀ E,z.v.den E=x.v.den E) (ha:xAf x.add z.add):Fits K z y:=by
 intro X E1 w0 w' hH
 obtain ⟨E',h1,h2,h3,h4,h5,h6,h7,h8⟩:=h X E1 w0 w' hH
 refine ⟨E',h1,h2,by rw [hv]; exact h3,fun o ho=>?_,fun o ho=>?_,fun o ho o' ho' hown hne=>?_,fun o ho b hb=>?_,fun o ho b hb o' ho' hown=>?_⟩
 ·obtain ⟨x,hx,e⟩:=ha o ho
  exact e.ok (h4 x hx)
 ·obtain ⟨x,hx,e⟩:=ha o ho
  rw [← e.1]; exact h5 x hx
 ·obtain ⟨x,hx,e⟩:=ha o ho
  obtain ⟨x',hx',e'⟩:=ha o' ho'
  rw [← e.1,← e'.1]
  exact h6 x hx x' hx' (e.own hown) (by rw [e.1,e'.1]; exact hne)
 ·obtain ⟨x,hx,e⟩:=ha o ho
  exact h7 x hx b (e.inn hb)
 ·obtain ⟨x,hx,e⟩:=ha o ho
  obtain ⟨x',hx',e'⟩:=ha o' ho'
  rw [← e'.1]
  exact h8 x hx b (e.inn hb) x' hx' (e'.own hown)
theorem xxD {b:Bool} {x y z:Eff} (hx:xhg K x) (hy:xhg K y) (h:xBQ b x y=some z) :
  xhg K z∧(z.holds→(b=true→x.holds)∧(b=false→y.holds))∧(∀ u,b=true→Fits K x u→Fits K z u)∧(∀ u,b=false→Fits K y u→Fits K z u):=by
 unfold xBQ at h
 split at h
 case h_2=>cases h
 rename_i v add hv ha
 split at h
 case isFalse=>cases h
 rename_i hc
 rw [Bool.and_eq_true,Bool.and_eq_true] at hc
 have hnk:x.nk=y.nk:=Nat.eq_of_beq_eq_true hc.2
 cases h
 have hm:=xwc hv
 obtain ⟨m1,m2,m3,m4⟩:=xxC ha
 have hkeys:add.map (fun o=>o.key)=x.add.map fun o=>o.key:=by
  have:=congrArg (List.map (fun p:Nat×Nat=>p.1)) m3
  simpa [List.map_map,Function.comp_def] using this
 have hvers:∀ o∈add,∃ o'∈x.add,o'.key=o.key∧o'.ver=o.ver:=by
  intro o ho
  have:(o.key,o.ver)∈add.map fun o=>(o.key,o.ver):=List.mem_map.2 ⟨o,ho,rfl⟩
  rw [m3] at this
  obtain ⟨o',ho',he⟩:=List.mem_map.1 this
  exact ⟨o',ho',(Prod.mk.inj he).1,(Prod.mk.inj he).2⟩
 refine ⟨⟨rfl,fun o ho=>?_,by show (add.map _).Nodup; rw [hkeys]; exact hx.uniq,m4,?_,fun o ho=>?_⟩,fun hp=>?_,fun u hb hf=>?_,fun u hb hf=>?_⟩
 ·obtain ⟨o',ho',e1,_⟩:=hvers o ho
  rw [← e1]; exact hx.key o' ho'
 ·show AV.lt (K+x.nk) v
  cases b with
  | true=>rw [hm.1 rfl]; exact xnl _ hx.val
  | false=>rw [hm.2 rfl,hnk]; exact xnl _ hy.val
 ·obtain ⟨o',ho',_,e2⟩:=hvers o ho
  rw [← e2]; exact hx.ver o' ho'
 ·have hp:match xzN b x.p y.p with | none=>True | some p=>p:=hp
  cases hxp:x.p with
  | none=>cases hyp:y.p with
   | none=>simp [Eff.holds,hxp,hyp]
   | some q=>rw [hxp,hyp] at hp; exact ⟨fun _=>by simp [Eff.holds,hxp],fun hb=>by simp only [Eff.holds,hyp]; exact hp hb⟩
  | some p=>cases hyp:y.p with
   | none=>rw [hxp,hyp] at hp; exact ⟨fun hb=>by simp only [Eff.holds,hxp]; exact hp hb,fun _=>by simp [Eff.holds,hyp]⟩
   | some q=>rw [hxp,hyp] at hp; exact ⟨fun hb=>by simp only [Eff.holds,hxp]; exact hp.1 hb,fun hb=>by simp only [Eff.holds,hyp]; exact hp.2 hb⟩
 ·exact hf.le (fun E=>by show v.den E=x.v.den E; rw [hm.1 hb,xe7]) (m1 hb)
 ·exact hf.le (fun E=>by show v.den E=y.v.den E; rw [hm.2 hb,xe7]) (m2 hb)
theorem xC9 {x y:Body} {q:Prop} (h:xEk x y=some q) (hq:q):xqL x y:=by
 unfold xEk at h
 split at h
 ·exact .inl rfl
 ·cases h; subst hq; exact .inr ⟨rfl,.inl ⟨_,_,rfl⟩⟩
 ·split at h
  ·rename_i hc
   obtain ⟨rfl,rfl⟩:=hc
   cases h; subst hq; exact .inl rfl
  ·cases h
 ·cases h; subst hq; exact .inr ⟨rfl,.inr ⟨_,_,rfl⟩⟩
 ·split at h
  ·rename_i hc
   obtain ⟨rfl,rfl⟩:=hc
   cases h; subst hq; exact .inl rfl
  ·cases h
 ·split at h
  ·rename_i hc
   obtain ⟨rfl,rfl⟩:=hc
   cases h; subst hq; exact .inl rfl
  ·cases h
 ·cases h
theorem xzC:∀ {xs ys:List Obj} {q:Prop},xAr xs ys=some q→q→xAf xs ys
 | [],[],q,h,_=>fun z hz=>by cases hz
 | ⟨k,v,o1,x⟩::xs,⟨k',v',o2,y⟩::ys,q,h,hq=>by
  unfold xAr at h
  split at h
  ·rename_i hk
   obtain ⟨rfl,rfl⟩:=hk
   split at h
   ·rename_i p1 q1 h1 h2
    cases h
    intro o ho
    rcases List.mem_cons.1 ho with rfl | ho
    ·exact ⟨_,List.mem_cons_self,rfl,.inl ⟨rfl,xC9 h1 hq.1⟩⟩
    ·obtain ⟨p,q,r⟩:=xzC h2 hq.2 o ho; exact ⟨p,List.mem_cons_of_mem _ q,r⟩
   ·cases h
  ·cases h
 | [],_::_,_,h,_=>by simp [xAr] at h
 | _::_,[],_,h,_=>by simp [xAr] at h
theorem xBt {x y:AV} (h:xEj x y=true) (E:Env):y.den E=x.den E:=by
 unfold xEj at h
 split at h
 ·rw [Nat.eq_of_beq_eq_true h]
 ·cases h
theorem xqc {p:Prop} {x:Eff} (h:({ x with p:=andP p x.p }:Eff).holds):p∧x.holds:=by
 have hp:match andP p x.p with | none=>True | some p=>p:=h
 cases hx:x.p with
 | none=>rw [hx] at hp; exact ⟨hp,by simp [Eff.holds,hx]⟩
 | some q=>rw [hx] at hp; exact ⟨hp.1,by simp only [Eff.holds,hx]; exact hp.2⟩
theorem xcS:∀ {t:Tree (AV×Heap)} {x:Eff},xai P K t=some x→xhg K x∧(x.holds→t.holds (Fits K x))
 | .ret y,x,h=>by
  obtain ⟨h1,h2⟩:=xAv h
  exact ⟨h1,fun _=>h2⟩
 | .br b t e,x,h=>by
  unfold xai at h
  split at h
  ·rename_i x1 x2 h1 h2
   obtain ⟨a1,a2⟩:=xcS h1
   obtain ⟨b1,b2⟩:=xcS h2
   obtain ⟨m1,m2,m3,m4⟩:=xxD a1 b1 h
   exact ⟨m1,fun hp=>⟨fun hb=>xaV (fun u hu=>m3 u hb hu) (a2 ((m2 hp).1 hb)),fun hb=>xaV (fun u hu=>m4 u hb hu) (b2 ((m2 hp).2 hb))⟩⟩
  ·rename_i x1 h1 h2
   split at h
   ·cases h
    obtain ⟨a1,a2⟩:=xcS h1
    refine ⟨⟨a1.rm,a1.key,a1.uniq,a1.flat,a1.val,a1.ver⟩,fun hp=>?_⟩
    obtain ⟨q1,q2⟩:=xqc hp
    exact ⟨fun _=>a2 q2,fun hb=>by rw [q1] at hb; cases hb⟩
   ·cases h
  ·rename_i y1 h1 h2
   split at h
   ·cases h
    obtain ⟨a1,a2⟩:=xcS h2
    refine ⟨⟨a1.rm,a1.key,a1.uniq,a1.flat,a1.val,a1.ver⟩,fun hp=>?_⟩
    obtain ⟨q1,q2⟩:=xqc hp
    exact ⟨fun hb=>absurd (q1.symm.trans hb) (by simp),fun _=>a2 q2⟩
   ·cases h
  ·cases h
 | .need p t,x,h=>by
  unfold xai at h
  cases hc:xai P K t with
  | none=>rw [hc] at h; cases h
  | some x0 =>
   rw [hc] at h
   cases h
   obtain ⟨a1,a2⟩:=xcS hc
   refine ⟨⟨a1.rm,a1.key,a1.uniq,a1.flat,a1.val,a1.ver⟩,fun hp=>?_⟩
   have hp:match andP p x0.p with | none=>True | some p=>p:=hp
   cases hx:x0.p with
   | none=>rw [hx] at hp; exact ⟨hp,a2 (by simp [Eff.holds,hx])⟩
   | some q=>rw [hx] at hp; exact ⟨hp.1,a2 (by simp only [Eff.holds,hx]; exact hp.2)⟩
 | .ask p t e,x,h=>by
  unfold xai at h
  split at h
  ·rename_i x1 y1 h1 h2
   obtain ⟨a1,a2⟩:=xcS h1
   obtain ⟨b1,b2⟩:=xcS h2
   unfold askE at h
   split at h
   ·rename_i q hq
    split at h
    ·rename_i hc
     rw [Bool.and_eq_true] at hc
     cases h
     refine ⟨⟨b1.rm,b1.key,b1.uniq,b1.flat,b1.val,b1.ver⟩,fun hp=>?_⟩
     obtain ⟨q1,q2⟩:=xqc hp
     refine ⟨fun hpp=>?_,b2 q2⟩
     obtain ⟨q3,q4⟩:=q1 hpp
     have hx:x1.holds:=by
      unfold Eff.holds
      unfold xjG at q3
      cases hxp:x1.p with
      | none=>trivial
      | some r=>rw [hxp] at q3; exact q3
     exact xaV (fun u hu=>Fits.le hu (fun E=>xBt hc.1 E) (xzC hq q4)) (a2 hx)
    ·cases h
   ·cases h
  ·cases h
 | .bad,x,h=>by cases h
theorem xae.frozen {H:Heap} (h:xae X E w0 H w):xae X E w ⟨frozen H.objs,H.next⟩ w:=by
 have mem:∀ o∈Sy.frozen H.objs,∃ o'∈H.objs,o={ o' with own:=false,body:=xAh o'.body }:=fun o ho=>by
  obtain ⟨o',ho',rfl⟩:=List.mem_map.1 ho
  exact ⟨o',ho',rfl⟩
 have inn:∀ (k:Nat) (b:Body) (g:Nat),Inn E w k (xAh b) g→Inn E w k b g:=fun k b g hg=>by cases b<;>exact hg
 refine ⟨Blw.refl _ _,h.env,?_,?_,?_,?_,?_,?_,?_,?_,?_⟩
 ·intro o ho
  obtain ⟨o',ho',rfl⟩:=mem o ho
  have:=h.objs o' ho'
  obtain ⟨k,v,own,b⟩:=o'
  cases b with
  | cells=>exact this
  | row e ks l=>exact ⟨this.reads,this.len,fun h=>by cases h⟩
  | sub e ks l=>exact ⟨this.2.reads,this.2.len,fun h=>by cases h⟩
  | nst e ks l=>obtain ⟨vs,this⟩:=this; exact ⟨vs,⟨this.row.reads,this.row.len,fun h=>by cases h⟩,this.cell⟩
  | arr e sz els=>exact ⟨⟨this.1.reads,this.1.len,fun h=>by cases h⟩,this.2⟩
  | nil=>exact this
  | mp=>exact this
  | mf=>exact this
  | mq=>exact this
  | fin=>exact this
  | loop=>exact this
 ·intro o ho hown; obtain ⟨o',ho',rfl⟩:=mem o ho; cases hown
 ·intro o ho o2 ho2 hown; obtain ⟨o',ho',rfl⟩:=mem o ho; cases hown
 ·intro o ho o2 ho2 hk
  obtain ⟨o',ho',rfl⟩:=mem o ho
  obtain ⟨o2',ho2',rfl⟩:=mem o2 ho2
  have:=h.uniq o' ho' o2' ho2' hk
  rw [this]
 ·intro o ho; obtain ⟨o',ho',rfl⟩:=mem o ho
  obtain ⟨h1,h2⟩:=h.lt o' ho'
  refine ⟨h1,?_⟩
  obtain ⟨k,v,own,b⟩:=o'
  cases b<;>exact h2
 ·intro y hy
  refine ⟨(h.prot y hy).1,fun o ho=>?_⟩
  obtain ⟨o',ho',rfl⟩:=mem o ho; exact (h.prot y hy).2 o' ho'
 ·intro o ho b hb o2 ho2 hown; obtain ⟨o',ho',rfl⟩:=mem o2 ho2; cases hown
 ·intro y hy o ho hi
  obtain ⟨o',ho',rfl⟩:=mem o ho
  exact h.protD y hy o' ho' (inn _ _ _ hi)
 ·intro o ho b hb
  obtain ⟨o',ho',rfl⟩:=mem o ho
  rcases hb with ⟨h1,_⟩ | ⟨⟨h1,_⟩,_⟩
  ·obtain ⟨k,v,own,bd⟩:=o'
   cases bd<;>cases h1
  ·cases h1
theorem xlC {call:xhh} (hcall:xiD P call) {f:FuncId} {args:List AV} {H:Heap} {x:Eff} (h:xai P H.next (call f args ⟨frozen H.objs,H.next⟩)=some x) (hH:xae X E w0 H w) (hargs:AV.ltL H.next args) :
  xhg H.next x∧(x.holds→Calls P f (AV.denL E args).toArray w fun e w'=>∃ E',e=.returned (x.v.den E')∧xm5 E w H.next x E' w'):=by
 obtain ⟨h1,h2⟩:=xcS h
 refine ⟨h1,fun hp=>?_⟩
 refine hcall X w f args ⟨frozen H.objs,H.next⟩ E w _ hH.frozen hargs (xaV (fun y hy=>?_) (h2 hp))
 intro E1 w' hE hH' _ _ _
 obtain ⟨E',e1,e2,e3,e4,e5,e6,e7,e8⟩:=hy X E1 w w' hH'
 exact ⟨E',by rw [e3],fun k hk=>by rw [e1 k hk,hE k hk],e2,hH'.below,e4,fun o ho b hb=>.inl (e5 o ho b hb),e6,e7,e8⟩
end
end Go.Sy
set_option linter.unusedVariables false
namespace Go.Sy
open Go.RowKit
section
variable {P:Program} {Γ:Con} {X:List (Nat×Go.Obj)} {E:Env} {w0 w:World} {objs:List Obj} {n K:Nat}
structure xyv (E:Env) (w:World) (objs:List Obj):Prop where
 env:∀ k,(E k).oneCell'=true
 rows:∀ o∈objs,xbm E w o.key false o.body∧xbt o.body=true∧o.key<objs.length
 uniq:∀ o∈objs,∀ o'∈objs,o.key=o'.key→o=o'
def xzu (P:Program) (f:FuncId) (args:List AV) (objs:List Obj) (x:Eff):Prop :=
 xci P f∧xhg objs.length x∧(x.holds→∀ (E:Env) (w:World),xyv E w objs→Calls P f (AV.denL E args).toArray w fun e w'=>∃ E',e=.returned (x.v.den E')∧xm5 E w objs.length x E' w' fun b=>∃ o'∈objs,Inn E w o'.key o'.body b)
structure xGq (P:Program) (f:FuncId) (args:List AV) (objs:List Obj) (x:Eff) (rest:List AV) (e:TypeId) (ks:List CK) (l l':List (List Int)):Prop where
 isArgs:args=.sl 0::rest
 isObjs:objs=[⟨0,0,true,.row e ks l⟩]
 add:x.add=[⟨0,0,true,.row e ks l'⟩]
 keys:∀ k∈AV.keys x.v,k=0
 fn:xci P f
 run:x.holds→∀ (E:Env) (w:World),(∀ k,(E k).oneCell'=true)→xa8 w true e ks.length (E 0) l.length (rowV ks l) →
  Calls P f (AV.denL E args).toArray w fun ex w'=>ex=.returned (x.v.den E)∧xa8 w' true e ks.length (E 0) l'.length (rowV ks l')∧Chg w w' (blkO (E 0)).toList
def xaT (P:Program) (Γ:Con):Prop:=∀ (f:FuncId) (args:List AV) (objs:List Obj) (x:Eff),Γ f args objs=some x →
 (x.rm=[]→xzu P f args objs x)∧(x.rm≠[]→∃ rest e ks l l',xGq P f args objs x rest e ks l l')
def xCO (P:Program) (objs:List Obj) (K:Nat) (x:xeU):Prop :=
 (∃ o∈objs,x.key=some o.key∧o.key<K∧(x.body=o.body∨(o.body=.nil∧∃ t,x.body=xgp P t)))∨(x.key=none∧∃ t,x.body=xgp P t)
structure xgc (P:Program) (objs:List Obj) (K:Nat) (acc acc':List xeU):Prop where
 ext:∃ r,acc'=acc++r
 ok:(∀ x∈acc,xCO P objs K x)→∀ x∈acc',xCO P objs K x
theorem xgc.refl (acc:List xeU):xgc P objs K acc acc:=⟨⟨[],by simp⟩,fun h=>h⟩
theorem xgc.trans {a b c:List xeU} (h:xgc P objs K a b) (k:xgc P objs K b c):xgc P objs K a c:=by
 obtain ⟨r,rfl⟩:=h.ext
 obtain ⟨s,rfl⟩:=k.ext
 exact ⟨⟨r++s,by simp⟩,fun hn=>k.ok (h.ok hn)⟩
theorem xgc.le {a b:List xeU} (h:xgc P objs K a b):a.length≤b.length:=by obtain ⟨r,rfl⟩:=h.ext; simp
theorem xgc.get {a b:List xeU} (h:xgc P objs K a b) {i:Nat} {o:xeU} (hi:a[i]?=some o):b[i]?=some o:=by
 obtain ⟨r,rfl⟩:=h.ext
 rw [List.getElem?_append_left (List.getElem?_eq_some_iff.1 hi).1]; exact hi
theorem xtZ {acc:List xeU} {x:xeU} (h:xCO P objs K x):xgc P objs K acc (acc++[x]) :=
 ⟨⟨[x],rfl⟩,fun hn y hy=>by
  rcases List.mem_append.1 hy with hy | hy
  ·exact hn y hy
  ·simp at hy; subst hy; exact h⟩
theorem xkx {k:Nat}:∀ {l:List xeU} {i j:Nat},xmN k l i=some j→∃ m x,j=i+m∧l[m]?=some x∧x.key=some k
 | [],i,j,h=>by cases h
 | x::r,i,j,h=>by
  unfold xmN at h
  split at h
  ·rename_i k' hk'
   split at h
   ·rename_i hb
    cases h
    exact ⟨0,x,rfl,rfl,by rw [hk',Nat.eq_of_beq_eq_true hb]⟩
   ·obtain ⟨m,y,h1,h2,h3⟩:=xkx h
    exact ⟨m+1,y,by omega,by simpa using h2,h3⟩
  ·obtain ⟨m,y,h1,h2,h3⟩:=xkx h
   exact ⟨m+1,y,by omega,by simpa using h2,h3⟩
def xAg (E Ec:Env) (acc:List xeU):Prop:=∀ i x,acc[i]?=some x→Ec i=xeu E x.key
theorem xvt {t:Option TypeId} {k i:Nat} {acc acc':List xeU} (hk:k<K) (h:canK P objs t k acc=some (i,acc')):xgc P objs K acc acc'∧i<acc'.length∧∀ E Ec:Env,xAg E Ec acc'→Ec i=E k:=by
 unfold canK at h
 split at h
 ·rename_i j hj
  cases h
  obtain ⟨m,x,h1,h2,h3⟩:=xkx hj
  have:i=m:=by omega
  subst this
  exact ⟨xgc.refl _,(List.getElem?_eq_some_iff.1 h2).1,fun E Ec he=>by rw [he i x h2,h3]; rfl⟩
 ·split at h
  ·rename_i o ho
   cases h
   obtain ⟨hm,hkk⟩:=xan ho
   refine ⟨xtZ (.inl ⟨o,hm,by rw [hkk],by rw [hkk]; exact hk,?_⟩),by simp,fun E Ec he=>he acc.length ⟨some k,o.own,match o.body with | .nil=>xgp P t | b=>b⟩ (by rw [List.getElem?_append_right (Nat.le_refl _),Nat.sub_self]; rfl)⟩
   generalize o.body=b
   cases b with
   | nil=>exact .inr ⟨rfl,t,rfl⟩
   | _=>exact .inl rfl
  ·cases h
mutual
theorem xA2:∀ (v:AV) (t:Option TypeId) (acc:List xeU) (v':AV) (acc':List xeU),AV.lt K v→canV P objs t v acc=some (v',acc') →
  xgc P objs K acc acc'∧AV.lt acc'.length v'∧∀ E Ec:Env,xAg E Ec acc'→v'.den Ec=v.den E
 | .sl k,t,acc,v',acc',hk,h=>by
  unfold canV at h
  split at h
  ·rename_i i acc1 hc
   cases h
   obtain ⟨a,b,c⟩:=xvt hk hc
   exact ⟨a,b,fun E Ec he=>c E Ec he⟩
  ·cases h
 | .ptr k off,t,acc,v',acc',hk,h=>by
  unfold canV at h
  split at h
  ·rename_i i acc1 hc
   cases h
   obtain ⟨a,b,c⟩:=xvt hk hc
   exact ⟨a,b,fun E Ec he=>by simp [AV.den,c E Ec he]⟩
  ·cases h
 | .fn f first caps,t,acc,v',acc',hk,h=>by
  unfold canV at h
  split at h
  ·rename_i first' acc1 h1
   split at h
   ·rename_i caps' acc2 h2
    cases h
    obtain ⟨a,b,c⟩:=xjo first [] acc first' acc1 hk.1 h1
    obtain ⟨a',b',c'⟩:=xjo caps [] acc1 caps' acc' hk.2 h2
    have:=a'.le
    refine ⟨a.trans a',⟨xzR a'.le _ b,b'⟩,fun E Ec he=>?_⟩
    simp only [AV.den,c E Ec (fun i x hi=>he i x (a'.get hi)),c' E Ec he]
   ·cases h
  ·cases h
 | .agg cs,t,acc,v',acc',hk,h=>by
  unfold canV at h
  split at h
  ·rename_i cs' acc1 h1
   cases h
   obtain ⟨a,b,c⟩:=xjo cs _ acc cs' acc' hk h1
   exact ⟨a,b,fun E Ec he=>by simp only [AV.den,c E Ec he]⟩
  ·cases h
 | .tup cs,t,acc,v',acc',hk,h=>by
  unfold canV at h
  split at h
  ·rename_i cs' acc1 h1
   cases h
   obtain ⟨a,b,c⟩:=xjo cs _ acc cs' acc' hk h1
   exact ⟨a,b,fun E Ec he=>by simp only [AV.den,c E Ec he]⟩
  ·cases h
 | .yl _,t,acc,v',acc',hk,h=>by cases h
 | .ix _ _ _ _ _,t,acc,v',acc',hk,h=>by cases h
 | .vw _ _ _ _,t,acc,v',acc',hk,h=>by cases h
 | .bool b,t,acc,v',acc',hk,h=>by simp only [canV] at h; cases h; exact ⟨xgc.refl _,trivial,fun _ _ _=>rfl⟩
 | .ifc _ _,t,acc,v',acc',hk,h=>by cases h
 | .fs m ents,t,acc,v',acc',hk,h=>by simp only [canV] at h; cases h; exact ⟨xgc.refl _,trivial,fun _ _ _=>rfl⟩
 | .int k b,t,acc,v',acc',hk,h=>by simp only [canV] at h; cases h; exact ⟨xgc.refl _,trivial,fun _ _ _=>rfl⟩
 | .val v,t,acc,v',acc',hk,h=>by
  by_cases hv:v=.slice none 0 0
  ·subst hv
   simp only [canV] at h
   split at h
   ·cases h
    exact ⟨xtZ (.inr ⟨rfl,_,rfl⟩),(show acc.length<(acc++[_]).length by simp),fun E Ec he=>he acc.length ⟨none,true,xgp P t⟩ (by rw [List.getElem?_append_right (Nat.le_refl _),Nat.sub_self]; rfl)⟩
   ·cases h; exact ⟨xgc.refl _,trivial,fun _ _ _=>rfl⟩
  ·have e:canV P objs t (.val v) acc=some (.val v,acc):=by
    unfold canV
    split<;>first | rfl | (rename_i heq; cases heq; exact absurd rfl hv) | (rename_i heq; cases heq)
   rw [e] at h
   cases h
   exact ⟨xgc.refl _,trivial,fun _ _ _=>rfl⟩
theorem xjo:∀ (l:List AV) (ts:List TypeId) (acc:List xeU) (l':List AV) (acc':List xeU),AV.ltL K l→canL P objs ts l acc=some (l',acc') →
  xgc P objs K acc acc'∧AV.ltL acc'.length l'∧∀ E Ec:Env,xAg E Ec acc'→AV.denL Ec l'=AV.denL E l
 | [],ts,acc,l',acc',_,h=>by cases h; exact ⟨xgc.refl _,trivial,fun _ _ _=>rfl⟩
 | a::r,ts,acc,l',acc',hk,h=>by
  unfold canL at h
  split at h
  ·rename_i a' acc1 h1
   split at h
   ·rename_i r' acc2 h2
    cases h
    obtain ⟨x1,x2,x3⟩:=xA2 a _ acc a' acc1 hk.1 h1
    obtain ⟨y1,y2,y3⟩:=xjo r _ acc1 r' acc' hk.2 h2
    refine ⟨x1.trans y1,⟨xeM y1.le _ x2,y2⟩,fun E Ec he=>?_⟩
    rw [AV.denL,AV.denL,x3 E Ec (fun i x hi=>he i x (y1.get hi)),y3 E Ec he]
   ·cases h
  ·cases h
end
theorem xqs (t:Option TypeId):xbt (xgp P t)=true:=by
 unfold xgp
 split
 ·split<;>rfl
 ·rfl
theorem xvc (t:Option TypeId) {Ec:Env} {w:World} {key:Nat} {own:Bool} (h:Ec key=.slice none 0 0):xbm Ec w key own (xgp P t):=by
 unfold xgp
 split
 ·split
  ·exact xek h
  ·exact h
 ·exact h
theorem xzm {E1 E2:Env} {w:World} {k1 k2:Nat} {own:Bool} {b:Body} (hf:xbt b=true) (hk:E2 k2=E1 k1) (h:xbm E1 w k1 own b):xbm E2 w k2 false b:=by
 cases b with
 | row e ks l =>
  have h:xa8 w own e ks.length (E1 k1) l.length (rowV ks l):=h
  show xa8 w false e ks.length (E2 k2) l.length (rowV ks l); rw [hk]; exact ⟨h.reads,h.len,fun h=>by cases h⟩
 | nil=>exact hk.trans h
 | nst e ks l=>obtain ⟨vs,h⟩:=h; exact ⟨vs,by rw [hk]; exact ⟨⟨h.row.reads,h.row.len,fun h=>by cases h⟩,h.cell⟩⟩
 | sub e ks l=>exact ⟨rfl,by rw [hk]; exact ⟨h.2.reads,h.2.len,fun h=>by cases h⟩⟩
 | mq kt et q ks l=>obtain ⟨b,es,clock,h⟩:=h; exact ⟨b,es,clock,by rw [hk]; exact h⟩
 | mf kt et q ents=>obtain ⟨b,es,clock,h⟩:=h; exact ⟨b,es,clock,by rw [hk]; exact h⟩
 | cells=>cases hf
 | arr  => cases hf
 | mp=>cases hf
 | fin=>cases hf
 | loop=>cases hf
structure xuX (P:Program) (E:Env) (w:World) (objs:List Obj):Prop where
 nil:∀ o∈objs,o.body=.nil→E o.key=.slice none 0 0
 row:∀ o∈objs,∀ e ks l,xes P o.body=some (e,ks,l)→xa8 w o.own e ks.length (E o.key) l.length (rowV ks l)
 nst:∀ o∈objs,∀ e ks l,o.body=.nst e ks l→∃ vs,xiO w o.own e ks (E o.key) l vs
 sub:∀ o∈objs,xoW o.body=true→o.own=false
 mq:∀ o∈objs,∀ kt et q ks l,o.body=.mq kt et q ks l→∃ b es clock,MqOk w (E o.key) q ks l b es clock
 mf:∀ o∈objs,∀ kt et q ents,o.body=.mf kt et q ents→∃ b es clock,MfOk w (E o.key) q ents b es clock
theorem xae.objsR (hH:xae X E w0 ⟨objs,n⟩ w):xuX P E w objs :=
 ⟨fun o ho hb=>by have:=hH.objs o ho; rw [hb] at this; exact this,fun o ho e ks l hr=>xbR hr (hH.objs o ho),fun o ho e ks l hb=>by have:=hH.objs o ho; rw [hb] at this; exact this,fun o ho hs=>by
  have:=hH.objs o ho
  obtain ⟨k,v,own,b⟩:=o
  (cases b<;>first | exact this.1 | cases hs),fun o ho kt et q ks l hb=>by have:=hH.objs o ho; rw [hb] at this; exact this,fun o ho kt et q ents hb=>by have:=hH.objs o ho; rw [hb] at this; exact this⟩
theorem xuX.flat (hH:xuX P E w objs) {o:Obj} (ho:o∈objs) (hf:xbt o.body=true):xbm E w o.key o.own o.body:=by
 cases hb:o.body with
 | row e ks l=>exact hH.row o ho e ks l (by rw [hb]; rfl)
 | nil=>exact hH.nil o ho hb
 | nst e ks l=>exact hH.nst o ho e ks l hb
 | sub e ks l=>exact ⟨hH.sub o ho (by rw [hb]; rfl),hH.row o ho e ks l (by rw [hb]; rfl)⟩
 | mq kt et q ks l=>exact hH.mq o ho kt et q ks l hb
 | mf kt et q ents=>exact hH.mf o ho kt et q ents hb
 | cells=>rw [hb] at hf; cases hf
 | arr=>rw [hb] at hf; cases hf
 | mp=>rw [hb] at hf; cases hf
 | fin=>rw [hb] at hf; cases hf
 | loop=>rw [hb] at hf; cases hf
theorem xpg:∀ {es0 es:List xeU},xfT P es0=some es→(∀ x∈es0,xCO P objs K x)→es.map (·.key)=es0.map (·.key)∧∀ x∈es,xbt x.body=true∧(∀ k,x.key=some k→k<K)∧∀ (E:Env) (w:World),xuX P E w objs→∀ (Ec:Env) (i:Nat),Ec i=xeu E x.key→xbm Ec w i false x.body
 | [],es,h,_=>by cases h; simp
 | x::r,es,h,hok=>by
  have hx:=hok x (by simp)
  have key:∀ b:Body,((xfT P r).map ({ x with body:=b }::·))=some es→(xbt b=true∧∀ (E:Env) (w:World),xuX P E w objs→∀ (Ec:Env) (i:Nat),Ec i=xeu E x.key→xbm Ec w i false b) →
    es.map (·.key)=(x::r).map (·.key)∧∀ x∈es,xbt x.body=true∧(∀ k,x.key=some k→k<K)∧∀ (E:Env) (w:World),xuX P E w objs→∀ (Ec:Env) (i:Nat),Ec i=xeu E x.key→xbm Ec w i false x.body:=by
   intro b h hb
   cases hr:xfT P r with
   | none=>rw [hr] at h; cases h
   | some es' =>
    rw [hr] at h
    cases h
    obtain ⟨i1,i2⟩:=xpg hr (fun x hx=>hok x (by simp [hx]))
    refine ⟨by simp [i1],fun y hy=>?_⟩
    rcases List.mem_cons.1 hy with rfl | hy
    ·refine ⟨hb.1,fun k hk=>?_,hb.2⟩
     rcases hx with ⟨o,ho,h1,h2,h3⟩ | ⟨h1,_⟩
     ·rw [h1] at hk; cases hk; exact h2
     ·rw [h1] at hk; cases hk
    ·exact i2 y hy
  have same:xbt x.body=true→xbt x.body=true∧∀ (E:Env) (w:World),xuX P E w objs→∀ (Ec:Env) (i:Nat),Ec i=xeu E x.key→xbm Ec w i false x.body:=by
   intro hf
   refine ⟨hf,fun E w hH Ec i he=>?_⟩
   rcases hx with ⟨o,ho,h1,h2,h3⟩ | ⟨h1,t,h3⟩
   ·rw [h1] at he
    rcases h3 with h3 | ⟨h3,t,h4⟩
    ·rw [h3] at hf ⊢; exact xzm hf he (hH.flat ho hf)
    ·have hb:E o.key=.slice none 0 0:=hH.nil o ho h3
     rw [h4]; exact xvc t (he.trans hb)
   ·rw [h1] at he
    rw [h3]; exact xvc t he
  unfold xfT at h
  obtain ⟨xk,xo,xb⟩:=x
  cases xb with
  | row e ks l=>exact key _ h (same rfl)
  | nil=>exact key _ h (same rfl)
  | nst e ks l=>exact key _ h (same rfl)
  | sub e ks l =>
   refine key _ h ⟨rfl,fun E w hH Ec i he=>?_⟩
   rcases hx with ⟨o,ho,h1,h2,h3⟩ | ⟨h1,t,h3⟩
   ·simp only [] at h1 he
    rw [h1] at he
    rcases h3 with h3 | ⟨h3,t,h4⟩
    ·simp only [] at h3
     have:=hH.row o ho e ks l (by rw [← h3]; rfl)
     show xa8 w false e ks.length (Ec i) l.length (rowV ks l)
     rw [he]
     exact ⟨this.reads,this.len,fun h=>by cases h⟩
    ·unfold xgp at h4
     split at h4
     ·split at h4<;>cases h4
     ·cases h4
   ·unfold xgp at h3
    split at h3
    ·split at h3<;>cases h3
    ·cases h3
  | arr e sz els =>
   simp only [] at h
   split at h
   ·rename_i e' ks l hr
    refine key _ h ⟨rfl,fun E w hH Ec i he=>?_⟩
    rcases hx with ⟨o,ho,h1,h2,h3⟩ | ⟨h1,t,h3⟩
    ·simp only [] at h1 he
     rw [h1] at he
     rcases h3 with h3 | ⟨h3,t,h4⟩
     ·simp only [] at h3
      have:=hH.row o ho _ _ _ (by rw [← h3]; exact hr)
      show xa8 w false e' ks.length (Ec i) l.length (rowV ks l)
      rw [he]
      exact ⟨this.reads,this.len,fun h=>by cases h⟩
     ·have:=xqs (P:=P) t
      rw [← h4] at this
      cases this
    ·have:=xqs (P:=P) t
     rw [← h3] at this
     cases this
   ·cases h
  | mq kt et q ks l=>exact key _ h (same rfl)
  | mf=>cases h
  | cells=>cases h
  | mp=>cases h
  | fin=>cases h
  | loop=>cases h
theorem xqG:∀ {es:List xeU} {i:Nat} {objs':List Obj},xtY i es=some objs'→objs'=es.zipIdx.map fun y=>(⟨i+y.2,0,y.1.own,y.1.body⟩:Obj)
 | [],i,objs',h=>by cases h; rfl
 | x::r,i,objs',h=>by
  unfold xtY at h
  split at h
  ·cases h
  ·cases hr:xtY (i+1) r with
   | none=>rw [hr] at h; cases h
   | some o' =>
    rw [hr] at h
    cases h
    rw [xqG hr,List.zipIdx_cons,List.map_cons,Nat.zero_add,List.zipIdx_succ,List.map_map]
    congr 1
    apply List.map_congr_left
    intro y _
    simp only [Function.comp]
    congr 1
    omega
theorem xAZ {es:List xeU} {i k:Nat} {x:xeU} (h:es[i]?=some x) (hk:x.key=some k):xlX K es i=k:=by
 unfold xlX
 rw [h]
 obtain ⟨a,b,c⟩:=x
 simp only [] at hk
 subst hk
 rfl
theorem xvr {es:List xeU} {i:Nat} (h:es.length≤i):xlX K es i=K+(i-es.length):=by
 unfold xlX
 rw [List.getElem?_eq_none h]
theorem xCE {es:List xeU} {x y:Eff} (h:xz7 K es x=some y):x.rm=[]:=by
 unfold xz7 at h
 split at h
 ·rename_i hc
  rw [Bool.and_eq_true,Bool.and_eq_true] at hc
  simpa using hc.1.1
 ·cases h
theorem xzi (hΓ:xaT P Γ) (hH:xae X E w0 ⟨objs,n⟩ w) {f:FuncId} {args:List AV} {y:Eff} (h:xEX P Γ f args objs K=some y) :
  xci P f∧xdq n objs K y∧(y.holds→Calls P f (AV.denL E args).toArray w fun ex w'=>ex=.returned (y.v.den E)∧xeW E objs w K y E w'):=by
 unfold xEX at h
 split at h
 case h_2=>cases h
 rename_i key rest
 split at h
 case h_2=>cases h
 rename_i hkeys
 split at h
 case h_2=>cases h
 rename_i k0 ver b hf
 split at h
 case h_2=>cases h
 rename_i e ks l hr
 split at h
 case h_2=>cases h
 rename_i x hx
 split at h
 case h_2=>cases h
 rename_i r1 a1 a2 a3 e' ks' l' hrm hadd
 cases h
 obtain ⟨hm,hk⟩:=xan hf
 have hk:k0=key:=hk
 subst hk
 obtain ⟨rest',e2,ks2,l2,l2',rc⟩:=(hΓ f _ _ x hx).2 (by rw [hrm]; simp)
 have ho:=rc.isObjs
 cases ho
 have ha:=rc.add
 rw [hadd] at ha
 cases ha
 have hargs:=rc.isArgs
 cases hargs
 have hrow:xa8 w true e ks.length (E k0) l.length (rowV ks l):=xbR hr (hH.objs _ hm)
 have hv0:AV.all (fun k=>k=0) x.v:=(xeD x.v).2 rc.keys
 have hv:∀ p:Nat→Prop,p k0→AV.all p (x.v.ren fun _=>k0):=fun p hp=>xwW (fun _ _=>hp) x.v hv0
 refine ⟨rc.fn,xmS ⟨_,hm,rfl,rfl⟩ xb4 (hv _ (hH.lt _ hm).1),fun hp=>?_⟩
 let E0:Env:=fun k=>if k=0 then E k0 else E k
 have h0:E0 0=E k0:=if_pos rfl
 have hrun:=rc.run hp E0 w (fun k=>by show (if k=0 then E k0 else E k).oneCell'=true; split<;>exact hH.env _) (by rw [h0]; exact hrow)
 have hrest:AV.denL E0 (AV.weakL rest)=AV.denL E rest:=by
  rw [xmW]
  exact xcl (p:=fun _=>False) (fun k hk=>hk.elim) _ ((xc3 _).2 (by rw [hkeys]; simp))
 have hden:AV.denL E0 (.sl 0::AV.weakL rest)=AV.denL E (.sl k0::rest):=by
  simp only [AV.denL,AV.den,h0,hrest]
 rw [hden] at hrun
 refine hrun.mono fun ex w' ⟨q1,q2,q3⟩=>⟨by rw [q1]; congr 1; exact (xwN (E:=E0) (E':=E) (fun k hk=>by subst hk; exact h0.symm) x.v hv0).symm,xk6 hH.env ?_ ?_⟩
 ·rw [h0] at q2; exact q2
 ·rw [h0] at q3
  cases hb:blkO (E k0) with
  | none=>rw [hb] at q3; exact ⟨0,.inr q3⟩
  | some g=>rw [hb] at q3; exact ⟨g,.inl ⟨rfl,by simpa using q3⟩⟩
theorem xoO (t:Option TypeId):xq5 (xgp P t)=true:=by
 unfold xgp
 split
 ·split<;>rfl
 ·rfl
theorem xtX:∀ {es0 es:List xeU},xfT P es0=some es→(∀ x∈es0,xCO P objs K x)→∀ y∈es,∀ (E Ec:Env) (w:World) (i b:Nat),Ec i=xeu E y.key→Inn Ec w i y.body b→∃ o∈objs,o.key<K∧Inn E w o.key o.body b
 | [],es,h,_,y,hy,_,_,_,_,_,_,_=>by cases h; cases hy
 | x::r,es,h,hok,y,hy,E,Ec,w,i,b,he,hi=>by
  have hx:=hok x (by simp)
  have key:∀ bd:Body,((xfT P r).map ({ x with body:=bd }::·))=some es→(xq5 bd=true∨bd=x.body)→∃ o∈objs,o.key<K∧Inn E w o.key o.body b:=by
   intro bd h hbd
   cases hr:xfT P r with
   | none=>rw [hr] at h; cases h
   | some es' =>
    rw [hr] at h
    cases h
    rcases List.mem_cons.1 hy with rfl | hy
    ·rcases hbd with hf | hbd
     ·exact xcC hf hi
     ·simp only [] at he hi
      rw [hbd] at hi
      rcases hx with ⟨o,ho,h1,h2,h3⟩ | ⟨h1,t,h3⟩
      ·rw [h1] at he
       rcases h3 with h3 | ⟨h3,t,h4⟩
       ·rw [h3] at hi
        exact ⟨o,ho,h2,xww (E2:=Ec) (E1:=E) he hi⟩
       ·rw [h4] at hi
        exact xcC (xoO t) hi
      ·rw [h3] at hi
       exact xcC (xoO t) hi
    ·exact xtX hr (fun x hx=>hok x (by simp [hx])) y hy E Ec w i b he hi
  unfold xfT at h
  obtain ⟨xk,xo,xb⟩:=x
  cases xb with
  | row e ks l=>exact key _ h (.inl rfl)
  | nil=>exact key _ h (.inl rfl)
  | nst e ks l=>exact key _ h (.inr rfl)
  | mq kt et q ks l=>exact key _ h (.inr rfl)
  | sub e ks l=>exact key _ h (.inl rfl)
  | arr e sz els =>
   simp only [] at h
   split at h
   ·exact key _ h (.inl rfl)
   ·cases h
  | mf=>cases h
  | cells=>cases h
  | mp=>cases h
  | fin=>cases h
  | loop=>cases h
theorem xt0 (hΓ:xaT P Γ) {f:FuncId} {args:List AV} {ft:List Nat} {y:Eff} (hargs:AV.ltL K args) (h:xyo P Γ f args objs K=some (ft,y)) :
  xci P f∧xhg K y∧(y.holds→∀ (E:Env) (w:World),(∀ k,(E k).oneCell'=true)→xuX P E w objs→Calls P f (AV.denL E args).toArray w fun e w'=>∃ E',e=.returned (y.v.den E')∧xm5 E w K y E' w' fun b=>∃ o'∈objs,o'.key<K∧Inn E w o'.key o'.body b):=by
 unfold xyo at h
 split at h
 case h_2=>cases h
 rename_i args' es0 hcan
 split at h
 case h_2=>cases h
 rename_i es hrows
 split at h
 case h_2=>cases h
 rename_i objs' hobjs
 split at h
 case h_2=>cases h
 rename_i x hx
 split at h
 case h_2=>cases h
 rename_i y' hy
 cases h
 obtain ⟨hfun,hwf,hcon⟩:=(hΓ f _ objs' x hx).1 (xCE hy)
 obtain ⟨c1,c2,c3⟩:=xjo args _ [] args' es0 hargs hcan
 obtain ⟨r1,r2⟩:=xpg (objs:=objs) (K:=K) hrows (c1.ok (by simp))
 have hspec:=xqG hobjs
 have hlen:objs'.length=es.length:=by rw [hspec]; simp
 have hes:es.length=es0.length:=by simpa using congrArg List.length r1
 unfold xz7 at hy
 split at hy
 case isFalse=>cases hy
 rename_i hc
 cases hy
 rw [Bool.and_eq_true,Bool.and_eq_true] at hc
 obtain ⟨⟨_,hc2⟩,hc3⟩:=hc
 have hvk:∀ i∈AV.keys x.v,i<es.length+x.nk∧∀ e,es[i]?=some e→∃ k,e.key=some k:=by
  intro i hi
  refine ⟨by have:=(xeD x.v).1 hwf.val i hi; rw [hlen] at this; exact this,fun e he=>?_⟩
  have:=List.all_eq_true.1 hc3 i hi
  rw [he] at this
  obtain ⟨a,b,c⟩:=e
  cases a with
  | none=>cases this
  | some k=>exact ⟨k,rfl⟩
 have hok:∀ i∈AV.keys x.v,(i<es.length∧∃ e k,es[i]?=some e∧e.key=some k∧k<K∧xlX K es i=k)∨(es.length≤i∧i<es.length+x.nk∧xlX K es i=K+(i-es.length)):=by
  intro i hi
  obtain ⟨h1,h2⟩:=hvk i hi
  by_cases hl:i<es.length
  ·have he:es[i]?=some es[i]:=List.getElem?_eq_getElem hl
   obtain ⟨k,hk⟩:=h2 _ he
   exact .inl ⟨hl,_,k,he,hk,(r2 _ (List.getElem_mem hl)).2.1 k hk,xAZ he hk⟩
  ·exact .inr ⟨by omega,h1,xvr (by omega)⟩
 have hadd:∀ o∈x.add,es.length≤o.key∧o.key<es.length+x.nk∧xlX K es o.key=K+(o.key-es.length):=by
  intro o ho
  obtain ⟨h1,h2⟩:=hwf.key o ho
  rw [hlen] at h1 h2
  exact ⟨h1,h2,xvr h1⟩
 have mem:∀ o∈x.add.map (fun o=>(⟨xlX K es o.key,K,o.own,o.body⟩:Obj)),∃ o'∈x.add,o=⟨K+(o'.key-es.length),K,o'.own,o'.body⟩:=by
  intro o ho
  obtain ⟨o',ho',rfl⟩:=List.mem_map.1 ho
  exact ⟨o',ho',by rw [(hadd o' ho').2.2]⟩
 refine ⟨hfun,⟨rfl,?_,?_,?_,?_,?_⟩,fun hp E w henv hH=>?_⟩
 ·intro o ho
  obtain ⟨o',ho',rfl⟩:=mem o ho
  have:=hadd o' ho'
  simp only []
  omega
 ·rw [List.map_map]
  have:(x.add.map ((fun o:Obj=>o.key)∘fun o=>(⟨xlX K es o.key,K,o.own,o.body⟩:Obj)))=(x.add.map fun o=>o.key).map fun k=>K+(k-es.length):=by
   rw [List.map_map]
   apply List.map_congr_left
   intro o ho
   exact (hadd o ho).2.2
  rw [this]
  refine List.pairwise_map.2 (List.Pairwise.imp_of_mem (fun {a b} ha hb hab=>?_) hwf.uniq)
  obtain ⟨oa,hoa,rfl⟩:=List.mem_map.1 ha
  obtain ⟨ob,hob,rfl⟩:=List.mem_map.1 hb
  have:=hadd oa hoa
  have:=hadd ob hob
  omega
 ·intro o ho
  obtain ⟨o',ho',rfl⟩:=mem o ho
  exact hwf.flat o' ho'
 ·refine xwW (p:=fun k=>k∈AV.keys x.v) (fun k hk=>?_) x.v ((xeD _).2 fun k hk=>hk)
  rcases hok k hk with ⟨_,e,k',_,_,h1,h2⟩ | ⟨h1,h2,h3⟩
  ·rw [h2]; show k'<K+x.nk; omega
  ·rw [h3]; show K+(k-es.length)<K+x.nk; omega
 ·intro o ho
  obtain ⟨o',ho',rfl⟩:=mem o ho
  exact Nat.le_refl _
 let Ec:Env:=fun i=>match es[i]? with | some e=>xeu E e.key | none=>.nilFunc
 have hEc:∀ (i:Nat) e,es[i]?=some e→Ec i=xeu E e.key:=fun i e he=>by show (match es[i]? with | some e=>_ | none=>_)=_; rw [he]
 have hEc0:xAg E Ec es0:=by
  intro i e he
  have h1:(es0.map (·.key))[i]?=some e.key:=by simp [he]
  rw [← r1] at h1
  simp only [List.getElem?_map] at h1
  cases h2:es[i]? with
  | none=>rw [h2] at h1; cases h1
  | some e' =>
   rw [h2] at h1
   cases h1':e'.key with
   | none =>
    rw [hEc i e' h2,h1']
    simp [h1'] at h1
    rw [← h1]
   | some k =>
    rw [hEc i e' h2,h1']
    simp [h1'] at h1
    rw [← h1]
 have hpre:xyv Ec w objs':=by
  refine ⟨fun k=>?_,fun o ho=>?_,fun o ho o' ho' hk=>?_⟩
  ·show (match es[k]? with | some e=>xeu E e.key | none=>.nilFunc).oneCell'=true
   split
   ·rename_i e _
    cases e.key with
    | none=>rfl
    | some k'=>exact henv k'
   ·rfl
  ·rw [hspec] at ho
   obtain ⟨⟨e,j⟩,hj,rfl⟩:=List.mem_map.1 ho
   have he:=(List.mk_mem_zipIdx_iff_getElem? (l:=es) (x:=e) (i:=j)).1 hj
   obtain ⟨q1,q2,q3⟩:=r2 e (List.mem_of_getElem? he)
   refine ⟨?_,q1,?_⟩
   ·simp only [Nat.zero_add]; exact q3 E w hH Ec j (hEc j e he)
   ·rw [hlen]; simp only [Nat.zero_add]; exact (List.getElem?_eq_some_iff.1 he).1
  ·rw [hspec] at ho ho'
   obtain ⟨⟨e,j⟩,hj,rfl⟩:=List.mem_map.1 ho
   obtain ⟨⟨e',j'⟩,hj',rfl⟩:=List.mem_map.1 ho'
   simp only [] at hk
   have hjj:j=j':=by omega
   subst hjj
   have he:=(List.mk_mem_zipIdx_iff_getElem? (l:=es) (x:=e) (i:=j)).1 hj
   have he':=(List.mk_mem_zipIdx_iff_getElem? (l:=es) (x:=e') (i:=j)).1 hj'
   rw [he] at he'
   cases he'
   rfl
 have hcall:=hcon hp Ec w hpre
 rw [xmW,c3 E Ec hEc0] at hcall
 refine hcall.mono fun e w' ⟨E2,he,hg⟩=>?_
 let E':Env:=fun k=>if k<K then E k else E2 (es.length+(k-K))
 have hE':∀ i∈AV.keys x.v,E' (xlX K es i)=E2 i:=by
  intro i hi
  rcases hok i hi with ⟨h0,en,k,h1,h2,h3,h4⟩ | ⟨h1,h2,h3⟩
  ·rw [h4,hg.agree i (by rw [hlen]; exact h0),hEc i en h1,h2]
   exact if_pos h3
  ·rw [h3]
   show (if K+(i-es.length)<K then _ else _)=_
   rw [if_neg (by omega)]
   congr 1
   omega
 have hE'a:∀ o∈x.add,E' (K+(o.key-es.length))=E2 o.key:=by
  intro o ho
  have:=hadd o ho
  show (if K+(o.key-es.length)<K then _ else _)=_
  rw [if_neg (by omega)]
  congr 1
  omega
 refine ⟨E',by rw [he]; congr 1; exact (xwN (p:=fun k=>k∈AV.keys x.v) (fun k hk=>hE' k hk) x.v ((xeD _).2 fun k hk=>hk)).symm,⟨fun k hk=>if_pos hk,fun k=>?_,hg.below,?_,?_,?_,?_,?_⟩⟩
 ·show (if k<K then E k else _).oneCell'=true
  split
  ·exact henv k
  ·exact hg.env _
 ·intro o ho
  obtain ⟨o',ho',rfl⟩:=mem o ho
  have hb:=hg.bodies o' ho'
  have hf:=hwf.flat o' ho'
  have he:=hE'a o' ho'
  obtain ⟨ok,ov,oo,ob⟩:=o'
  simp only [] at hb hf he ⊢
  cases ob with
  | row e ks l =>
   have hb:xa8 w' oo e ks.length (E2 ok) l.length (rowV ks l):=hb
   show xa8 w' oo e ks.length (E' _) l.length (rowV ks l)
   rw [he]; exact hb
  | nil=>exact he.trans hb
  | nst e ks l=>obtain ⟨vs,hb⟩:=hb; exact ⟨vs,by rw [he]; exact hb⟩
  | sub e ks l=>exact ⟨hb.1,by rw [he]; exact hb.2⟩
  | mq kt et q ks l=>obtain ⟨b,es,clock,hb⟩:=hb; exact ⟨b,es,clock,by rw [he]; exact hb⟩
  | mf kt et q ents=>obtain ⟨b,es,clock,hb⟩:=hb; exact ⟨b,es,clock,by rw [he]; exact hb⟩
  | cells=>cases hf
  | arr=>cases hf
  | mp=>cases hf
  | fin=>cases hf
  | loop=>cases hf
 ·intro o ho b hb
  obtain ⟨o',ho',rfl⟩:=mem o ho
  simp only [hE'a o' ho'] at hb
  refine (hg.own o' ho' b hb).imp id fun ⟨g1,g2,o1,ho1,hi⟩=>⟨g1,g2,?_⟩
  rw [hspec] at ho1
  obtain ⟨⟨en,j⟩,hj,rfl⟩:=List.mem_map.1 ho1
  have he:=(List.mk_mem_zipIdx_iff_getElem? (l:=es) (x:=en) (i:=j)).1 hj
  simp only [Nat.zero_add] at hi
  exact xtX hrows (c1.ok (by simp)) en (List.mem_of_getElem? he) E Ec w j b (hEc j en he) hi
 ·intro o ho o2 ho2 hown hne b hb
  obtain ⟨o',ho',rfl⟩:=mem o ho
  obtain ⟨o2',ho2',rfl⟩:=mem o2 ho2
  simp only [hE'a o' ho'] at hb
  simp only [hE'a o2' ho2']
  exact hg.inj o' ho' o2' ho2' hown (fun e=>hne (by simp only [e])) b hb
 ·intro o ho b hb
  obtain ⟨o',ho',rfl⟩:=mem o ho
  exact hg.inn o' ho' b (xww (hE'a o' ho') hb)
 ·intro o ho b hb o2 ho2 hown
  obtain ⟨o',ho',rfl⟩:=mem o ho
  obtain ⟨o2',ho2',rfl⟩:=mem o2 ho2
  simp only [hE'a o2' ho2']
  exact hg.dq o' ho' b (xww (hE'a o' ho') hb) o2' ho2' hown
theorem xBl {a:AV} {k:Nat} {b:Body} {p:Option Prop} (ha:isVw a=true) (hs:srcA P objs a=some (k,b,p)):∃ e ks l,b=.row e ks l:=by
 cases a<;>simp [isVw] at ha
 simp only [srcA] at hs
 repeat' split at hs
 all_goals first | (cases hs; done) | (cases hs; exact ⟨_,_,_,rfl⟩)
theorem xpn:∀ {args:List AV} {K:Nat} {args':List AV} {add:List Obj} {ft:List Nat} {p:Option Prop},xnw P objs K args=some (args',add,ft,p)→∀ o∈add,∀ {E:Env} {w:World} {b:Nat} {C:Prop},Inn E w o.key o.body b→C
 | [],K,args',add,ft,p,h,o,ho,_,_,_,_,_=>by cases h; cases ho
 | a::r,K,args',add,ft,p,h,o,ho,E,w,b,C,hi=>by
  unfold xnw at h
  split at h
  ·rename_i ha
   split at h
   ·rename_i k b1 p1 r' add' ft' q hs hr
    cases h
    rcases List.mem_cons.1 ho with rfl | ho
    ·obtain ⟨e,ks,l,rfl⟩:=xBl ha hs
     exact hi.elim
    ·exact xpn hr o ho hi
   ·cases h
  ·split at h
   ·rename_i r' add' ft' q hr
    cases h
    exact xpn hr o ho hi
   ·cases h
def vals (E:Env) (args:List AV):List Value:=(args.filter isVw).map (AV.den E)
theorem xl2 {K0:Nat}:∀ (args:List AV) (K:Nat) (args':List AV) (add:List Obj) (ft:List Nat) (p:Option Prop),K0≤K→AV.ltL K0 args→xnw P objs K args=some (args',add,ft,p) →
  add.length=(args.filter isVw).length∧AV.ltL (K+add.length) args'∧(∀ o∈add,K≤o.key∧o.key<K+add.length) ∧
  ∀ (X:List (Nat×Go.Obj)) (E:Env) (w0 w:World) (n:Nat),xae X E w0 ⟨objs,n⟩ w→xjG p→∀ E2:Env,(∀ k,k<K0→E2 k=E k)→(∀ i v,(vals E args)[i]?=some v→E2 (K+i)=v)→AV.denL E2 args'=AV.denL E args∧xuX P E2 w add
 | [],K,args',add,ft,p,_,_,h=>by
  cases h
  exact ⟨rfl,trivial,by simp,fun X E w0 w n hH _ E2 _ _=>⟨rfl,⟨by simp,by simp,by simp,by simp,by simp,by simp⟩⟩⟩
 | a::r,K,args',add,ft,p,hK,hl,h=>by
  unfold xnw at h
  split at h
  ·rename_i ha
   split at h
   ·rename_i k b p1 r' add' ft' q hs hr
    cases h
    obtain ⟨i1,i2,i3,i4⟩:=xl2 r (K+1) r' add' ft' q (by omega) hl.2 hr
    refine ⟨by simp [ha,i1],⟨show K<K+(add'.length+1) by omega,xzR (show K+1+add'.length≤K+(add'.length+1) by omega) _ i2⟩,?_,?_⟩
    ·intro o ho
     rcases List.mem_cons.1 ho with rfl | ho
     ·exact ⟨Nat.le_refl _,by simp⟩
     ·have:=i3 o ho
      simp only [List.length_cons]
      omega
    ·intro X E w0 w n hH hp E2 e1 e2
     obtain ⟨hp1,hq⟩:=xp5 hp
     have hv:vals E (a::r)=a.den E::vals E r:=by simp [vals,ha]
     obtain ⟨j1,j2⟩:=i4 X E w0 w n hH hq E2 e1 (fun i v hi=>by
      have:=e2 (i+1) v (by rw [hv]; simpa using hi)
      rw [show K+1+i=K+(i+1) by omega]; exact this)
     have h0:E2 K=a.den E:=e2 0 _ (by rw [hv]; rfl)
     obtain ⟨eb,kb,lb,hbrow⟩:=xBl ha hs
     refine ⟨by simp only [AV.denL,AV.den,h0,j1],?_,?_,?_,?_,?_,?_⟩
     ·intro o ho hb
      rcases List.mem_cons.1 ho with rfl | ho
      ·simp only [] at hb
       subst hb
       cases a<;>simp [isVw] at ha
       simp only [srcA] at hs
       repeat' split at hs
       all_goals cases hs
      ·exact j2.nil o ho hb
     ·intro o ho e ks l hro
      rcases List.mem_cons.1 ho with rfl | ho
      ·obtain ⟨_,_,_,_,hso⟩:=xpr hH hs
       show xa8 w false e ks.length (E2 K) l.length (rowV ks l)
       rw [h0]
       exact xrw hro (hso hp1)
      ·exact j2.row o ho e ks l hro
     ·intro o ho e ks l hro
      rcases List.mem_cons.1 ho with rfl | ho
      ·simp only [] at hro; rw [hbrow] at hro; cases hro
      ·exact j2.nst o ho e ks l hro
     ·intro o ho hsb
      rcases List.mem_cons.1 ho with rfl | ho
      ·rfl
      ·exact j2.sub o ho hsb
     ·intro o ho kt et q ks l hro
      rcases List.mem_cons.1 ho with rfl | ho
      ·simp only [] at hro; rw [hbrow] at hro; cases hro
      ·exact j2.mq o ho kt et q ks l hro
     ·intro o ho kt et q ents hro
      rcases List.mem_cons.1 ho with rfl | ho
      ·simp only [] at hro; rw [hbrow] at hro; cases hro
      ·exact j2.mf o ho kt et q ents hro
   ·cases h
  ·rename_i ha
   split at h
   ·rename_i r' add' ft' q hr
    cases h
    obtain ⟨i1,i2,i3,i4⟩:=xl2 r K r' add ft p hK hl.2 hr
    refine ⟨by simp [ha,i1],⟨xeM (by omega) _ hl.1,i2⟩,i3,fun X E w0 w n hH hp E2 e1 e2=>?_⟩
    have hv:vals E (a::r)=vals E r:=by simp [vals,ha]
    obtain ⟨j1,j2⟩:=i4 X E w0 w n hH hp E2 e1 (by rw [← hv]; exact e2)
    exact ⟨by simp only [AV.denL,j1,xg9 e1 a hl.1],j2⟩
   ·cases h
theorem xlE (hΓ:xaT P Γ) (hH:xae X E w0 ⟨objs,n⟩ w) {f:FuncId} {args:List AV} {ft:List Nat} {y:Eff} (hargs:AV.ltL K args) (h:xwT P Γ f args objs K=some (ft,y)) :
  xci P f∧xhg K y∧(y.holds→Calls P f (AV.denL E args).toArray w fun e w'=>∃ E',e=.returned (y.v.den E')∧xm5 E w K y E' w' fun b=>∃ o'∈objs,Inn E w o'.key o'.body b):=by
 unfold xwT at h
 split at h
 ·obtain ⟨h1,h2,h3⟩:=xt0 hΓ hargs h
  exact ⟨h1,h2,fun hp=>(h3 hp E w hH.env hH.objsR).mono fun e w' ⟨E',he,hg⟩=>⟨E',he,hg.mono fun b ⟨o,ho,_,hi⟩=>⟨o,ho,hi⟩⟩⟩
 ·split at h
  case h_2=>cases h
  rename_i args' add ft1 p hv
  split at h
  case h_2=>cases h
  rename_i ft' x hc
  cases h
  obtain ⟨i1,i2,i3,i4⟩:=xl2 (K0:=K) args K args' add ft1 p (Nat.le_refl _) hargs hv
  obtain ⟨h1,h2,h3⟩:=xt0 hΓ i2 hc
  refine ⟨h1,⟨h2.rm,fun o ho=>?_,h2.uniq,h2.flat,?_,fun o ho=>?_⟩,fun hp=>?_⟩
  ·have:=h2.key o ho
   refine ⟨by omega,?_⟩
   simp only []
   split
   ·rename_i hc
    rw [Bool.and_eq_true,Bool.and_eq_true] at hc
    have:x.add=[]:=by simpa using hc.1.2
    rw [this] at ho
    cases ho
   ·omega
  ·simp only []
   split
   ·rename_i hc
    rw [Bool.and_eq_true,Bool.and_eq_true] at hc
    exact (xeD x.v).2 fun k hk=>by have:=List.all_eq_true.1 hc.2 k hk; simpa using this
   ·have:=h2.val
    rw [show K+add.length+x.nk=K+(add.length+x.nk) by omega] at this
    exact this
  ·have:=h2.ver o ho
   omega
  ·obtain ⟨hp1,hp2⟩:=xp5 (p:=p) (q:=x.p) hp
   let E2:Env:=fun k=>match (if K≤k then (vals E args)[k-K]? else (none:Option Value)) with | some v=>v | none=>E k
   have e1:∀ k,k<K→E2 k=E k:=fun k hk=>by show (match (if K≤k then (vals E args)[k-K]? else (none:Option Value)) with | some v=>v | none=>E k)=E k; rw [if_neg (by omega)]
   have e2:∀ i v,(vals E args)[i]?=some v→E2 (K+i)=v:=fun i v hi=>by
    show (match (if K≤K+i then (vals E args)[K+i-K]? else none) with | some v=>v | none=>E (K+i))=v
    rw [if_pos (by omega),Nat.add_sub_cancel_left,hi]
   have e3:∀ k,(E2 k).oneCell'=true:=fun k=>by
    show (match (if K≤k then (vals E args)[k-K]? else none) with | some v=>v | none=>E k).oneCell'=true
    split
    ·rename_i v hv
     split at hv
     ·obtain ⟨a,ha,rfl⟩:=List.mem_map.1 (List.mem_of_getElem? hv)
      have:=(List.mem_filter.1 ha).2
      cases a<;>simp [isVw] at this
      exact xpF (hH.env _) _ _ _
     ·cases hv
    ·exact hH.env k
   obtain ⟨j1,j2⟩:=i4 X E w0 w n hH hp1 E2 e1 e2
   have hR:xuX P E2 w (add++objs.filter fun o=>Nat.blt o.key K):=by
    have old:∀ o∈objs.filter (fun o=>Nat.blt o.key K),o∈objs∧E2 o.key=E o.key:=fun o ho=>by
     obtain ⟨a,b⟩:=List.mem_filter.1 ho
     exact ⟨a,e1 _ (by simpa using b)⟩
    refine ⟨fun o ho hb=>?_,fun o ho e ks l hr=>?_,fun o ho e ks l hr=>?_,fun o ho hr=>?_,fun o ho kt et q ks l hr=>?_,fun o ho kt et q ents hr=>?_⟩
    ·rcases List.mem_append.1 ho with ho | ho
     ·exact j2.nil o ho hb
     ·obtain ⟨a,b⟩:=old o ho
      rw [b]; exact (hH.objsR (P:=P)).nil o a hb
    ·rcases List.mem_append.1 ho with ho | ho
     ·exact j2.row o ho e ks l hr
     ·obtain ⟨a,b⟩:=old o ho
      rw [b]; exact hH.objsR.row o a e ks l hr
    ·rcases List.mem_append.1 ho with ho | ho
     ·exact j2.nst o ho e ks l hr
     ·obtain ⟨a,b⟩:=old o ho
      rw [b]; exact (hH.objsR (P:=P)).nst o a e ks l hr
    ·rcases List.mem_append.1 ho with ho | ho
     ·exact j2.sub o ho hr
     ·obtain ⟨a,b⟩:=old o ho
      exact (hH.objsR (P:=P)).sub o a hr
    ·rcases List.mem_append.1 ho with ho | ho
     ·exact j2.mq o ho kt et q ks l hr
     ·obtain ⟨a,b⟩:=old o ho
      rw [b]; exact (hH.objsR (P:=P)).mq o a kt et q ks l hr
    ·rcases List.mem_append.1 ho with ho | ho
     ·exact j2.mf o ho kt et q ents hr
     ·obtain ⟨a,b⟩:=old o ho
      rw [b]; exact (hH.objsR (P:=P)).mf o a kt et q ents hr
   have:=h3 hp2 E2 w e3 hR
   rw [j1] at this
   refine this.mono fun e w' ⟨E',he,hg⟩=>?_
   let E3:Env:=fun k=>if k<K then E k else E' k
   have e4:∀ k,k<K+add.length+x.nk→E3 k=E' k:=fun k hk=>by
    show (if k<K then E k else E' k)=E' k
    split
    ·rename_i hk; rw [hg.agree k (by omega),e1 k hk]
    ·rfl
   have hk3:∀ o∈x.add,E3 o.key=E' o.key:=fun o ho=>e4 _ (h2.key o ho).2
   refine ⟨E3,by rw [he]; congr 1; exact (xdt (fun k hk=>e4 k hk) _ h2.val).symm,⟨fun k hk=>if_pos hk,fun k=>?_,hg.below,?_,?_,?_,?_,?_⟩⟩
   ·show (if k<K then E k else E' k).oneCell'=true
    split
    ·exact hH.env k
    ·exact hg.env k
   ·intro o ho
    exact xoj (h2.flat o ho) (hk3 o ho) (hg.bodies o ho)
   ·intro o ho b hb
    rw [hk3 o ho] at hb
    refine (hg.own o ho b hb).imp id fun ⟨g1,g2,o1,ho1,hk1,hi⟩=>⟨g1,g2,?_⟩
    rcases List.mem_append.1 ho1 with ho1 | ho1
    ·exact xpn hv o1 ho1 hi
    ·obtain ⟨q1,q2⟩:=List.mem_filter.1 ho1
     exact ⟨o1,q1,xht (e1 _ (by simpa using q2)) hi⟩
   ·intro o ho o2 ho2 hown hne b hb
    rw [hk3 o ho] at hb
    rw [hk3 o2 ho2]
    exact hg.inj o ho o2 ho2 hown hne b hb
   ·intro o ho b hb
    exact hg.inn o ho b (xht (hk3 o ho) hb)
   ·intro o ho b hb o2 ho2 hown
    rw [hk3 o2 ho2]
    exact hg.dq o ho b (xht (hk3 o ho) hb) o2 ho2 hown
theorem xzr {q:Prop} {p:Option Prop} (h:xjG (andP q p)):q∧xjG p:=by
 cases p with
 | none=>exact ⟨h,trivial⟩
 | some p=>exact h
theorem xqt {b:Bool} {p q:Option Prop} (h:xjG (xzN b p q)):(b=true→xjG p)∧(b=false→xjG q):=by
 cases p<;>cases q
 ·exact ⟨fun _=>trivial,fun _=>trivial⟩
 ·exact ⟨fun _=>trivial,h⟩
 ·exact ⟨h,fun _=>trivial⟩
 ·exact h
theorem xpU {x:Eff}:x.holds↔xjG x.p:=by
 obtain ⟨p,rm,nk,add,v⟩:=x
 cases p<;>exact Iff.rfl
theorem xxA {t:TypeId} {name:String} {fi:FuncId} (h:xwb P t name=some fi) (n:Nat) (x:Value) (w:World):(method (n+1) t x name).run P w=.ok (fi,x) w:=by
 unfold xwb at h
 split at h
 case h_2=>cases h
 rename_i i hi
 split at h
 case h_2=>cases h
 rename_i m hm
 split at h
 ·cases h
 ·rename_i f d hu hp hf hd
  cases h
  have hi':(typeInfo t).run P w=.ok i w:=by simp [typeInfo,hi]
  unfold method
  simp only [Sem.run_bind,hi',Result.andThen_ok,hm,hp,hf,follow,Sem.run_pure]
  unfold receiverAt
  simp only [Sem.run_bind,run_underlying hd,Result.andThen_ok]
  cases d with
  | pointer e=>exact (hu e rfl).elim
  | _=>simp [Place.get]
 ·cases h
theorem xyH {a:Act} {o:Oper} {r:Operand} {name:String} {args:Array Operand} {ts:Array TypeId} (ho:o.op=.call { callee:=.invoke r name,args:=args,argTypes:=ts }) {t:TypeId} {v:AV} {vs:List AV} {fi:FuncId}
  (hr:a.eval r=(AV.ifc t v).den E) (hargs:args.toList.map a.eval=AV.denL E vs) (hm:xwb P t name=some fi) (hfun:xci P fi):(execOp a.eval o).run P w=.ok (.enter fi (AV.denL E (v::vs)).toArray) w:=by
 obtain ⟨fn,h1,h2,h3⟩:=hfun
 have h4:fn.body.isNone=false:=by cases hb:fn.body with
  | none=>rw [hb] at h3; cases h3
  | some _=>rfl
 have e1:(args.map a.eval)=(AV.denL E vs).toArray:=by apply Array.ext'; rw [Array.toList_map]; exact hargs
 have h5:(fn.name == "runtime.NumGoroutine")=false:=by simpa using h2
 have e2:((#[a.eval r]++args.map a.eval)[0]?:Option Value)=some (.iface t (v.den E)):=by
  rw [hr,Array.getElem?_append_left (by simp)]
  simp [AV.den]
 have e3:(#[a.eval r]++args.map a.eval).extract 1 (#[a.eval r]++args.map a.eval).size=args.map a.eval:=by
  apply Array.ext'
  simp [List.take_of_length_le]
 have hmm:(method (P.types.size+Made.depth) t (v.den E) name).run P w=.ok (fi,v.den E) w:=xxA hm (P.types.size+(Made.depth-1)) (v.den E) w
 have e4:#[v.den E]++args.map a.eval=(AV.denL E (v::vs)).toArray:=by rw [e1]; apply Array.ext'; simp [AV.denL]
 simp only [execOp,ho,resolve,Sem.run_bind,Sem.run_pure,Result.andThen_ok,invoke,e2,callMethod,run_program,hmm,callFunc,h1,h4,h5,e3,e4,Bool.false_eq_true,if_false]
theorem xxX (hΓ:xaT P Γ) (hH:xae X E w0 ⟨objs,n⟩ w) {args:List AV} (hargs:AV.ltL K args) {m:Int}:∀ (ents:List (Int×FuncId)) {x:Eff},fsE P Γ args objs K m ents=some x →
  xhg K x∧(x.holds→∃ p,ents.find? (fun p=>decide (p.1=m))=some p∧xci P p.2∧Calls P p.2 (AV.denL E args).toArray w fun e w'=>∃ E',e=.returned (x.v.den E')∧xm5 E w K x E' w' fun b=>∃ o'∈objs,Inn E w o'.key o'.body b)
 | [],x,h=>by cases h
 | (k,g)::r,x,h=>by
  have wf:∀ (p:Option Prop) (v:AV),AV.lt K v→xhg K ⟨p,[],0,[],v⟩:=fun p v hv=>⟨rfl,(fun o ho=>by cases ho),List.nodup_nil,(fun o ho=>by cases ho),hv,(fun o ho=>by cases ho)⟩
  have gv:∀ {p p':Option Prop} {v v':AV} {E':Env} {w':World} {S:Nat→Prop},xm5 E w K ⟨p,[],0,[],v⟩ E' w' S→xm5 E w K ⟨p',[],0,[],v'⟩ E' w' S:=fun h=>⟨h.agree,h.env,h.below,(fun o ho=>by cases ho),(fun o ho=>by cases ho),(fun o ho=>by cases ho),(fun o ho=>by cases ho),(fun o ho=>by cases ho)⟩
  unfold fsE at h
  split at h
  case h_2=>cases h
  rename_i p v hc
  obtain ⟨h1,h2,h3⟩:=xlE hΓ hH hargs hc
  have hv:AV.lt K v:=h2.val
  split at h
  ·cases h
   refine ⟨wf _ _ hv,fun hp=>?_⟩
   obtain ⟨e,hp⟩:=xzr (xpU.1 hp)
   exact ⟨(k,g),by simp [e],h1,(h3 (xpU.2 hp)).mono fun e w' ⟨E',he,hg⟩=>⟨E',he,gv hg⟩⟩
  ·split at h
   case h_2=>cases h
   rename_i q u hf
   split at h
   case h_2=>cases h
   rename_i z hz
   cases h
   obtain ⟨r1,r2⟩:=xxX hΓ hH hargs r hf
   have hu:AV.lt K u:=r1.val
   have hm:=xwc hz
   by_cases hk:m=k
   ·have hb:decide (m=k)=true:=by simpa using hk
    have ez:=hm.1 hb
    refine ⟨wf _ _ (by rw [ez]; exact xnl _ hv),fun hp=>?_⟩
    have hp:=(xqt (xpU.1 hp)).1 hb
    exact ⟨(k,g),by simp [hk],h1,(h3 (xpU.2 hp)).mono fun e w' ⟨E',he,hg⟩=>⟨E',by rw [he,ez]; exact congrArg Ending.returned (xe7 E' v).symm,gv hg⟩⟩
   ·have hb:decide (m=k)=false:=by simpa using hk
    have ez:=hm.2 hb
    refine ⟨wf _ _ (by rw [ez]; exact xnl _ hu),fun hp=>?_⟩
    have hp:=(xqt (xpU.1 hp)).2 hb
    obtain ⟨p',s1,s2,s3⟩:=r2 (xpU.2 hp)
    refine ⟨p',by rw [List.find?_cons_of_neg (by simpa using fun e=>hk e.symm)]; exact s1,s2,s3.mono fun e w' ⟨E',he,hg⟩=>⟨E',by rw [he,ez]; exact congrArg Ending.returned (xe7 E' u).symm,gv hg⟩⟩
end
end Go.Sy
set_option linter.unusedVariables false
namespace Go.Sy
open Go.RowKit
theorem xeA {α:Type} (s:Nat→α) (d:Nat) (v:α):upd s d v d=v:=by unfold upd; rw [xdh]
theorem xfb {α:Type} (s:Nat→α) {d t:Nat} (v:α) (h:t≠d):upd s d v t=s t:=by unfold upd; rw [xgb h]
abbrev FR (r:Option Nat):Fence:={ Fence.wide with round:=r }
theorem xjq {r:Option Nat} {n:Nat} {P:Program} {f:FuncId} {args:Array Value} {w:World} {R:Ending→World→Prop}:CallsIn (FR r) n P f args w R↔Calls P f args w R:=callsIn_wide (n:=n)
section
variable {P:Program} {Γ:Con} {call:xhh} {yld:Nat→List AV→Heap→Tree (AV×Heap)} {X:List (Nat×Go.Obj)} {w0:World}
def xez (ctx:Ctx):Prop:=∀ c∈ctx,c.2.2=c.2.1
theorem xtS:∀ {ctx:Ctx} {p:Prop},xyh ctx p→xez ctx→p
 | [],_,h,_=>h
 | (g,want,b)::r,_,h,hc=>xtS (ctx:=r) h (fun c hc'=>hc c (List.mem_cons_of_mem _ hc')) (hc (g,want,b) List.mem_cons_self)
def xm3 (E:Env) (n:Nat) (a:Act) (t:Nat):Slot→Prop
 | .is v=>a.tmps.getD t undef=v.den E∧AV.lt n v
 | .when g want v=>AV.lt n v∧(a.tmps.getD g undef=.bool want→a.tmps.getD t undef=v.den E)∧(a.tmps.getD g undef≠.bool want→a.tmps.getD t undef=undef)
 | .junk=>True
structure xaX (E:Env) (n N:Nat) (D:List Deferred) (s:xa4) (a:Act):Prop where
 defers:a.defers=D
 size:N≤a.tmps.size
 ok:∀ t,xm3 E n a t (s t)
def xld (s:xa4) (seen:List Nat):Prop:=∀ t g want v,s t=.when g want v→g∈seen
theorem xaX.env {E E':Env} {n n' N:Nat} {D:List Deferred} {s:xa4} {a:Act} (h:xaX E n N D s a) (hE:∀ k,k<n→E' k=E k) (hn:n≤n'):xaX E' n' N D s a:=by
 refine ⟨h.defers,h.size,fun t=>?_⟩
 have:=h.ok t
 cases hs:s t with
 | is v=>rw [hs] at this; exact ⟨by rw [xg9 hE v this.2]; exact this.1,xeM hn v this.2⟩
 | when g want v=>rw [hs] at this; exact ⟨xeM hn v this.1,fun hg=>by rw [xg9 hE v this.1]; exact this.2.1 hg,this.2.2⟩
 | junk=>trivial
theorem xhB {a:Act} {d:Nat} (t:Nat) (v:Value) (hd:d<a.tmps.size):(a.put (some d) v).tmps.getD t undef=if t=d then v else a.tmps.getD t undef:=by
 simp only [Act.put,Array.getD_eq_getD_getElem?,Array.getElem?_setIfInBounds]
 by_cases h:d=t
 ·subst h; simp [hd]
 ·rw [if_neg h,if_neg (by omega)]
theorem xaX.put {E:Env} {n N:Nat} {D:List Deferred} {s:xa4} {a:Act} (h:xaX E n N D s a) {dst:Option Nat} (hd:∀ d,dst=some d→d<N∧∀ t g want v,s t=.when g want v→g≠d) {sl:Slot} {u:Value}
  (hsl:match sl with | .is v=>u=v.den E∧AV.lt n v | .when g want v=>AV.lt n v∧dst≠some g∧(a.tmps.getD g undef=.bool want→u=v.den E)∧(a.tmps.getD g undef≠.bool want→u=undef) | .junk=>True) :
  xaX E n N D (Sy.put s dst sl) (a.put dst u):=by
 cases dst with
 | none=>exact h
 | some d =>
  obtain ⟨hdN,hg⟩:=hd d rfl
  have hlt:d<a.tmps.size:=Nat.lt_of_lt_of_le hdN h.size
  refine ⟨by simp only [Act.put]; exact h.defers,by simp only [Act.put,Array.size_setIfInBounds]; exact h.size,fun t=>?_⟩
  show xm3 E n _ t (upd s d sl t)
  by_cases ht:t=d
  ·subst ht
   rw [xeA]
   cases sl with
   | is v=>exact ⟨by rw [xhB _ _ hlt,if_pos rfl]; exact hsl.1,hsl.2⟩
   | when g want v =>
    have hne:g≠t:=fun e=>hsl.2.1 (by rw [e])
    refine ⟨hsl.1,fun hb=>?_,fun hb=>?_⟩
    ·rw [xhB _ _ hlt,if_neg hne] at hb
     rw [xhB _ _ hlt,if_pos rfl]
     exact hsl.2.2.1 hb
    ·rw [xhB _ _ hlt,if_neg hne] at hb
     rw [xhB _ _ hlt,if_pos rfl]
     exact hsl.2.2.2 hb
   | junk=>trivial
  ·rw [xfb _ _ ht]
   have:=h.ok t
   cases hs:s t with
   | is v=>rw [hs] at this; exact ⟨by rw [xhB _ _ hlt,if_neg ht]; exact this.1,this.2⟩
   | when g want v =>
    rw [hs] at this
    refine ⟨this.1,fun hb=>?_,fun hb=>?_⟩
    ·rw [xhB _ _ hlt,if_neg (hg t g want v hs)] at hb
     rw [xhB _ _ hlt,if_neg ht]
     exact this.2.1 hb
    ·rw [xhB _ _ hlt,if_neg (hg t g want v hs)] at hb
     rw [xhB _ _ hlt,if_neg ht]
     exact this.2.2 hb
   | junk=>trivial
theorem xng {s:xa4} {seen:List Nat} {N:Nat} {seen':List Nat} {dst:Option Nat} {sl:Slot} (h:xld s seen) (hs:xfs N dst seen=some seen') (hsl:∀ g want v,sl=.when g want v→g∈seen):xld (put s dst sl) seen':=by
 intro t g want v ht
 cases dst with
 | none=>cases hs; exact h t g want v ht
 | some d =>
  simp only [xfs] at hs
  split at hs
  ·cases hs
   refine List.mem_cons_of_mem _ ?_
   by_cases hd:t=d
   ·subst hd
    have ht:upd s t sl t=.when g want v:=ht
    rw [xeA] at ht
    exact hsl g want v ht
   ·have ht:upd s d sl t=.when g want v:=ht
    rw [xfb _ _ hd] at ht
    exact h t g want v ht
  ·cases hs
theorem xC6 {N:Nat} {s:xa4} {seen seen':List Nat} {dst:Option Nat} (h:xld s seen) (hs:xfs N dst seen=some seen'):∀ d,dst=some d→d<N∧∀ t g want v,s t=.when g want v→g≠d:=by
 intro d hd
 subst hd
 simp only [xfs] at hs
 split at hs
 ·rename_i hc
  rw [Bool.and_eq_true] at hc
  refine ⟨by simpa using hc.1,fun t g want v ht hg=>?_⟩
  subst hg
  have:=h t g want v ht
  have h2:seen.any (Nat.beq g)=true:=List.any_eq_true.2 ⟨g,this,xdh g⟩
  rw [h2] at hc
  simp at hc
 ·cases hs
theorem xCB {ctx:Ctx} {g:Nat} {want:Bool} {a:Act} (hctx:∀ c∈ctx,a.tmps.getD c.1 undef=.bool c.2.1) (h:ctx.any (fun c=>Nat.beq c.1 g&&(c.2.1==want))=true):a.tmps.getD g undef=.bool want:=by
 obtain ⟨c,hc,hb⟩:=List.any_eq_true.1 h
 rw [Bool.and_eq_true] at hb
 have h1:c.1=g:=Nat.eq_of_beq_eq_true hb.1
 have h2:c.2.1=want:=by simpa using hb.2
 rw [← h1,← h2]
 exact hctx c hc
theorem xhp {E:Env} {n N:Nat} {D:List Deferred} {s:xa4} {a:Act} (h:xaX E n N D s a) (ctx:Ctx) (hctx:∀ c∈ctx,a.tmps.getD c.1 undef=.bool c.2.1) :
  ∀ x v,readS ctx s x=some v→a.eval x=v.den E∧AV.lt n v:=by
 intro x v hx
 cases x with
 | tmp t =>
  simp only [readS] at hx
  have:=h.ok t
  split at hx
  ·rename_i v' hs
   cases hx
   rw [hs] at this
   exact this
  ·rename_i g want v' hs
   rw [hs] at this
   split at hx
   ·rename_i hc
    cases hx
    exact ⟨this.2.1 (xCB hctx hc),this.1⟩
   ·cases hx
  ·cases hx
 | const c=>cases hx; exact ⟨(xhw E c).symm,xgr _ c⟩
 | global g=>cases hx; exact ⟨rfl,trivial⟩
 | func f=>cases hx; exact ⟨rfl,trivial,trivial⟩
theorem xfd {E:Env} {n N:Nat} {D:List Deferred} {s:xa4} {a:Act} (h:xaX E n N D s a):∀ (m g:Nat) (want:Bool) (ctx:Ctx),xbw s m g want=some ctx →
  (a.tmps.getD g undef=.bool want↔xez ctx)∧(xez ctx→∀ c∈ctx,a.tmps.getD c.1 undef=.bool c.2.1)∧∃ b r,ctx=(g,want,b)::r
 | 0,_,_,_,h=>by cases h
 | m+1,g,want,ctx,hc=>by
  unfold xbw at hc
  have hg:=h.ok g
  split at hc
  ·rename_i v hs
   split at hc
   case h_2=>cases hc
   rename_i b hvb
   cases hc
   rw [hs] at hg
   have hg1:a.tmps.getD g undef=.bool b:=by rw [hg.1,← xe7,hvb]; rfl
   refine ⟨⟨fun e c hc=>?_,fun hc=>?_⟩,fun hc c hmem=>?_,b,[],rfl⟩
   ·rw [hg1] at e
    cases e
    simp at hc; subst hc; rfl
   ·have:=hc (g,want,b) (by simp)
    simp at this
    rw [hg1,this]
   ·have:=hc (g,want,b) (by simp)
    simp at this hmem
    subst hmem
    show a.tmps.getD g undef=.bool want
    rw [hg1,this]
  ·rename_i g1 w1 v hs
   split at hc
   case h_2=>cases hc
   rename_i b hvb
   rw [hs] at hg
   have hvd:v.den E=.bool b:=by rw [← xe7,hvb]; rfl
   cases hr:xbw s m g1 w1 with
   | none=>rw [hr] at hc; cases hc
   | some r =>
    rw [hr] at hc
    cases hc
    obtain ⟨ih1,ih2,_⟩:=xfd h m g1 w1 r hr
    have fwd:a.tmps.getD g undef=.bool want→b=want∧xez r:=by
     intro e
     by_cases h1:a.tmps.getD g1 undef=.bool w1
     ·have:=hg.2.1 h1
      rw [e,hvd] at this
      cases this
      exact ⟨rfl,ih1.1 h1⟩
     ·have:=hg.2.2 h1
      rw [e] at this
      cases this
    have bwd:b=want→xez r→a.tmps.getD g undef=.bool want:=fun hb hr'=>by
     rw [hg.2.1 (ih1.2 hr'),← hb,hvd]
    have split:xez ((g,want,b)::r)↔b=want∧xez r:=by simp [xez]
    refine ⟨⟨fun e=>split.2 (fwd e),fun hc=>bwd (split.1 hc).1 (split.1 hc).2⟩,fun hc c hmem=>?_,b,r,rfl⟩
    obtain ⟨h1,h2⟩:=split.1 hc
    rcases List.mem_cons.1 hmem with rfl | hmem
    ·exact bwd h1 h2
    ·exact ih2 h2 c hmem
  ·cases hc
theorem xzU {E:Env} {n N:Nat} {D:List Deferred} {s:xa4} {a:Act} (h:xaX E n N D s a) {g:Nat} {v:Bool} (hg:a.tmps.getD g undef=.bool v):xaX E n N D (xr2 g v s) a:=by
 refine ⟨h.defers,h.size,fun t=>?_⟩
 unfold xr2
 by_cases ht:t=g
 ·subst ht; rw [xeA]; exact ⟨hg,trivial⟩
 ·rw [xfb _ _ ht]
  have:=h.ok t
  cases hs:s t with
  | is x=>rw [hs] at this; exact this
  | junk=>trivial
  | when g' w x =>
   rw [hs] at this
   simp only []
   cases hb:Nat.beq g' g with
   | false=>simp only [Bool.false_eq_true,if_false]; exact this
   | true =>
    have hgg:g'=g:=Nat.eq_of_beq_eq_true hb
    subst hgg
    simp only [if_true]
    cases hw:(w==v) with
    | true =>
     have:w=v:=by simpa using hw
     subst this
     exact ⟨(by assumption:xm3 E n a t (.when g' w x)).2.1 hg,(by assumption:xm3 E n a t (.when g' w x)).1⟩
    | false =>
     refine ⟨this.2.2 (fun e=>?_),trivial⟩
     rw [hg] at e
     cases e
     simp at hw
theorem xkW {g:Nat} {v:Bool} {s:xa4} {t g':Nat} {w:Bool} {x:AV} (h:xr2 g v s t=.when g' w x):s t=.when g' w x:=by
 unfold xr2 at h
 by_cases ht:t=g
 ·subst ht; rw [xeA] at h; cases h
 ·rw [xfb _ _ ht] at h
  cases hs:s t with
  | is y=>rw [hs] at h; cases h
  | junk=>rw [hs] at h; cases h
  | when g2 w2 y =>
   rw [hs] at h
   simp only [] at h
   split at h
   ·split at h<;>cases h
   ·exact h
def xon (a:Act):Ctx→Prop
 | []=>True
 | (g,want,b)::r=>a.tmps.getD g undef=.bool b∧(b=want→xon a r)
theorem xqE {a:Act} {g:Nat} {want b:Bool}:∀ {l:Ctx},xon a l→(xez l→a.tmps.getD g undef=.bool b)→xon a (l++[(g,want,b)])
 | [],_,h=>⟨h (fun c hc=>by cases hc),fun _=>trivial⟩
 | (g',w',b')::r,hc,h=>⟨hc.1,fun hb=>xqE (hc.2 hb) (fun hr=>h (fun c hm=>by
   rcases List.mem_cons.1 hm with rfl | hm
   ·exact hb
   ·exact hr c hm))⟩
theorem xe8 {ctx:Ctx}:xez ctx.reverse↔xez ctx:=by simp [xez]
theorem xlP {E:Env} {n N:Nat} {D:List Deferred} {s:xa4} {a:Act} (h:xaX E n N D s a):∀ (m g:Nat) (want:Bool) (ctx:Ctx),xbw s m g want=some ctx→xon a ctx.reverse
 | 0,_,_,_,hc=>by cases hc
 | m+1,g,want,ctx,hc=>by
  unfold xbw at hc
  have hg:=h.ok g
  split at hc
  ·rename_i v hs
   split at hc
   case h_2=>cases hc
   rename_i b hvb
   cases hc
   rw [hs] at hg
   exact ⟨by rw [hg.1,← xe7,hvb]; rfl,fun _=>trivial⟩
  ·rename_i g1 w1 v hs
   split at hc
   case h_2=>cases hc
   rename_i b hvb
   rw [hs] at hg
   cases hr:xbw s m g1 w1 with
   | none=>rw [hr] at hc; cases hc
   | some r =>
    rw [hr] at hc
    cases hc
    obtain ⟨q1,_,_⟩:=xfd h m g1 w1 r hr
    rw [List.reverse_cons]
    refine xqE (xlP h m g1 w1 r hr) (fun hcs=>?_)
    rw [hg.2.1 (q1.2 (xe8.1 hcs)),← xe7,hvb]; rfl
  ·cases hc
theorem xpi {E:Env} {n N:Nat} {D:List Deferred} {a:Act} {t e:xa4→Tree RCfg} {Q:RCfg→Prop}:∀ (rs:Ctx) (s:xa4),xaX E n N D s a→xon a rs→(brG rs s t e).holds Q →
  (xez rs→∃ s',xaX E n N D s' a∧(∀ u g w v,s' u=.when g w v→s u=.when g w v)∧(t s').holds Q)∧(¬ xez rs→∃ s',xaX E n N D s' a∧(∀ u g w v,s' u=.when g w v→s u=.when g w v)∧(e s').holds Q)
 | [],s,hS,_,h=>⟨fun _=>⟨s,hS,fun _ _ _ _ h=>h,h⟩,fun hn=>absurd (fun c hc=>by cases hc) hn⟩
 | (g,want,b)::rest,s,hS,hc,h=>by
  have split:xez ((g,want,b)::rest)↔b=want∧xez rest:=by simp [xez]
  by_cases hb:b=want
  ·have hg:a.tmps.getD g undef=.bool want:=by rw [hc.1,hb]
   obtain ⟨i1,i2⟩:=xpi rest (xr2 g want s) (xzU hS hg) (hc.2 hb) (h.1 (by simp [hb]))
   refine ⟨fun hcs=>?_,fun hcs=>?_⟩
   ·obtain ⟨s',q1,q2,q3⟩:=i1 (split.1 hcs).2
    exact ⟨s',q1,fun u g' w v hu=>xkW (q2 u g' w v hu),q3⟩
   ·obtain ⟨s',q1,q2,q3⟩:=i2 (fun hr=>hcs (split.2 ⟨hb,hr⟩))
    exact ⟨s',q1,fun u g' w v hu=>xkW (q2 u g' w v hu),q3⟩
  ·have hbw:b=!want:=by cases b<;>cases want<;>simp_all
   have hg:a.tmps.getD g undef=.bool (!want):=by rw [hc.1,hbw]
   refine ⟨fun hcs=>absurd (split.1 hcs).1 hb,fun _=>⟨_,xzU hS hg,fun u g' w v hu=>xkW hu,h.2 (by simp [hb])⟩⟩
section
variable {rnd:Option Nat} {E:Env} {H:Heap} {n N:Nat} {D:List Deferred} {s:xa4} {a:Act} {w:World}
def xug (P:Program) (yld:Nat→List AV→Heap→Tree (AV×Heap)):Prop:=∀ (X:List (Nat×Go.Obj)) (w0:World) (key:Nat) (args:List AV) (H:Heap) (E:Env) (w:World) (R:Ending→World→Prop),
 xae X E w0 H w→key<H.next→AV.ltL H.next args →
 (yld key args H).holds (fun x=>∀ E' w',(∀ k,k<H.next→E' k=E k)→xae X E' w0 x.2 w'→AV.lt x.2.next x.1→H.next≤x.2.next→Old H x.2→R (.returned (x.1.den E')) w') →
 ∃ fn tmps assign body,(Instr.yield (blk (E key)) (AV.denL E args).toArray).run P w=.ok (.round (blk (E key)) fn tmps assign body) w∧RoundIn (FR none) 0 P (blk (E key)) fn tmps assign body w R
theorem xhr {o:Oper} {nx:Next} {w':World} {v:Value} {K:Act→World→Prop} {Q:Exit→Act→World→Prop} (ho:∀ c,o.op≠.defer c) (hr:(execOp a.eval o).run P w=.ok nx w') (hv:nx=.value v∨(nx=.skip∧v=undef)) (hK:K (a.put o.dst v) w') :
  o.wpIn (FR rnd) 0 P a w K Q:=by
 refine ⟨fun _ _=>trivial,?_⟩
 rw [Oper.semAt_eq _ _ _ ho,hr]
 rcases hv with rfl | ⟨rfl,rfl⟩
 ·exact hK
 ·exact hK
theorem xis {o:Oper} {f:FuncId} {args:Array Value} {w':World} {K:Act→World→Prop} {Q:Exit→Act→World→Prop} (ho:∀ c,o.op≠.defer c) (hr:(execOp a.eval o).run P w=.ok (.enter f args) w')
  (hc:Calls P f args w' fun e w''=>∃ v,e=.returned v∧K (a.put o.dst v) w''):o.wpIn (FR rnd) 0 P a w K Q:=by
 refine ⟨fun _ _=>trivial,?_⟩
 rw [Oper.semAt_eq _ _ _ ho,hr]
 refine ⟨fun h=>(by cases h),(xjq.2 hc).mono fun e w'' he=>?_⟩
 obtain ⟨v,rfl,hk⟩:=he
 exact hk
theorem xoL {o:Oper} {l:Nat} {f:FuncId} {tmps:Array Value} {assign body:Code} {w':World} {K:Act→World→Prop} {Q:Exit→Act→World→Prop} (ho:∀ c,o.op≠.defer c) (hr:(execOp a.eval o).run P w=.ok (.round l f tmps assign body) w')
  (hc:RoundIn (FR none) 0 P l f tmps assign body w' fun e w''=>∃ v,e=.returned v∧K (a.put o.dst v) w''):o.wpIn (FR rnd) 0 P a w K Q:=by
 refine ⟨fun _ _=>trivial,?_⟩
 rw [Oper.semAt_eq _ _ _ ho,hr]
 refine ⟨fun h=>(by cases h),?_⟩
 have hc':RoundIn (FR rnd) 0 P l f tmps assign body w' fun e w''=>∃ v,e=.returned v∧K (a.put o.dst v) w'':=hc
 refine RoundIn.mono hc' fun e w'' he=>?_
 obtain ⟨v,rfl,hk⟩:=he
 exact hk
def Post (X:List (Nat×Go.Obj)) (w0:World) (E:Env) (H:Heap) (N:Nat) (D:List Deferred) (K:Act→World→Prop) (x:RCfg):Prop :=
 ∀ E' a' w',(∀ k,k<H.next→E' k=E k)→xaX E' x.2.next N D x.1 a'→xae X E' w0 x.2 w'→H.next≤x.2.next→Old H x.2→K a' w'
def Goal (rnd:Option Nat) (P:Program) (a:Act) (w:World) (o:Oper) (K:Act→World→Prop) (Q:Exit→Act→World→Prop):Ctx→Prop
 | []=>o.wpIn (FR rnd) 0 P a w K Q
 | c::r=>(xez (c::r)→o.wpIn (FR rnd) 0 P a w K Q)∧(¬ xez (c::r)→K (a.put o.dst undef) w)
def xBc (a:Act) (o:Oper):Ctx→Prop
 | []=>True
 | (g,want,b)::r=>(a.tmps.getD g undef=.bool want↔xez ((g,want,b)::r))∧(xez ((g,want,b)::r)→∀ c∈(g,want,b)::r,a.tmps.getD c.1 undef=.bool c.2.1)∧o.dst≠some g
theorem xBc.vals {o:Oper} {ctx:Ctx} (h:xBc a o ctx) (hc:xez ctx):∀ c∈ctx,a.tmps.getD c.1 undef=.bool c.2.1:=by
 cases ctx with
 | nil=>intro c hc; cases hc
 | cons c r=>obtain ⟨g,want,b⟩:=c; exact h.2.1 hc
theorem xy5 {o:Oper} {ctx:Ctx} {K:Act→World→Prop} {Q:Exit→Act→World→Prop} (h1:xez ctx→o.wpIn (FR rnd) 0 P a w K Q) (h2:∀ c r,ctx=c::r→¬ xez ctx→K (a.put o.dst undef) w):Goal rnd P a w o K Q ctx:=by
 cases ctx with
 | nil=>exact h1 (fun c hc=>by cases hc)
 | cons c r=>exact ⟨h1,h2 c r rfl⟩
theorem xkN (hS:xaX E n N D s a) {o:Oper} (hd:∀ d,o.dst=some d→d<N∧∀ t g want v,s t=.when g want v→g≠d) {ctx:Ctx} (hctx:xBc a o ctx) {v:AV} (hl:AV.lt n v) :
  (xez ctx→xaX E n N D (Sy.put s o.dst (xkF ctx v)) (a.put o.dst (v.den E)))∧(∀ c r,ctx=c::r→¬ xez ctx→xaX E n N D (Sy.put s o.dst (xkF ctx v)) (a.put o.dst undef)):=by
 cases ctx with
 | nil=>exact ⟨fun _=>hS.put hd ⟨rfl,hl⟩,fun c r e=>by cases e⟩
 | cons c r =>
  obtain ⟨g,want,b⟩:=c
  exact ⟨fun hc=>hS.put hd ⟨hl,hctx.2.2,fun _=>rfl,fun hn=>absurd (hctx.1.2 hc) hn⟩,fun c r _ hc=>hS.put hd ⟨hl,hctx.2.2,fun he=>absurd (hctx.1.1 he) hc,fun _=>rfl⟩⟩
def Does (rnd:Option Nat) (P:Program) (E:Env) (objs:List Obj) (K0:Nat) (a:Act) (w:World) (o:Oper) (x:Eff):Prop :=
 x.holds→∀ (K:Act→World→Prop) (Q:Exit→Act→World→Prop),(∀ E' w',xeW E objs w K0 x E' w'→K (a.put o.dst (x.v.den E')) w')→o.wpIn (FR rnd) 0 P a w K Q
theorem xvp {objs:List Obj} {K0:Nat} {o:Oper} {x:Eff} (ho:∀ c,o.op≠.defer c) (h:OpOk P E objs w K0 a.eval o x):Does rnd P E objs K0 a w o x:=by
 intro hp K Q hK
 obtain ⟨E',w',nx,hr,hv,he⟩:=h hp
 exact xhr ho hr hv (hK E' w' he)
theorem xfP {objs:List Obj} {K0:Nat} {o:Oper} {x:Eff} {f:FuncId} {args:Array Value} (hE:∀ k,(E k).oneCell'=true) (ho:∀ c,o.op≠.defer c) (hr:(execOp a.eval o).run P w=.ok (.enter f args) w) (hw:xhg K0 x)
  (h:x.holds→Calls P f args w fun e w'=>∃ E',e=.returned (x.v.den E')∧xm5 E w K0 x E' w' fun b=>∃ o'∈objs,Inn E w o'.key o'.body b):Does rnd P E objs K0 a w o x:=by
 intro hp K Q hK
 refine xis ho hr ((h hp).mono fun e w' ⟨E',he,hg⟩=>⟨_,he,?_⟩)
 obtain ⟨h1,h2⟩:=hg.effOk (objs:=objs) hE hw fun _ h=>h
 rw [← h2]
 exact hK _ _ h1
theorem xxl {x:Eff} (h:x.pure=true):x.rm=[]∧x.add=[]∧x.nk=0:=by
 unfold Eff.pure at h
 rw [Bool.and_eq_true,Bool.and_eq_true] at h
 exact ⟨by simpa using h.1.1,by simpa using h.1.2,Nat.eq_of_beq_eq_true h.2⟩
theorem xn9 {α:Type} {ctx:Ctx} {p:Option Prop} {t:Tree α} {Q:α→Prop} (h:(xxy ctx p t).holds Q):(∀ q,p=some q→xyh ctx q)∧t.holds Q:=by
 cases p with
 | none=>exact ⟨fun q hq=>by (cases hq),h⟩
 | some p=>exact ⟨fun q hq=>by (cases hq; exact h.1),h.2⟩
theorem xm1 (hS:xaX E H.next N D s a) (hH:xae X E w0 H w) {o:Oper} (hd:∀ d,o.dst=some d→d<N∧∀ t g want v,s t=.when g want v→g≠d)
  {ctx:Ctx} (hctx:xBc a o ctx) (hch:xon a ctx.reverse) {x:Eff} (hwf:xdq H.next H.objs H.next x) (hr:xez ctx→Does rnd P E H.objs H.next a w o x) {K:Act→World→Prop} {Q:Exit→Act→World→Prop}
  (h:(xt5 s H o.dst ctx x).holds (Post X w0 E H N D K)):Goal rnd P a w o K Q ctx:=by
 have hd':∀ s':xa4,(∀ u g w v,s' u=.when g w v→s u=.when g w v)→∀ d,o.dst=some d→d<N∧∀ t g want v,s' t=.when g want v→g≠d:=fun s' hw d hdd=>⟨(hd d hdd).1,fun t g want v ht=>(hd d hdd).2 t g want v (hw t g want v ht)⟩
 have skip:∀ s':xa4,xaX E H.next N D s' a→(∀ u g w v,s' u=.when g w v→s u=.when g w v)→(Post X w0 E H N D K (Sy.put s' o.dst (.is (.val undef)),H))→K (a.put o.dst undef) w:=fun s' hS' hw hp =>
  hp E _ w (fun _ _=>rfl) (hS'.put (hd' s' hw) ⟨rfl,trivial⟩) hH (Nat.le_refl _) (Old.refl _)
 have hfr:∀ o∈H.objs,(o.key<H.next∨H.next+x.nk≤o.key)∧xbn (fun k=>k<H.next∨H.next+x.nk≤k) o.body:=fun o ho=>⟨.inl (hH.lt o ho).1,xaY (fun k hk=>.inl hk) (hH.lt o ho).2⟩
 unfold xt5 at h
 split at h
 ·rename_i hpure
  obtain ⟨hn1,h⟩:=xn9 h
  obtain ⟨e1,e2,e3⟩:=xxl hpure
  have hl:AV.lt H.next x.v:=xeT (fun k hk=>by rw [e3] at hk; show k<H.next; omega) _ hwf.val
  obtain ⟨p1,p2⟩:=xkN hS hd hctx hl
  refine xy5 (fun hc=>?_) (fun c r e hc=>h E _ w (fun _ _=>rfl) (p2 c r e hc) hH (Nat.le_refl _) (Old.refl _))
  refine hr hc ?_ K Q fun E' w' he=>?_
  ·unfold Eff.holds
   cases hp:x.p with
   | none=>trivial
   | some p=>exact xtS (hn1 p hp) hc
  ·have hE:∀ k,E' k=E k:=fun k=>he.agree k (by omega)
   have hH2:=hH.effAt hwf he hfr (Nat.le_refl _) (by omega)
   have:xfu x H.objs=H.objs:=by simp [xfu,e1,e2]
   rw [this] at hH2
   have hEE:E'=E:=funext hE
   subst hEE
   exact h E' _ w' (fun _ _=>rfl) (p1 hc) hH2 (Nat.le_refl _) (Old.refl _)
 ·have go:∀ s':xa4,xaX E H.next N D s' a→(∀ u g w v,s' u=.when g w v→s u=.when g w v)→(xxy [] x.p (.ret (Sy.put s' o.dst (.is x.v),H.eff x))).holds (Post X w0 E H N D K)→xez ctx→o.wpIn (FR rnd) 0 P a w K Q:=fun s' hS' hw hp hb=>by
   obtain ⟨hn1,hp⟩:=xn9 hp
   refine hr hb ?_ K Q fun E' w' he=>?_
   ·unfold Eff.holds
    cases hp:x.p with
    | none=>trivial
    | some p=>exact hn1 p hp
   ·have hH2:=hH.effAt hwf he hfr (n':=H.next+x.nk) (by omega) (Nat.le_refl _)
    have hE:∀ k,k<H.next→E' k=E k:=fun k hk=>he.agree k (.inl hk)
    refine hp E' _ w' hE ((hS'.env hE (by simp [Heap.eff])).put (hd' s' hw) ⟨rfl,xeT (fun k hk=>by show k<H.next+x.nk; omega) _ hwf.val⟩) hH2 (by simp [Heap.eff]) (Old.eff hwf.ver)
  cases ctx with
  | nil=>exact go s hS (fun _ _ _ _ h=>h) h (fun c hc=>by cases hc)
  | cons c r =>
   obtain ⟨b1,b2⟩:=xpi _ s hS hch h
   refine ⟨fun hb=>?_,fun hb=>?_⟩
   ·obtain ⟨s',q1,q2,q3⟩:=b1 (xe8.2 hb)
    exact go s' q1 q2 q3 hb
   ·obtain ⟨s',q1,q2,q3⟩:=b2 (fun hc=>hb (xe8.1 hc))
    exact skip s' q1 q2 q3
theorem xfm (h:xaX E n N D s a) {ctx:Ctx} (hctx:∀ c∈ctx,a.tmps.getD c.1 undef=.bool c.2.1) {c:Operand} {side:Bool} (hc:∀ t,c=.tmp t→a.tmps.getD t undef=.bool side):∀ x v,xfM ctx s c side x=some v→a.eval x=v.den E∧AV.lt n v:=by
 intro x v hx
 cases x with
 | tmp t =>
  simp only [xfM] at hx
  have:=h.ok t
  split at hx
  ·rename_i v' hs
   cases hx
   rw [hs] at this
   exact this
  ·rename_i g want v' hs
   rw [hs] at this
   split at hx
   ·rename_i hcc
    cases hx
    exact ⟨this.2.1 (xCB hctx hcc),this.1⟩
   ·split at hx
    ·rename_i g'
     split at hx
     ·rename_i hcc
      cases hx
      rw [Bool.and_eq_true] at hcc
      have hg:g=g':=Nat.eq_of_beq_eq_true hcc.1
      have hw:want=side:=by simpa using hcc.2
      subst hg; subst hw
      exact ⟨this.2.1 (hc _ rfl),this.1⟩
     ·cases hx
    ·cases hx
  ·cases hx
 | const k=>cases hx; exact ⟨(xhw E k).symm,xgr _ k⟩
 | global g=>cases hx; exact ⟨rfl,trivial⟩
 | func f=>cases hx; exact ⟨rfl,trivial,trivial⟩
theorem xrg {b:Bool} {x:Operand} (h:xAG b x=true):x=.const (.bool b):=by
 unfold xAG at h
 split at h
 ·rename_i b'; have:b'=b:=by simpa using h
  rw [this]
 ·cases h
theorem xAa {v u:AV} (h:xzl v=some u):u=v∧∃ b,v.weak=.bool b:=by
 unfold xzl at h
 split at h
 ·cases h; exact ⟨rfl,_,rfl⟩
 ·cases h; exact ⟨rfl,_,rfl⟩
 ·cases h
theorem xxp (h:xaX E n N D s a) {ctx:Ctx} (hctx:∀ c∈ctx,a.tmps.getD c.1 undef=.bool c.2.1) {c x y:Operand} {v:AV} (hp:xxq ctx s c x y=some v):∃ cb,a.eval c=.bool cb∧(if cb then a.eval x else a.eval y)=v.den E∧AV.lt n v:=by
 unfold xxq at hp
 split at hp
 ·rename_i k h1
  have hc:a.eval c=.bool k:=(xhp h ctx hctx c _ h1).1
  have hct:∀ t,c=.tmp t→a.tmps.getD t undef=.bool k:=fun t ht=>by subst ht; exact hc
  refine ⟨k,hc,?_⟩
  cases k with
  | true =>
   simp only [] at hp
   cases hs:xfM ctx s c true x with
   | none=>rw [hs] at hp; cases hp
   | some u =>
    rw [hs] at hp
    obtain ⟨rfl,_⟩:=xAa hp
    exact xfm h hctx (side:=true) hct x _ hs
  | false =>
   simp only [] at hp
   cases hs:xfM ctx s c false y with
   | none=>rw [hs] at hp; cases hp
   | some u =>
    rw [hs] at hp
    obtain ⟨rfl,_⟩:=xAa hp
    exact xfm h hctx (side:=false) hct y _ hs
 ·rename_i cb h1
  split at hp
  case h_2=>cases hp
  rename_i xb yb h2 h3
  have hc:=(xhp h ctx hctx c _ h1).1
  refine ⟨cb,hc,?_⟩
  have hct:∀ t,c=.tmp t→a.tmps.getD t undef=.bool cb:=fun t ht=>by subst ht; exact hc
  have wk:∀ {o:Option AV} {b:Bool},o.map AV.weak=some (.bool b)→∃ u,o=some u∧u.den E=.bool b:=by
   intro o b ho
   cases o with
   | none=>cases ho
   | some u =>
    have ho:u.weak=.bool b:=Option.some.inj ho
    exact ⟨u,rfl,by rw [← xe7,ho]; rfl⟩
  obtain ⟨ux,hux,dux⟩:=wk h2
  obtain ⟨uy,huy,duy⟩:=wk h3
  have hx:cb=true→a.eval x=.bool xb:=fun hb=>by rw [(xfm h hctx (side:=true) (fun t ht=>by rw [hct t ht,hb]) x _ hux).1,dux]
  have hy:cb=false→a.eval y=.bool yb:=fun hb=>by rw [(xfm h hctx (side:=false) (fun t ht=>by rw [hct t ht,hb]) y _ huy).1,duy]
  split at hp
  ·rename_i hl
   cases hp
   have:=xrg hl
   cases cb
   ·exact ⟨by simp [hy rfl,AV.den],trivial⟩
   ·exact ⟨by subst this; rfl,trivial⟩
  ·split at hp
   ·rename_i hl
    cases hp
    have:=xrg hl
    cases cb
    ·exact ⟨by subst this; rfl,trivial⟩
    ·exact ⟨by simp [hx rfl,AV.den],trivial⟩
   ·cases hp
    cases cb
    ·exact ⟨by simp [hy rfl,AV.den],trivial⟩
    ·exact ⟨by simp [hx rfl,AV.den],trivial⟩
 ·cases hp
theorem xBZ {b:Bool} {o:Option AV} (h:litV b o=true):o=some (.val (.bool b)):=by
 unfold litV at h
 split at h
 ·rename_i b'
  have:b'=b:=by simpa using h
  rw [this]
 ·cases h
theorem xrO (h:xaX E n N D s a) {ctx:Ctx} (hctx:∀ c∈ctx,a.tmps.getD c.1 undef=.bool c.2.1) {c x y:Operand} {v:AV} (hp:xv8 ctx s c x y=some v):∃ cb,a.eval c=.bool cb∧(if cb then a.eval x else a.eval y)=v.den E∧AV.lt n v:=by
 unfold xv8 at hp
 split at hp
 ·rename_i w hw
  cases hp
  unfold xBm at hw
  split at hw
  case h_2=>cases hw
  rename_i cb h1
  have hc:=(xhp h ctx hctx c _ h1).1
  have hct:∀ t,c=.tmp t→a.tmps.getD t undef=.bool cb:=fun t ht=>by subst ht; exact hc
  refine ⟨cb,hc,?_,trivial⟩
  split at hw
  ·rename_i hq
   cases hw
   rw [Bool.and_eq_true] at hq
   have e1:=xrg hq.1
   have e2:=xBZ hq.2
   cases cb with
   | true=>exact (xfm h hctx (side:=true) hct x _ e2).1
   | false=>subst e1; rfl
  ·split at hw
   ·rename_i hq
    cases hw
    rw [Bool.and_eq_true] at hq
    have e1:=xrg hq.1
    have e2:=xBZ hq.2
    cases cb with
    | true=>subst e1; rfl
    | false=>exact (xfm h hctx (side:=false) hct y _ e2).1
   ·cases hw
 ·exact xxp h hctx hp
theorem xDe (h:xaX E n N D s a) (ctx:Ctx):∀ x v,readS ctx s x=some v→AV.lt n v:=by
 intro x v hx
 cases x with
 | tmp t =>
  simp only [readS] at hx
  have:=h.ok t
  split at hx
  ·rename_i v' hs; cases hx; rw [hs] at this; exact this.2
  ·rename_i g want v' hs
   rw [hs] at this
   split at hx
   ·cases hx; exact this.1
   ·cases hx
  ·cases hx
 | const c=>cases hx; exact xgr _ c
 | global g=>cases hx; trivial
 | func f=>cases hx; exact ⟨trivial,trivial⟩
theorem xAu {ctx:Ctx} {s:xa4} {c a b:Operand} {v:AV} (h:xv8 ctx s c a b=some v) (n:Nat):AV.lt n v:=by
 unfold xv8 at h
 split at h
 ·cases h; trivial
 have key:∀ {o:Option AV},o.bind xzl=some v→AV.lt n v:=by
  intro o ho
  cases o with
  | none=>cases ho
  | some u =>
   have ho:xzl u=some v:=ho
   unfold xzl at ho
   split at ho<;>first | (cases ho; trivial) | cases ho
 unfold xxq at h
 split at h
 ·rename_i k _
  cases k
  ·exact key h
  ·exact key h
 ·split at h
  ·split at h
   ·cases h; trivial
   ·split at h<;>(cases h; trivial)
  ·cases h
 ·cases h
theorem xho {o:Oper} {f:Operand} {args:Array Operand} {ts:Array TypeId} (ho:o.op=.call { callee:=.value f,args:=args,argTypes:=ts }) {fi:FuncId} {first caps vs:List AV}
  (hf:a.eval f=(AV.fn (.func fi) first caps).den E) (hargs:args.toList.map a.eval=AV.denL E vs) (hfun:xci P fi) :
  (execOp a.eval o).run P w=.ok (.enter fi (AV.denL E (first++vs++caps)).toArray) w:=by
 obtain ⟨fn,h1,h2,h3⟩:=hfun
 have h4:fn.body.isNone=false:=by cases hb:fn.body with
  | none=>rw [hb] at h3; cases h3
  | some _=>rfl
 have e1:(args.map a.eval)=(AV.denL E vs).toArray:=by apply Array.ext'; rw [Array.toList_map]; exact hargs
 simp only [execOp,ho,resolve,hf,AV.den,Deferred.ofValue,Sem.run_bind,Sem.run_pure,Result.andThen_ok,invoke,callFunc,run_program,h1,e1,h4]
 have h5:(fn.name == "runtime.NumGoroutine")=false:=by simpa using h2
 simp only [h5,Bool.false_eq_true,if_false,Sem.run_pure]
 congr 2
 simp [xaJ]
theorem xzF {o:Oper} {c x y:Operand} {cb:Bool} (ho:o.op=.pick c x y) (hc:a.eval c=.bool cb) :
  (execOp a.eval o).run P w=.ok (.value (if cb then a.eval x else a.eval y)) w:=by
 simp only [execOp,ho,hc,asBool,Sem.run_bind,Sem.run_pure,Result.andThen_ok]
theorem xrB {o:Oper} {f:Operand} {args:Array Operand} {ts:Array TypeId} (ho:o.op=.call { callee:=.value f,args:=args,argTypes:=ts }) {key:Nat} {vs:List AV}
  (hf:a.eval f=(AV.yl key).den E) (hargs:args.toList.map a.eval=AV.denL E vs) {nx:Next} {w':World} (hy:(Instr.yield (blk (E key)) (AV.denL E vs).toArray).run P w=.ok nx w') :
  (execOp a.eval o).run P w=.ok nx w':=by
 have e1:(args.map a.eval)=(AV.denL E vs).toArray:=by apply Array.ext'; rw [Array.toList_map]; exact hargs
 simp only [execOp,ho,resolve,hf,AV.den,Deferred.ofValue,Sem.run_bind,Sem.run_pure,Result.andThen_ok,invoke,e1]
 simpa using hy
theorem xzk (hΓ:xaT P Γ) (hcall:xiD P call) (hk:xeV P call) {f:FuncId} {args:List AV} {x:Eff} (h:xDy P Γ call f args H.objs H.next=some x) (hH:xae X E w0 H w) (hargs:AV.ltL H.next args) :
  xci P f∧xhg H.next x∧(x.holds→Calls P f (AV.denL E args).toArray w fun e w'=>∃ E',e=.returned (x.v.den E')∧xm5 E w H.next x E' w' fun b=>∃ o'∈H.objs,Inn E w o'.key o'.body b):=by
 unfold xDy at h
 split at h
 ·rename_i ft y hc
  cases h
  exact xlE hΓ (n:=H.next) hH hargs hc
 ·split at h
  ·cases h
  obtain ⟨h1,h2⟩:=xlC hcall h hH hargs
  exact ⟨hk f args _ fun e=>(by rw [e] at h; cases h),h1,fun hp=>(h2 hp).mono fun e w' ⟨E',he,hg⟩=>⟨E',he,hg.mono fun _ h=>h.elim⟩⟩
theorem xkL (w:World) (bo:BinOp) (t:TypeId) (x y:Operand) (a a':Option Addr) (n c n' c':Nat):(eqGuard bo t x y (.slice a n c) (.slice a' n' c')).run P w=.ok () w:=by
 unfold eqGuard
 split<;>rfl
theorem xpA (w:World) (t e:TypeId) (a:Option Addr) (n c n' c':Nat) (h:P.underlying t=some (.slice e)) :
  (binOp .neq t (.slice a n c) (.slice none n' c')).run P w=.ok (.bool !a.isNone) w:=by
 simp only [binOp]
 simp [Op.equal,Op.maxDepth,Lib.run_equalIn_slice_nil w 9999 t e a n c n' c' h]
theorem xyP {rd:Operand→Option AV} {objs:List Obj} {bo:BinOp} {t:TypeId} {x y:Operand} {p:Prop} {v:Bool} (h:xBH P rd objs bo t x y=some (p,v)) :
  ∃ key te,∃ o:Obj,∃ e ks l,rd x=some (.sl key)∧rd y=some (.val (.slice none 0 0))∧P.underlying t=some (.slice te)∧o∈objs∧o.key=key∧xes P o.body=some (e,ks,l)∧p=(l=[])∧ks.length≠0∧((bo=.eql∧v=true)∨(bo=.neq∧v=false)):=by
 unfold xBH at h
 split at h
 case h_2=>cases h
 rename_i b te hb hu
 split at h
 case isFalse=>cases h
 rename_i hy
 split at h
 case h_2=>cases h
 rename_i key hx
 split at h
 case h_2=>cases h
 rename_i o hf
 split at h
 case h_2=>cases h
 rename_i e k0 ks l hr
 cases h
 obtain ⟨hm,hk⟩:=xan hf
 refine ⟨key,te,o,e,k0::ks,l,hx,?_,hu,hm,hk,hr,rfl,by simp,?_⟩
 ·unfold xDU at hy
  split at hy
  ·assumption
  ·cases hy
 ·cases bo<;>simp at hb<;>simp [← hb]
theorem xv0 {own:Bool} {e:TypeId} {ks:List CK} {v:Value} {l:List (List Int)} {c:Nat} (hr:xa8 w own e ks.length v l.length (rowV ks l)) (hv:v=.slice none l.length c) (hk:ks.length≠0):∀ a r,l≠a::r:=by
 intro a r hl
 ·have hpos:0<(rowV ks l).length:=by rw [xbu,hl]; exact Nat.mul_pos (by simp) (by omega)
  obtain ⟨a0,h0,_⟩:=hr.reads.cell 0 ((rowV ks l)[0]'hpos) (List.getElem?_eq_getElem hpos)
  rw [hv] at h0
  cases h0
theorem xn0 (hΓ:xaT P Γ) (hcall:xiD P call) (hk:xeV P call) (hyld:xug P yld)
  (hS:xaX E H.next N D s a) (hH:xae X E w0 H w) {o:Oper} (hd:∀ d,o.dst=some d→d<N∧∀ t g want v,s t=.when g want v→g≠d)
  {ctx:Ctx} (hctx:xBc a o ctx) (hch:xon a ctx.reverse) {K:Act→World→Prop} {Q:Exit→Act→World→Prop}
  (h:(xuq P Γ call yld o s H ctx).holds (Post X w0 E H N D K)):Goal rnd P a w o K Q ctx:=by
 have hrd:xez ctx→∀ x v,readS ctx s x=some v→a.eval x=v.den E∧AV.lt H.next v:=fun hb=>xhp hS ctx (hctx.vals hb)
 have hrl:=xDe hS ctx
 have hd':∀ s':xa4,(∀ u g w v,s' u=.when g w v→s u=.when g w v)→∀ d,o.dst=some d→d<N∧∀ t g want v,s' t=.when g want v→g≠d:=fun s' hw d hdd=>⟨(hd d hdd).1,fun t g want v ht=>(hd d hdd).2 t g want v (hw t g want v ht)⟩
 have skip:∀ s':xa4,xaX E H.next N D s' a→(∀ u g w v,s' u=.when g w v→s u=.when g w v)→(Post X w0 E H N D K (Sy.put s' o.dst (.is (.val undef)),H))→K (a.put o.dst undef) w:=fun s' hS' hw hp =>
  hp E _ w (fun _ _=>rfl) (hS'.put (hd' s' hw) ⟨rfl,trivial⟩) hH (Nat.le_refl _) (Old.refl _)
 unfold xuq at h
 simp only [] at h
 split at h
 ·-- pick
  rename_i c x y hop
  split at h
  ·rename_i v hv
   have hl:AV.lt H.next v:=xAu hv _
   obtain ⟨p1,p2⟩:=xkN hS hd hctx hl
   refine xy5 (fun hc=>?_) (fun c r e hc=>h E _ w (fun _ _=>rfl) (p2 c r e hc) hH (Nat.le_refl _) (Old.refl _))
   obtain ⟨cb,hcv,hval,_⟩:=xrO hS (hctx.vals hc) hv
   refine xhr (fun c e=>by rw [hop] at e; cases e) (xzF hop hcv) (.inl rfl) ?_
   rw [hval]
   exact h E _ w (fun _ _=>rfl) (p1 hc) hH (Nat.le_refl _) (Old.refl _)
  ·exact h.elim
 ·-- call
  rename_i f args ts hop
  have hnd:∀ c,o.op≠.defer c:=fun c e=>by rw [hop] at e; cases e
  split at h
  ·rename_i fi first caps vs hf hvs
   have hfl:=hrl _ _ hf
   have hvl:AV.ltL H.next vs:=(xdM _ _).2 (xjy (Q:=AV.lt H.next) hrl _ _ hvs)
   have hargs:AV.ltL H.next (first++vs++caps):=by
    rw [xdM]
    intro v hv
    simp only [List.mem_append] at hv
    rcases hv with (hv | hv) | hv
    ·exact (xdM _ _).1 hfl.1 v hv
    ·exact (xdM _ _).1 hvl v hv
    ·exact (xdM _ _).1 hfl.2 v hv
   have hrun:xci P fi→xez ctx→(execOp a.eval o).run P w=.ok (.enter fi (AV.denL E (first++vs++caps)).toArray) w:=fun hfun hb =>
    xho hop (hrd hb _ _ hf).1 (xe0 (fun x v hx=>(hrd hb x v hx).1) _ _ hvs) hfun
   split at h
   ·rename_i x hx
    obtain ⟨h1,h2,h3⟩:=xzi (n:=H.next) hΓ hH hx
    refine xm1 hS hH hd hctx hch h2 (fun hb=>fun hp K Q hK=>xis hnd (hrun h1 hb) ((h3 hp).mono fun e w' ⟨he,hg⟩=>⟨_,he,hK _ _ hg⟩)) h
   split at h
   ·rename_i x hx
    have hx:xDy P Γ call fi (first++vs++caps) H.objs H.next=some x:=by
     unfold xGi at hx
     split at hx
     ·cases hx
     ·exact hx
    obtain ⟨h1,h2,h3⟩:=xzk hΓ hcall hk hx hH hargs
    exact xm1 hS hH hd hctx hch h2.eff (fun hb=>xfP hH.env hnd (hrun h1 hb) h2 h3) h
   ·have go:∀ s':xa4,xaX E H.next N D s' a→(∀ u g w v,s' u=.when g w v→s u=.when g w v)→((call fi (first++vs++caps) H).bind fun (x:AV×Heap)=>Tree.ret (Sy.put s' o.dst (.is x.1),x.2)).holds (Post X w0 E H N D K)→xez ctx→o.wpIn (FR rnd) 0 P a w K Q:=by
     intro s' hS' hw h hb
     have hne:call fi (first++vs++caps) H≠.bad:=fun e=>by rw [e] at h; exact h
     refine xis hnd (hrun (hk _ _ _ hne) hb) (hcall X w0 fi _ H E w _ hH hargs (xaV (fun x hx=>?_) (xbv h)))
     intro E' w' hE hH' hlv hle hold
     exact ⟨_,rfl,hx E' _ w' hE ((hS'.env hE hle).put (hd' s' hw) ⟨rfl,hlv⟩) hH' hle hold⟩
    split at h
    ·exact go s hS (fun _ _ _ _ h=>h) h (fun c hc=>by cases hc)
    ·rename_i c r
     obtain ⟨b1,b2⟩:=xpi _ s hS hch h
     refine ⟨fun hb=>?_,fun hb=>?_⟩
     ·obtain ⟨s',q1,q2,q3⟩:=b1 (xe8.2 hb)
      exact go s' q1 q2 q3 hb
     ·obtain ⟨s',q1,q2,q3⟩:=b2 (fun hc=>hb (xe8.1 hc))
      exact skip s' q1 q2 q3
  ·-- a yield
   rename_i key vs hf hvs
   have hfl:key<H.next:=hrl _ _ hf
   have hvl:AV.ltL H.next vs:=(xdM _ _).2 (xjy (Q:=AV.lt H.next) hrl _ _ hvs)
   have go:∀ s':xa4,xaX E H.next N D s' a→(∀ u g w v,s' u=.when g w v→s u=.when g w v)→((yld key vs H).bind fun (x:AV×Heap)=>Tree.ret (Sy.put s' o.dst (.is x.1),x.2)).holds (Post X w0 E H N D K)→xez ctx→o.wpIn (FR rnd) 0 P a w K Q:=by
    intro s' hS' hw h hb
    obtain ⟨fn,tmps,assign,body,hy,hr⟩:=hyld X w0 key vs H E w (fun e w''=>∃ v,e=.returned v∧K (a.put o.dst v) w'') hH hfl hvl (xaV (fun x hx=>by
     intro E' w' hE hH' hlv hle hold
     exact ⟨_,rfl,hx E' _ w' hE ((hS'.env hE hle).put (hd' s' hw) ⟨rfl,hlv⟩) hH' hle hold⟩) (xbv h))
    exact xoL hnd (xrB hop (hrd hb _ _ hf).1 (xe0 (fun x v hx=>(hrd hb x v hx).1) _ _ hvs) hy) hr
   split at h
   ·exact go s hS (fun _ _ _ _ h=>h) h (fun c hc=>by cases hc)
   ·rename_i c r
    obtain ⟨b1,b2⟩:=xpi _ s hS hch h
    refine ⟨fun hb=>?_,fun hb=>?_⟩
    ·obtain ⟨s',q1,q2,q3⟩:=b1 (xe8.2 hb)
     exact go s' q1 q2 q3 hb
    ·obtain ⟨s',q1,q2,q3⟩:=b2 (fun hc=>hb (xe8.1 hc))
     exact skip s' q1 q2 q3
  ·exact h.elim
 ·-- all else
  split at h
  ·rename_i x hx
   have hfr:∀ o∈H.objs,o.key≠H.next∧xbn (fun k=>k≠H.next) o.body:=fun o ho=>⟨by have:=(hH.lt o ho).1; omega,xaY (fun k hk=>by omega) (hH.lt o ho).2⟩
   have hwf:=(xDC (P:=P) hH hrl (Nat.le_refl _) o.op hx (fun _=>hfr)).1
   have hnd:∀ c,o.op≠.defer c:=fun c e=>by
    rw [e] at hx
    unfold xm2 at hx
    simp [xfR] at hx
   exact xm1 hS hH hd hctx hch hwf (fun hb=>xvp hnd (xhy hH (hrd hb) (Nat.le_refl _) o hx (fun _=>hfr)).2.1) h
  ·split at h
   ·rename_i bo t x y yt hop
    split at h
    ·rename_i p v hn
     obtain ⟨key,te,ok,e,ks,l,n1,n2,n3,n4,n5,n6,n7,n9,n8⟩:=xyP hn
     have hnd:∀ c,o.op≠.defer c:=fun c e=>by rw [hop] at e; cases e
     obtain ⟨aa,c,hv,hlc,_⟩:=(xbR n6 (hH.objs _ n4)).reads.is
     rw [n5] at hv
     have hempty:aa=none→p:=by
      rintro rfl
      rw [n7]
      cases hl:l with
      | nil=>rfl
      | cons e0 r0=>exact absurd hl (xv0 (xbR n6 (hH.objs _ n4)) (by rw [n5]; exact hv) n9 _ _)
     have hrun:xez ctx→(execOp a.eval o).run P w=.ok (.value (.bool (if aa.isNone then v else !v))) w:=by
      intro hc
      have h1:=(hrd hc x _ n1).1
      have h2:=(hrd hc y _ n2).1
      simp only [AV.den] at h1 h2
      rw [hv] at h1
      rcases n8 with ⟨rfl,rfl⟩ | ⟨rfl,rfl⟩
      ·simp only [execOp,hop,h1,h2,Sem.run_bind,xkL,Lib.run_eql_slice_nil w t te aa l.length c 0 0 n3,Result.andThen_ok,Sem.run_pure]
       cases aa<;>rfl
      ·simp only [execOp,hop,h1,h2,Sem.run_bind,xkL,xpA w t te aa l.length c 0 0 n3,Result.andThen_ok,Sem.run_pure]
       cases aa<;>rfl
     have hl:∀ u:Bool,AV.lt H.next (.val (.bool u)):=fun _=>trivial
     have side:∀ u:Bool,(Tree.ret (Sy.put s o.dst (xkF ctx (.val (.bool u))),H)).holds (Post X w0 E H N D K)→(xez ctx→(execOp a.eval o).run P w=.ok (.value (.bool u)) w)→Goal rnd P a w o K Q ctx:=by
      intro u h hr
      obtain ⟨p1,p2⟩:=xkN hS hd hctx (hl u)
      refine xy5 (fun hc=>?_) (fun c r e hc=>h E _ w (fun _ _=>rfl) (p2 c r e hc) hH (Nat.le_refl _) (Old.refl _))
      exact xhr hnd (hr hc) (.inl rfl) (h E _ w (fun _ _=>rfl) (p1 hc) hH (Nat.le_refl _) (Old.refl _))
     cases haa:aa with
     | none=>exact side v (h.1 (hempty haa)) (fun hc=>by rw [hrun hc,haa]; rfl)
     | some a0=>exact side (!v) h.2 (fun hc=>by rw [hrun hc,haa]; rfl)
    ·exact h.elim
   ·exact h.elim
theorem xqA {ops:Array Oper} {o:Oper} (h:xob ops o=some none):o.guard=none:=by
 unfold xob at h
 split at h
 ·assumption
 ·split at h
  ·split at h<;>cases h
  ·cases h
theorem xqz {ops:Array Oper} {o:Oper} {g:Nat} {want:Bool} (h:xob ops o=some (some (g,want))):∃ j oj,o.guard=some (j,want)∧ops[j]?=some oj∧oj.dst=some g:=by
 unfold xob at h
 split at h
 ·cases h
 ·rename_i j want' hg
  split at h
  ·rename_i oj hj
   split at h
   ·rename_i d hd
    cases h
    exact ⟨j,oj,hg,hj,hd⟩
   ·cases h
  ·cases h
theorem xpl {ops:Array Oper} {a:Act} {j g:Nat} {oj:Oper} {b:Bool} (hj:ops[j]?=some oj) (hd:oj.dst=some g) (hb:a.tmps.getD g undef=.bool b):yielded ops a.tmps j=some b:=by
 unfold yielded
 have hg:a.tmps[g]?=some (.bool b):=by
  rw [Array.getD_eq_getD_getElem?] at hb
  cases ht:a.tmps[g]? with
  | none=>rw [ht] at hb; cases hb
  | some v=>rw [ht] at hb; simp at hb; rw [hb]
 simp [hj,hd,hg]
end
end
end Go.Sy
set_option linter.unusedVariables false
namespace Go.Sy
open Go.RowKit
section
variable {P:Program} {X:List (Nat×Go.Obj)} {w0 w:World} {base:Nat}
structure MExt (m m':MS):Prop where
 us:∃ r,m'.us=r++m.us
 km:∀ k u,xiv k m.km=some u→xiv k m'.km=some u
theorem MExt.refl (m:MS):MExt m m:=⟨⟨[],rfl⟩,fun _ _ h=>h⟩
theorem MExt.trans {a b c:MS} (h:MExt a b) (k:MExt b c):MExt a c:=by
 obtain ⟨r,hr⟩:=h.us
 obtain ⟨s,hs⟩:=k.us
 exact ⟨⟨s++r,by rw [hs,hr,List.append_assoc]⟩,fun x u hx=>k.km x u (h.km x u hx)⟩
def Pre (us:List U) (xs:List U):Prop:=∃ t,xs=us.reverse++t
theorem Pre.of_ext {m m':MS} {xs:List U} (h:MExt m m') (hp:Pre m'.us xs):Pre m.us xs:=by
 obtain ⟨r,hr⟩:=h.us
 obtain ⟨t,ht⟩:=hp
 exact ⟨r.reverse++t,by rw [ht,hr]; simp⟩
theorem Pre.get {u:U} {us xs:List U} (h:Pre (u::us) xs):xs[us.length]?=some u:=by
 obtain ⟨t,rfl⟩:=h
 simp
structure KEnv (base:Nat) (E1 E2:Env) (km:List (Nat×Option Nat)):Prop where
 old:∀ k,k<base→E2 k=E1 k
 new:∀ k u,xiv k km=some u→E2 k=xeu E1 u
theorem KEnv.of_ext {E1 E2:Env} {m m':MS} (h:MExt m m') (hk:KEnv base E1 E2 m'.km):KEnv base E1 E2 m.km:=⟨hk.old,fun k u hu=>hk.new k u (h.km k u hu)⟩
def xuY (base:Nat) (km:List (Nat×Option Nat)) (k:Nat):Prop:=k<base∨∃ u,xiv k km=some u
theorem xkY {m m':MS} (h:MExt m m') {k:Nat} (hk:xuY base m.km k):xuY base m'.km k:=hk.imp id fun ⟨u,hu⟩=>⟨u,h.km k u hu⟩
theorem xvz {k:Nat} {v:Option Nat} {m m':MS} (h:addK k v m=some m'):MExt m m'∧xiv k m'.km=some v∧m'.us=m.us:=by
 unfold addK at h
 split at h
 ·rename_i hn
  cases h
  refine ⟨⟨⟨[],rfl⟩,fun k' u hu=>?_⟩,by simp [xiv,xdh],rfl⟩
  by_cases hk:k'=k
  ·subst hk; rw [hn] at hu; cases hu
  ·simp only [xiv,xgb hk]; exact hu
 ·rename_i u hu
  split at h
  ·rename_i he
   cases h
   exact ⟨MExt.refl _,by rw [hu,he],rfl⟩
  ·cases h
theorem xC7 {a b:Value} (h:xC8 a b=true):a=b:=by
 unfold xC8 at h
 split at h
 ·rename_i x y; have e:x=y:=by simpa using h
  rw [e]
 ·rename_i k x k' y
  split at h
  ·rename_i hk
   subst hk
   rw [of_decide_eq_true h]
  ·cases h
 ·rfl
 ·rfl
 ·rfl
 ·rfl
 ·rfl
 ·cases h
structure xIA (base:Nat) (s v:AV) (m m':MS):Prop where
 ext:MExt m m'
 fill:∀ xs,Pre m'.us xs→(xfJ xs s m.us.length).2=m'.us.length∧(∀ E1 E2,KEnv base E1 E2 m'.km→(xfJ xs s m.us.length).1.den E2=v.den E1)∧AV.all (xuY base m'.km) (xfJ xs s m.us.length).1∧(xfJ xs s m.us.length).1.scalar=v.scalar
structure xIC (base:Nat) (s v:List AV) (m m':MS):Prop where
 ext:MExt m m'
 fill:∀ xs,Pre m'.us xs→(xcO xs s m.us.length).2=m'.us.length∧(∀ E1 E2,KEnv base E1 E2 m'.km→AV.denL E2 (xcO xs s m.us.length).1=AV.denL E1 v)∧AV.allL (xuY base m'.km) (xcO xs s m.us.length).1∧(xcO xs s m.us.length).1.length=v.length∧(xcO xs s m.us.length).1.all AV.scalar=v.all AV.scalar
theorem xrn (v:AV):v.weak.scalar=v.scalar:=by
 cases v with
 | val x=>cases x<;>rfl
 | _=>rfl
mutual
theorem xqv:∀ (s v:AV) (m m':MS),xeL base s v m=some m'→xIA base s v m m'
 | .bool b,v,m,m',h=>by
  unfold xeL at h
  split at h
  ·rename_i b' hw
   cases h
   refine ⟨⟨⟨[.b b'],rfl⟩,fun _ _ h=>h⟩,fun xs hp=>⟨by simp [xfJ],fun E1 E2 _=>?_,trivial,?_⟩⟩
   ·have:=hp.get
    simp only [xfJ,AV.den,gb,this]
    rw [← xe7 E1 v,hw]; rfl
   ·rw [← xrn v,hw]; rfl
  ·cases h
 | .int k b,v,m,m',h=>by
  unfold xeL at h
  split at h
  ·rename_i k' n hw
   split at h
   ·rename_i hk
    subst hk
    cases h
    refine ⟨⟨⟨[.i n],rfl⟩,fun _ _ h=>h⟩,fun xs hp=>⟨by simp [xfJ],fun E1 E2 _=>?_,trivial,?_⟩⟩
    ·have:=hp.get
     simp only [xfJ,AV.den,gi,this]
     rw [← xe7 E1 v,hw]; rfl
    ·rw [← xrn v,hw]; rfl
   ·cases h
  ·cases h
 | .val c,v,m,m',h=>by
  cases v with
  | val c' =>
   unfold xeL at h
   split at h
   ·rename_i hc
    cases h
    have:=xC7 hc
    subst this
    exact ⟨MExt.refl _,fun xs _=>⟨rfl,fun _ _ _=>rfl,trivial,rfl⟩⟩
   ·cases h
  | _=>simp [xeL] at h
 | .ptr k off,v,m,m',h=>by
  cases v with
  | ptr k' off' =>
   unfold xeL at h
   split at h
   ·rename_i hc
    obtain ⟨rfl,rfl,hk⟩:=hc
    cases h
    exact ⟨MExt.refl _,fun xs _=>⟨rfl,fun E1 E2 he=>by simp [xfJ,AV.den,he.old k hk],.inl hk,rfl⟩⟩
   ·cases h
  | _=>simp [xeL] at h
 | .yl k,v,m,m',h=>by
  cases v with
  | yl k' =>
   unfold xeL at h
   split at h
   ·rename_i hc
    obtain ⟨rfl,hk⟩:=hc
    cases h
    exact ⟨MExt.refl _,fun xs _=>⟨rfl,fun E1 E2 he=>by simp [xfJ,AV.den,he.old k hk],.inl hk,rfl⟩⟩
   ·cases h
  | _=>simp [xeL] at h
 | .sl k,v,m,m',h=>by
  cases v with
  | sl k' =>
   unfold xeL at h
   split at h
   ·rename_i hk
    have hk:k<base:=by simpa using hk
    split at h
    ·rename_i he
     subst he
     cases h
     exact ⟨MExt.refl _,fun xs _=>⟨rfl,fun E1 E2 he=>he.old k hk,.inl hk,rfl⟩⟩
    ·cases h
   ·obtain ⟨h1,h2,h3⟩:=xvz h
    exact ⟨h1,fun xs _=>⟨by rw [h3]; rfl,fun E1 E2 he=>he.new k _ h2,.inr ⟨_,h2⟩,rfl⟩⟩
  | val c =>
   by_cases hc:c=.slice none 0 0
   ·subst hc
    simp only [xeL] at h
    split at h
    ·cases h
    ·obtain ⟨h1,h2,h3⟩:=xvz h
     exact ⟨h1,fun xs _=>⟨by rw [h3]; rfl,fun E1 E2 he=>he.new _ _ h2,.inr ⟨_,h2⟩,rfl⟩⟩
   ·have e:xeL base (.sl k) (.val c) m=none:=by
     unfold xeL
     split<;>first | rfl | (exfalso; simp only [reduceCtorEq] at *; done) | (exfalso; simp_all; done)
    rw [e] at h; cases h
  | _=>simp [xeL] at h
 | .fn f a b,v,m,m',h=>by
  cases v with
  | fn f' a' b' =>
   unfold xeL at h
   split at h
   ·rename_i hf
    subst hf
    split at h
    ·rename_i m1 h1
     have r1:=xfH a a' m m1 h1
     have r2:=xfH b b' m1 m' h
     refine ⟨r1.ext.trans r2.ext,fun xs hp=>?_⟩
     obtain ⟨a1,a2,a3,a4,a5⟩:=r1.fill xs (hp.of_ext r2.ext)
     obtain ⟨b1,b2,b3,b4,b5⟩:=r2.fill xs hp
     have e:xfJ xs (.fn f a b) m.us.length=(.fn f (xcO xs a m.us.length).1 (xcO xs b m1.us.length).1,m'.us.length):=by
      simp only [xfJ,a1,b1]
     rw [e]
     refine ⟨rfl,fun E1 E2 he=>?_,⟨xlF (fun k hk=>xkY r2.ext hk) _ a3,b3⟩,rfl⟩
     simp only [AV.den,a2 E1 E2 (he.of_ext r2.ext),b2 E1 E2 he]
    ·cases h
   ·cases h
  | _=>simp [xeL] at h
 | .agg cs,v,m,m',h=>by
  cases v with
  | agg cs' =>
   unfold xeL at h
   have r:=xfH cs cs' m m' h
   refine ⟨r.ext,fun xs hp=>?_⟩
   obtain ⟨a1,a2,a3,a4,a5⟩:=r.fill xs hp
   have e:xfJ xs (.agg cs) m.us.length=(.agg (xcO xs cs m.us.length).1,m'.us.length):=by simp only [xfJ,a1]
   rw [e]
   exact ⟨rfl,fun E1 E2 he=>by simp only [AV.den,a2 E1 E2 he],a3,rfl⟩
  | _=>simp [xeL] at h
 | .tup cs,v,m,m',h=>by
  cases v with
  | tup cs' =>
   unfold xeL at h
   have r:=xfH cs cs' m m' h
   refine ⟨r.ext,fun xs hp=>?_⟩
   obtain ⟨a1,a2,a3,a4,a5⟩:=r.fill xs hp
   have e:xfJ xs (.tup cs) m.us.length=(.tup (xcO xs cs m.us.length).1,m'.us.length):=by simp only [xfJ,a1]
   rw [e]
   exact ⟨rfl,fun E1 E2 he=>by simp only [AV.den,a2 E1 E2 he],a3,rfl⟩
  | _=>simp [xeL] at h
 | .ix _ _ _ _ _,v,m,m',h=>by cases v<;>simp [xeL] at h
 | .vw _ _ (some _) _,v,m,m',h=>by cases v<;>simp [xeL] at h
 | .vw k sz none hi0,v,m,m',h=>by
  cases v with
  | vw k' sz' lo hi =>
   cases lo with
   | some _=>simp [xeL] at h
   | none =>
   unfold xeL at h
   split at h
   ·rename_i hc
    obtain ⟨rfl,rfl,hk⟩:=hc
    cases h
    refine ⟨⟨⟨[.i hi],rfl⟩,fun _ _ h=>h⟩,fun xs hp=>⟨by simp [xfJ],fun E1 E2 he=>?_,.inl hk,rfl⟩⟩
    have:=hp.get
    simp only [xfJ,AV.den,gi,this,he.old k hk]
   ·cases h
  | _=>simp [xeL] at h
theorem xfH:∀ (s v:List AV) (m m':MS),xmB base s v m=some m'→xIC base s v m m'
 | [],[],m,m',h=>by cases h; exact ⟨MExt.refl _,fun xs _=>⟨rfl,fun _ _ _=>rfl,trivial,rfl,rfl⟩⟩
 | a::r,a'::r',m,m',h=>by
  unfold xmB at h
  split at h
  ·rename_i m1 h1
   have r1:=xqv a a' m m1 h1
   have r2:=xfH r r' m1 m' h
   refine ⟨r1.ext.trans r2.ext,fun xs hp=>?_⟩
   obtain ⟨a1,a2,a3,a5⟩:=r1.fill xs (hp.of_ext r2.ext)
   obtain ⟨b1,b2,b3,b4,b5⟩:=r2.fill xs hp
   have e:xcO xs (a::r) m.us.length=((xfJ xs a m.us.length).1::(xcO xs r m1.us.length).1,m'.us.length):=by
    simp only [xcO,a1,b1]
   rw [e]
   refine ⟨rfl,fun E1 E2 he=>?_,⟨xeT (fun k hk=>xkY r2.ext hk) _ a3,b3⟩,by simp [b4],by simp [a5,b5]⟩
   simp only [AV.denL,a2 E1 E2 (he.of_ext r2.ext),b2 E1 E2 he]
  ·cases h
 | [],_::_,_,_,h=>by simp [xmB] at h
 | _::_,[],_,_,h=>by simp [xmB] at h
end
structure xGs (base:Nat) (s v:List (List AV)) (m m':MS):Prop where
 ext:MExt m m'
 fill:∀ xs,Pre m'.us xs→(xk2 xs s m.us.length).2=m'.us.length∧(∀ E1 E2,KEnv base E1 E2 m'.km→AV.denL E2 (xk2 xs s m.us.length).1.flatten=AV.denL E1 v.flatten)∧AV.allL (xuY base m'.km) (xk2 xs s m.us.length).1.flatten ∧
  (xk2 xs s m.us.length).1.map List.length=v.map List.length∧(xk2 xs s m.us.length).1.flatten.all AV.scalar=v.flatten.all AV.scalar
theorem xoV:∀ (s v:List (List AV)) (m m':MS),xpL base s v m=some m'→xGs base s v m m'
 | [],[],m,m',h=>by cases h; exact ⟨MExt.refl _,fun xs _=>⟨rfl,fun _ _ _=>rfl,trivial,rfl,rfl⟩⟩
 | a::r,a'::r',m,m',h=>by
  unfold xpL at h
  split at h
  ·rename_i m1 h1
   have r1:=xfH a a' m m1 h1
   have r2:=xoV r r' m1 m' h
   refine ⟨r1.ext.trans r2.ext,fun xs hp=>?_⟩
   obtain ⟨a1,a2,a3,a4,a5⟩:=r1.fill xs (hp.of_ext r2.ext)
   obtain ⟨b1,b2,b3,b4,b5⟩:=r2.fill xs hp
   have e:xk2 xs (a::r) m.us.length=((xcO xs a m.us.length).1::(xk2 xs r m1.us.length).1,m'.us.length):=by
    simp only [xk2,a1,b1]
   rw [e]
   refine ⟨rfl,fun E1 E2 he=>?_,?_,by simp [a4,b4],by simp [a5,b5,List.all_append]⟩
   ·simp only [List.flatten_cons]
    rw [xaJ,xaJ,List.map_append,List.map_append,← xaJ,← xaJ,← xaJ,← xaJ,a2 E1 E2 (he.of_ext r2.ext),b2 E1 E2 he]
   ·simp only [List.flatten_cons]
    rw [xe9] at *
    intro y hy
    rcases List.mem_append.1 hy with hy | hy
    ·exact xeT (fun k hk=>xkY r2.ext hk) _ (a3 y hy)
    ·exact b3 y hy
  ·cases h
 | [],_::_,_,_,h=>by simp [xpL] at h
 | _::_,[],_,_,h=>by simp [xpL] at h
def xGr (b0 b:Body):Prop:=(∀ e ks l,b=.nst e ks l→b0=.nst e ks l∨l=[])∧∀ kt et q ks l,b=.mq kt et q ks l→b0=.mq kt et q ks l
def xiE (b0 b:Body):Prop:=(xoW b=true→xoW b0=true)∧xGr b0 b
theorem xiE.flat {b0 b:Body} (h:xq5 b=true):xiE b0 b:=by
 cases b<;>first | (cases h; done) | exact ⟨(fun h=>by cases h),(fun _ _ _ h=>(by cases h)),fun _ _ _ _ _ h=>(by cases h)⟩
theorem xiE.refl (b:Body):xiE b b:=⟨fun h=>h,(fun _ _ _ h=>.inl h),fun _ _ _ _ _ h=>h⟩
theorem xiE.nst {b0:Body} {e:TypeId} {ks:List NK}:xiE b0 (.nst e ks []):=⟨(fun h=>by cases h),(fun _ _ _ h=>by cases h; exact .inr rfl),fun _ _ _ _ _ h=>(by cases h)⟩
structure xE9 (P:Program) (base:Nat) (s b:Body) (m m':MS):Prop where
 ext:MExt m m'
 fill:∀ xs,Pre m'.us xs→(xix xs s m.us.length).2=m'.us.length∧(∀ (E1 E2:Env) (w:World) (k1 k2:Nat) (own:Bool),KEnv base E1 E2 m'.km→E2 k2=E1 k1→xbm E1 w k1 own b→xbm E2 w k2 own (xix xs s m.us.length).1)∧xbn (xuY base m'.km) (xix xs s m.us.length).1
 from_:∀ xs,Pre m'.us xs→xiE b (xix xs s m.us.length).1
theorem xyG:∀ {a b:Option Code},xvX a b=true→a=b:=by
 intro a b h
 unfold xvX at h
 split at h
 ·rfl
 ·rfl
 ·rw [Nat.eq_of_beq_eq_true h]
 ·cases h
theorem xiu {s b:Body} {m m':MS} (h:xdV P base s b m=some m'):xE9 P base s b m m':=by
 cases s with
 | cells cs =>
  cases b with
  | cells cs' =>
   simp only [xdV] at h
   have r:=xfH cs cs' m m' h
   refine ⟨r.ext,fun xs hp=>?_,fun xs hp=>by simp only [xix]; exact xiE.flat rfl⟩
   obtain ⟨a1,a2,a3,a4,a5⟩:=r.fill xs hp
   have e:xix xs (.cells cs) m.us.length=(.cells (xcO xs cs m.us.length).1,m'.us.length):=by simp only [xix,a1]
   rw [e]
   refine ⟨rfl,fun E1 E2 w k1 k2 own he hk hb=>?_,a3⟩
   obtain ⟨g,T,h1,h2⟩:=hb
   exact ⟨g,T,hk.trans h1,by rw [a2 E1 E2 he]; exact h2⟩
  | _=>simp [xdV] at h
 | row e ks l =>
  have fillrow:∀ xs,xix xs (.row e ks l) m.us.length=(.row e ks (gr xs m.us.length),m.us.length+1):=fun xs=>rfl
  have common:(match xes P b with
    | some (e',ks',l)=>if e=e'∧ks=ks' then some { m with us:=.r l::m.us } else none
    | none=>none)=some m'→xE9 P base (.row e ks l) b m m':=by
   intro h
   split at h
   ·rename_i e' ks' l' hr
    split at h
    ·rename_i hc
     obtain ⟨rfl,rfl⟩:=hc
     cases h
     refine ⟨⟨⟨[.r l'],rfl⟩,fun _ _ h=>h⟩,fun xs hp=>?_,fun xs hp=>xiE.flat rfl⟩
     rw [fillrow]
     refine ⟨by simp,fun E1 E2 w k1 k2 own he hk hb=>?_,xb4⟩
     have:=hp.get
     simp only [gr,this]
     have hrow:=xbR hr hb
     show xa8 w own e ks.length (E2 k2) l'.length (rowV ks l')
     rw [hk]; exact hrow
    ·cases h
   ·cases h
  cases b with
  | nil =>
   simp only [xdV] at h
   cases h
   refine ⟨⟨⟨[.r []],rfl⟩,fun _ _ h=>h⟩,fun xs hp=>?_,fun xs hp=>xiE.flat rfl⟩
   rw [fillrow]
   refine ⟨by simp,fun E1 E2 w k1 k2 own he hk hb=>?_,xb4⟩
   have:=hp.get
   simp only [gr,this]
   have hb:E1 k1=.slice none 0 0:=hb
   exact xek (hk.trans hb)
  | row e' ks' l'=>exact common h
  | sub e' ks' l'=>exact common h
  | nst e' ks' l'=>exact common h
  | arr e' sz' els'=>exact common h
  | cells cs=>exact common h
  | mp=>exact common h
  | mf=>exact common h
  | mq=>exact common h
  | fin=>exact common h
  | loop=>exact common h
 | nst e ks l =>
  have fillrow:∀ xs,xix xs (.nst e ks l) m.us.length=(.nst e ks (gr xs m.us.length),m.us.length+1):=fun xs=>rfl
  cases b with
  | nil =>
   simp only [xdV] at h
   cases h
   refine ⟨⟨⟨[.r []],rfl⟩,fun _ _ h=>h⟩,fun xs hp=>?_,fun xs hp=>by rw [fillrow]; have:=hp.get; simp only [gr,this]; exact xiE.nst⟩
   rw [fillrow]
   refine ⟨by simp,fun E1 E2 w k1 k2 own he hk hb=>?_,trivial⟩
   have:=hp.get
   simp only [gr,this]
   have hb:E1 k1=.slice none 0 0:=hb
   exact xqL.ok (x:=.nil) (.inr ⟨rfl,.inr ⟨e,ks,rfl⟩⟩) (hk.trans hb)
  | nst e' ks' l' =>
   simp only [xdV] at h
   split at h
   ·rename_i hc
    obtain ⟨rfl,rfl⟩:=hc
    cases h
    refine ⟨⟨⟨[.r l'],rfl⟩,fun _ _ h=>h⟩,fun xs hp=>?_,fun xs hp=>by rw [fillrow]; have:=hp.get; simp only [gr,this]; exact xiE.refl _⟩
    rw [fillrow]
    refine ⟨by simp,fun E1 E2 w k1 k2 own he hk hb=>?_,trivial⟩
    have:=hp.get
    simp only [gr,this]
    obtain ⟨vs,hb⟩:=hb
    exact ⟨vs,by rw [hk]; exact hb⟩
   ·cases h
  | _=>simp [xdV] at h
 | sub e ks l =>
  have fillrow:∀ xs,xix xs (.sub e ks l) m.us.length=(.sub e ks (gr xs m.us.length),m.us.length+1):=fun xs=>rfl
  cases b with
  | sub e' ks' l' =>
   simp only [xdV] at h
   split at h
   ·rename_i hc
    obtain ⟨rfl,rfl⟩:=hc
    cases h
    refine ⟨⟨⟨[.r l'],rfl⟩,fun _ _ h=>h⟩,fun xs hp=>?_,fun xs hp=>by rw [fillrow]; have:=hp.get; simp only [gr,this]; exact xiE.refl _⟩
    rw [fillrow]
    refine ⟨by simp,fun E1 E2 w k1 k2 own he hk hb=>?_,trivial⟩
    have:=hp.get
    simp only [gr,this]
    exact ⟨hb.1,by rw [hk]; exact hb.2⟩
   ·cases h
  | _=>simp [xdV] at h
 | arr e sz els =>
  cases b with
  | arr e' sz' els' =>
   simp only [xdV] at h
   split at h
   ·rename_i hc
    obtain ⟨rfl,rfl⟩:=hc
    have r:=xoV els els' m m' h
    refine ⟨r.ext,fun xs hp=>?_,fun xs hp=>by simp only [xix]; exact xiE.flat rfl⟩
    obtain ⟨a1,a2,a3,a4,a5⟩:=r.fill xs hp
    have e1:xix xs (.arr e sz els) m.us.length=(.arr e sz (xk2 xs els m.us.length).1,m'.us.length):=by simp only [xix,a1]
    rw [e1]
    refine ⟨rfl,fun E1 E2 w k1 k2 own he hk hb=>?_,a3⟩
    obtain ⟨h1,h2,h3⟩:=hb
    refine ⟨?_,fun el hel=>?_,by rw [a5]; exact h3⟩
    ·have hlen:(xk2 xs els m.us.length).1.length=els'.length:=by simpa using congrArg List.length a4
     rw [hk,hlen,a2 E1 E2 he]; exact h1
    ·have:el.length∈(xk2 xs els m.us.length).1.map List.length:=List.mem_map.2 ⟨el,hel,rfl⟩
     rw [a4] at this
     obtain ⟨el',hel',hl⟩:=List.mem_map.1 this
     rw [← hl]; exact h2 el' hel'
   ·cases h
  | _=>simp [xdV] at h
 | nil =>
  cases b with
  | nil =>
   cases h
   exact ⟨MExt.refl _,fun xs _=>⟨rfl,fun E1 E2 w k1 k2 own he hk hb=>hk.trans hb,xok⟩,fun xs _=>xiE.flat rfl⟩
  | _=>simp [xdV] at h
 | mp kt et q n ke l0 =>
  cases b with
  | mp kt' et' q' n' ke' l =>
   simp only [xdV] at h
   split at h
   ·rename_i hc
    obtain ⟨rfl,rfl,rfl,rfl,rfl⟩:=hc
    cases h
    refine ⟨⟨⟨[.r l],rfl⟩,fun _ _ h=>h⟩,fun xs hp=>⟨by simp [xix],fun E1 E2 w k1 k2 own he hk hb=>?_,trivial⟩,fun xs hp=>xiE.flat rfl⟩
    have hg:=hp.get
    obtain ⟨b,es,clock,h1,h2,h3,h4,h5⟩:=hb
    have e:(xix xs (.mp kt et q n ke l0) m.us.length).1=.mp kt et q n ke l:=by simp only [xix,gr,hg]
    rw [e]
    exact ⟨b,es,clock,hk.trans h1,h2,h3,h4,h5⟩
   ·cases h
  | _=>simp [xdV] at h
 | mq kt et q ks l0 =>
  cases b with
  | mq kt' et' q' ks' l =>
   simp only [xdV] at h
   split at h
   ·rename_i hc
    obtain ⟨rfl,rfl,rfl,rfl⟩:=hc
    cases h
    have e:∀ xs,Pre (.r l::m.us) xs→(xix xs (.mq kt et q ks l0) m.us.length).1=.mq kt et q ks l:=fun xs hp=>by
     have hg:=hp.get
     simp only [xix,gr,hg]
    refine ⟨⟨⟨[.r l],rfl⟩,fun _ _ h=>h⟩,fun xs hp=>⟨by simp [xix],fun E1 E2 w k1 k2 own he hk hb=>?_,trivial⟩,fun xs hp=>by rw [e xs hp]; exact xiE.refl _⟩
    obtain ⟨b,es,clock,h1⟩:=hb
    rw [e xs hp]
    exact ⟨b,es,clock,by rw [hk]; exact h1⟩
   ·cases h
  | _=>simp [xdV] at h
 | mf=>cases b<;>simp [xdV] at h
 | loop=>cases b<;>simp [xdV] at h
 | fin st pend =>
  cases b with
  | fin st' pend' =>
   simp only [xdV] at h
   split at h
   ·rename_i hc
    rw [Bool.and_eq_true] at hc
    have e1:=Nat.eq_of_beq_eq_true hc.1
    have e2:=xyG hc.2
    subst e1 e2
    cases h
    exact ⟨MExt.refl _,fun xs _=>⟨rfl,fun E1 E2 w k1 k2 own he hk hb=>by
     obtain ⟨l,r,h1,h2⟩:=hb
     exact ⟨l,r,hk.trans h1,h2⟩,trivial⟩,fun xs _=>xiE.flat rfl⟩
   ·cases h
  | _=>simp [xdV] at h
theorem xiK {tmps:Nat→Option AV}:∀ (l:List (Nat×AV)) (m m':MS),xkU base tmps l m=some m'→MExt m m'∧∀ xs,Pre m'.us xs→(xbj xs l m.us.length).2=m'.us.length ∧
  ∀ t v,xft t (xbj xs l m.us.length).1=some v→∃ v',tmps t=some v'∧AV.all (xuY base m'.km) v∧∀ E1 E2,KEnv base E1 E2 m'.km→v.den E2=v'.den E1
 | [],m,m',h=>by cases h; exact ⟨MExt.refl _,fun xs _=>⟨rfl,fun t v h=>by cases h⟩⟩
 | (t,s)::r,m,m',h=>by
  unfold xkU at h
  split at h
  ·rename_i v0 hv0
   split at h
   ·rename_i m1 h1
    have r1:=xqv s v0 m m1 h1
    obtain ⟨r2,r3⟩:=xiK r m1 m' h
    refine ⟨r1.ext.trans r2,fun xs hp=>?_⟩
    obtain ⟨a1,a2,a3,a4⟩:=r1.fill xs (hp.of_ext r2)
    obtain ⟨b1,b2⟩:=r3 xs hp
    have e:xbj xs ((t,s)::r) m.us.length=((t,(xfJ xs s m.us.length).1)::(xbj xs r m1.us.length).1,m'.us.length):=by
     simp only [xbj,a1,b1]
    rw [e]
    refine ⟨rfl,fun t' v ht=>?_⟩
    simp only [xft] at ht
    split at ht
    ·rename_i hb
     cases ht
     rw [Nat.eq_of_beq_eq_true hb]
     exact ⟨v0,hv0,xeT (fun k hk=>xkY r2 hk) _ a3,fun E1 E2 he=>a2 E1 E2 (he.of_ext r2)⟩
    ·exact b2 t' v ht
   ·cases h
  ·cases h
theorem xo0 {xs:List U} {ver:Nat}:∀ (l:List Obj) (j:Nat),(xbp ver xs l j).1.map (fun o=>o.key)=l.map fun o=>o.key
 | [],j=>rfl
 | o::r,j=>by simp [xbp,xo0 r]
theorem xjE {objs:List Obj} {ver:Nat}:∀ (l:List Obj) (m m':MS),xmA P base objs l m=some m'→MExt m m'∧∀ xs,Pre m'.us xs→(xbp ver xs l m.us.length).2=m'.us.length ∧
  ∀ o∈(xbp ver xs l m.us.length).1,o.ver=ver∧(∃ s∈l,s.key=o.key)∧xbn (xuY base m'.km) o.body∧∃ o'∈objs,o'.key=o.key∧(o.own=true→o'.own=true)∧xiE o'.body o.body ∧
   ∀ (E1 E2:Env) (w:World),KEnv base E1 E2 m'.km→E2 o.key=E1 o.key→xbm E1 w o.key o'.own o'.body→xbm E2 w o.key o.own o.body
 | [],m,m',h=>by cases h; exact ⟨MExt.refl _,fun xs _=>⟨rfl,fun o ho=>by cases ho⟩⟩
 | s::r,m,m',h=>by
  unfold xmA at h
  split at h
  ·rename_i o' ho'
   obtain ⟨hm,hk⟩:=xan ho'
   split at h
   ·rename_i hown
    split at h
    ·rename_i m1 h1
     have r1:=xiu h1
     obtain ⟨r2,r3⟩:=xjE (ver:=ver) r m1 m' h
     refine ⟨r1.ext.trans r2,fun xs hp=>?_⟩
     obtain ⟨a1,a2,a3⟩:=r1.fill xs (hp.of_ext r2)
     obtain ⟨b1,b2⟩:=r3 xs hp
     have e:xbp ver xs (s::r) m.us.length=(⟨s.key,ver,s.own,(xix xs s.body m.us.length).1⟩::(xbp ver xs r m1.us.length).1,m'.us.length):=by
      simp only [xbp,a1,b1]
     rw [e]
     refine ⟨rfl,fun o ho=>?_⟩
     rcases List.mem_cons.1 ho with rfl | ho
     ·refine ⟨rfl,⟨s,by simp,rfl⟩,xaY (fun k hk=>xkY r2 hk) a3,o',hm,hk,?_,r1.from_ xs (hp.of_ext r2),fun E1 E2 w he hke hb=>?_⟩
      ·intro ht
       rcases hown with h2 | h2
       ·rw [← h2]; exact ht
       ·rw [h2] at ht; cases ht
      ·have hb2:=a2 E1 E2 w s.key s.key o'.own (he.of_ext r2) hke hb
       rcases hown with h2 | h2
       ·simp only []; rw [h2]; exact hb2
       ·simp only []; rw [h2]
        generalize (xix xs s.body m.us.length).1=bb at hb2
        cases bb with
        | cells=>exact hb2
        | row e ks l=>exact ⟨hb2.reads,hb2.len,fun h=>by cases h⟩
        | sub e ks l=>exact ⟨rfl,hb2.2.reads,hb2.2.len,fun h=>by cases h⟩
        | nst e ks l=>obtain ⟨vs,hb2⟩:=hb2; exact ⟨vs,⟨hb2.row.reads,hb2.row.len,fun h=>by cases h⟩,hb2.cell⟩
        | arr e sz els=>exact ⟨⟨hb2.1.reads,hb2.1.len,fun h=>by cases h⟩,hb2.2⟩
        | nil=>exact hb2
        | mp=>exact hb2
        | mf=>exact hb2
        | mq=>exact hb2
        | fin=>exact hb2
        | loop=>exact hb2
     ·obtain ⟨p1,⟨s',p2,p3⟩,p4⟩:=b2 o ho
      exact ⟨p1,⟨s',by simp [p2],p3⟩,p4⟩
    ·cases h
   ·cases h
  ·cases h
def xui (own:Bool) (b0 b:Body):Prop:=(xoW b=true→xoW b0=true∨own=true)∧xGr b0 b
theorem xiE.o {own:Bool} {b0 b:Body} (h:xiE b0 b):xui own b0 b:=⟨fun hs=>.inl (h.1 hs),h.2⟩
theorem RT.flat (t:RT) (l:List (List Int)):xbt (t.body l)=true:=by cases t<;>rfl
theorem RT.nil (t:RT) {E:Env} {w:World} {key:Nat} (h:E key=.slice none 0 0):xbm E w key t.own (t.body []):=by
 cases t with
 | row e ks=>exact xek h
 | nst e ks=>exact xqL.ok (x:=.nil) (.inr ⟨rfl,.inr ⟨e,ks,rfl⟩⟩) h
 | sub e ks =>
  have:xbm E w key false (.row e ks []):=xek h
  exact ⟨rfl,this⟩
 | ro e ks=>exact xek h
theorem RT.from_nil (t:RT):xui true .nil (t.body []):=by
 cases t with
 | row e ks=>exact (xiE.flat rfl).o
 | nst e ks=>exact xiE.nst.o
 | sub e ks=>exact ⟨fun _=>.inr rfl,(fun _ _ _ h=>by cases h),(fun _ _ _ _ _ h=>by cases h)⟩
 | ro e ks=>exact (xiE.flat rfl).o
theorem xhs {b:Body} {m m1:MS} {e:TypeId} {ks:List CK} (h1:xdV P 0 (.row e ks []) b m=some m1):m1.km=m.km:=by
 unfold xdV at h1
 simp only [] at h1
 split at h1
 ·cases h1; rfl
 ·split at h1
  ·split at h1
   ·cases h1; rfl
   ·cases h1
  ·cases h1
theorem xrX {b:Body} {m m1:MS} {e:TypeId} {ks:List NK} (h1:xdV P 0 (.nst e ks []) b m=some m1):m1.km=m.km:=by
 unfold xdV at h1
 simp only [] at h1
 split at h1
 ·cases h1; rfl
 ·split at h1
  ·cases h1; rfl
  ·cases h1
 ·cases h1
theorem xyT {t:RT} {own:Bool} {b:Body} {m m1:MS} {k ok:Nat} (hk':xiv k m.km=some (some ok)) (h:xxF P t own b m=some m1):m1.km=m.km∧(∃ q,m1.us=q++m.us)∧m1.us.length=m.us.length+1∧(t.own=true→own=true) ∧
  ∀ xs,Pre m1.us xs→xui own b (t.body (gr xs m.us.length))∧∀ (E1 E2:Env) (w:World),E2 k=E1 ok→xbm E1 w ok own b→xbm E2 w k t.own (t.body (gr xs m.us.length)):=by
 have base:∀ {s:Body} {q:List (List Int)→Body},m1.km=m.km→xE9 P 0 s b m m1→(∀ xs j,xix xs s j=(q (gr xs j),j+1))→(∀ l,xbt (q l)=true)→(∃ xs,Pre m1.us xs) →
   (∃ q,m1.us=q++m.us)∧m1.us.length=m.us.length+1∧∀ xs,Pre m1.us xs→xiE b (q (gr xs m.us.length))∧∀ (E1 E2:Env) (w:World),E2 k=E1 ok→xbm E1 w ok own b→xbm E2 w k own (q (gr xs m.us.length)):=by
  intro s q hkm1 r1 hfill hflat hex
  have hl:m1.us.length=m.us.length+1:=by
   obtain ⟨xs,hp⟩:=hex
   rw [← (r1.fill xs hp).1,hfill]
  refine ⟨r1.ext.us,hl,fun xs hp=>?_⟩
  obtain ⟨a1,a2,a3⟩:=r1.fill xs hp
  refine ⟨by have:=r1.from_ xs hp; rw [hfill] at this; exact this,fun E1 E2 w he hb=>?_⟩
  have hkenv:KEnv 0 E1 (fun x=>xeu E1 ((xiv x m1.km).getD none)) m1.km:=⟨fun k hk=>by omega,fun k u hu=>by simp [hu]⟩
  have e2:(fun x=>xeu E1 ((xiv x m1.km).getD none)) k=E1 ok:=by
   show xeu E1 ((xiv k m1.km).getD none)=E1 ok
   rw [hkm1,hk']; rfl
  have hb2:=a2 E1 _ w ok k own hkenv e2 hb
  rw [hfill] at hb2
  exact xoj (hflat _) (he.trans e2.symm) hb2
 have hex:∃ xs,Pre m1.us xs:=⟨m1.us.reverse,[],by simp⟩
 cases t with
 | row e ks =>
  unfold xxF at h
  simp only [] at h
  split at h
  ·obtain ⟨p1,p2,p3⟩:=base (q:=fun l=>.row e ks l) (xhs h) (xiu h) (fun _ _=>rfl) (fun _=>rfl) hex
   exact ⟨xhs h,p1,p2,fun _=>rfl,fun xs hp=>⟨(p3 xs hp).1.o,(p3 xs hp).2⟩⟩
  ·cases h
 | nst e ks =>
  unfold xxF at h
  simp only [] at h
  split at h
  ·obtain ⟨p1,p2,p3⟩:=base (q:=fun l=>.nst e ks l) (xrX h) (xiu h) (fun _ _=>rfl) (fun _=>rfl) hex
   exact ⟨xrX h,p1,p2,fun _=>rfl,fun xs hp=>⟨(p3 xs hp).1.o,(p3 xs hp).2⟩⟩
  ·cases h
 | sub e ks =>
  unfold xxF at h
  simp only [] at h
  split at h
  ·rename_i hc
   obtain ⟨p1,p2,p3⟩:=base (q:=fun l=>.row e ks l) (xhs h) (xiu h) (fun _ _=>rfl) (fun _=>rfl) hex
   refine ⟨xhs h,p1,p2,(fun h=>by cases h),fun xs hp=>⟨⟨fun _=>?_,(fun _ _ _ h=>by cases h),(fun _ _ _ _ _ h=>by cases h)⟩,fun E1 E2 w he hb=>?_⟩⟩
   ·rcases Bool.or_eq_true_iff.1 hc with h | h
    ·exact .inr h
    ·exact .inl h
   ·have:=(p3 xs hp).2 E1 E2 w he hb
    have hr:xa8 w own e ks.length (E2 k) (gr xs m.us.length).length (rowV ks (gr xs m.us.length)):=this
    exact ⟨rfl,hr.reads,hr.len,(fun h=>by cases h)⟩
  ·cases h
 | ro e ks =>
  have h:xdV P 0 (.row e ks []) b m=some m1:=h
  obtain ⟨p1,p2,p3⟩:=base (q:=fun l=>.row e ks l) (xhs h) (xiu h) (fun _ _=>rfl) (fun _=>rfl) hex
  refine ⟨xhs h,p1,p2,(fun h=>by cases h),fun xs hp=>⟨(p3 xs hp).1.o,fun E1 E2 w he hb=>?_⟩⟩
  have:=(p3 xs hp).2 E1 E2 w he hb
  have hr:xa8 w own e ks.length (E2 k) (gr xs m.us.length).length (rowV ks (gr xs m.us.length)):=this
  exact ⟨hr.reads,hr.len,(fun h=>by cases h)⟩
theorem xjD {objs:List Obj} {ver:Nat} {km:List (Nat×Option Nat)}:∀ (l:List RT) (k:Nat) (m m':MS),m.km=km→xmz P objs k l m=some m'→m'.km=km∧(∃ r,m'.us=r++m.us)∧∀ xs,Pre m'.us xs →
  ∀ o∈xd9 ver xs k l m.us.length,o.ver=ver∧k≤o.key∧o.key<k+l.length∧xbt o.body=true ∧
   ((∃ o'∈objs,xiv o.key km=some (some o'.key)∧(o.own=true→o'.own=true)∧xui o'.own o'.body o.body∧∀ (E1 E2:Env) (w:World),E2 o.key=E1 o'.key→xbm E1 w o'.key o'.own o'.body→xbm E2 w o.key o.own o.body) ∨
    ((∀ k',xiv o.key km≠some (some k'))∧xui true .nil o.body∧∀ (E2:Env) (w:World),E2 o.key=.slice none 0 0→xbm E2 w o.key o.own o.body))
 | [],k,m,m',hkm,h=>by cases h; exact ⟨hkm,⟨[],rfl⟩,fun xs _ o ho=>by cases ho⟩
 | t::r,k,m,m',hkm,h=>by
  unfold xmz at h
  split at h
  ·rename_i k' hk'
   split at h
   ·rename_i ok ov own b ho'
    split at h
    ·rename_i m1 h1
     obtain ⟨hm,hkk⟩:=xan ho'
     have hkk:ok=k':=hkk
     subst hkk
     obtain ⟨t1,⟨q,hq⟩,hl,t4,t5⟩:=xyT hk' h1
     have hkm1:m1.km=km:=by rw [t1,hkm]
     obtain ⟨r2,⟨r3,hr3⟩,r4⟩:=xjD (ver:=ver) r (k+1) m1 m' hkm1 h
     refine ⟨r2,⟨r3++q,by rw [hr3,hq,List.append_assoc]⟩,fun xs hp o ho=>?_⟩
     have hp1:Pre m1.us xs:=by
      obtain ⟨t,ht⟩:=hp
      exact ⟨r3.reverse++t,by rw [ht,hr3]; simp⟩
     obtain ⟨a1,a2⟩:=t5 xs hp1
     simp only [xd9] at ho
     rcases List.mem_cons.1 ho with rfl | ho
     ·exact ⟨rfl,Nat.le_refl _,by simp,RT.flat t _,.inl ⟨_,hm,by rw [← hkm]; exact hk',t4,a1,fun E1 E2 w he hb=>a2 E1 E2 w he hb⟩⟩
     ·obtain ⟨p1,p3,p4,p5,p6⟩:=r4 xs hp o (by rw [hl]; exact ho)
      exact ⟨p1,by omega,by simp; omega,p5,p6⟩
    ·cases h
   ·cases h
  ·rename_i hne
   obtain ⟨r2,⟨r3,hr3⟩,r4⟩:=xjD (ver:=ver) r (k+1) _ m' (by exact hkm) h
   refine ⟨r2,⟨r3++[.r []],by rw [hr3]; simp⟩,fun xs hp o ho=>?_⟩
   have hp1:Pre (U.r []::m.us) xs:=by
    obtain ⟨t,ht⟩:=hp
    exact ⟨r3.reverse++t,by rw [ht,hr3]; simp⟩
   simp only [xd9] at ho
   rcases List.mem_cons.1 ho with rfl | ho
   ·have:=hp1.get
    refine ⟨rfl,Nat.le_refl _,by simp,RT.flat t _,.inr ⟨fun k' hk'=>hne k' (by rw [hkm]; exact hk'),by simp only [gr,this]; exact RT.from_nil t,fun E2 w he=>?_⟩⟩
    simp only [gr,this]
    exact RT.nil t he
   ·obtain ⟨p1,p3,p4,p5,p6⟩:=r4 xs hp o (by simpa using ho)
    exact ⟨p1,by omega,by simp; omega,p5,p6⟩
end
end Go.Sy
set_option linter.unusedVariables false
namespace Go.Sy
open Go.RowKit
section
variable {P:Program} {X:List (Nat×Go.Obj)} {w0 w:World} {N:Nat} {D:List Deferred} {a:Act}
theorem xmD {k:Nat}:∀ {l:List (Nat×Option Nat)} {u:Option Nat},xiv k l=some u→(k,u)∈l
 | [],u,h=>by cases h
 | (k',v)::r,u,h=>by
  unfold xiv at h
  split at h
  ·rename_i hb; cases h; rw [Nat.eq_of_beq_eq_true hb]; exact List.mem_cons_self
  ·exact List.mem_cons_of_mem _ (xmD h)
theorem xjO:∀ {l:List Nat},xmV l=true→l.Nodup
 | [],_=>List.nodup_nil
 | a::r,h=>by
  unfold xmV at h
  rw [Bool.and_eq_true] at h
  refine List.nodup_cons.2 ⟨fun hm=>?_,xjO h.2⟩
  rw [xkA.2 hm] at h
  cases h.1
theorem xlw:∀ {l:List (Nat×Option Nat)} {k1 k2 v:Nat},(l.filterMap (·.2)).Nodup→(k1,some v)∈l→(k2,some v)∈l→k1=k2
 | (k,none)::r,k1,k2,v,hn,h1,h2=>by
  rcases List.mem_cons.1 h1 with h1 | h1
  ·cases h1
  ·rcases List.mem_cons.1 h2 with h2 | h2
   ·cases h2
   ·exact xlw (by simpa using hn) h1 h2
 | (k,some u)::r,k1,k2,v,hn,h1,h2=>by
  have hn:u∉r.filterMap (·.2)∧(r.filterMap (·.2)).Nodup:=by simpa using hn
  rcases List.mem_cons.1 h1 with h1 | h1<;>rcases List.mem_cons.1 h2 with h2 | h2
  ·cases h1; cases h2; rfl
  ·cases h1; exact absurd ((List.mem_filterMap (f:=fun x:Nat×Option Nat=>x.2)).2 ⟨_,h2,rfl⟩) hn.1
  ·cases h2; exact absurd ((List.mem_filterMap (f:=fun x:Nat×Option Nat=>x.2)).2 ⟨_,h1,rfl⟩) hn.1
  ·exact xlw hn.2 h1 h2
theorem xji {k:Nat}:∀ {l:List Obj},xhl k l=true↔∃ o∈l,o.key=k
 | []=>by simp [xhl]
 | o::r=>by
  unfold xhl
  rw [Bool.or_eq_true,xji (l:=r)]
  constructor
  ·rintro (h | ⟨o',h1,h2⟩)
   ·exact ⟨o,by simp,Nat.eq_of_beq_eq_true h⟩
   ·exact ⟨o',by simp [h1],h2⟩
  ·rintro ⟨o',h1,h2⟩
   rcases List.mem_cons.1 h1 with rfl | h1
   ·exact .inl (by rw [h2]; exact xdh k)
   ·exact .inr ⟨o',h1,h2⟩
theorem xpV {k:Nat}:∀ {l:List Obj},xsc k l=true↔∃ o∈l,o.key=k∧o.own=true
 | []=>by simp [xsc]
 | o::r=>by
  unfold xsc
  rw [Bool.or_eq_true,Bool.and_eq_true,xpV (l:=r)]
  constructor
  ·rintro (h | ⟨o',h1,h2⟩)
   ·exact ⟨o,by simp,Nat.eq_of_beq_eq_true h.1,h.2⟩
   ·exact ⟨o',by simp [h1],h2⟩
  ·rintro ⟨o',h1,h2,h3⟩
   rcases List.mem_cons.1 h1 with rfl | h1
   ·exact .inl ⟨by rw [h2]; exact xdh k,h3⟩
   ·exact .inr ⟨o',h1,h2,h3⟩
theorem xae.remap {E1 E2:Env} {H:Heap} (hH:xae X E1 w0 H w) {l:List Obj} {n':Nat} (env:∀ k,(E2 k).oneCell'=true) (objs:∀ o∈l,xbm E2 w o.key o.own o.body)
  (org:Nat→Option Nat) (horg:∀ o∈l,(org o.key=none∧blkO (E2 o.key)=none∧xui true .nil o.body)∨∃ o'∈H.objs,org o.key=some o'.key∧E2 o.key=E1 o'.key∧(o.own=true→o'.own=true)∧xui o'.own o'.body o.body)
  (hinj:∀ o∈l,∀ o'∈l,o.own=true→∀ k,org o.key=some k→org o'.key=some k→o.key=o'.key)
  (uniq:∀ o∈l,∀ o'∈l,o.key=o'.key→o=o') (lt:∀ o∈l,o.key<n'∧xbn (fun k=>k<n') o.body):xae X E2 w0 ⟨l,n'⟩ w:=by
 have inn:∀ o∈l,∀ b,Inn E2 w o.key o.body b→∃ o'∈H.objs,(o.own=true∧xuI o.body=true→o'.own=true∧xuI o'.body=true)∧E2 o.key=E1 o'.key∧Inn E1 w o'.key o'.body b:=by
  intro o ho b hb
  generalize hbd:o.body=bd at hb
  cases bd with
  | nst e ks l0 =>
   obtain ⟨a,j,u,q1,q2,q3,q4⟩:=hb
   have hne:l0≠[]:=by rintro rfl; simp at q2
   rcases horg o ho with ⟨_,_,h5⟩ | ⟨o',ho',h1,h2,h3,h5⟩
   ·rcases h5.2.1 e ks l0 hbd with h | h
    ·cases h
    ·exact absurd h hne
   ·rcases h5.2.1 e ks l0 hbd with h | h
    ·exact ⟨o',ho',fun h'=>⟨h3 h'.1,by rw [h]; rfl⟩,h2,by rw [h]; exact ⟨a,j,u,by rw [← h2]; exact q1,q2,q3,q4⟩⟩
    ·exact absurd h hne
  | mq kt et q ks l0 =>
   obtain ⟨m,es,clock,q1,q2⟩:=hb
   rcases horg o ho with ⟨_,_,h5⟩ | ⟨o',ho',h1,h2,h3,h5⟩
   ·cases h5.2.2 kt et q ks l0 hbd
   ·have h:=h5.2.2 kt et q ks l0 hbd
    exact ⟨o',ho',fun h'=>⟨h3 h'.1,by cases h'.2⟩,h2,by rw [h]; exact ⟨m,es,clock,by rw [← h2]; exact q1,q2⟩⟩
  | _=>exact hb.elim
 refine ⟨hH.below,env,objs,?_,?_,uniq,lt,?_,?_,?_,?_⟩
 ·intro o ho hown b hb
  rcases horg o ho with ⟨_,h,_⟩ | ⟨o',ho',h1,h2,h3,_⟩
  ·rw [h] at hb; cases hb
  ·rw [h2] at hb; exact hH.high o' ho' (h3 hown) b hb
 ·intro o ho o2 ho2 hown hne b hb hb2
  rcases horg o ho with ⟨_,h,_⟩ | ⟨o',ho',h1,h2,h3,_⟩
  ·rw [h] at hb; cases hb
  ·rcases horg o2 ho2 with ⟨_,h,_⟩ | ⟨o2',ho2',h1',h2',h3',_⟩
   ·rw [h] at hb2; cases hb2
   ·rw [h2] at hb
    rw [h2'] at hb2
    refine hH.inj o' ho' o2' ho2' (h3 hown) (fun e=>hne ?_) b hb hb2
    rw [← e] at h1'
    exact hinj o ho o2 ho2 hown _ h1 h1'
 ·intro y hy
  refine ⟨(hH.prot y hy).1,fun o ho hb=>?_⟩
  rcases horg o ho with ⟨_,h,_⟩ | ⟨o',ho',h1,h2,h3,_⟩
  ·rw [h] at hb; cases hb
  ·rw [h2] at hb; exact (hH.prot y hy).2 o' ho' hb
 ·intro o ho b hb o2 ho2 hown hb2
  obtain ⟨o',ho',_,_,hI⟩:=inn o ho b hb
  rcases horg o2 ho2 with ⟨_,h,_⟩ | ⟨o2',ho2',h1',h2',h3',_⟩
  ·rw [h] at hb2; cases hb2
  ·rw [h2'] at hb2
   exact hH.deep o' ho' b hI o2' ho2' (h3' hown) hb2
 ·intro y hy o ho hb
  obtain ⟨o',ho',_,_,hI⟩:=inn o ho _ hb
  exact hH.protD y hy o' ho' hI
 ·intro o ho b hb
  rcases hb with ⟨h1,h2⟩ | ⟨h1,h2⟩
  ·rcases horg o ho with ⟨_,h,_⟩ | ⟨o',ho',_,h4,_,h5⟩
   ·rw [h] at h2; cases h2
   ·rw [h4] at h2
    rcases h5.1 h1 with h6 | h6
    ·exact hH.fsh o' ho' b (.inl ⟨h6,h2⟩)
    ·exact hH.high o' ho' h6 b h2
  ·obtain ⟨o',ho',h3,_,hI⟩:=inn o ho b h2
   exact hH.fsh o' ho' b (.inr ⟨h3 h1,hI⟩)
theorem xe2 {S:Spec} {st:List Obj} {wr:List Nat} {ver:Nat} {c:Cfg} {xs:List U} {tm:Nat→Option AV} {E1:Env} (h:S.match_ P st ver c=some xs) (hH:xae X E1 w0 c.heap w) (hS:xaX E1 c.heap.next N D (xao c.tmps) a)
  (hst1:∀ o∈st,o∈c.heap.objs) (hst2:∀ o∈st,o.key<S.base∧xbn (fun k=>k<S.base) o.body) (htm:∀ t v,wr.any (Nat.beq t)=false→tm t=some v→c.tmps t=some v∧AV.lt S.base v) :
  ∃ E2:Env,(∀ k,k<S.base→E2 k=E1 k)∧xaX E2 (S.gen st wr tm xs).heap.next N D (xao (S.gen st wr tm xs).tmps) a∧xae X E2 w0 (S.gen st wr tm xs).heap w∧(∀ o∈(S.gen st wr tm xs).heap.objs,o.ver=S.base∨o∈st):=by
 unfold Spec.match_ at h
 split at h
 case h_2=>cases h
 rename_i m1 h1
 split at h
 case h_2=>cases h
 rename_i m2 h2
 split at h
 case h_2=>cases h
 rename_i m3 h3
 split at h
 case isFalse=>cases h
 rename_i hc
 cases h
 simp only [Bool.and_eq_true] at hc
 obtain ⟨⟨⟨⟨⟨c1,c2⟩,c3⟩,c4⟩,c5⟩,c6⟩:=hc
 obtain ⟨e1,f1⟩:=xiK S.slots ⟨[],[]⟩ m1 h1
 obtain ⟨e2,f2⟩:=xjE (ver:=S.base) S.objs m1 m2 h2
 obtain ⟨km3,⟨r3,hr3⟩,f3⟩:=xjD (ver:=S.base) S.rows S.base m2 m3 rfl h3
 have p3:Pre m3.us m3.us.reverse:=⟨[],by simp⟩
 have p2:Pre m2.us m3.us.reverse:=⟨r3.reverse,by rw [hr3]; simp⟩
 have p1:Pre m1.us m3.us.reverse:=p2.of_ext e2
 obtain ⟨s1,s2⟩:=f1 _ p1
 obtain ⟨o1,o2⟩:=f2 _ p2
 have r1:=f3 _ p3
 have s1:(xbj m3.us.reverse S.slots 0).2=m1.us.length:=s1
 have s2:∀ t v,xft t (xbj m3.us.reverse S.slots 0).1=some v→∃ v',c.tmps t=some v'∧AV.all (xuY S.base m1.km) v∧∀ E1 E2,KEnv S.base E1 E2 m1.km→v.den E2=v'.den E1:=s2
 have hgen:S.gen st wr tm m3.us.reverse=⟨fun t=>match xft t (xbj m3.us.reverse S.slots 0).1 with | some v=>some v | none=>if wr.any (Nat.beq t) then none else tm t,
   ⟨(xbp S.base m3.us.reverse S.objs m1.us.length).1++xd9 S.base m3.us.reverse S.base S.rows m2.us.length++st,S.base+S.rows.length+1⟩⟩:=by
  have hs:xbj m3.us.reverse S.slots 0=((xbj m3.us.reverse S.slots 0).1,m1.us.length):=Prod.ext rfl s1
  have ho:xbp S.base m3.us.reverse S.objs m1.us.length=((xbp S.base m3.us.reverse S.objs m1.us.length).1,m2.us.length):=Prod.ext rfl o1
  unfold Spec.gen
  rw [hs]
  simp only []
  rw [ho]
  rfl
 rw [hgen]
 simp only []
 have kmr:∀ k u,xiv k m2.km=some u→S.base≤k∧k<S.base+S.rows.length:=by
  intro k u hu
  have:=List.all_eq_true.1 c2 _ (xmD hu)
  simp only [Bool.and_eq_true] at this
  exact ⟨Nat.le_of_ble_eq_true this.2,by simpa using this.1⟩
 let E2:Env:=fun k=>if k<S.base then E1 k else match xiv k m2.km with | some (some k')=>E1 k' | _=>.slice none 0 0
 have hold:∀ k,k<S.base→E2 k=E1 k:=fun k hk=>if_pos hk
 have hnew:∀ k,¬ k<S.base→E2 k=(match xiv k m2.km with | some (some k')=>E1 k' | _=>.slice none 0 0):=fun k hk=>if_neg hk
 have hkenv:KEnv S.base E1 E2 m2.km:=by
  refine ⟨hold,fun k u hu=>?_⟩
  have:=kmr k u hu
  rw [hnew k (by omega),hu]
  cases u<;>rfl
 have keyin:∀ k,xuY S.base m2.km k→k<S.base+S.rows.length+1:=by
  rintro k (hk | ⟨u,hu⟩)
  ·omega
  ·have:=kmr k u hu; omega
 have hslot:∀ t v,c.tmps t=some v→a.tmps.getD t undef=v.den E1:=fun t v ht=>by
  have:=hS.ok t
  have e:xao c.tmps t=.is v:=by simp [xao,ht]
  rw [e] at this
  exact this.1
 refine ⟨E2,hold,⟨hS.defers,hS.size,fun t=>?_⟩,?_,?_⟩
 ·-- slots
  let F:Nat→Option AV:=fun t=>match xft t (xbj m3.us.reverse S.slots 0).1 with | some v=>some v | none=>if wr.any (Nat.beq t) then none else tm t
  show xm3 E2 (S.base+S.rows.length+1) a t (xao F t)
  cases hl:xft t (xbj m3.us.reverse S.slots 0).1 with
  | some v =>
   have e:xao F t=.is v:=by simp only [xao,F,hl]
   rw [e]
   obtain ⟨v',q1,q2,q3⟩:=s2 t v hl
   refine ⟨?_,xeT (fun k hk=>keyin k (xkY e2 hk)) _ q2⟩
   rw [hslot t v' q1,q3 E1 E2 (hkenv.of_ext e2)]
  | none =>
   cases hw:wr.any (Nat.beq t) with
   | true =>
    have e:xao F t=.junk:=by simp only [xao,F,hl,hw,if_true]
    rw [e]; trivial
   | false =>
    cases ht:tm t with
    | none =>
     have e:xao F t=.junk:=by simp only [xao,F,hl,hw,Bool.false_eq_true,if_false,ht]
     rw [e]; trivial
    | some v =>
     have e:xao F t=.is v:=by simp only [xao,F,hl,hw,Bool.false_eq_true,if_false,ht]
     rw [e]
     obtain ⟨q1,q2⟩:=htm t v hw ht
     refine ⟨?_,xeM (by omega) _ q2⟩
     rw [hslot t v q1]
     exact (xg9 hold v q2).symm
 ·-- the heap
  have okey:∀ o∈(xbp S.base m3.us.reverse S.objs m1.us.length).1,o.key<S.base∧∀ o'∈st,o'.key≠o.key:=by
   intro o ho
   obtain ⟨_,⟨s,hs,hsk⟩,_⟩:=o2 o ho
   have:=List.all_eq_true.1 c5 s hs
   simp only [Bool.and_eq_true] at this
   rw [← hsk]
   refine ⟨by simpa using this.1,fun o' ho' hk=>?_⟩
   have h2:xhl s.key st=true:=xji.2 ⟨o',ho',hk⟩
   rw [h2] at this
   cases this.2
  have hnd:(((xbp S.base m3.us.reverse S.objs m1.us.length).1).map (fun o=>o.key)).Nodup:=by
   rw [xo0]; exact xjO c4
  have rkey:∀ o∈xd9 S.base m3.us.reverse S.base S.rows m2.us.length,S.base≤o.key∧o.key<S.base+S.rows.length:=fun o ho=>by
   obtain ⟨_,q1,q2,_⟩:=r1 o ho
   exact ⟨q1,q2⟩
  have rnd:∀ (l:List RT) (k j:Nat),((xd9 S.base m3.us.reverse k l j).map (fun o=>o.key)).Nodup∧∀ o∈xd9 S.base m3.us.reverse k l j,k≤o.key:=by
   intro l
   induction l with
   | nil=>intro k j; simp [xd9]
   | cons y l ih =>
    intro k j
    obtain ⟨i1,i2⟩:=ih (k+1) (j+1)
    refine ⟨?_,fun o ho=>?_⟩
    ·simp only [xd9,List.map_cons,List.nodup_cons]
     refine ⟨fun hm=>?_,i1⟩
     obtain ⟨o,ho,hk⟩:=List.mem_map.1 hm
     have:=i2 o ho
     omega
    ·simp only [xd9] at ho
     rcases List.mem_cons.1 ho with rfl | ho
     ·exact Nat.le_refl _
     ·have:=i2 o ho; omega
  have mem:∀ o,o∈(xbp S.base m3.us.reverse S.objs m1.us.length).1++xd9 S.base m3.us.reverse S.base S.rows m2.us.length++st→o∈(xbp S.base m3.us.reverse S.objs m1.us.length).1∨o∈xd9 S.base m3.us.reverse S.base S.rows m2.us.length∨o∈st:=by
   intro o ho
   rcases List.mem_append.1 ho with ho | ho
   ·rcases List.mem_append.1 ho with ho | ho
    ·exact .inl ho
    ·exact .inr (.inl ho)
   ·exact .inr (.inr ho)
  refine hH.remap (fun k=>?_) ?_ (fun k=>if k<S.base then some k else match xiv k m2.km with | some (some k')=>some k' | _=>none) ?_ ?_ ?_ ?_
  ·show (if k<S.base then E1 k else _).oneCell'=true
   split
   ·exact hH.env k
   ·split
    ·exact hH.env _
    ·rfl
  ·intro o ho
   rcases mem o ho with ho | ho | ho
   ·obtain ⟨_,_,_,o',ho',q1,q2,_,q3⟩:=o2 o ho
    have hb:=hH.objs o' ho'
    rw [q1] at hb
    exact q3 E1 E2 w hkenv (hold _ (okey o ho).1) hb
   ·obtain ⟨_,q3,q4,_,q6⟩:=r1 o ho
    rcases q6 with ⟨o',ho',t1,t2,_,t3⟩ | ⟨t1,_,t2⟩
    ·exact t3 E1 E2 w (by rw [hnew _ (by omega),t1]) (hH.objs o' ho')
    ·refine t2 E2 w ?_
     rw [hnew _ (by omega)]
     split
     ·rename_i k' hk'; exact absurd hk' (t1 k')
     ·rfl
   ·exact (hH.objs o (hst1 o ho)).keep (hold _ (hst2 o ho).1) (xaY (fun k hk=>hold k hk) (hst2 o ho).2) (fun _ _=>rfl) (Nat.le_refl _) (fun _ _=>rfl)
  ·intro o ho
   rcases mem o ho with ho | ho | ho
   ·obtain ⟨_,_,_,o',ho',q1,q2,qb,q3⟩:=o2 o ho
    have hlt:=(okey o ho).1
    exact .inr ⟨o',ho',by rw [q1]; exact if_pos hlt,by rw [q1]; exact hold _ hlt,q2,qb.o⟩
   ·obtain ⟨_,q3,q4,_,q6⟩:=r1 o ho
    have hlt:¬ o.key<S.base:=by omega
    rcases q6 with ⟨o',ho',t1,t2,tb,t3⟩ | ⟨t1,tb,t2⟩
    ·exact .inr ⟨o',ho',by simp only [if_neg hlt,t1],by rw [hnew _ hlt,t1],t2,tb⟩
    ·refine .inl ⟨?_,?_,tb⟩
     ·simp only [if_neg hlt]
     ·rw [hnew _ hlt]
      split
      ·rename_i k' hk'; exact absurd hk' (t1 k')
      ·rfl
   ·have hlt:=(hst2 o ho).1
    exact .inr ⟨o,hst1 o ho,if_pos hlt,hold _ hlt,fun h=>h,(xiE.refl _).o⟩
  ·intro o ho o' ho' hown k hk hk'
   have target:∀ o,o∈xd9 S.base m3.us.reverse S.base S.rows m2.us.length→∀ k,(if o.key<S.base then some o.key else match xiv o.key m2.km with | some (some k')=>some k' | _=>none)=some k→xiv o.key m2.km=some (some k):=by
    intro o ho k hk
    have:=rkey o ho
    rw [if_neg (by omega)] at hk
    split at hk
    ·rename_i k' hk'; cases hk; exact hk'
    ·cases hk
   have low:∀ o,(o∈(xbp S.base m3.us.reverse S.objs m1.us.length).1∨o∈st)→∀ k,(if o.key<S.base then some o.key else match xiv o.key m2.km with | some (some k')=>some k' | _=>none)=some k→o.key=k∧(xhl k S.objs=true∨xhl k st=true):=by
    intro o ho k hk
    have hlt:o.key<S.base:=by
     rcases ho with ho | ho
     ·exact (okey o ho).1
     ·exact (hst2 o ho).1
    rw [if_pos hlt] at hk
    cases hk
    refine ⟨rfl,?_⟩
    rcases ho with ho | ho
    ·obtain ⟨_,⟨s,hs,hsk⟩,_⟩:=o2 o ho
     exact .inl (xji.2 ⟨s,hs,hsk⟩)
    ·exact .inr (xji.2 ⟨o,ho,rfl⟩)
   have apart:∀ o,o∈xd9 S.base m3.us.reverse S.base S.rows m2.us.length→∀ k,xiv o.key m2.km=some (some k)→xhl k S.objs≠true∧xsc k st≠true:=by
    intro o ho k hk
    have:=List.all_eq_true.1 c3 k (List.mem_filterMap.2 ⟨_,xmD hk,rfl⟩)
    simp only [Bool.and_eq_true] at this
    exact ⟨fun h=>(by rw [h] at this; cases this.1),fun h=>(by rw [h] at this; cases this.2)⟩
   have lowO:∀ o,o∈(xbp S.base m3.us.reverse S.objs m1.us.length).1→∀ k,o.key=k→xhl k S.objs=true:=by
    intro o ho k hk
    obtain ⟨_,⟨s,hs,hsk⟩,_⟩:=o2 o ho
    exact xji.2 ⟨s,hs,hsk.trans hk⟩
   rcases mem o ho with h | h | h<;>rcases mem o' ho' with h' | h' | h'
   ·rw [(low o (.inl h) k hk).1,(low o' (.inl h') k hk').1]
   ·exact absurd (lowO o h k (low o (.inl h) k hk).1) (apart o' h' k (target o' h' k hk')).1
   ·rw [(low o (.inl h) k hk).1,(low o' (.inr h') k hk').1]
   ·exact absurd (lowO o' h' k (low o' (.inl h') k hk').1) (apart o h k (target o h k hk)).1
   ·exact xlw (xjO c1) (xmD (target o h k hk)) (xmD (target o' h' k hk'))
   ·-- an own row out of what still stands
    exfalso
    have ht:=target o h k hk
    have hkey:=(low o' (.inr h') k hk').1
    obtain ⟨_,_,_,_,q6⟩:=r1 o h
    rcases q6 with ⟨o1,ho1,t1,t2,_⟩ | ⟨t1,_⟩
    ·rw [ht] at t1
     have e:o1.key=k:=by injection t1 with t1; injection t1 with t1; exact t1.symm
     have:=hH.uniq o' (hst1 o' h') o1 ho1 (by rw [hkey,e])
     exact (apart o h k ht).2 (xpV.2 ⟨o',h',hkey,by rw [this]; exact t2 hown⟩)
    ·exact t1 k ht
   ·rw [(low o (.inr h) k hk).1,(low o' (.inl h') k hk').1]
   ·exact absurd (xpV.2 ⟨o,h,(low o (.inr h) k hk).1,hown⟩) (apart o' h' k (target o' h' k hk')).2
   ·rw [(low o (.inr h) k hk).1,(low o' (.inr h') k hk').1]
  ·intro o ho o' ho' hk
   rcases mem o ho with h | h | h<;>rcases mem o' ho' with h' | h' | h'
   ·exact xi6 hnd h h' hk
   ·have:=(okey o h).1; have:=rkey o' h'; omega
   ·exact absurd hk.symm ((okey o h).2 o' h')
   ·have:=(okey o' h').1; have:=rkey o h; omega
   ·exact xi6 (rnd S.rows S.base m2.us.length).1 h h' hk
   ·have:=(hst2 o' h').1; have:=rkey o h; omega
   ·exact absurd hk ((okey o' h').2 o h)
   ·have:=(hst2 o h).1; have:=rkey o' h'; omega
   ·exact hH.uniq o (hst1 o h) o' (hst1 o' h') hk
  ·intro o ho
   rcases mem o ho with ho | ho | ho
   ·obtain ⟨_,_,q,_⟩:=o2 o ho
    have:=(okey o ho).1
    exact ⟨by omega,xaY keyin q⟩
   ·obtain ⟨_,_,q4,q5,_⟩:=r1 o ho
    exact ⟨by omega,xgC q5⟩
   ·have:=hst2 o ho
    exact ⟨by omega,xaY (fun k hk=>by omega) this.2⟩
 ·intro o ho
  rcases List.mem_append.1 ho with ho | ho
  ·rcases List.mem_append.1 ho with ho | ho
   ·exact .inl (o2 o ho).1
   ·exact .inl (r1 o ho).1
  ·exact .inr ho
theorem xrW {S:Spec} {st:List Obj} {ver:Nat} {c:Cfg} {xs:List U} (h:S.match_ P st ver c=some xs):xrv c.heap.objs ver st=true:=by
 unfold Spec.match_ at h
 split at h
 case h_2=>cases h
 split at h
 case h_2=>cases h
 split at h
 case h_2=>cases h
 split at h
 case isFalse=>cases h
 rename_i hc
 simp only [Bool.and_eq_true] at hc
 exact hc.2
theorem xl6 {objs:List Obj} {ver:Nat}:∀ {st:List Obj},xrv objs ver st=true→∀ o∈st,∃ o'∈objs,o'.key=o.key∧o'.ver<ver
 | [],_,o,ho=>by cases ho
 | s::r,h,o,ho=>by
  unfold xrv at h
  rw [Bool.and_eq_true] at h
  rcases List.mem_cons.1 ho with rfl | ho
  ·have h1:=h.1
   split at h1
   ·rename_i o' hf
    obtain ⟨hm,hk⟩:=xan hf
    exact ⟨o',hm,hk,by simpa using h1⟩
   ·cases h1
  ·exact xl6 h.2 o ho
end
end Go.Sy
set_option linter.unusedVariables false
namespace Go.Sy
open Go.RowKit
theorem xEp {look:Nat→Nat} {o:Oper} {m:Nat} (h:(CheckFast.one look o).testBit m=true):∃ e∈o.after,Region.binds .any e=true∧(e.on=m∨(look e.on).testBit m=true):=by
 have key:∀ (l:List Edge) (s:Nat),(l.foldl (fun s e=>if Region.binds .any e then s ||| 2 ^ e.on ||| look e.on else s) s).testBit m=true→s.testBit m=true∨∃ e∈l,Region.binds .any e=true∧(e.on=m∨(look e.on).testBit m=true):=by
  intro l
  induction l with
  | nil=>intro s h; exact .inl h
  | cons e r ih =>
   intro s h
   rcases ih _ h with h | ⟨e',he',h2⟩
   ·dsimp only at h
    by_cases hb:Region.binds .any e=true
    ·rw [if_pos hb] at h
     simp only [Nat.testBit_or,Nat.testBit_two_pow,Bool.or_eq_true,decide_eq_true_eq] at h
     rcases h with (h | h) | h
     ·exact .inl h
     ·exact .inr ⟨e,by simp,hb,.inl h⟩
     ·exact .inr ⟨e,by simp,hb,.inr h⟩
    ·rw [if_neg hb] at h
     exact .inl h
   ·exact .inr ⟨e',by simp [he'],h2⟩
 unfold CheckFast.one at h
 rw [← Array.foldl_toList] at h
 rcases key _ _ h with h | ⟨e,he,h2⟩
 ·simp at h
 ·exact ⟨e,by simpa using he,h2⟩
theorem xrY:∀ (l:List Oper) (acc:List Nat) (j:Nat),j<acc.length→(xe3 l acc).getD j 0=acc.getD j 0
 | [],acc,j,_=>rfl
 | o::r,acc,j,h=>by
  unfold xe3
  rw [CheckFast.force_eq,xrY r _ j (by simp; omega)]
  simp [List.getD_eq_getElem?_getD,List.getElem?_append_left h]
theorem xxG:∀ (l:List Oper) (acc:List Nat) (k:Nat) (o:Oper) (m:Nat),l[k]?=some o→((xe3 l acc).getD (acc.length+k) 0).testBit m=true →
  ∃ e∈o.after,Region.binds .any e=true∧(e.on=m∨(e.on<acc.length+k∧((xe3 l acc).getD e.on 0).testBit m=true))
 | [],acc,k,o,m,h,_=>by simp at h
 | x::r,acc,0,o,m,h,hb=>by
  simp only [List.getElem?_cons_zero,Option.some.injEq] at h
  subst h
  unfold xe3 at hb ⊢
  rw [CheckFast.force_eq] at hb ⊢
  rw [xrY r _ _ (by simp)] at hb
  have hb':(CheckFast.one (fun i=>acc.getD i 0) x).testBit m=true:=by simpa [List.getD_eq_getElem?_getD] using hb
  obtain ⟨e,he,h1,h2⟩:=xEp hb'
  refine ⟨e,he,h1,?_⟩
  rcases h2 with h2 | h2
  ·exact .inl h2
  ·have hlt:e.on<acc.length:=by
    rcases Nat.lt_or_ge e.on acc.length with h | h
    ·exact h
    ·simp [List.getD_eq_getElem?_getD,List.getElem?_eq_none h] at h2
   refine .inr ⟨by omega,?_⟩
   rw [xrY r _ _ (by simp; omega)]
   simpa [List.getD_eq_getElem?_getD,List.getElem?_append_left hlt] using h2
 | x::r,acc,k+1,o,m,h,hb=>by
  simp only [List.getElem?_cons_succ] at h
  unfold xe3 at hb ⊢
  rw [CheckFast.force_eq] at hb ⊢
  have e1:acc.length+(k+1)=(acc++[CheckFast.one (fun i=>acc.getD i 0) x]).length+k:=by simp; omega
  rw [e1] at hb ⊢
  exact xxG r _ k o m h hb
def xle (ops:Array Oper) (S:Nat→Bool):Prop:=∀ i o,ops[i]?=some o→S i=true→∀ e∈o.after,Region.binds .any e=true→S e.on=true
theorem xiA {ops:Array Oper} {S:Nat→Bool} (hS:xle ops S):∀ (n j:Nat),j<n→∀ o,ops[j]?=some o→(∀ e∈o.after,Region.binds .any e=true→S e.on=true)→∀ m,((xe3 ops.toList []).getD j 0).testBit m=true→S m=true
 | 0,j,h,_,_,_,_,_=>by omega
 | n+1,j,hj,o,ho,hpre,m,hm=>by
  have hm':((xe3 ops.toList []).getD (([]:List Nat).length+j) 0).testBit m=true:=by simpa using hm
  obtain ⟨e,he,hb,h2⟩:=xxG ops.toList [] j o m (by simpa using ho) hm'
  rcases h2 with h2 | ⟨h2,h3⟩
  ·rw [← h2]; exact hpre e he hb
  ·have hse:=hpre e he hb
   have h2:e.on<j:=by simpa using h2
   cases hoe:ops[e.on]? with
   | none =>
    exfalso
    have hlen:∀ (l:List Oper) (acc:List Nat),(xe3 l acc).length=acc.length+l.length:=by
     intro l
     induction l with
     | nil=>intro acc; simp [xe3]
     | cons x r ih=>intro acc; unfold xe3; rw [CheckFast.force_eq,ih]; simp; omega
    have hge:ops.size≤e.on:=by
     rcases Nat.lt_or_ge e.on ops.size with h | h
     ·simp [h] at hoe
     ·exact h
    rw [List.getD_eq_getElem?_getD,List.getElem?_eq_none (by rw [hlen]; simpa using hge)] at h3
    simp at h3
   | some oe=>exact xiA hS n e.on (by omega) oe hoe (hS e.on oe hoe hse) m h3
theorem xgs {t:Nat}:∀ (L:List Item) (i:Nat) (S S':Nat→Bool) (s s':xa4),s t=s' t→(∀ k it,L[k]?=some it→it.o.dst=some t→S (i+k)=S' (i+k))→xbq S i L s t=xbq S' i L s' t
 | [],_,_,_,_,_,h,_=>h
 | it::r,i,S,S',s,s',h,hS=>by
  unfold xbq
  refine xgs r (i+1) S S' _ _ ?_ (fun k x hx hd=>by have:=hS (k+1) x (by simpa using hx) hd; rwa [show i+(k+1)=i+1+k by omega] at this)
  by_cases hd:it.o.dst=some t
  ·have h0:=hS 0 it (by simp) hd
   simp only [Nat.add_zero] at h0
   rw [h0]
   split
   ·simp [put,hd,xeA]
   ·exact h
  ·have hput:∀ (s:xa4),put s it.o.dst it.slot t=s t:=fun s=>by
    unfold put
    cases hdd:it.o.dst with
    | none=>rfl
    | some d=>exact xfb _ _ (fun e=>hd (by rw [hdd,e]))
   split<;>split<;>simp [hput,h]
def xf7 (key:Nat) (l:List Obj):List Obj:=l.filter fun o=>Nat.beq o.key key
theorem xpX (key:Nat):∀ (l:List Obj),xap key l=(xf7 key l).head?
 | []=>rfl
 | o::r=>by
  unfold xap xf7
  cases h:Nat.beq o.key key with
  | true=>simp [h]
  | false =>
   simp only [List.filter_cons,h,Bool.false_eq_true,if_false]
   exact xpX key r
theorem xkS {o:Obj} {l:List Obj}:o∈l↔o∈xf7 o.key l:=by
 unfold xf7
 rw [List.mem_filter]
 simp
structure Fine (it:Item):Prop where
 pure:it.x.pure=true∨it.ctx=[]∨it.sure=true
 rm:∀ k∈it.x.rm,k<it.key
 touch:∀ o∈it.x.add,it.touch o.key=true
 ver:∀ o∈it.x.add,it.key≤o.ver
 noLoop:∀ o∈it.x.add,xyN o.body=true
 below:∀ o∈it.x.add,AV.ltL (it.key+it.x.nk) o.body.cellsOf
 val:AV.lt (it.key+it.x.nk) it.x.v
theorem xx1 {it:Item} (h:it.fine=true):Fine it:=by
 unfold Item.fine at h
 simp only [Bool.and_eq_true,Bool.or_eq_true,List.all_eq_true] at h
 obtain ⟨⟨⟨h1,h2⟩,h3⟩,h4⟩:=h
 refine ⟨by rcases h1 with (h1 | h1) | h1; exact .inl h1; exact .inr (.inl (by simpa using h1)); exact .inr (.inr h1),fun k hk=>by simpa using h2 k hk,fun o ho=>(h3 o ho).1.1.1,fun o ho=>Nat.le_of_ble_eq_true (h3 o ho).1.1.2,fun o ho=>(h3 o ho).1.2,fun o ho=>(xc3 _).2 fun k hk=>by simpa using (h3 o ho).2 k hk,(xeD _).2 fun k hk=>by simpa using h4 k hk⟩
theorem xl4 {it:Item} {key:Nat}:it.touch key=true↔key∈it.x.rm∨(it.key≤key∧key<it.key+it.x.nk):=by
 unfold Item.touch
 rw [Bool.or_eq_true,Bool.and_eq_true,xkA]
 simp
theorem Fine.addLt {it:Item} (h:Fine it) {o:Obj} (ho:o∈it.x.add):o.key<it.key+it.x.nk:=by
 rcases xl4.1 (h.touch o ho) with h1 | h1
 ·have:=h.rm _ h1; omega
 ·exact h1.2
theorem xnW {p:Nat→Prop} {b:Body} (h:xyN b=true) (hl:AV.allL p b.cellsOf):xbn p b:=by
 cases b with
 | loop=>cases h
 | _=>exact hl
theorem xmv {it:Item} {key:Nat} (hf:Fine it) (h:it.touch key=false) (l:List Obj):xf7 key (xfu it.x l)=xf7 key l:=by
 unfold xf7 xfu
 rw [List.filter_append]
 have h1:it.x.add.filter (fun o=>Nat.beq o.key key)=[]:=by
  rw [List.filter_eq_nil_iff]
  intro o ho hb
  rw [← Nat.eq_of_beq_eq_true hb,hf.touch o ho] at h
  cases h
 rw [h1,List.nil_append,List.filter_filter]
 apply List.filter_congr
 intro o _
 cases hk:Nat.beq o.key key with
 | false=>rfl
 | true =>
  rw [Nat.eq_of_beq_eq_true hk]
  have:it.x.rm.any (Nat.beq key)=false:=by
   unfold Item.touch at h
   rw [Bool.or_eq_false_iff] at h
   exact h.1
  rw [this]; rfl
theorem xmw {x:Eff} {key:Nat} {l l':List Obj} (h:xf7 key l=xf7 key l'):xf7 key (xfu x l)=xf7 key (xfu x l'):=by
 unfold xfu
 have e:∀ l:List Obj,xf7 key (l.filter (fun o=>!(x.rm.any (Nat.beq o.key))))=(xf7 key l).filter (fun o=>!(x.rm.any (Nat.beq o.key))):=by
  intro l
  unfold xf7
  rw [List.filter_filter,List.filter_filter]
  apply List.filter_congr
  intro o _
  exact Bool.and_comm _ _
 unfold xf7 at e ⊢
 rw [List.filter_append,List.filter_append,e,e]
 unfold xf7 at h
 rw [h]
theorem xe1 {key:Nat}:∀ (L:List Item) (i:Nat) (S S':Nat→Bool) (l l':List Obj),(∀ it∈L,Fine it)→xf7 key l=xf7 key l'→(∀ k it,L[k]?=some it→it.touch key=true→S (i+k)=S' (i+k))→xf7 key (xdT S i L l)=xf7 key (xdT S' i L l')
 | [],_,_,_,_,_,_,h,_=>h
 | it::r,i,S,S',l,l',hf,h,hS=>by
  unfold xdT
  refine xe1 r (i+1) S S' _ _ (fun y hy=>hf y (by simp [hy])) ?_ (fun k x hx hd=>by have:=hS (k+1) x (by simpa using hx) hd; rwa [show i+(k+1)=i+1+k by omega] at this)
  by_cases hd:it.touch key=true
  ·have h0:=hS 0 it (by simp) hd
   simp only [Nat.add_zero] at h0
   rw [h0]
   split
   ·exact xmw h
   ·exact h
  ·have hne:it.touch key=false:=by simpa using hd
   split<;>split<;>simp [xmv (hf it (by simp)) hne,h]
theorem xxw {key:Nat} {j:Nat} {x:Item}:∀ (L:List Item) (i k:Nat) (S S':Nat→Bool) (l:List Obj),(∀ it∈L,Fine it)→L[k]?=some x→i+k=j→S j=false→(∀ m,S' m=(S m||Nat.beq m j)) →
  (∀ k' it,L[k']?=some it→k<k'→x.touch key=true→it.touch key=true→S (i+k')=false)→xf7 key (xdT S' i L l)=xf7 key (xfu x.x (xdT S i L l))
 | [],_,_,_,_,_,_,h,_,_,_,_=>by simp at h
 | it::r,i,0,S,S',l,hf,h,hj,hSj,hS',hafter=>by
  simp only [List.getElem?_cons_zero,Option.some.injEq] at h
  subst h
  have hj:i=j:=by omega
  subst hj
  have hfr:∀ y∈r,Fine y:=fun y hy=>hf y (by simp [hy])
  unfold xdT
  rw [hS',hSj,xdh]
  simp only [Bool.or_true,if_true,Bool.false_eq_true,if_false]
  have hother:∀ k' y,r[k']?=some y→S' (i+1+k')=S (i+1+k'):=fun k' y _=>by
   rw [hS',xgb (by omega)]; simp
  by_cases ht:it.touch key=true
  ·-- nothing behind it touches the key
   have hno:∀ (l:List Obj),xf7 key (xdT S (i+1) r l)=xf7 key l:=by
    intro l
    have:=xe1 (key:=key) r (i+1) S (fun _=>false) l l hfr rfl (fun k' y hy hty=>by
     have:=hafter (k'+1) y (by simpa using hy) (by omega) ht hty
     rwa [show i+(k'+1)=i+1+k' by omega] at this)
    rw [this]
    have e:∀ (L:List Item) (i:Nat) (l:List Obj),xdT (fun _=>false) i L l=l:=by
     intro L
     induction L with
     | nil=>intro i l; rfl
     | cons y r ih=>intro i l; unfold xdT; simp only [Bool.false_eq_true,if_false]; exact ih _ _
    rw [e]
   rw [xe1 (key:=key) r (i+1) S' S _ _ hfr rfl (fun k' y hy _=>hother k' y hy),hno]
   exact xmw (x:=it.x) (hno l).symm
  ·have hne:it.touch key=false:=by simpa using ht
   rw [xmv (hf it (by simp)) hne]
   exact xe1 r (i+1) S' S _ _ hfr (xmv (hf it (by simp)) hne l) (fun k' y hy _=>hother k' y hy)
 | it::r,i,k+1,S,S',l,hf,h,hj,hSj,hS',hafter=>by
  simp only [List.getElem?_cons_succ] at h
  unfold xdT
  have e:S' i=S i:=by rw [hS',xgb (by omega)]; simp
  rw [e]
  exact xxw r (i+1) k S S' _ (fun y hy=>hf y (by simp [hy])) h (by omega) hSj hS' (fun k' y hy hlt hx hty=>by
   have:=hafter (k'+1) y (by simpa using hy) (by omega) hx hty
   rwa [show i+(k'+1)=i+1+k' by omega] at this)
end Go.Sy
