/- Several texts in one (wip/pack.py): XSyT XSyU XSyV XSyW XSyX XSyY XSyZ XSySq XSyF. -/
import Derived.OrdersIn
import Derived.Still
import Derived.LoopNIn
import Derived.RangeFuncRecord
import Derived.Scope
import Derived.Test.YthfjhbbpdhjklaaGreatQTI03
set_option linter.unusedVariables false
namespace Go.Sy
open Go.RowKit
def xmD (p:Nat→Prop):Slot→Prop
 | .is v=>AV.all p v
 | .when _ _ v=>AV.all p v
 | .junk=>True
def xgM (p:Nat→Prop) (s:xaS):Prop:=∀ t,xmD p (s t)
theorem xpW {p q:Nat→Prop} (h:∀ k,p k→q k) {sl:Slot} (hs:xmD p sl):xmD q sl:=by
 cases sl with
 | is v=>exact xdU h v hs
 | when g want v=>exact xdU h v hs
 | junk=>trivial
theorem xtx {p:Nat→Prop} {s:xaS} (h:xgM p s) {sl:Slot} (hs:xmD p sl) (dst:Option Nat):xgM p (put s dst sl):=by
 intro t
 cases dst with
 | none=>exact h t
 | some d =>
  show xmD p (upd s d sl t)
  by_cases ht:t=d
  ·subst ht; rw [xbH]; exact hs
  ·rw [xcS _ _ ht]; exact h t
theorem xsr {p:Nat→Prop} {s:xaS} (h:xgM p s) (c:Ctx) (x:Operand) (v:AV) (hx:readS c s x=some v):AV.all p v:=by
 cases x with
 | tmp t =>
  simp only [readS] at hx
  have:=h t
  split at hx
  ·rename_i v' hs; cases hx; rw [hs] at this; exact this
  ·rename_i g want v' hs
   rw [hs] at this
   split at hx
   ·cases hx; exact this
   ·cases hx
  ·cases hx
 | const c=>cases hx; exact xfI _ c
 | global g=>cases hx; trivial
 | func f=>cases hx; exact ⟨trivial,trivial⟩
theorem xwW {p:Nat→Prop} {ctx:Ctx} {v:AV} (h:AV.all p v):xmD p (xiK ctx v):=by
 unfold xiK
 split<;>exact h
theorem Item.slotAll {it:Item} {p:Nat→Prop} (h:AV.all p it.x.v):xmD p it.slot:=by
 unfold Item.slot
 split
 ·exact xwW h
 ·exact h
section run
variable {P:Program} {Γ:Con} {call:xgj} {N:Nat} {ops:Array Oper} {objs0:List Obj}
def xjN (ops:Array Oper) (it:Item) (s:xaS) (seen:List Nat):Prop :=
 match it.ctx with
 | []=>it.o.guard=none
 | (g,want,b)::r=>g∈seen∧xbg s 9 g want=some ((g,want,b)::r)∧∃ j oj,it.o.guard=some (j,want)∧ops[j]?=some oj∧oj.dst=some g
structure Same (it it0:Item):Prop where
 o:it.o=it0.o
 ctx:it.ctx=it0.ctx
 key:it.key=it0.key
 all:it.all=it0.all
 foot:it.foot=it0.foot
 rm:it.x.rm=it0.x.rm
 nk:it.x.nk=it0.x.nk
 add:it.x.add=it0.x.add
 v:(it.x.v=it0.x.v∧it.x.p=it0.x.p)∨∃ b v,it0.x.v=.bool b∧it.x.v=.val (.bool v)∧it.x.p=xrG it0.x.p (some (b=v))
theorem xq5 (as:List (Nat×Bool)) (it0:Item) (sure:Bool):Same { xwK as it0 with sure:=sure } it0:=by
 unfold xwK
 split
 ·split
  ·split
   ·rename_i b hv
    exact ⟨rfl,rfl,rfl,rfl,rfl,rfl,rfl,rfl,.inr ⟨b,_,hv,rfl,rfl⟩⟩
   ·exact ⟨rfl,rfl,rfl,rfl,rfl,rfl,rfl,rfl,.inl ⟨rfl,rfl⟩⟩
  ·exact ⟨rfl,rfl,rfl,rfl,rfl,rfl,rfl,rfl,.inl ⟨rfl,rfl⟩⟩
 ·exact ⟨rfl,rfl,rfl,rfl,rfl,rfl,rfl,rfl,.inl ⟨rfl,rfl⟩⟩
def xzB (P:Program) (Γ:Con) (call:xgj) (it:Item) (s:xaS) (objs0:List Obj) (H:Heap):Prop :=
 (it.sure=true→xdH it.ctx)∧((∃ it0,xtw P Γ call it.o s objs0 H it.ctx=some it0∧Same it it0)∨¬ xdH it.ctx)∧it.key=H.next
def xCc (P:Program) (Γ:Con) (call:xgj) (N:Nat) (ops:Array Oper) (objs0:List Obj):List Item→List Nat→xaS→Heap→Prop
 | [],_,_,_=>True
 | it::r,seen,s,H=>∃ seen',xel N it.o.dst seen=some seen'∧it.fine=true∧xjN ops it s seen∧xzB P Γ call it s objs0 H ∧
   xCc P Γ call N ops objs0 r seen' (put s it.o.dst it.slot) (H.eff it.x)
theorem xxQ {o:Oper} {s:xaS} {H:Heap} {ctx:Ctx} {it:Item} (h:xtw P Γ call o s objs0 H ctx=some it):it.o=o∧it.ctx=ctx∧it.key=H.next:=by
 unfold xtw at h
 simp only [] at h
 split at h
 ·split at h
  ·cases h; exact ⟨rfl,rfl,rfl⟩
  ·cases h
 ·split at h
  ·split at h
   ·cases h; exact ⟨rfl,rfl,rfl⟩
   ·split at h
    ·cases h; exact ⟨rfl,rfl,rfl⟩
    ·cases h
  ·cases h
 ·split at h
  ·cases h; exact ⟨rfl,rfl,rfl⟩
  ·cases h
theorem xvv {o:Oper} {s:xaS} {seen:List Nat} {ctx:Ctx} (h:xvw ops o s seen=some ctx) {it:Item} (e1:it.o=o) (e2:it.ctx=ctx):xjN ops it s seen:=by
 unfold xvw at h
 unfold xjN
 rw [e1,e2]
 split at h
 ·rename_i hg
  cases h
  exact xoU hg
 ·rename_i g want hg
  split at h
  ·rename_i hseen
   obtain ⟨b,r,rfl⟩:=xqK h
   obtain ⟨x,hx,hb⟩:=List.any_eq_true.1 hseen
   exact ⟨by rw [Nat.eq_of_beq_eq_true hb]; exact hx,h,xoT hg⟩
  ·cases h
 ·cases h
theorem xlZ {o:Oper} {s:xaS} {seen:List Nat} {ctx:Ctx} {b:Bool} (hc:xvw ops o s seen=some ctx) (hk:xyJ ops o s=some b):xdH ctx↔b=true:=by
 unfold xyJ at hk
 unfold xvw at hc
 split at hk
 ·rename_i g want hg
  rw [hg] at hc
  simp only [] at hc
  split at hc
  ·unfold xjd at hk
   unfold xbg at hc
   split at hk
   ·rename_i v hv
    rw [hv] at hc
    cases hc
    cases hk
    simp [xdH]
   ·rename_i v hnb hv
    rw [hv] at hc
    simp only [] at hc
    split at hc
    ·rename_i b' hw
     exfalso
     cases v<;>first | (simp [AV.weak] at hw; done) | skip
     rename_i bb
     exact hnb bb rfl
    ·cases hc
   ·cases hk
  ·cases hc
 ·cases hk
theorem xzM {as:List (Nat×Bool)} {o:Oper} {s:xaS} {seen:List Nat} {H:Heap} {ctx:Ctx} {it:Item} (hc:xvw ops o s seen=some ctx) (h:xzN P Γ call as ops o s objs0 H ctx=some it):it.o=o∧it.ctx=ctx∧xzB P Γ call it s objs0 H:=by
 unfold xzN at h
 split at h
 ·rename_i hk
  cases h
  have:=xlZ hc hk
  exact ⟨rfl,rfl,⟨fun h=>(by cases h),Or.inr (fun h=>by have:=this.1 h; cases this),rfl⟩⟩
 ·rename_i hk
  have hkc:=xlZ hc hk
  cases hs:xtw P Γ call o s objs0 H ctx with
  | none=>rw [hs] at h; cases h
  | some it0 =>
   rw [hs] at h
   cases h
   obtain ⟨e1,e2,e3⟩:=xxQ hs
   have sm:=xq5 as it0 true
   have s1:=sm.o.trans e1
   have s2:=sm.ctx.trans e2
   exact ⟨s1,s2,⟨fun _=>by rw [s2]; exact hkc.2 rfl,Or.inl ⟨it0,by rw [s1,s2]; exact hs,sm⟩,sm.key.trans e3⟩⟩
 ·cases hs:xtw P Γ call o s objs0 H ctx with
  | none=>rw [hs] at h; cases h
  | some it0 =>
   rw [hs] at h
   cases h
   obtain ⟨e1,e2,e3⟩:=xxQ hs
   have sm:=xq5 as it0 false
   have s1:=sm.o.trans e1
   have s2:=sm.ctx.trans e2
   exact ⟨s1,s2,⟨fun h=>(by cases h),Or.inl ⟨it0,by rw [s1,s2]; exact hs,sm⟩,sm.key.trans e3⟩⟩
theorem xnQ {as:List (Nat×Bool)}:∀ (l:List Oper) (seen:List Nat) (s:xaS) (H:Heap) (L:List Item),runD P Γ call as N ops objs0 l seen s H=some L→L.map (·.o)=l∧xCc P Γ call N ops objs0 L seen s H
 | [],seen,s,H,L,h=>by cases h; exact ⟨rfl,trivial⟩
 | o::rest,seen,s,H,L,h=>by
  unfold runD at h
  split at h
  ·rename_i seen' ctx hseen hctx
   split at h
   ·rename_i it hit
    obtain ⟨e1,e2,e3⟩:=xzM hctx hit
    split at h
    ·rename_i hfine
     split at h
     ·rename_i l hl
      cases h
      obtain ⟨h1,h2⟩:=xnQ rest seen' _ _ l hl
      refine ⟨by simp [h1,e1],seen',by rw [e1]; exact hseen,hfine,xvv hctx e1 e2,e3,by rw [e1]; exact h2⟩
     ·cases h
    ·cases h
   ·cases h
  ·cases h
end run
section chain
variable {P:Program} {Γ:Con} {call:xgj} {N:Nat} {ops:Array Oper} {objs0:List Obj}
theorem xl9:∀ (L:List Item) (i:Nat) (S:Nat→Bool) (s:xaS),(∀ m,i≤m→S m=false)→xbv S i L s=s
 | [],_,_,_,_=>rfl
 | it::r,i,S,s,h=>by
  unfold xbv
  rw [h i (Nat.le_refl _)]
  exact xl9 r (i+1) S s (fun m hm=>h m (by omega))
theorem xlg:∀ (L:List Item) (i:Nat) (S:Nat→Bool) (l:List Obj),(∀ m,i≤m→S m=false)→xeb S i L l=l
 | [],_,_,_,_=>rfl
 | it::r,i,S,l,h=>by
  unfold xeb
  rw [h i (Nat.le_refl _)]
  exact xlg r (i+1) S l (fun m hm=>h m (by omega))
theorem xjt:∀ (L:List Item) (n:Nat),n≤xgk L n
 | [],n=>Nat.le_refl _
 | it::r,n=>by
  unfold xgk
  exact Nat.le_trans (by omega) (xjt r _)
theorem xnY:∀ (L:List Item) (k k':Nat) (n:Nat),k≤k'→xgk (L.take k) n≤xgk (L.take k') n
 | [],k,k',n,_=>by simp
 | it::r,0,k',n,_=>by simp only [List.take_zero]; exact xjt _ _
 | it::r,k+1,k'+1,n,h=>by
  simp only [List.take_succ_cons]
  exact xnY r k k' _ (by omega)
 | it::r,k+1,0,n,h=>by omega
theorem xnZ:∀ (L:List Item) (k:Nat) (n:Nat) (it:Item),L[k]?=some it→xgk (L.take (k+1)) n=xgk (L.take k) n+it.x.nk
 | [],k,n,it,h=>by simp at h
 | x::r,0,n,it,h=>by simp at h; subst h; rfl
 | x::r,k+1,n,it,h=>by
  simp only [List.getElem?_cons_succ] at h
  simp only [List.take_succ_cons]
  exact xnZ r k _ it h
structure xBg (P:Program) (Γ:Con) (call:xgj) (N:Nat) (ops:Array Oper) (objs0:List Obj) (i k:Nat) (L:List Item) (seen:List Nat) (s:xaS) (H:Heap) (it:Item) (seenk:List Nat):Prop where
 step:xzB P Γ call it (xbv (fun x=>decide (x<i+k)) i L s) objs0 ⟨xeb (fun x=>decide (x<i+k)) i L H.objs,xgk (L.take k) H.next⟩
 fine:it.fine=true
 guard:xjN ops it (xbv (fun x=>decide (x<i+k)) i L s) seenk
 add:∃ seen',xel N it.o.dst seenk=some seen'
 from_:∀ d∈seenk,d∈seen∨∃ k' it',k'<k∧L[k']?=some it'∧it'.o.dst=some d
 keeps:∀ d∈seen,d∈seenk
 has:∀ k' it' d,k'<k→L[k']?=some it'→it'.o.dst=some d→d∈seenk
 key:it.key=xgk (L.take k) H.next
 slots:xgM (fun x=>x<xgk (L.take k) H.next) (xbv (fun x=>decide (x<i+k)) i L s)
theorem xwG:∀ (L:List Item) (i k:Nat) (seen:List Nat) (s:xaS) (H:Heap) (it:Item),xCc P Γ call N ops objs0 L seen s H→xgM (fun x=>x<H.next) s→L[k]?=some it →
  ∃ seenk,xBg P Γ call N ops objs0 i k L seen s H it seenk
 | [],i,k,seen,s,H,it,_,_,h=>by simp at h
 | x::r,i,0,seen,s,H,it,hc,hs,h=>by
  simp only [List.getElem?_cons_zero,Option.some.injEq] at h
  subst h
  obtain ⟨seen',h1,h2,h3,h4,h5⟩:=hc
  have e1:xbv (fun y=>decide (y<i+0)) i (x::r) s=s:=xl9 _ _ _ _ (fun m hm=>by simp; omega)
  have e2:xeb (fun y=>decide (y<i+0)) i (x::r) H.objs=H.objs:=xlg _ _ _ _ (fun m hm=>by simp; omega)
  exact ⟨seen,by rw [e1,e2]; exact h4,h2,by rw [e1]; exact h3,⟨seen',h1⟩,fun d hd=>.inl hd,fun d hd=>hd,fun k' _ _ hk'=>by omega,h4.2.2,by rw [e1]; exact hs⟩
 | x::r,i,k+1,seen,s,H,it,hc,hs,h=>by
  simp only [List.getElem?_cons_succ] at h
  obtain ⟨seen',h1,h2,h3,h4,h5⟩:=hc
  have hkey:x.key=H.next:=h4.2.2
  have hf:=xuj h2
  have hs':xgM (fun y=>y<H.next+x.x.nk) (put s x.o.dst x.slot):=by
   refine xtx (fun t=>xpW (fun _ hk=>by omega) (hs t)) ?_ _
   exact Item.slotAll (by have:=hf.val; rw [hkey] at this; exact this)
  obtain ⟨seenk,hat⟩:=xwG r (i+1) k seen' (put s x.o.dst x.slot) (H.eff x.x) it h5 hs' h
  have ef:(fun y=>decide (y<i+(k+1)))=fun y=>decide (y<i+1+k):=by funext y; congr 1; apply propext; omega
  have e1:xbv (fun y=>decide (y<i+(k+1))) i (x::r) s=xbv (fun y=>decide (y<i+1+k)) (i+1) r (put s x.o.dst x.slot):=by
   rw [ef]
   show xbv _ (i+1) r (if decide (i<i+1+k)=true then _ else _)=_
   rw [if_pos (by simp; omega)]
  have e2:xeb (fun y=>decide (y<i+(k+1))) i (x::r) H.objs=xeb (fun y=>decide (y<i+1+k)) (i+1) r (xeB x.x H.objs):=by
   rw [ef]
   show xeb _ (i+1) r (if decide (i<i+1+k)=true then _ else _)=_
   rw [if_pos (by simp; omega)]
  have e3:xgk ((x::r).take (k+1)) H.next=xgk (r.take k) (H.next+x.x.nk):=by simp only [List.take_succ_cons]; rfl
  refine ⟨seenk,by rw [e1,e2,e3]; exact hat.step,hat.fine,by rw [e1]; exact hat.guard,hat.add,fun d hd=>?_,fun d hd=>hat.keeps d ?_,fun k' it' d hk' hit' hd=>?_,by rw [e3]; exact hat.key,by rw [e1,e3]; exact hat.slots⟩
  ·rcases hat.from_ d hd with h | ⟨k',it',hk',hit',hd'⟩
   ·cases hx:x.o.dst with
    | none=>rw [hx] at h1; cases h1; exact .inl h
    | some d' =>
     rw [hx] at h1
     simp only [xel] at h1
     split at h1
     ·cases h1
      rcases List.mem_cons.1 h with rfl | h
      ·exact .inr ⟨0,x,by omega,by simp,hx⟩
      ·exact .inl h
     ·cases h1
   ·exact .inr ⟨k'+1,it',by omega,by simpa using hit',hd'⟩
  ·cases hx:x.o.dst with
   | none=>rw [hx] at h1; cases h1; exact hd
   | some d' =>
    rw [hx] at h1
    simp only [xel] at h1
    split at h1
    ·cases h1; exact List.mem_cons_of_mem _ hd
    ·cases h1
  ·match k',hit' with
   | 0,hit' =>
    simp only [List.getElem?_cons_zero,Option.some.injEq] at hit'
    subst hit'
    have hmem:d∈seen':=by
     rw [hd] at h1
     simp only [xel] at h1
     split at h1
     ·cases h1; exact List.mem_cons_self
     ·cases h1
    exact hat.keeps d hmem
   | k'+1,hit'=>exact hat.has k' it' d (by omega) (by simpa using hit') hd
theorem xiJ {t:Nat}:∀ (L:List Item) (i:Nat) (S:Nat→Bool) (s:xaS),xbv S i L s t=s t∨∃ k it,L[k]?=some it∧S (i+k)=true∧it.o.dst=some t∧xbv S i L s t=it.slot
 | [],i,S,s=>.inl rfl
 | x::r,i,S,s=>by
  unfold xbv
  rcases xiJ r (i+1) S (if S i then put s x.o.dst x.slot else s) with h | ⟨k,it,h1,h2,h3,h4⟩
  ·rw [h]
   split
   ·rename_i hS
    cases hd:x.o.dst with
    | none=>exact .inl rfl
    | some d =>
     by_cases ht:t=d
     ·subst ht
      exact .inr ⟨0,x,by simp,by simpa using hS,hd,by simp [put,xbH]⟩
     ·exact .inl (by simp [put,xcS _ _ ht])
   ·exact .inl rfl
  ·exact .inr ⟨k+1,it,by simpa using h1,by rw [show i+(k+1)=i+1+k by omega]; exact h2,h3,h4⟩
theorem xqu {Q:Obj→Prop}:∀ (L:List Item) (i:Nat) (S:Nat→Bool) (l:List Obj),(∀ o∈l,Q o) →
  (∀ k it,L[k]?=some it→S (i+k)=true→∀ o∈it.x.add,Q o)→∀ o∈xeb S i L l,Q o
 | [],_,_,_,h,_=>h
 | x::r,i,S,l,h,hx=>by
  unfold xeb
  refine xqu r (i+1) S _ ?_ (fun k it hk hS=>hx (k+1) it (by simpa using hk) (by rw [show i+(k+1)=i+1+k by omega]; exact hS))
  split
  ·rename_i hS
   have h0:=hx 0 x (by simp) (by simpa using hS)
   intro o ho
   rcases List.mem_append.1 ho with ho | ho
   ·exact h0 o ho
   ·exact h o (List.mem_filter.1 ho).1
  ·exact h
theorem xrO {t j:Nat} {x:Item}:∀ (L:List Item) (i k:Nat) (S S':Nat→Bool) (s:xaS),L[k]?=some x→i+k=j→S j=false→(∀ m,S' m=(S m||Nat.beq m j)) →
  (∀ k' it,L[k']?=some it→k'≠k→x.o.dst=some t→it.o.dst=some t→False)→xbv S' i L s t=put (xbv S i L s) x.o.dst x.slot t
 | [],_,_,_,_,_,h,_,_,_,_=>by simp at h
 | it::r,i,0,S,S',s,h,hj,hSj,hS',hd=>by
  simp only [List.getElem?_cons_zero,Option.some.injEq] at h
  subst h
  have hj:i=j:=by omega
  subst hj
  unfold xbv
  rw [hS',hSj,xcM]
  simp only [Bool.or_true,if_true,Bool.false_eq_true,if_false]
  have hother:∀ k' y,r[k']?=some y→S' (i+1+k')=S (i+1+k'):=fun k' y _=>by
   rw [hS',xhQ (by omega)]; simp
  by_cases ht:it.o.dst=some t
  ·have e:∀ (S:Nat→Bool) (s:xaS),xbv S (i+1) r s t=s t:=fun S s=>by
    rcases xiJ (t:=t) r (i+1) S s with h | ⟨k,y,h1,h2,h3,h4⟩
    ·exact h
    ·exact (hd (k+1) y (by simpa using h1) (by omega) ht h3).elim
   rw [e]
   simp [put,ht,xbH]
  ·have e:∀ (s:xaS),put s it.o.dst it.slot t=s t:=fun s=>by
    cases hdd:it.o.dst with
    | none=>rfl
    | some d=>exact xcS _ _ (fun e=>ht (by rw [hdd,e]))
   rw [e]
   exact xgN r (i+1) S' S _ _ (e s) (fun k' y hy _=>hother k' y hy)
 | it::r,i,k+1,S,S',s,h,hj,hSj,hS',hd=>by
  simp only [List.getElem?_cons_succ] at h
  unfold xbv
  have e:S' i=S i:=by rw [hS',xhQ (by omega)]; simp
  rw [e]
  exact xrO r (i+1) k S S' _ h (by omega) hSj hS' (fun k' y hy hne hx hty=>hd (k'+1) y (by simpa using hy) (by omega) hx hty)
theorem xah.sub {X:List (Nat×Go.Obj)} {E:Env} {w0 w:World} {H:Heap} (h:xah X E w0 H w) {l:List Obj} {n:Nat} (hm:∀ o∈l,o∈H.objs) (hlt:∀ o∈l,o.key<n∧xa7 (fun k=>k<n) o.body):xah X E w0 ⟨l,n⟩ w :=
 ⟨h.below,h.env,fun o ho=>h.objs o (hm o ho),fun o ho=>h.high o (hm o ho),fun o ho o' ho'=>h.inj o (hm o ho) o' (hm o' ho'),fun o ho o' ho'=>h.uniq o (hm o ho) o' (hm o' ho'),hlt,fun x hx=>⟨(h.prot x hx).1,fun o ho=>(h.prot x hx).2 o (hm o ho)⟩,fun o ho b hb o' ho'=>h.deep o (hm o ho) b hb o' (hm o' ho'),fun x hx o ho=>h.protD x hx o (hm o ho),fun o ho=>h.fsh o (hm o ho)⟩
theorem xah.congr {X:List (Nat×Go.Obj)} {E:Env} {w0 w:World} {l l':List Obj} {n:Nat} (h:xah X E w0 ⟨l,n⟩ w) (he:∀ key,xfP key l=xfP key l'):xah X E w0 ⟨l',n⟩ w:=by
 have hm:∀ o,o∈l'→o∈l:=fun o ho=>by rw [xmZ,he,← xmZ]; exact ho
 exact h.sub hm (fun o ho=>h.lt o (hm o ho))
theorem xvK {E:Env} {w:World} {key:Nat} {own:Bool} {b:Body} (h:xa0 E w key own b):xa0 E w.drew key own b :=
 h.keep rfl (by cases b<;>first | exact fun t v _=>(xaW v).2 fun _ _=>rfl | exact (xcm _).2 fun _ _=>rfl) (fun _ _=>rfl) (Nat.le_refl _) (fun _ _=>rfl)
theorem xah.drew {X:List (Nat×Go.Obj)} {E:Env} {w0 w:World} {H:Heap} (h:xah X E w0 H w):xah X E w0 H w.drew :=
 ⟨h.below.drew,h.env,fun o ho=>xvK (h.objs o ho),h.high,h.inj,h.uniq,h.lt,h.prot,h.deep,h.protD,h.fsh⟩
theorem xaH.point {E:Env} {n N:Nat} {D:List Deferred} {s s':xaS} {a:Act} (h:xaH E n N D s a) (hs:∀ t,s' t=s t):xaH E n N D s' a :=
 ⟨h.defers,h.size,fun t=>by rw [hs t]; exact h.ok t⟩
theorem xaH.envAll {E E':Env} {n N:Nat} {D:List Deferred} {p:Nat→Prop} {s:xaS} {a:Act} (h:xaH E n N D s a) (hE:∀ k,p k→E' k=E k) (hs:xgM p s):xaH E' n N D s a:=by
 refine ⟨h.defers,h.size,fun t=>?_⟩
 have h1:=h.ok t
 have h2:=hs t
 cases hst:s t with
 | is v=>rw [hst] at h1 h2; exact ⟨by rw [xcy hE v h2]; exact h1.1,h1.2⟩
 | when g want v=>rw [hst] at h1 h2; exact ⟨h1.1,fun hg=>by rw [xcy hE v h2]; exact h1.2.1 hg,h1.2.2⟩
 | junk=>trivial
end chain
end Go.Sy
set_option linter.unusedVariables false
namespace Go.Sy
open Go.RowKit
section
variable {P:Program} {Γ:Con} {call:xgj} {N:Nat} {ops:Array Oper} {X:List (Nat×Go.Obj)} {w0:World} {D:List Deferred} {H:Heap} {s:xaS} {L:List Item} {rnd:Option Nat}
structure Run (P:Program) (Γ:Con) (call:xgj) (N:Nat) (ops:Array Oper) (H:Heap) (s:xaS) (L:List Item):Prop where
 hΓ:xbh P Γ
 hcall:xih P call
 hk:xft P call
 hops:L.map (·.o)=ops.toList
 at_:∀ k it,L[k]?=some it→∃ seenk,xBg P Γ call N ops H.objs 0 k L [] s H it seenk
 hslots:xgM (fun x=>x<H.next) s
 nowhen:xj9 s []
 hobjs:∀ o∈H.objs,o.key<H.next∧xa7 (fun k=>k<H.next) o.body
 pair:∀ j x m y,L[j]?=some x→L[m]?=some y→j≠m→xv8 (xem ops.toList []) H.next j x m y=true
 alls:∀ j x m y,L[j]?=some x→L[m]?=some y→xB9 (xem ops.toList []) H.next j x m y=true
 edge:∀ i o,ops[i]?=some o→∀ e∈o.after,Region.binds .any e=true→e.on<i
def Inv (N:Nat) (D:List Deferred) (X:List (Nat×Go.Obj)) (w0:World) (H:Heap) (s:xaS) (L:List Item) (E:Env) (S:Nat→Bool) (a:Act) (w:World):Prop :=
 ∃ E',(∀ k,k<H.next→E' k=E k)∧xaH E' (xgk L H.next) N D (xbv S 0 L s) a∧xah X E' w0 ⟨xeb S 0 L H.objs,xgk L H.next⟩ w
theorem Run.get (r:Run P Γ call N ops H s L) {j:Nat} {o:Oper} (h:ops[j]?=some o):∃ it,L[j]?=some it∧it.o=o:=by
 have h1:(L.map (·.o))[j]?=some o:=by rw [r.hops]; simpa using h
 rw [List.getElem?_map] at h1
 cases hl:L[j]? with
 | none=>rw [hl] at h1; cases h1
 | some it=>rw [hl] at h1; simp at h1; exact ⟨it,rfl,h1⟩
theorem Run.back (r:Run P Γ call N ops H s L) {j:Nat} {it:Item} (h:L[j]?=some it):ops[j]?=some it.o:=by
 have h1:(L.map (·.o))[j]?=some it.o:=by rw [List.getElem?_map,h]; rfl
 rw [r.hops] at h1
 simpa using h1
theorem Run.distinct (r:Run P Γ call N ops H s L) {k k':Nat} {x y:Item} {d:Nat} (h:L[k]?=some x) (h':L[k']?=some y) (hx:x.o.dst=some d) (hy:y.o.dst=some d):k=k':=by
 have lt:∀ {k k':Nat} {x y:Item},L[k]?=some x→L[k']?=some y→x.o.dst=some d→y.o.dst=some d→¬ k<k':=by
  intro k k' x y h h' hx hy hlt
  obtain ⟨seenk,hat⟩:=r.at_ k' y h'
  have hm:=hat.has k x d hlt h hx
  obtain ⟨seen',hadd⟩:=hat.add
  rw [hy] at hadd
  simp only [xel] at hadd
  split at hadd
  ·rename_i hc
   rw [Bool.and_eq_true] at hc
   have h2:seenk.any (Nat.beq d)=true:=List.any_eq_true.2 ⟨d,hm,xcM d⟩
   rw [h2] at hc
   simp at hc
  ·cases hadd
 have h1:=lt h h' hx hy
 have h2:=lt h' h hy hx
 omega
theorem Run.dstN (r:Run P Γ call N ops H s L) {k:Nat} {x:Item} {d:Nat} (h:L[k]?=some x) (hx:x.o.dst=some d):d<N:=by
 obtain ⟨seenk,hat⟩:=r.at_ k x h
 obtain ⟨seen',hadd⟩:=hat.add
 rw [hx] at hadd
 simp only [xel] at hadd
 split at hadd
 ·rename_i hc
  rw [Bool.and_eq_true] at hc
  simpa using hc.1
 ·cases hadd
theorem Run.key (r:Run P Γ call N ops H s L) {k:Nat} {x:Item} (h:L[k]?=some x):x.key=xgk (L.take k) H.next:=by
 obtain ⟨seenk,hat⟩:=r.at_ k x h
 exact hat.key
theorem Run.fine (r:Run P Γ call N ops H s L) {k:Nat} {x:Item} (h:L[k]?=some x):Fine x:=by
 obtain ⟨seenk,hat⟩:=r.at_ k x h
 exact xuj hat.fine
theorem Run.fines (r:Run P Γ call N ops H s L):∀ it∈L,Fine it:=fun it hm=>by
 obtain ⟨k,hk⟩:=List.mem_iff_getElem?.1 hm
 exact r.fine hk
theorem Run.keyF (r:Run P Γ call N ops H s L) {k:Nat} {x:Item} (h:L[k]?=some x):H.next≤x.key∧x.key+x.x.nk≤xgk L H.next:=by
 rw [r.key h]
 refine ⟨xjt _ _,?_⟩
 have h1:=xnZ L k H.next x h
 have h2:=xnY L (k+1) L.length H.next (by
  rcases Nat.lt_or_ge k L.length with h' | h'
  ·omega
  ·rw [List.getElem?_eq_none h'] at h; cases h)
 rw [List.take_length,h1] at h2
 exact h2
theorem Run.keyLt (r:Run P Γ call N ops H s L) {j k:Nat} {x y:Item} (hj:L[j]?=some x) (hk:L[k]?=some y) (hlt:j<k):x.key+x.x.nk≤y.key:=by
 rw [r.key hj,r.key hk]
 have h1:=xnZ L j H.next x hj
 have h2:=xnY L (j+1) k H.next (by omega)
 rw [h1] at h2
 omega
theorem Run.agree (r:Run P Γ call N ops H s L) {S:Nat→Bool} (hS:xo7 ops S) {j:Nat} {oj:Oper} (hj:ops[j]?=some oj) (hSj:S j=false) (hready:∀ e∈oj.after,Region.binds .any e=true→S e.on=true) {m:Nat} {y:Item} (hm:L[m]?=some y) (_hne:j≠m)
  (ho:xip (xem ops.toList []) j m=true):S m=decide (m<j):=by
 unfold xip at ho
 by_cases hlt:m<j
 ·have:Nat.blt m j=true:=by simpa using hlt
  rw [this] at ho
  simp only [if_true] at ho
  rw [xig hS (j+1) j (by omega) oj hj hready m ho]
  simp [hlt]
 ·have:Nat.blt m j=false:=Bool.eq_false_iff.2 (fun hb=>hlt (by simpa using hb))
  rw [this] at ho
  simp only [Bool.false_eq_true,if_false] at ho
  cases hSm:S m with
  | false=>simp [hlt]
  | true =>
   have hom:=r.back hm
   have:=xig hS (m+1) m (by omega) y.o hom (hS m y.o hom hSm) j ho
   rw [hSj] at this
   cases this
structure xBd (n j:Nat) (x:Item) (m:Nat) (y:Item):Prop where
 dst:∀ d,y.o.dst=some d→d∉xph x
 foot:∀ key∈x.foot,y.touch key=false
 all:x.all=true→∀ k∈y.x.rm,n≤k
 rm:∀ k∈x.x.rm,y.touch k=false
 names:∀ k,x.key≤k→k<x.key+x.x.nk→k∉AV.keys y.x.v∧∀ o∈y.x.add,o.key≠k∧k∉AV.keysL o.body.cellsOf
theorem xhr {M:List Nat} {n j m:Nat} {x y:Item} (h:xv8 M n j x m y=true) (hne:j≠m):xip M j m=true∨xBd n j x m y:=by
 unfold xv8 at h
 rw [xhQ hne] at h
 simp only [Bool.false_or,Bool.or_eq_true,Bool.and_eq_true] at h
 rcases h with h | h
 ·exact .inl h
 refine .inr ?_
 obtain ⟨⟨⟨⟨h1,h2⟩,h3⟩,h4⟩,h5⟩:=h
 refine ⟨fun d hd hm=>?_,fun key hk=>?_,fun ha k hk=>?_,fun k hk=>?_,fun k hk1 hk2=>?_⟩
 ·rw [hd] at h1
  have:(xph x).any (Nat.beq d)=true:=xjK.2 hm
  simp only [this] at h1
  cases h1
 ·cases ht:y.touch key with
  | false=>rfl
  | true =>
   have:xCq x.foot y=true:=List.any_eq_true.2 ⟨key,hk,ht⟩
   rw [this] at h2
   cases h2
 ·rw [ha] at h3
  rcases h3 with h3 | h3
  ·cases h3
  ·simpa using List.all_eq_true.1 h3 k hk
 ·cases ht:y.touch k with
  | false=>rfl
  | true =>
   have:x.x.rm.any y.touch=true:=List.any_eq_true.2 ⟨k,hk,ht⟩
   rw [this] at h4
   cases h4
 ·rcases h5 with h5 | h5
  ·have:=Nat.eq_of_beq_eq_true h5; omega
  ·have no:k∉AV.keys y.x.v++y.x.add.flatMap (fun o=>o.key::AV.keysL o.body.cellsOf):=fun hm=>by
    have:y.names x.key (x.key+x.x.nk)=true:=by
     unfold Item.names
     exact List.any_eq_true.2 ⟨k,hm,by simp [hk1,hk2]⟩
    rw [this] at h5
    cases h5
   rw [List.mem_append,not_or] at no
   refine ⟨no.1,fun o ho=>?_⟩
   have h6:k∉o.key::AV.keysL o.body.cellsOf:=fun hm=>no.2 (List.mem_flatMap.2 ⟨o,ho,hm⟩)
   rw [List.mem_cons,not_or] at h6
   exact ⟨fun e=>h6.1 e.symm,h6.2⟩
theorem xtO (M:List Nat) {j m:Nat} (hne:j≠m):xip M j m=xip M m j:=by
 unfold xip
 by_cases h:m<j
 ·have h1:Nat.blt m j=true:=by simpa using h
  have h2:Nat.blt j m=false:=Bool.eq_false_iff.2 (fun hb=>by have h9:j<m:=(by simpa using hb); omega)
  rw [h1,h2]; rfl
 ·have h1:Nat.blt m j=false:=Bool.eq_false_iff.2 (fun hb=>h (by simpa using hb))
  have h2:Nat.blt j m=true:=by simp; omega
  rw [h1,h2]; rfl
theorem Run.touchBoth (r:Run P Γ call N ops H s L) {j m:Nat} {x y:Item} (hj:L[j]?=some x) (hm:L[m]?=some y) (hne:j≠m) {key:Nat} (hx:x.touch key=true) (hy:y.touch key=true):xip (xem ops.toList []) j m=true:=by
 rcases xhr (r.pair j x m y hj hm hne) hne with h | h
 ·exact h
 ·rcases xhr (r.pair m y j x hm hj (fun e=>hne e.symm)) (fun e=>hne e.symm) with h' | h'
  ·rw [xtO _ hne]; exact h'
  ·exfalso
   rcases xmG.1 hx with h1 | h1
   ·have:=h.rm _ h1; rw [hy] at this; cases this
   ·rcases xmG.1 hy with h2 | h2
    ·have:=h'.rm _ h2; rw [hx] at this; cases this
    ·rcases Nat.lt_or_ge j m with hlt | hlt
     ·have:=r.keyLt hj hm hlt; omega
     ·have:=r.keyLt hm hj (by omega); omega
theorem Run.pairAgree (r:Run P Γ call N ops H s L) {S:Nat→Bool} (hS:xo7 ops S) {j:Nat} {it:Item} (hj:L[j]?=some it) (hSj:S j=false) (hready:∀ e∈it.o.after,Region.binds .any e=true→S e.on=true) {m:Nat} {y:Item} (hm:L[m]?=some y) {C:Prop} (hC:xBd H.next j it m y→C) (hn:¬ C):S m=decide (m<j):=by
 by_cases hkj:m=j
 ·subst hkj; rw [hSj]; simp
 ·have hne:j≠m:=fun e=>hkj e.symm
  rcases xhr (r.pair j it m y hj hm hne) hne with h | h
  ·exact r.agree hS (r.back hj) hSj hready hm hne h
  ·exact absurd (hC h) hn
theorem Run.noGuard (r:Run P Γ call N ops H s L) {S:Nat→Bool} (hS:xo7 ops S) {j:Nat} {it:Item} (hj:L[j]?=some it) (hSj:S j=false) {d:Nat} (hd:it.o.dst=some d) :
  ∀ t g want v,xbv S 0 L s t=.when g want v→g≠d:=by
 intro t g want v ht hg
 subst hg
 rcases xiJ L 0 S s with h | ⟨k,y,h1,h2,h3,h4⟩
 ·rw [h] at ht
  exact absurd (r.nowhen t g want v ht) (by simp)
 ·rw [h4] at ht
  have hctx:∃ b r,y.ctx=(g,want,b)::r:=by
   unfold Item.slot at ht
   split at ht
   ·unfold xiK at ht
    split at ht
    ·cases ht
    ·rename_i g' want' b' r' hc; cases ht; exact ⟨b',r',hc⟩
   ·cases ht
  obtain ⟨b,rr,hc⟩:=hctx
  obtain ⟨seenk,hat⟩:=r.at_ k y h1
  have hgu:=hat.guard
  unfold xjN at hgu
  rw [hc] at hgu
  rcases hat.from_ g hgu.1 with h | ⟨k',y',hk',hy',hd'⟩
  ·cases h
  ·have e:k'=j:=r.distinct hy' hj hd' hd
   subst e
   have hne:k≠k':=by omega
   have ho:xip (xem ops.toList []) k k'=true:=by
    rcases xhr (r.pair k y k' it h1 hj hne) hne with h | h
    ·exact h
    ·exact absurd (show g∈xph y by unfold xph; rw [hc]; simp) (h.dst g hd)
   have hk0:S k=true:=by simpa using h2
   have hok:=r.back h1
   unfold xip at ho
   have hb:Nat.blt k' k=true:=by simpa using hk'
   rw [hb] at ho
   simp only [if_true] at ho
   have:=xig hS (k+1) k (by omega) y.o hok (hS k y.o hok hk0) k' ho
   rw [hSj] at this
   cases this
end
end Go.Sy
set_option linter.unusedVariables false
namespace Go.Sy
open Go.RowKit
section
variable {P:Program} {Γ:Con} {call:xgj} {N:Nat} {ops:Array Oper} {X:List (Nat×Go.Obj)} {w0:World} {D:List Deferred} {H:Heap} {s:xaS} {L:List Item} {rnd:Option Nat} {E:Env}
def Away (it:Item) (k:Nat):Prop:=k<it.key∨it.key+it.x.nk≤k
theorem Run.clear (r:Run P Γ call N ops H s L) {S:Nat→Bool} (hS:xo7 ops S) {j:Nat} {it:Item} (hj:L[j]?=some it) (hSj:S j=false) (hready:∀ e∈it.o.after,Region.binds .any e=true→S e.on=true) :
  (∀ o∈xeb S 0 L H.objs,Away it o.key∧xa7 (Away it) o.body)∧xgM (Away it) (xbv S 0 L s):=by
 have hK:=(r.keyF hj).1
 have other:∀ k y,L[k]?=some y→S k=true→AV.all (Away it) y.x.v∧∀ o∈y.x.add,Away it o.key∧xa7 (Away it) o.body:=by
  intro k y hy hSk
  have hf:=r.fine hy
  have hne:j≠k:=fun e=>by rw [← e,hSj] at hSk; cases hSk
  by_cases hkj:k<j
  ·have hle:=r.keyLt hy hj hkj
   refine ⟨xdU (fun x hx=>.inl (by omega)) _ hf.val,fun o ho=>⟨.inl (by have:=hf.addLt ho; omega),xl4 (hf.noLoop o ho) (xjL (fun x hx=>.inl (by omega)) _ (hf.below o ho))⟩⟩
  ·rcases xhr (r.pair j it k y hj hy hne) hne with h | h
   ·have:=r.agree hS (r.back hj) hSj hready hy hne h
    rw [hSk] at this
    have:k<j:=by simpa using this
    omega
   ·have far:∀ x,x∉AV.keys y.x.v→True:=fun _ _=>trivial
    have dec:∀ x,¬ Away it x→it.key≤x∧x<it.key+it.x.nk:=fun x hx=>by
     unfold Away at hx
     rw [not_or] at hx
     omega
    refine ⟨(xaW _).2 fun x hx=>Classical.byContradiction fun hn=>?_,fun o ho=>⟨Classical.byContradiction fun hn=>?_,xl4 (hf.noLoop o ho) ((xcm _).2 fun x hx=>Classical.byContradiction fun hn=>?_)⟩⟩
    ·obtain ⟨h1,h2⟩:=dec x hn
     exact (h.names x h1 h2).1 hx
    ·obtain ⟨h1,h2⟩:=dec _ hn
     exact ((h.names _ h1 h2).2 o ho).1 rfl
    ·obtain ⟨h1,h2⟩:=dec x hn
     exact ((h.names x h1 h2).2 o ho).2 hx
 refine ⟨xqu L 0 S H.objs (fun o ho=>?_) (fun k y hy hSk o ho=>(other k y hy (by simpa using hSk)).2 o ho),fun t=>?_⟩
 ·obtain ⟨a1,a2⟩:=r.hobjs o ho
  exact ⟨.inl (by omega),xaU (fun x hx=>.inl (by omega)) a2⟩
 ·rcases xiJ (t:=t) L 0 S s with h | ⟨k,y,h1,h2,h3,h4⟩
  ·rw [h]; exact xpW (fun x hx=>.inl (by omega)) (r.hslots t)
  ·rw [h4]
   exact Item.slotAll (other k y h1 (by simpa using h2)).1
theorem xx0 {it it0:Item} (hs:Same it it0) {n K0:Nat} {objs:List Obj} {E':Env} {a:Act} {w:World} (h:xdk n objs K0 it0.x∧Does rnd P E' objs K0 a w it0.o it0.x):xdk n objs K0 it.x∧Does rnd P E' objs K0 a w it.o it.x:=by
 obtain ⟨hw,hd⟩:=h
 refine ⟨⟨by rw [hs.rm]; exact hw.rm,by rw [hs.add,hs.rm,hs.nk]; exact hw.key,by rw [hs.add]; exact hw.uniq,by rw [hs.add,hs.nk]; exact hw.all,?_,by rw [hs.add]; exact hw.ver⟩,?_⟩
 ·rcases hs.v with ⟨h1,_⟩ | ⟨b,v,h1,h2,_⟩
  ·rw [h1,hs.nk]; exact hw.val
  ·rw [h2]; trivial
 ·intro hp K Q hK
  have hp0:it0.x.holds∧it.x.v.den=it0.x.v.den:=by
   rcases hs.v with ⟨h1,h2⟩ | ⟨b,v,h1,h2,h3⟩
   ·unfold Eff.holds at hp ⊢
    rw [h2] at hp
    exact ⟨hp,by rw [h1]⟩
   ·unfold Eff.holds at hp ⊢
    rw [h3] at hp
    cases hq:it0.x.p with
    | none =>
     rw [hq] at hp
     have hb:b=v:=hp
     exact ⟨trivial,by funext E; rw [h1,h2,hb]; rfl⟩
    | some q =>
     rw [hq] at hp
     have hb:q∧b=v:=hp
     exact ⟨hb.1,by funext E; rw [h1,h2,hb.2]; rfl⟩
  rw [hs.o]
  refine hd hp0.1 K Q fun E2 w2 he=>?_
  have:=hK E2 w2 ⟨by rw [hs.nk]; exact he.agree,he.env,by rw [hs.rm]; exact he.chg,by rw [hs.add]; exact he.bodies,by rw [hs.add,hs.rm]; exact he.own,by rw [hs.add,hs.rm]; exact he.ro,by rw [hs.add]; exact he.inj,by rw [hs.add,hs.rm]; exact he.dp,by rw [hs.add]; exact he.dq,by rw [hs.add,hs.rm]; exact he.df⟩
  rw [hs.o,show it.x.v.den E2=it0.x.v.den E2 from congrFun hp0.2 E2] at this
  exact this
theorem Run.does (r:Run P Γ call N ops H s L) {S:Nat→Bool} (hS:xo7 ops S) {j:Nat} {it:Item} (hj:L[j]?=some it) (hSj:S j=false) (hready:∀ e∈it.o.after,Region.binds .any e=true→S e.on=true)
  {E':Env} {a:Act} {w:World} (hSl:xaH E' (xgk L H.next) N D (xbv S 0 L s) a) (hH:xah X E' w0 ⟨xeb S 0 L H.objs,xgk L H.next⟩ w)
  (hwant:xdH it.ctx):xdk (xgk L H.next) (xeb S 0 L H.objs) it.key it.x∧Does rnd P E' (xeb S 0 L H.objs) it.key a w it.o it.x:=by
 classical
 obtain ⟨seenk,hat⟩:=r.at_ j it hj
 have hoj:=r.back hj
 have hkey:=r.key hj
 obtain ⟨hk1,hk2⟩:=r.keyF hj
 have hlook:∀ t,t∈xph it→xbv S 0 L s t=xbv (fun x=>decide (x<0+j)) 0 L s t:=by
  intro t ht
  refine xgN L 0 S _ s s rfl (fun k y hy hd=>?_)
  simp only [Nat.zero_add]
  exact r.pairAgree hS hj hSj hready hy (C:=t∉xph it) (fun h=>h.dst t hd) (fun h=>h ht)
 have hobj:∀ key∈it.foot,xai key (xeb (fun x=>decide (x<0+j)) 0 L H.objs)=xai key (xeb S 0 L H.objs):=by
  intro key hkey
  rw [xoh,xoh]
  congr 1
  refine (xfF L 0 S _ _ _ r.fines rfl (fun k y hy ht=>?_)).symm
  simp only [Nat.zero_add]
  exact r.pairAgree hS hj hSj hready hy (C:=y.touch key=false) (fun h=>h.foot key hkey) (fun h=>by rw [ht] at h; cases h)
 have hopnd:∀ c x,x∈it.o.op.operands→readS c (xbv (fun x=>decide (x<0+j)) 0 L s) x=readS c (xbv S 0 L s) x:=by
  intro c x hx
  refine xp4 x fun t ht=>?_
  subst ht
  refine (hlook t ?_).symm
  unfold xph
  refine List.mem_append.2 (.inl (List.mem_filterMap.2 ⟨.tmp t,by simpa using hx,rfl⟩))
 have hgv:∀ c∈it.ctx,a.tmps.getD c.1 undef=.bool c.2.1:=by
  intro c hc
  have hgu:=hat.guard
  unfold xjN at hgu
  cases hctx:it.ctx with
  | nil=>rw [hctx] at hc; cases hc
  | cons c0 r0 =>
   obtain ⟨g,want,b⟩:=c0
   rw [hctx] at hgu
   have hch:=xg1 (s':=xbv S 0 L s) 9 g want _ hgu.2.1 (fun c hc=>hlook c.1 (by unfold xph; rw [hctx]; exact List.mem_append.2 (.inr (List.mem_map.2 ⟨c,hc,rfl⟩))))
   rw [hctx] at hc hwant
   exact (xec hSl 9 g want _ hch).2.1 hwant c hc
 have hrd:∀ x v,readS it.ctx (xbv S 0 L s) x=some v→a.eval x=v.den E'∧AV.lt (xgk L H.next) v:=xgv hSl _ hgv
 have hlow:∀ x v,readS it.ctx (xbv (fun x=>decide (x<0+j)) 0 L s) x=some v→AV.lt it.key v:=fun x v hx=>by
  rw [hkey]; exact xsr hat.slots _ x v hx
 obtain ⟨it0,hstep,hsame⟩:=hat.step.2.1.resolve_right (fun h=>h hwant)
 refine xx0 hsame ?_
 rw [← hsame.o]
 unfold xtw at hstep
 simp only [] at hstep
 split at hstep
 ·-- pick
  rename_i c x y hop
  split at hstep
  ·rename_i v hv
   have hr:it0.x=⟨none,[],0,[],v⟩:=(congrArg Item.x (Option.some.inj hstep)).symm
   rw [hr]
   rw [xuZ (s':=xbv S 0 L s) (fun z hz t ht=>by
    subst ht
    refine (hlook t ?_).symm
    unfold xph
    refine List.mem_append.2 (.inl (List.mem_filterMap.2 ⟨.tmp t,?_,rfl⟩))
    rw [hop]
    simpa [Op.operands] using hz)] at hv
   obtain ⟨cb,hc,hval,hl⟩:=xqp hSl hgv hv
   refine ⟨xjg _ (xdU (fun k hk=>.inl hk) _ hl),fun _ K Q hK=>?_⟩
   refine xht (fun c e=>by rw [hop] at e; cases e) (xv3 hop hc) (.inl rfl) ?_
   rw [hval]
   exact hK E' w (xji hH.env _ _)
  ·cases hstep
 ·-- call
  rename_i f args ts hop
  have hnd:∀ c,it.o.op≠.defer c:=fun c e=>by rw [hop] at e; cases e
  split at hstep
  ·rename_i fi first caps vs hf hvs
   have hfl:=hlow _ _ hf
   have hvl:AV.ltL it.key vs:=(xen _ _).2 (xkm (Q:=AV.lt it.key) hlow _ _ hvs)
   have hargs:AV.ltL it.key (first++vs++caps):=by
    rw [xen]
    intro v hv
    simp only [List.mem_append] at hv
    rcases hv with (hv | hv) | hv
    ·exact (xen _ _).1 hfl.1 v hv
    ·exact (xen _ _).1 hvl v hv
    ·exact (xen _ _).1 hfl.2 v hv
   rw [hopnd _ f (by rw [hop]; simp [Op.operands,Call.operands])] at hf
   rw [xhq (ρ':=readS it.ctx (xbv S 0 L s)) _ (fun x hx=>hopnd _ x (by rw [hop]; simp only [Op.operands,Call.operands,Array.mem_append]; exact .inr (by simpa using hx)))] at hvs
   have hrun:xdE P fi→(execOp a.eval it.o).run P w=.ok (.enter fi (AV.denL E' (first++vs++caps)).toArray) w:=fun hfun =>
    xnP hop (hrd _ _ hf).1 (xfy (fun x v hx=>(hrd x v hx).1) _ _ hvs) hfun
   split at hstep
   ·rename_i ft x hc
    have hx:it0.x=x:=(congrArg Item.x (Option.some.inj hstep)).symm
    have hft:it.foot=ft:=hsame.foot.trans (congrArg Item.foot (Option.some.inj hstep)).symm
    rw [← hkey] at hc
    rw [← hft] at hc
    obtain ⟨h1,h2,h3⟩:=xq4 r.hΓ hH hargs (xvG hc hobj)
    rw [hx]
    exact ⟨h2.eff,xjF hH.env hnd (hrun h1) h2 h3⟩
   ·split at hstep
    ·rename_i x hc
     have hx:it0.x=x:=(congrArg Item.x (Option.some.inj hstep)).symm
     have hall:it.all=true:=hsame.all.trans (congrArg Item.all (Option.some.inj hstep)).symm
     rw [← hkey] at hc
     have hmem:∀ o∈H.objs,o∈xeb S 0 L H.objs:=by
      intro o ho
      rw [xmZ]
      have e:xfP o.key (xeb S 0 L H.objs)=xfP o.key (xeb (fun _=>false) 0 L H.objs):=by
       refine xfF L 0 S _ _ _ r.fines rfl (fun k y hy ht=>?_)
       simp only [Nat.zero_add]
       have hk0:=(r.hobjs o ho).1
       rcases xmG.1 ht with h1 | h1
       ·-- an old object is turned: behind
        have hnot:¬ (∀ k∈y.x.rm,H.next≤k):=fun h=>by have:=h _ h1; omega
        have hsa:=r.pairAgree hS hj hSj hready hy (C:=∀ k∈y.x.rm,H.next≤k) (fun h=>h.all hall) hnot
        have hao:=r.alls j it k y hj hy
        unfold xB9 at hao
        rw [hall] at hao
        simp only [Bool.not_true,Bool.false_or,Bool.or_eq_true] at hao
        rcases hao with hao | hao
        ·exfalso
         exact hnot fun k hk=>by simpa using List.all_eq_true.1 hao k hk
        ·rw [hsa]
         have:j<k:=by simpa using hao
         simp; omega
       ·have:=(r.keyF hy).1
        omega
      rw [e,xlg _ _ _ _ (fun _ _=>rfl),← xmZ]
      exact ho
     have hH0:xah X E' w0 ⟨H.objs,it.key⟩ w:=hH.sub hmem (fun o ho=>⟨Nat.lt_of_lt_of_le (r.hobjs o ho).1 hk1,xaU (fun k hk=>Nat.lt_of_lt_of_le hk hk1) (r.hobjs o ho).2⟩)
     obtain ⟨h2,h3⟩:=xnu r.hcall (H:=⟨H.objs,it.key⟩) hc hH0 hargs
     have h1:xdE P fi:=r.hk fi (first++vs++caps) _ fun e=>(by rw [e] at hc; cases hc)
     rw [hx]
     exact ⟨h2.eff,xjF hH.env hnd (hrun h1) h2 fun hp=>(h3 hp).mono fun e w' ⟨E2,he,hg⟩=>⟨E2,he,hg.mono fun _ h=>h.elim⟩⟩
    ·cases hstep
  ·cases hstep
 ·-- all else
  split at hstep
  ·rename_i x hx
   have hr:it0.x=x:=(congrArg Item.x (Option.some.inj hstep)).symm
   have hfoot:it.foot=xnj (readS it.ctx (xbv (fun x=>decide (x<0+j)) 0 L s)) it.o.op:=hsame.foot.trans (congrArg Item.foot (Option.some.inj hstep)).symm
   have hclear:=r.clear hS hj hSj hready
   have hrd2:∀ x v,x∈it.o.op.operands→readS it.ctx (xbv S 0 L s) x=some v→AV.lt it.key v:=fun x v hm hx=>hlow x v (by rw [hopnd _ x hm]; exact hx)
   rw [← hkey] at hx
   have hx2:xmC P (fun x=>if x∈it.o.op.operands then readS it.ctx (xbv S 0 L s) x else none) (xeb S 0 L H.objs) it.key it.o.op=some x:=by
    rw [← hx]
    symm
    refine xvR it.o.op (fun x hm=>?_) (fun key hk=>hobj key (by rw [hfoot]; exact hk))
    rw [if_pos hm]
    exact hopnd _ x hm
   have hnd:∀ c,it.o.op≠.defer c:=fun c e=>by
    rw [e] at hx
    unfold xmC at hx
    simp [xfk] at hx
   have hs:=xhR (P:=P) (e:=a.eval) hH (fun x v hx=>by
    split at hx
    ·rename_i hm
     exact ⟨(hrd x v hx).1,hrd2 x v hm hx⟩
    ·cases hx) (show it.key≤xgk L H.next by omega) it.o hx2 (fun hn o ho=>by
     obtain ⟨q1,q2⟩:=hclear.1 o ho
     unfold Away at q1 q2
     rw [hsame.nk,hr] at q1 q2
     exact ⟨by omega,xaU (fun k hk=>by omega) q2⟩)
   rw [hr]
   exact ⟨hs.1,xse hnd hs.2.1⟩
  ·cases hstep
theorem Run.invStep (r:Run P Γ call N ops H s L) {S S':Nat→Bool} (hS:xo7 ops S) {j:Nat} {it:Item} (hj:L[j]?=some it) (hSj:S j=false) (hready:∀ e∈it.o.after,Region.binds .any e=true→S e.on=true) (hS':∀ m,S' m=(S m||Nat.beq m j))
  (hneed:∀ p,it.need=some p→p) {a:Act} {w:World} (hinv:Inv N D X w0 H s L E S a w) {K:Act→World→Prop} {Q:Exit→Act→World→Prop} (hK:∀ a2 w2,Inv N D X w0 H s L E S' a2 w2→K a2 w2):wpOpIn (FR rnd) 0 P ops Q j K a w:=by
 obtain ⟨E',hE,hSl,hH⟩:=hinv
 obtain ⟨seenk,hat⟩:=r.at_ j it hj
 have hoj:=r.back hj
 have hf:=r.fine hj
 obtain ⟨hk1,hk2⟩:=r.keyF hj
 have hd:∀ d,it.o.dst=some d→d<N∧∀ t g want v,xbv S 0 L s t=.when g want v→g≠d:=fun d hd=>⟨r.dstN hj hd,r.noGuard hS hj hSj hd⟩
 have tr_slots:∀ t,xbv S' 0 L s t=put (xbv S 0 L s) it.o.dst it.slot t:=fun t =>
  xrO L 0 j S S' s hj (by omega) hSj hS' (fun k' y hy hne hx hty=>hne (r.distinct hy hj hty hx))
 have tr_objs:∀ key,xfP key (xeB it.x (xeb S 0 L H.objs))=xfP key (xeb S' 0 L H.objs):=fun key =>
  (xtS L 0 j S S' H.objs r.fines hj (by omega) hSj hS' (fun k' y hy hlt hx hty=>by
   have hne:j≠k':=by omega
   have:=r.agree hS hoj hSj hready hy hne (r.touchBoth hj hy hne hx hty)
   rw [Nat.zero_add,this]
   simp; omega)).symm
 have done:∀ {E2:Env} {u:Value} {w2:World} {l:List Obj},(∀ k,k<H.next→E2 k=E k)→xaH E2 (xgk L H.next) N D (put (xbv S 0 L s) it.o.dst it.slot) (a.put it.o.dst u)→l=xeB it.x (xeb S 0 L H.objs)→xah X E2 w0 ⟨l,xgk L H.next⟩ w2→K (a.put it.o.dst u) w2:=by
  intro E2 u w2 l hE2 hs2 hl hh2
  subst hl
  exact hK _ _ ⟨E2,hE2,hs2.point tr_slots,hh2.congr tr_objs⟩
 have hguard:=hat.guard
 have hl:AV.lt (xgk L H.next) it.x.v:=xf5 hk2 _ hf.val
 have hlooks:∀ c∈it.ctx,xbv S 0 L s c.1=xbv (fun x=>decide (x<0+j)) 0 L s c.1:=by
  intro c hc
  refine xgN L 0 S _ s s rfl (fun k y hy hdy=>?_)
  simp only [Nat.zero_add]
  exact r.pairAgree hS hj hSj hready hy (C:=c.1∉xph it) (fun h=>h.dst _ hdy) (fun h=>h (by unfold xph; exact List.mem_append.2 (.inr (List.mem_map.2 ⟨c,hc,rfl⟩))))
 have hctxok:xxI a it.o it.ctx:=by
  cases hc:it.ctx with
  | nil=>trivial
  | cons c0 r0 =>
   obtain ⟨g,want,b⟩:=c0
   unfold xjN at hguard
   rw [hc] at hguard hlooks
   have hch:=xg1 (s':=xbv S 0 L s) 9 g want _ hguard.2.1 hlooks
   obtain ⟨q1,q2,_⟩:=xec hSl 9 g want _ hch
   refine ⟨q1,q2,fun e=>?_⟩
   rcases hat.from_ g hguard.1 with h | ⟨k',y,hk',hy,hdy⟩
   ·cases h
   ·have:=r.distinct hy hj hdy e; omega
 have exec:xdH it.ctx→it.o.wpIn (FR rnd) 0 P a w K Q:=by
  intro hb
  obtain ⟨hwf,hdoes⟩:=r.does (rnd:=rnd) hS hj hSj hready hSl hH hb
  have hclear:=r.clear hS hj hSj hready
  have hholds:it.x.holds:=by
   unfold Eff.holds
   cases hp:it.x.p with
   | none=>trivial
   | some q=>exact xqW (hneed _ (by unfold Item.need; rw [hp]; rfl)) hb
  refine hdoes hholds K Q fun E2 w2 he=>?_
  have hH2:=hH.effAt hwf he hclear.1 (n':=xgk L H.next) (Nat.le_refl _) hk2
  refine done (fun k hk=>by rw [he.agree k (.inl (by omega))]; exact hE k hk) ?_ rfl hH2
  have hSl2:xaH E2 (xgk L H.next) N D (xbv S 0 L s) a:=hSl.envAll (fun k hk=>he.agree k hk) hclear.2
  unfold Item.slot
  split
  ·exact (xiS hSl2 hd hctxok hl).1 hb
  ·exact hSl2.put hd ⟨rfl,hl⟩
 unfold wpOpIn
 rw [hoj]
 simp only []
 cases hc:it.ctx with
 | nil =>
  unfold xjN at hguard
  rw [hc] at hguard
  rw [if_pos (by simp [Region.wanted,hguard])]
  exact exec (fun c h=>by rw [hc] at h; cases h)
 | cons c0 r0 =>
  obtain ⟨g,want,b⟩:=c0
  have hguard0:=hguard
  have hctx0:=hctxok
  unfold xjN at hguard
  rw [hc] at hguard hctx0
  obtain ⟨hseen,_,jg,og,hg1,hg2,hg3⟩:=hguard
  by_cases hb:xdH it.ctx
  ·have hgv:a.tmps.getD g undef=.bool want:=hctx0.1.2 (by rw [← hc]; exact hb)
   rw [if_pos (by simp [Region.wanted,hg1,xnG hg2 hg3 hgv])]
   exact exec hb
  ·have hgv:a.tmps.getD g undef≠.bool want:=fun e=>hb (by rw [hc]; exact hctx0.1.1 e)
   have hnw:¬ Region.wanted it.o (yielded ops a.tmps)=true:=by
    intro hw
    unfold Region.wanted at hw
    rw [hg1] at hw
    have hw:(yielded ops a.tmps jg==some want)=true:=hw
    have hy:yielded ops a.tmps jg=some want:=by simpa using hw
    unfold yielded at hy
    simp only [hg2,Option.bind_some,hg3] at hy
    cases ht:a.tmps[g]? with
    | none=>rw [ht] at hy; cases hy
    | some v =>
     rw [ht] at hy
     cases v<;>simp at hy
     subst hy
     exact hgv (by rw [Array.getD_eq_getD_getElem?,ht]; rfl)
   rw [if_neg hnw]
   refine ⟨fun _ _=>trivial,?_⟩
   have hpure:it.x.pure=true:=by
    rcases hf.pure with h | h | h
    ·exact h
    ·rw [hc] at h; cases h
    ·exact absurd (hat.step.1 h) hb
   obtain ⟨e1,e2,e3⟩:=xtI hpure
   refine done hE ?_ (l:=xeb S 0 L H.objs) (by unfold xeB; rw [e1,e2,List.nil_append]; symm; exact List.filter_eq_self.2 (fun _ _=>rfl)) hH
   unfold Item.slot
   rw [hpure]
   exact (xiS hSl hd hctxok hl).2 _ _ hc hb
theorem xuq {p q:Nat→Bool}:∀ {l:List Nat} {j:Nat},(∀ x,q x=true→p x=true)→j∈l→p j=true→q j=false→l.countP q<l.countP p
 | [],j,_,h,_,_=>by cases h
 | x::r,j,hqp,h,hp,hq=>by
  have mono:r.countP q≤r.countP p:=List.countP_mono_left (fun x _ h=>hqp x h)
  simp only [List.countP_cons]
  rcases List.mem_cons.1 h with rfl | h
  ·rw [hp,hq]; simp; omega
  ·have:=xuq hqp h hp hq
   cases hx:q x with
   | true=>rw [hqp x hx]; simp; omega
   | false=>simp; omega
theorem Run.all (r:Run P Γ call N ops H s L) {Q:Exit→Act→World→Prop} (hneed:∀ (k:Nat) (it:Item) (p:Prop),L[k]?=some it→it.need=some p→p)
  (hpost:Post X w0 E H N D (Q .normal) (xbv (fun _=>true) 0 L s,⟨xeb (fun _=>true) 0 L H.objs,xgk L H.next⟩)) :
  ∀ (fuel:Nat) (listed:Array Bool) (a:Act) (w:World),listed.size=ops.size→xo7 ops (fun m=>listed.getD m false)→Inv N D X w0 H s L E (fun m=>listed.getD m false) a w →
   (List.range ops.size).countP (fun i=>!(listed.getD i false))≤fuel→wpAnyIn (FR rnd) 0 P .any ops Q fuel listed a w:=by
 have hlen:L.length=ops.size:=by
  have:=congrArg List.length r.hops
  simpa using this
 have full:∀ (listed:Array Bool) (a:Act) (w:World),Inv N D X w0 H s L E (fun m=>listed.getD m false) a w→(∀ j,j<ops.size→listed.getD j false=true)→Q .normal a w:=by
  intro listed a w hinv hfull
  obtain ⟨E',hE,hSl,hH⟩:=hinv
  have hS:∀ k it,L[k]?=some it→listed.getD (0+k) false=true:=fun k it hk=>by
   have:k<L.length:=by
    rcases Nat.lt_or_ge k L.length with h | h
    ·exact h
    ·rw [List.getElem?_eq_none h] at hk; cases hk
   rw [Nat.zero_add]; exact hfull k (by omega)
  refine hpost E' a w hE (hSl.point fun t=>?_) (hH.congr fun key=>?_) (xjt _ _) (xqu L 0 _ H.objs (fun o ho _=>ho) (fun k it hk _ o ho hv=>?_))
  ·exact xgN L 0 (fun _=>true) (fun m=>listed.getD m false) s s rfl (fun k it hk _=>(hS k it hk).symm)
  ·exact xfF L 0 (fun m=>listed.getD m false) (fun _=>true) _ _ r.fines rfl (fun k it hk _=>hS k it hk)
  ·have h1:=(r.fine hk).ver o ho
   have h2:=(r.keyF hk).1
   have h3:o.ver<H.next:=hv
   omega
 have getD_eq:∀ (listed:Array Bool),listed.size=ops.size→∀ j,j<ops.size→listed.getD j true=listed.getD j false:=by
  intro listed hl j hj
  have:j<listed.size:=by omega
  simp [Array.getD,this]
 have ready_full:∀ (listed:Array Bool),listed.size=ops.size→Region.ready .any ops listed=[]→∀ n j,j<n→j<ops.size→listed.getD j false=true:=by
  intro listed hl hr n
  induction n with
  | zero=>intro j h; omega
  | succ n ih =>
   intro j hjn hj
   cases hb:listed.getD j false with
   | true=>rfl
   | false =>
    exfalso
    have hmem:j∈Region.ready .any ops listed:=by
     refine mem_ready.2 ⟨by rw [getD_eq listed hl j hj]; exact hb,ops[j],by simp [hj],fun e he hbi=>?_⟩
     have hlt:=r.edge j ops[j] (by simp [hj]) e he hbi
     exact ih e.on (by omega) (by omega)
    rw [hr] at hmem
    cases hmem
 intro fuel
 induction fuel with
 | zero =>
  intro listed a w hl hcl hinv hcount
  have hfull:∀ j,j<ops.size→listed.getD j false=true:=by
   intro j hj
   cases hb:listed.getD j false with
   | true=>rfl
   | false =>
    exfalso
    have:0<(List.range ops.size).countP (fun i=>!(listed.getD i false)):=List.countP_pos_iff.2 ⟨j,by simpa using hj,by rw [hb]; rfl⟩
    omega
  refine ⟨?_,full listed a w hinv hfull⟩
  rw [List.eq_nil_iff_forall_not_mem]
  intro j hj
  obtain ⟨hju,oj,hoj,_⟩:=mem_ready.1 hj
  have hlt:j<ops.size:=by
   rcases Nat.lt_or_ge j ops.size with h | h
   ·exact h
   ·simp [h] at hoj
  rw [getD_eq listed hl j hlt,hfull j hlt] at hju
  cases hju
 | succ fuel ih =>
  intro listed a w hl hcl hinv hcount
  refine ⟨fun h=>full listed a w hinv (fun j hj=>ready_full listed hl h (j+1) j (by omega) hj),fun j hj=>?_⟩
  obtain ⟨hju,oj,hoj,hall⟩:=mem_ready.1 hj
  have hlt:j<ops.size:=by
   rcases Nat.lt_or_ge j ops.size with h | h
   ·exact h
   ·simp [h] at hoj
  rw [getD_eq listed hl j hlt] at hju
  obtain ⟨it,hit,hio⟩:=r.get hoj
  subst hio
  have hset:∀ m,(listed.setIfInBounds j true).getD m false=(listed.getD m false||Nat.beq m j):=by
   intro m
   by_cases hm:m=j
   ·subst hm
    rw [xcM]
    simp [Array.getD_eq_getD_getElem?,hl,hlt]
   ·rw [xhQ hm]
    simp [Array.getD_eq_getD_getElem?,Array.getElem?_setIfInBounds_ne (fun e=>hm e.symm)]
  refine r.invStep (S:=fun m=>listed.getD m false) (S':=fun m=>(listed.setIfInBounds j true).getD m false) hcl hit hju (fun e he hb=>hall e he hb) hset (fun p hp=>hneed j it p hit hp) hinv (fun a2 w2 hinv2=>?_)
  refine ih _ a2 w2 (by simpa using hl) ?_ hinv2 ?_
  ·intro i o ho hSi e he hb
   simp only [hset] at hSi ⊢
   rcases Bool.or_eq_true _ _▸hSi with h | h
   ·have h2:listed.getD e.on false=true:=hcl i o ho h e he hb
    rw [h2]; rfl
   ·have hij:i=j:=Nat.eq_of_beq_eq_true h
    subst hij
    rw [hoj] at ho
    cases ho
    rw [hall e he hb]; rfl
  ·have:=xuq (p:=fun i=>!(listed.getD i false)) (q:=fun i=>!((listed.setIfInBounds j true).getD i false)) (l:=List.range ops.size) (j:=j)
    (fun x hx=>by
     rw [hset] at hx
     cases hb:listed.getD x false with
     | true=>rw [hb] at hx; simp at hx
     | false=>rfl) (by simpa using hlt) (by rw [hju]; rfl) (by rw [hset,xcM]; simp)
   omega
theorem xmi {α:Type} {Q:α→Prop} {t:Tree α}:∀ {L:List Item},(xu5 L t).holds Q→(∀ (k:Nat) (it:Item) (p:Prop),L[k]?=some it→it.need=some p→p)∧t.holds Q
 | [],h=>⟨fun k it p hk=>by simp at hk,h⟩
 | x::r,h=>by
  unfold xu5 at h
  split at h
  ·rename_i q hq
   obtain ⟨h1,h2⟩:=xmi (L:=r) h.2
   refine ⟨fun k it p hk hp=>?_,h2⟩
   cases k with
   | zero=>simp at hk; subst hk; rw [hq] at hp; cases hp; exact h.1
   | succ k=>exact h1 k it p (by simpa using hk) hp
  ·rename_i hq
   obtain ⟨h1,h2⟩:=xmi (L:=r) h
   refine ⟨fun k it p hk hp=>?_,h2⟩
   cases k with
   | zero=>simp at hk; subst hk; rw [hq] at hp; cases hp
   | succ k=>exact h1 k it p (by simpa using hk) hp
theorem xp3 (n m:Nat):(Array.replicate n false).getD m false=false:=by
 rw [Array.getD_eq_getD_getElem?,Array.getElem?_replicate]
 split<;>rfl
theorem xuo (hΓ:xbh P Γ) (hcall:xih P call) (hk:xft P call) {a:Act} {w:World} (hS:xaH E H.next N D s a) (hG:xj9 s []) (hH:xah X E w0 H w) {id:Nat} {Q:Exit→Act→World→Prop}
  : ∀ (n:Nat) (as:List (Nat×Bool)),(xqV P Γ call N ops s H n as).holds (Post X w0 E H N D (Q .normal))→(Code.region id ops true).wpIn (FR rnd) 0 P Q a w:=by
 intro n
 induction n with
 | zero=>intro as h; exact h.elim
 | succ n ih =>
 intro as h
 unfold xqV at h
 split at h
 ·rename_i L hrun
  split at h
  ·rename_i hc
   rw [Bool.and_eq_true] at hc
   obtain ⟨hmix,hord⟩:=hc
   obtain ⟨hneed,hpost⟩:=xmi h
   obtain ⟨hmap,hchain⟩:=xnQ _ _ _ _ _ hrun
   have hslots:xgM (fun x=>x<H.next) s:=by
    intro t
    have:=hS.ok t
    cases hs:s t with
    | is v=>rw [hs] at this; exact this.2
    | when g want v=>rw [hs] at this; exact this.1
    | junk=>trivial
   unfold xyl at hord
   simp only [Bool.and_eq_true] at hord
   obtain ⟨hedge,hpairs⟩:=hord
   have r:Run P Γ call N ops H s L:={
    hΓ:=hΓ,hcall:=hcall,hk:=hk,hops:=hmap
    at_:=fun k it hk=>xwG L 0 k [] s H it hchain hslots hk
    hslots:=hslots,nowhen:=hG,hobjs:=hH.lt
    pair:=fun j x m y hj hm _=>by
     have h1:=List.all_eq_true.1 hpairs (x,j) (List.mem_zipIdx_iff_getElem?.2 hj)
     have h2:=List.all_eq_true.1 h1 (y,m) (List.mem_zipIdx_iff_getElem?.2 hm)
     rw [Bool.and_eq_true] at h2
     exact h2.1
    alls:=fun j x m y hj hm=>by
     have h1:=List.all_eq_true.1 hpairs (x,j) (List.mem_zipIdx_iff_getElem?.2 hj)
     have h2:=List.all_eq_true.1 h1 (y,m) (List.mem_zipIdx_iff_getElem?.2 hm)
     rw [Bool.and_eq_true] at h2
     exact h2.2
    edge:=fun i o ho e he hb=>by
     have h1:=List.all_eq_true.1 hedge (o,i) (List.mem_zipIdx_iff_getElem?.2 (by simpa using ho))
     have h2:=Array.all_eq_true_iff_forall_mem.1 h1 e he
     rw [hb] at h2
     simpa using h2 }
   refine wpIn_region_any hmix (r.all hneed hpost ops.size _ a _ (by simp) (fun i o _ hi=>?_) ⟨E,fun _ _=>rfl,?_,?_⟩ ?_)
   ·rw [show (fun m=>(Array.replicate ops.size false).getD m false) i=false from xp3 _ _] at hi; cases hi
   ·have e:xbv (fun m=>(Array.replicate ops.size false).getD m false) 0 L s=s:=xl9 _ _ _ _ (fun m _=>xp3 _ _)
    rw [e]
    exact ⟨hS.defers,hS.size,(hS.env (fun _ _=>rfl) (xjt L H.next)).ok⟩
   ·have e:xeb (fun m=>(Array.replicate ops.size false).getD m false) 0 L H.objs=H.objs:=xlg _ _ _ _ (fun m _=>xp3 _ _)
    rw [e]
    exact hH.drew.sub (fun o ho=>ho) (fun o ho=>⟨Nat.lt_of_lt_of_le (hH.lt o ho).1 (xjt L H.next),xaU (fun k hk=>Nat.lt_of_lt_of_le hk (xjt L H.next)) (hH.lt o ho).2⟩)
   ·refine Nat.le_trans List.countP_le_length ?_
    simp
  ·exact h.elim
 ·split at h
  ·rename_i g b _
   cases b with
   | true=>exact ih _ (h.1 rfl)
   | false=>exact ih _ (h.2 rfl)
  ·exact h.elim
theorem xpt (hΓ:xbh P Γ) (hcall:xih P call) (hk:xft P call) {a:Act} {w:World} (hS:xaH E H.next N D s a) (hG:xj9 s []) (hH:xah X E w0 H w) {id:Nat} {Q:Exit→Act→World→Prop}
  (h:(xon P Γ call N ops s H).holds (Post X w0 E H N D (Q .normal))):(Code.region id ops true).wpIn (FR rnd) 0 P Q a w:=xuo hΓ hcall hk hS hG hH _ _ h
end
end Go.Sy
set_option linter.unusedVariables false
namespace Go.Sy
open Go.RowKit
section
variable {P:Program} {Γ:Con} {call:xgj} {yld:Nat→List AV→Heap→Tree (AV×Heap)} {X:List (Nat×Go.Obj)} {w0:World} {N:Nat} {D:List Deferred} {rnd:Option Nat}
structure xgh (rs:Ctx) (s s0:xaS):Prop where
 whens:∀ u g w v,s0 u=.when g w v→s u=.when g w v
 else_:∀ u,s0 u=s u∨(∃ g w v,s u=.when g w v)∨∃ c∈rs,c.1=u
theorem xgh.refl (rs:Ctx) (s:xaS):xgh rs s s:=⟨fun _ _ _ _ h=>h,fun _=>.inl rfl⟩
theorem xkH {rest:Ctx} {g:Nat} {want b v:Bool} {s s0:xaS} (h:xgh rest (xqB g v s) s0):xgh ((g,want,b)::rest) s s0:=by
 refine ⟨fun u g' w x hu=>xiV (h.whens u g' w x hu),fun u=>?_⟩
 rcases h.else_ u with h1 | ⟨g',w,x,h1⟩ | ⟨c,hc,h1⟩
 ·by_cases hu:u=g
  ·exact .inr (.inr ⟨_,List.mem_cons_self,hu.symm⟩)
  ·cases hs:s u with
   | when g2 w2 y=>exact .inr (.inl ⟨_,_,_,rfl⟩)
   | is y=>left; rw [h1]; unfold xqB; rw [xcS _ _ hu,hs]
   | junk=>left; rw [h1]; unfold xqB; rw [xcS _ _ hu,hs]
 ·exact .inr (.inl ⟨g',w,x,xiV h1⟩)
 ·exact .inr (.inr ⟨c,List.mem_cons_of_mem _ hc,h1⟩)
theorem xtn {Q:RCfg→Prop} {t e:xaS→Tree RCfg}:∀ (rs:Ctx) (s:xaS),(∀ s0,xgh rs s s0→(t s0).all Q)→(∀ s0,xgh rs s s0→(e s0).all Q)→(brG rs s t e).all Q
 | [],s,ht,_=>ht s (xgh.refl _ _)
 | (g,want,b)::rest,s,ht,he=>⟨xtn rest (xqB g want s) (fun s0 h=>ht s0 (xkH h)) (fun s0 h=>he s0 (xkH h)),he _ (xkH (xgh.refl _ _))⟩
def xAB (s:xaS) (dst:Option Nat) (ctx:Ctx) (s':xaS):Prop :=
 ∃ sl s0,s'=Sy.put s0 dst sl∧(∀ g want v,sl=.when g want v→∃ b r,ctx=(g,want,b)::r)∧xgh ctx.reverse s s0
theorem xg6 {s s0:xaS} (dst:Option Nat) {ctx:Ctx} (v:AV) (h:xgh ctx.reverse s s0):xAB s dst ctx (Sy.put s0 dst (.is v)):=⟨_,_,rfl,(fun _ _ _ e=>by cases e),h⟩
theorem xpv (s:xaS) (dst:Option Nat) (ctx:Ctx) (v:AV):xAB s dst ctx (Sy.put s dst (xiK ctx v)):=by
 refine ⟨_,_,rfl,fun g want v' e=>?_,xgh.refl _ _⟩
 unfold xiK at e
 split at e
 ·cases e
 ·rename_i g' want' b' r'; cases e; exact ⟨b',r',rfl⟩
theorem xre {α:Type} {ctx:Ctx} {p:Option Prop} {t:Tree α} {Q:α→Prop} (h:t.all Q):(xtV ctx p t).all Q:=by
 cases p<;>exact h
theorem xkt (s:xaS) (H:Heap) (dst:Option Nat) (ctx:Ctx) (x:Eff):(xq6 s H dst ctx x).all fun y=>xAB s dst ctx y.1:=by
 unfold xq6
 split
 ·exact xre (xpv _ _ _ _)
 ·split
  ·exact xre (xg6 _ _ (xgh.refl _ _))
  ·exact xtn _ _ (fun s0 h=>xre (xg6 _ _ h)) (fun s0 h=>xg6 _ _ h)
theorem xqd (o:Oper) (s:xaS) (H:Heap) (ctx:Ctx):(xrm P Γ call yld o s H ctx).all fun x=>xAB s o.dst ctx x.1:=by
 unfold xrm
 simp only []
 split
 ·split
  ·exact xpv _ _ _ _
  ·trivial
 ·split
  ·split
   ·exact xkt _ _ _ _ _
   split
   ·exact xkt _ _ _ _ _
   ·split
    ·exact xdi (xgL (fun x=>xg6 _ _ (xgh.refl _ _)) _)
    ·exact xtn _ _ (fun s0 h=>xdi (xgL (fun x=>xg6 _ _ h) _)) (fun s0 h=>xg6 _ _ h)
  ·split
   ·exact xdi (xgL (fun x=>xg6 _ _ (xgh.refl _ _)) _)
   ·exact xtn _ _ (fun s0 h=>xdi (xgL (fun x=>xg6 _ _ h) _)) (fun s0 h=>xg6 _ _ h)
  ·trivial
 ·split
  ·exact xkt _ _ _ _ _
  ·split
   ·split
    ·exact ⟨xpv _ _ _ _,xpv _ _ _ _⟩
    ·trivial
   ·trivial
theorem xjE (hΓ:xbh P Γ) (hcall:xih P call) (hk:xft P call) (hyld:xuI P yld) (ops:Array Oper) {Q:Exit→Act→World→Prop} :
  ∀ (l:List Oper) (seen:List Nat) (s:xaS) (H:Heap) (E:Env) (a:Act) (w:World),xj9 s seen→xaH E H.next N D s a→xah X E w0 H w →
   (xhI P Γ call yld N ops l seen s H).holds (Post X w0 E H N D (Q .normal))→wpListIn (FR rnd) 0 P ops Q l a w
 | [],seen,s,H,E,a,w,_,hS,hH,h=>h E a w (fun _ _=>rfl) hS hH (Nat.le_refl _) (Old.refl _)
 | o::rest,seen,s,H,E,a,w,hG,hS,hH,h=>by
  unfold xhI at h
  split at h
  ·exact h.elim
  ·rename_i seen' hseen
   have hd:=xzS hG hseen
   have next:∀ (ctx:Ctx),(∀ g want b r,ctx=(g,want,b)::r→g∈seen) →
     ((xrm P Γ call yld o s H ctx).bind fun (x:RCfg)=>xhI P Γ call yld N ops rest seen' x.1 x.2).holds (Post X w0 E H N D (Q .normal)) →
     (xrm P Γ call yld o s H ctx).holds (Post X w0 E H N D (wpListIn (FR rnd) 0 P ops Q rest)):=by
    intro ctx hc h
    refine xaM (fun x hx=>?_) (xjc (xbw h) (xqd o s H ctx))
    obtain ⟨hx,sl,s0,hsl,hguard,hlrn⟩:=hx
    have hG0:xj9 s0 seen:=fun t g w v h=>hG t g w v (hlrn.whens t g w v h)
    intro E' a' w' hE hS' hH' hle hold
    refine xjE hΓ hcall hk hyld ops rest seen' x.1 x.2 E' a' w' ?_ hS' hH' (xaM (fun y hy=>?_) hx)
    ·rw [hsl]
     exact xll hG0 hseen fun g want v e=>by
      obtain ⟨b,r,hb⟩:=hguard g want v e
      exact hc g want b r hb
    ·intro E2 a2 w2 hE2 hS2 hH2 hle2 hold2
     exact hy E2 a2 w2 (fun k hk=>by rw [hE2 k (by omega),hE k hk]) hS2 hH2 (Nat.le_trans hle hle2) (hold.trans hold2 hle)
   split at h
   ·rename_i hg
    have hgo:=xoU hg
    have:=xl8 (rnd:=rnd) hΓ hcall hk hyld hS hH hd (ctx:=[]) trivial trivial (Q:=Q) (next [] (fun _ _ _ _ e=>by cases e) h)
    unfold wpListIn
    rw [if_pos (by simp [Region.wanted,hgo])]
    exact this
   ·rename_i g want hg
    split at h
    ·rename_i hseen2
     have hmem:g∈seen:=by
      obtain ⟨x,hx,hb⟩:=List.any_eq_true.1 hseen2
      rw [Nat.eq_of_beq_eq_true hb]; exact hx
     obtain ⟨j,oj,hgo,hj,hdj⟩:=xoT hg
     have unwanted:a.tmps.getD g undef≠.bool want→¬ Region.wanted o (yielded ops a.tmps)=true:=by
      intro hgv hw
      unfold Region.wanted at hw
      rw [hgo] at hw
      have hw:(yielded ops a.tmps j==some want)=true:=hw
      have hy:yielded ops a.tmps j=some want:=by simpa using hw
      unfold yielded at hy
      simp only [hj,Option.bind_some,hdj] at hy
      cases ht:a.tmps[g]? with
      | none=>rw [ht] at hy; cases hy
      | some v =>
       rw [ht] at hy
       cases v<;>simp at hy
       subst hy
       exact hgv (by rw [Array.getD_eq_getD_getElem?,ht]; rfl)
     split at h
     ·-- a guard that is known to hold
      rename_i hkn
      have hgv:a.tmps.getD g undef=.bool want:=by
       have hs:=hS.ok g
       unfold xjd at hkn
       split at hkn
       ·rename_i b hsl
        rw [hsl] at hs
        have:b=want:=by simpa using hkn
        subst this
        exact hs.1
       ·cases hkn
       ·cases hkn
      have:=xl8 (rnd:=rnd) hΓ hcall hk hyld hS hH hd (ctx:=[]) trivial trivial (Q:=Q) (next [] (fun _ _ _ _ e=>by cases e) h)
      unfold wpListIn
      rw [if_pos (by simp [Region.wanted,hgo,xnG hj hdj hgv])]
      exact this
     ·-- one that is known not to hold
      rename_i hkn
      have hgv:a.tmps.getD g undef≠.bool want:=by
       have hs:=hS.ok g
       unfold xjd at hkn
       split at hkn
       ·rename_i b hsl
        rw [hsl] at hs
        have:b≠want:=by simpa using hkn
        intro e
        rw [hs.1] at e
        exact this (by cases e; rfl)
       ·rename_i v hnb hsl
        rw [hsl] at hs
        intro e
        rw [hs.1] at e
        exact hnb want (by rw [show v=Value.bool want from e])
       ·cases hkn
      unfold wpListIn
      rw [if_neg (unwanted hgv)]
      refine ⟨fun _ _=>trivial,?_⟩
      refine xjE hΓ hcall hk hyld ops rest seen' _ H E _ w ?_ (hS.put hd (sl:=.is (.val undef)) ⟨rfl,trivial⟩) hH (xaM (fun y hy=>?_) h)
      ·exact xll hG hseen fun g want v e=>by cases e
      ·exact fun E2 a2 w2 hE2 hS2 hH2 hle2 hold2=>hy E2 a2 w2 hE2 hS2 hH2 hle2 hold2
     ·split at h
      case h_2=>exact h.elim
      rename_i ctx hch
      obtain ⟨q1,q2,b,r,rfl⟩:=xec hS 9 g want ctx hch
      have hne:o.dst≠some g:=fun e=>by
       have h2:seen.any (Nat.beq g)=true:=hseen2
       rw [e] at hseen
       simp only [xel,h2] at hseen
       simp at hseen
      have:=xl8 (rnd:=rnd) hΓ hcall hk hyld hS hH hd (ctx:=(g,want,b)::r) ⟨q1,q2,hne⟩ (xj4 hS 9 g want _ hch) (Q:=Q) (next _ (fun _ _ _ _ e=>by cases e; exact hmem) h)
      unfold wpListIn
      by_cases hb:xdH ((g,want,b)::r)
      ·rw [if_pos (by simp [Region.wanted,hgo,xnG hj hdj (q1.2 hb)])]
       exact this.1 hb
      ·have hgv:a.tmps.getD g undef≠.bool want:=fun e=>hb (q1.1 e)
       rw [if_neg (unwanted hgv)]
       exact ⟨fun _ _=>trivial,this.2 hb⟩
    ·exact h.elim
   ·exact h.elim
theorem xqc {s:xaS} {dst:Option Nat} {sl:Slot} {t:Nat} (h:dst≠some t):Sy.put s dst sl t=s t:=by
 cases dst with
 | none=>rfl
 | some d=>exact xcS _ _ (fun e=>h (by rw [e]))
theorem xl0 {s:xaS} {seen:List Nat} (hG:xj9 s seen):∀ (m g:Nat) (want:Bool) (ctx:Ctx),xbg s m g want=some ctx→g∈seen→∀ c∈ctx,c.1∈seen
 | 0,_,_,_,h,_=>by cases h
 | m+1,g,want,ctx,h,hg=>by
  unfold xbg at h
  split at h
  ·split at h
   ·cases h; intro c hc; simp at hc; subst hc; exact hg
   ·cases h
  ·rename_i g1 w1 v hs
   split at h
   case h_2=>cases h
   cases hr:xbg s m g1 w1 with
   | none=>rw [hr] at h; cases h
   | some r =>
    rw [hr] at h
    cases h
    intro c hc
    rcases List.mem_cons.1 hc with rfl | hc
    ·exact hg
    ·exact xl0 hG m g1 w1 r hr (hG g g1 w1 v hs) c hc
  ·cases h
def xAy (s:xaS) (seen:List Nat):Prop:=∀ t g w v,s t=.when g w v→t∈seen
theorem xv1 {N:Nat} {dst:Option Nat} {seen seen':List Nat} (h:xel N dst seen=some seen'):(∀ t,t∈seen→t∈seen')∧(∀ d,dst=some d→d∈seen')∧∀ t,t∈seen'→t∈seen∨dst=some t:=by
 cases dst with
 | none=>cases h; exact ⟨fun _ h=>h,(fun _ h=>by cases h),fun _ h=>.inl h⟩
 | some d =>
  simp only [xel] at h
  split at h
  ·cases h
   refine ⟨fun t ht=>List.mem_cons_of_mem _ ht,fun d' hd=>by cases hd; exact List.mem_cons_self,fun t ht=>?_⟩
   rcases List.mem_cons.1 ht with rfl | ht
   ·exact .inr rfl
   ·exact .inl ht
  ·cases h
theorem xts {s:xaS} {seen seen':List Nat} {N:Nat} {dst:Option Nat} {sl:Slot} (h:xAy s seen) (hs:xel N dst seen=some seen'):xAy (Sy.put s dst sl) seen':=by
 intro t g w v ht
 obtain ⟨m1,m2,_⟩:=xv1 hs
 by_cases hd:dst=some t
 ·exact m2 t hd
 ·rw [xqc hd] at ht
  exact m1 t (h t g w v ht)
theorem xiy (ops:Array Oper):∀ (l:List Oper) (seen:List Nat) (s:xaS) (H:Heap),xj9 s seen→xAy s seen→(xhI P Γ call yld N ops l seen s H).all fun x=>∀ t,t∉seen→(∀ o∈l,o.dst≠some t)→x.1 t=s t
 | [],seen,s,H,_,_=>fun t _ _=>rfl
 | o::rest,seen,s,H,hG,hW=>by
  unfold xhI
  split
  ·trivial
  ·rename_i seen' hseen
   have hsm:=xv1 hseen
   have next:∀ (ctx:Ctx),(∀ c∈ctx,c.1∈seen)→((xrm P Γ call yld o s H ctx).bind fun (x:RCfg)=>xhI P Γ call yld N ops rest seen' x.1 x.2).all fun x=>∀ t,t∉seen→(∀ o'∈o::rest,o'.dst≠some t)→x.1 t=s t:=by
    intro ctx hctx
    refine xdi (xcb (fun x hx=>?_) (xqd o s H ctx))
    obtain ⟨sl,s0,hsl,hguard,hlrn⟩:=hx
    have hG0:xj9 s0 seen:=fun t g w v h=>hG t g w v (hlrn.whens t g w v h)
    have hW0:xAy s0 seen:=fun t g w v h=>hW t g w v (hlrn.whens t g w v h)
    refine xcb (fun y hy t ht1 ht2=>?_) (xiy ops rest seen' x.1 x.2 ?_ ?_)
    ·rw [hy t (fun hm=>by
      rcases hsm.2.2 t hm with h | h
      ·exact ht1 h
      ·exact ht2 o (by simp) h) (fun o' ho'=>ht2 o' (by simp [ho'])),hsl,xqc (ht2 o (by simp))]
     rcases hlrn.else_ t with h | ⟨g,w,v,h⟩ | ⟨c,hc,h⟩
     ·exact h
     ·exact absurd (hW t g w v h) ht1
     ·exact absurd (by rw [← h]; exact hctx c (List.mem_reverse.1 hc)) ht1
    ·rw [hsl]
     exact xll hG0 hseen fun g want v e=>by
      obtain ⟨b,r,hb⟩:=hguard g want v e
      exact hctx (g,want,b) (by rw [hb]; exact List.mem_cons_self)
    ·rw [hsl]; exact xts hW0 hseen
   split
   ·exact next [] (fun c hc=>by cases hc)
   ·rename_i g want hg
    split
    ·rename_i hs2
     have hmem:g∈seen:=xjK.1 hs2
     split
     ·exact next [] (fun c hc=>by cases hc)
     ·refine xcb (fun y hy t ht1 ht2=>?_) (xiy ops rest seen' _ H ?_ (xts hW hseen))
      ·rw [hy t (fun hm=>by
        rcases hsm.2.2 t hm with h | h
        ·exact ht1 h
        ·exact ht2 o (by simp) h) (fun o' ho'=>ht2 o' (by simp [ho'])),xqc (ht2 o (by simp))]
      ·exact xll hG hseen fun g want v e=>by cases e
     ·split
      ·rename_i ctx hch
       exact next ctx (xl0 hG 9 g want ctx hch hmem)
      ·trivial
    ·trivial
   ·trivial
theorem xqv {α:Type} {Q:α→Prop} {t:Tree α} (h:t.all Q):∀ L:List Item,(xu5 L t).all Q
 | []=>h
 | x::r=>by
  unfold xu5
  split
  ·exact xqv h r
  ·exact xqv h r
theorem xoi (ops:Array Oper) (draw:Bool) (c:Cfg):(xjf P Γ call yld N ops draw c).all fun x=>∀ t,t∉ops.toList.filterMap (·.dst)→x.1 t=xal c.tmps t:=by
 have hd:∀ t,t∉ops.toList.filterMap (·.dst)→∀ o∈ops.toList,o.dst≠some t:=fun t ht o ho e=>ht (List.mem_filterMap.2 ⟨o,ho,e⟩)
 unfold xjf
 split
 ·exact ⟨trivial,trivial⟩
 split
 ·exact xcb (fun x hx t ht=>hx t (fun h=>by cases h) (hd t ht)) (xiy ops _ [] _ _ (fun t g w v h=>by unfold xal at h; split at h<;>cases h) (fun t g w v h=>by unfold xal at h; split at h<;>cases h))
 ·unfold xon
  have key:∀ (n:Nat) (as:List (Nat×Bool)),(xqV P Γ call N ops (xal c.tmps) c.heap n as).all fun x=>∀ t,t∉ops.toList.filterMap (·.dst)→x.1 t=xal c.tmps t:=by
   intro n
   induction n with
   | zero=>intro as; trivial
   | succ n ih =>
    intro as
    unfold xqV
    split
    ·rename_i L hrun
     split
     ·refine xqv ?_ L
      intro t ht
      obtain ⟨hmap,_⟩:=xnQ _ _ _ _ _ hrun
      rcases xiJ (t:=t) L 0 (fun _=>true) (xal c.tmps) with h | ⟨k,it,h1,_,h3,_⟩
      ·exact h
      ·exfalso
       refine hd t ht it.o ?_ h3
       rw [← hmap]
       exact List.mem_map.2 ⟨it,List.mem_of_getElem? h1,rfl⟩
     ·trivial
    ·split
     ·exact ⟨ih _,ih _⟩
     ·trivial
  exact key _ _
def xo5 (F:Fence) (n:Nat) (P:Program) (c:Code) (Q:Exit→Act→World→Prop) (a:Act) (w:World):Prop :=
 ∀ (b:Frame) (k:List Go.Item) (cs:List Frame),b.roundOf=F.round→F.fn b.fn→F.room (cs.length+1+n) →
  ∃ e a' w',Q e a' w'∧ArrivesIn (Machine.fenced P F) P (lone (b.atR a (.code c::.inLoop c::k)) cs w) b k cs e a' w'
theorem xii {F:Fence} {n:Nat} {c:Code} {Q:Exit→Act→World→Prop} {a:Act} {w:World} (h:xo5 F n P c Q a w):(Code.loop c).wpIn F n P Q a w:=by
 intro b k cs hro hb hr
 obtain ⟨e,a',w',hq,harr⟩:=h b k cs hro hb hr
 exact ⟨e,a',w',hq,.of_steps (.one (fenced_calm hb hr rfl) stepR_loop) harr⟩
theorem xfK {F:Fence} {n:Nat} {c:Code} {Q:Exit→Act→World→Prop} {a:Act} {w:World} (h:c.wpIn F n P (Exit.then (xo5 F n P c Q) Q) a w):xo5 F n P c Q a w:=by
 intro b k cs hro hb hr
 obtain ⟨e,a₁,w₁,hq,harr⟩:=h b (.inLoop c::k) cs hro hb hr
 cases e with
 | normal =>
  obtain ⟨e₂,a₂,w₂,hq₂,harr₂⟩:=hq b k cs hro hb hr
  exact ⟨e₂,a₂,w₂,hq₂,.of_steps (StepsIn.trans harr (.one (fenced_calm hb hr rfl) stepR_inLoop)) harr₂⟩
 | exit id=>exact ⟨_,a₁,w₁,hq,.pass (x:=.inLoop c) rfl (fun _ _=>.inl (by simp)) harr⟩
 | goto l=>exact ⟨_,a₁,w₁,hq,.pass (x:=.inLoop c) rfl (fun _ _=>.inl (by simp)) harr⟩
 | ret=>exact ⟨_,a₁,w₁,hq,.pass (x:=.inLoop c) rfl (fun _ _=>.inl (by simp)) harr⟩
 | panic ch=>exact ⟨_,a₁,w₁,hq,.pass (x:=.inLoop c) rfl (fun _ _=>.inl (by simp)) harr⟩
 | outgrown=>exact ⟨_,a₁,w₁,hq,.pass (x:=.inLoop c) rfl (fun _ _=>.inl (by simp)) harr⟩
def mark (r:Nat):Deferred:={ target:=.collected r,args:=#[] }
def xmR (rs:List Nat) (X0:List (Nat×Go.Obj)):List (Nat×Go.Obj):=rs.map (fun r=>(r,Go.Obj.deferred (some [])))++X0
def CfgOk (X0:List (Nat×Go.Obj)) (E:Env) (w0:World) (N:Nat) (c:Cfg) (a:Act) (w:World):Prop :=
 ∃ rs:List Nat,(∀ r∈rs,w0.heap.size≤r∧∀ x∈X0,x.1≠r)∧rs.Nodup∧xaH E c.heap.next N (rs.map mark) (xal c.tmps) a∧xah (xmR rs X0) E w0 c.heap w
def xct.toExit:xct→Exit
 | .normal=>.normal
 | .exit id=>.exit id
 | .ret=>.ret
def xnF (X0:List (Nat×Go.Obj)) (w0:World) (E:Env) (N:Nat) (c:Cfg) (Q:Exit→Act→World→Prop) (x:xct×Cfg):Prop :=
 ∀ E' a' w',(∀ k,k<c.heap.next→E' k=E k)→CfgOk X0 E' w0 N x.2 a' w'→c.heap.next≤x.2.heap.next→Old c.heap x.2.heap→Q x.1.toExit a' w'
theorem xnF.next {X0:List (Nat×Go.Obj)} {E E':Env} {c c':Cfg} {Q:Exit→Act→World→Prop} {x:xct×Cfg} (h:xnF X0 w0 E N c Q x) (hE:∀ k,k<c.heap.next→E' k=E k) (hle:c.heap.next≤c'.heap.next) (hold:Old c.heap c'.heap):xnF X0 w0 E' N c' Q x :=
 fun E2 a2 w2 hE2 hc2 hle2 hold2=>h E2 a2 w2 (fun k hk=>by rw [hE2 k (Nat.lt_of_lt_of_le hk hle),hE k hk]) hc2 (Nat.le_trans hle hle2) (hold.trans hold2 hle)
theorem CfgOk.point {X0:List (Nat×Go.Obj)} {E:Env} {c:Cfg} {a:Act} {w:World} (h:CfgOk X0 E w0 N c a w) {t:Nat} {v:AV} (ht:c.tmps t=some v):a.tmps.getD t undef=v.den E∧AV.lt c.heap.next v:=by
 obtain ⟨rs,_,_,hS,_⟩:=h
 have:=hS.ok t
 have e:xal c.tmps t=.is v:=by simp [xal,ht]
 rw [e] at this
 exact this
theorem CfgOk.lt {X0:List (Nat×Go.Obj)} {E:Env} {c:Cfg} {a:Act} {w:World} (h:CfgOk X0 E w0 N c a w):∀ o∈c.heap.objs,o.key<c.heap.next∧xa7 (fun k=>k<c.heap.next) o.body:=by
 obtain ⟨rs,_,_,_,hH⟩:=h
 exact hH.lt
theorem CfgOk.uniq {X0:List (Nat×Go.Obj)} {E:Env} {c:Cfg} {a:Act} {w:World} (h:CfgOk X0 E w0 N c a w):∀ o∈c.heap.objs,∀ o'∈c.heap.objs,o.key=o'.key→o=o':=by
 obtain ⟨rs,_,_,_,hH⟩:=h
 exact hH.uniq
theorem CfgOk.readS {X0:List (Nat×Go.Obj)} {E:Env} {c:Cfg} {a:Act} {w:World} (h:CfgOk X0 E w0 N c a w) {x:Operand} {v:AV} (hx:readS [] (xal c.tmps) x=some v):a.eval x=v.den E∧AV.lt c.heap.next v:=by
 obtain ⟨rs,_,_,hS,_⟩:=h
 exact xgv hS [] (fun _ e=>by cases e) x _ hx
theorem xlY (f:Nat→Option AV):xj9 (xal f) []:=by
 intro t g want v h
 unfold xal at h
 split at h<;>cases h
theorem xzO {E:Env} {n:Nat} {s:xaS} {a:Act} (h:xaH E n N D s a):xaH E n N D (xal (xf3 s)) a:=by
 refine ⟨h.defers,h.size,fun t=>?_⟩
 have:=h.ok t
 cases hs:s t with
 | is v =>
  rw [hs] at this
  have e:xal (xf3 s) t=.is v:=by simp [xal,xf3,hs]
  rw [e]; exact this
 | when g want v =>
  have e:xal (xf3 s) t=.junk:=by simp [xal,xf3,hs]
  rw [e]; trivial
 | junk =>
  have e:xal (xf3 s) t=.junk:=by simp [xal,xf3,hs]
  rw [e]; trivial
def Wr (c:Cfg) (wr:List Nat) (x:xct×Cfg):Prop:=x.1≠.ret→∀ t,t∉wr→x.2.tmps t=c.tmps t
theorem xqt (f:Nat→Option AV) (t:Nat):xf3 (xal f) t=f t:=by
 unfold xf3 xal
 cases f t<;>rfl
theorem xiT {t:Nat}:∀ (l acc:List Nat),t∈xge l acc↔t∈l∨t∈acc
 | [],acc=>by simp [xge]
 | a::r,acc=>by
  unfold xge
  split
  ·rename_i h
   rw [xiT r acc]
   have ha:=xjK.1 h
   constructor
   ·rintro (h | h)
    ·exact .inl (by simp [h])
    ·exact .inr h
   ·rintro (h | h)
    ·rcases List.mem_cons.1 h with rfl | h
     ·exact .inr ha
     ·exact .inl h
    ·exact .inr h
  ·rw [xiT r (a::acc)]
   simp only [List.mem_cons]
   constructor
   ·rintro (h | h | h)
    ·exact .inl (.inr h)
    ·exact .inl (.inl h)
    ·exact .inr h
   ·rintro ((h | h) | h)
    ·exact .inr (.inl h)
    ·exact .inl h
    ·exact .inr (.inr h)
theorem xoQ {t:Nat}:∀ {l:List (Nat×AV)},(∀ x∈l,x.1≠t)→xdA t l=none
 | [],_=>rfl
 | (t',v)::r,h=>by
  unfold xdA
  rw [xhQ (fun e=>h (t',v) (by simp) e.symm)]
  exact xoQ (fun x hx=>h x (by simp [hx]))
theorem xl1 (xs:List U):∀ (l:List (Nat×AV)) (j:Nat),(xaD xs l j).1.map (·.1)=l.map (·.1)
 | [],_=>rfl
 | (t,v)::r,j=>by
  show (t::((xaD xs r (xeA xs v j).2).1.map (·.1)))=_
  rw [xl1 xs r]
  rfl
theorem xni {S:Spec} {st:List Obj} {wr:List Nat} {tm:Nat→Option AV} {xs:List U} (h:xuR wr S=true) {t:Nat} (ht:t∉wr):(S.gen st wr tm xs).tmps t=tm t:=by
 have e:(S.gen st wr tm xs).tmps t=(match xdA t (xaD xs S.slots 0).1 with | some v=>some v | none=>if wr.any (Nat.beq t) then none else tm t):=rfl
 rw [e,xoQ]
 ·have:wr.any (Nat.beq t)=false:=Bool.eq_false_iff.2 (fun hb=>ht (xjK.1 hb))
  simp [this]
 ·intro x hx he
  have h1:t∈(xaD xs S.slots 0).1.map (·.1):=List.mem_map.2 ⟨x,hx,he⟩
  rw [xl1] at h1
  obtain ⟨y,hy,hyt⟩:=List.mem_map.1 h1
  have:=List.all_eq_true.1 h y hy
  rw [hyt] at this
  exact ht (xjK.1 this)
theorem xsl {st:List Obj} {wr:List Nat} {tm:Nat→Option AV} {r:Nat×List U}:∀ {outs:List (Nat×xct×Spec)},xyk wr outs=true→(brs st wr tm r outs).all fun x=>x.1≠.ret→∀ t,t∉wr→x.2.tmps t=tm t
 | [],_=>trivial
 | [(n,y,T)],h=>by
  intro hy t ht
  have h1:=List.all_eq_true.1 h (n,y,T) (by simp)
  cases y with
  | ret=>exact absurd rfl hy
  | normal=>exact xni h1 ht
  | exit id=>exact xni h1 ht
 | (n,y,T)::z::r',h=>by
  refine ⟨?_,xsl (outs:=z::r') (by
   unfold xyk at h ⊢
   rw [List.all_cons,Bool.and_eq_true] at h
   exact h.2)⟩
  intro hy t ht
  have h1:=List.all_eq_true.1 h (n,y,T) (by simp)
  cases y with
  | ret=>exact absurd rfl hy
  | normal=>exact xni h1 ht
  | exit id=>exact xni h1 ht
theorem xrD (res wr:List Nat) (body:Cfg→Tree (xct×Cfg)) (c0:Cfg):(xkX P res wr body c0).all (Wr c0 wr):=by
 unfold xkX
 simp only []
 split
 ·split
  ·rename_i hc
   rw [Bool.and_eq_true] at hc
   exact xsl hc.2
  ·trivial
 ·trivial
theorem xfp {wr:List Nat}:∀ {ts:List Nat} {c1:Cfg},(∀ t∈ts,t∈wr)→(xki ts c1).all (fun c2=>∀ t,t∉wr→c2.tmps t=c1.tmps t)
 | [],c1,h=>fun t _=>rfl
 | t::r,c1,h=>by
  unfold xki
  split
  ·split
   ·refine xcb (fun c2 h2 t' ht'=>?_) (xfp (ts:=r) fun t ht=>h t (List.mem_cons_of_mem _ ht))
    rw [h2 t' ht']
    exact xcS _ _ (fun e=>ht' (e▸h t List.mem_cons_self))
   ·exact xfp (ts:=r) fun t ht=>h t (List.mem_cons_of_mem _ ht)
  ·exact xfp (ts:=r) fun t ht=>h t (List.mem_cons_of_mem _ ht)
theorem xsw {code:Code} {c:Cfg} {r:xct×Cfg} (h:Wr c (xcZ code) r):(xtD (xge (xcZ code) []) c r).all (Wr c (xcZ code)):=by
 obtain ⟨x,c1⟩:=r
 have hts:∀ t∈(xge (xcZ code) []).filter fun t=>xAY (c.tmps t),t∈xcZ code:=by
  intro t ht
  have:=(List.mem_filter.1 ht).1
  rcases (xiT _ _).1 this with h | h
  ·exact h
  ·cases h
 cases x with
 | ret=>exact h
 | normal=>exact xdi (xcb (fun c2 h2 hx t ht=>by show c2.tmps t=_; rw [h2 t ht]; exact h hx t ht) (xfp hts))
 | exit id=>exact xdi (xcb (fun c2 h2 hx t ht=>by show c2.tmps t=_; rw [h2 t ht]; exact h hx t ht) (xfp hts))
theorem xcH {rb:Bool} {res:List Nat}:∀ (code:Code) (c:Cfg),(xaN P Γ call yld rb res N code c).all (Wr c (xcZ code))
 | .skip,c=>fun _ t _=>rfl
 | .region id ops draw,c=>by
  unfold xaN
  refine xdi (xcb (fun x hx=>?_) (xoi ops draw c))
  intro _ t ht
  show xf3 x.1 t=c.tmps t
  have:=hx t ht
  rw [← xqt c.tmps t]
  unfold xf3
  rw [this]
 | .seq x y,c=>by
  unfold xaN
  refine xdi (xcb (fun r hr=>?_) (xcH x c))
  obtain ⟨e,c'⟩:=r
  have left:e≠.ret→∀ t,t∉xcZ (.seq x y)→c'.tmps t=c.tmps t:=fun he t ht=>hr he t (fun h=>ht (List.mem_append.2 (.inl h)))
  cases e with
  | normal =>
   refine xcb (fun r2 hr2 he t ht=>?_) (xcH y c')
   rw [hr2 he t (fun h=>ht (List.mem_append.2 (.inr h))),left (fun h=>by cases h) t ht]
  | exit id=>exact left
  | ret=>exact left
 | .cond x t e,c=>by
  unfold xaN
  have l:(xaN P Γ call yld rb res N t c).all (Wr c (xcZ (.cond x t e))):=xcb (fun r hr he u hu=>hr he u (fun h=>hu (List.mem_append.2 (.inl h)))) (xcH t c)
  have r:(xaN P Γ call yld rb res N e c).all (Wr c (xcZ (.cond x t e))):=xcb (fun r hr he u hu=>hr he u (fun h=>hu (List.mem_append.2 (.inr h)))) (xcH e c)
  split
  ·exact ⟨l,r⟩
  ·rename_i b _
   cases b
   ·exact r
   ·exact l
  ·trivial
 | .block id body,c=>by
  unfold xaN
  refine xdi (xcb (fun r hr=>?_) (xcH body c))
  obtain ⟨e,c'⟩:=r
  cases e with
  | normal=>exact hr
  | exit id' =>
   show Tree.all (if Nat.beq id' id=true then _ else _) _
   split
   ·exact fun _=>hr (fun h=>by cases h)
   ·exact hr
  | ret=>exact fun h=>absurd rfl h
 | .exit id,c=>fun _ t _=>rfl
 | .ret,c=>fun _ t _=>rfl
 | .loop body,c=>by
  unfold xaN
  have key:∀ (known:Cfg→Bool) (n:Nat) (c:Cfg),(xln known (xkX P res (xge (xcZ body) []) fun c=>(xaN P Γ call yld rb res N body c).bind (xtD (xge (xcZ body) []) c)) (fun c=>xaN P Γ call yld rb res N body c) n c).all (Wr c (xcZ body)):=by
   intro known n
   induction n with
   | zero=>intro c; trivial
   | succ n ih =>
    intro c
    unfold xln
    split
    ·refine xdi (xcb (fun r hr=>?_) (xcH body c))
     obtain ⟨e,c'⟩:=r
     cases e with
     | normal =>
      refine xcb (fun r2 hr2 he t ht=>?_) (ih c')
      rw [hr2 he t ht]
      exact hr (fun h=>by cases h) t ht
     | exit id=>exact hr
     | ret=>exact hr
    ·exact xcb (fun r hr he t ht=>hr he t (fun h=>ht (by rcases (xiT _ _).1 h with h | h; exact h; cases h))) (xrD res _ _ c)
  exact key _ _ c
 | .rangeFunc f params assign body,c=>by
  unfold xaN
  split
  ·trivial
  ·split
   ·refine xdi (xgL (fun x=>?_) _)
    obtain ⟨v,H2⟩:=x
    simp only []
    split
    ·split
     ·trivial
     ·split
      ·exact fun _ t _=>rfl
      ·trivial
    ·trivial
   ·trivial
 | .scope body,c=>by unfold xaN; exact xcH body c
 | .label _,c=>by unfold xaN; exact fun _ t _=>rfl
 | .goto _,c=>trivial
 | .refuse _,c=>trivial
end
end Go.Sy
set_option linter.unusedVariables false
namespace Go.Sy
open Go.RowKit
section
variable {P:Program} {X0:List (Nat×Go.Obj)} {w0:World} {N:Nat} {rnd:Option Nat} {S:Spec} {st:List Obj} {ver:Nat} {outs:List (Nat×xct×Spec)}
theorem xfJ {Φ Ψ:xct×Cfg→Prop} {res:Nat×List U} (hleaf:∀ x n,(xeM P S st ver outs (.ret x) n).1.opt=some res→Ψ x→Φ x) :
  ∀ (t:Tree (xct×Cfg)) (n:Nat),(xeM P S st ver outs t n).1.opt=some res→t.all Ψ→t.holds Φ
 | .ret x,n,h,ha=>hleaf x n h ha
 | .br b t e,n,h,ha=>by
  have e1:(xeM P S st ver outs (.br b t e) n).1=.br b (xeM P S st ver outs t n).1 (xeM P S st ver outs e (xeM P S st ver outs t n).2).1:=rfl
  rw [e1] at h
  cases b with
  | true=>exact ⟨fun _=>xfJ hleaf t n h ha.1,fun hb=>(by cases hb)⟩
  | false=>exact ⟨fun hb=>(by cases hb),fun _=>xfJ hleaf e _ h ha.2⟩
 | .need p t,n,h,ha=>by
  have e1:(xeM P S st ver outs (.need p t) n).1=.need p (xeM P S st ver outs t n).1:=rfl
  rw [e1] at h
  exact ⟨(xdC h).1,xfJ hleaf t n (xdC h).2 ha⟩
 | .ask p t e,n,h,ha=>by
  have e1:(xeM P S st ver outs (.ask p t e) n).1=.ask p (xeM P S st ver outs t n).1 (xeM P S st ver outs e (xeM P S st ver outs t n).2).1:=rfl
  rw [e1] at h
  exact ⟨fun hp=>xfJ hleaf t n (((xdC h).1 hp).trans (xdC h).2) ha.1,xfJ hleaf e _ (xdC h).2 ha.2⟩
 | .bad,n,h,_=>by cases h
theorem xxZ {x y:xct} (h:y.same x=true):y.toExit=x.toExit∧(y=.ret↔x=.ret):=by
 cases x<;>cases y<;>first | (cases h; done) | exact ⟨rfl,by simp⟩ | skip
 rename_i a b
 have:b=a:=Nat.eq_of_beq_eq_true h
 subst this
 exact ⟨rfl,by simp⟩
theorem xu1 {x:xct} {c:Cfg} {n:Nat} {res:Nat×List U} (h:(xeM P S st ver outs (.ret (x,c)) n).1.opt=some res) :
  (x=.normal∧∃ us,S.match_ P st ver c=some us∧res=(0,us)) ∨
  (x≠.normal∧∃ m y T us,outs.find? (fun y=>Nat.beq y.1 (n+1))=some (m,y,T)∧y.same x=true∧c.heap.next≤T.base∧T.match_ P (T.still st) ver c=some us∧res=(n+1,us)):=by
 have exit_:x≠.normal→((match outs.find? (fun y=>Nat.beq y.1 (n+1)) with
   | some (_,y,T)=>if y.same x&&Nat.ble c.heap.next T.base then (match T.match_ P (T.still st) ver c with | some us=>Tree.ret (n+1,us) | none=>.bad) else .bad
   | none=>.bad):Tree (Nat×List U)).opt=some res →
   ∃ m y T us,outs.find? (fun y=>Nat.beq y.1 (n+1))=some (m,y,T)∧y.same x=true∧c.heap.next≤T.base∧T.match_ P (T.still st) ver c=some us∧res=(n+1,us):=by
  intro _ h
  split at h
  ·rename_i m y T hf
   split at h
   ·rename_i hc
    rw [Bool.and_eq_true] at hc
    split at h
    ·rename_i us hm
     cases h
     exact ⟨m,y,T,us,hf,hc.1,Nat.le_of_ble_eq_true hc.2,hm,rfl⟩
    ·cases h
   ·cases h
  ·cases h
 cases x with
 | normal =>
  refine .inl ⟨rfl,?_⟩
  simp only [xeM] at h
  split at h
  ·rename_i us hm; cases h; exact ⟨us,hm,rfl⟩
  ·cases h
 | exit id=>exact .inr ⟨fun e=>(by cases e),exit_ (fun e=>by cases e) h⟩
 | ret=>exact .inr ⟨fun e=>(by cases e),exit_ (fun e=>by cases e) h⟩
theorem xuD {wr:List Nat} {tm:Nat→Option AV} {r:Nat×List U} {Ψ:xct×Cfg→Prop}:∀ {outs:List (Nat×xct×Spec)} {m:Nat} {y:xct} {T:Spec},(brs st wr tm r outs).holds Ψ →
  outs.find? (fun y=>Nat.beq y.1 r.1)=some (m,y,T)→Ψ (y,T.gen (T.still st) wr (tmOf y tm) r.2)
 | [],_,_,_,h,_=>h.elim
 | [(n,y',T')],m,y,T,h,hf=>by
  cases hb:Nat.beq n r.1 with
  | true=>simp only [List.find?,hb] at hf; cases hf; exact h
  | false=>simp only [List.find?,hb] at hf; cases hf
 | (n,y',T')::z::rest,m,y,T,h,hf=>by
  cases hb:Nat.beq n r.1 with
  | true =>
   rw [List.find?_cons_of_pos (by exact hb)] at hf
   cases hf
   exact h.1 (by rw [Nat.eq_of_beq_eq_true hb]; exact xcM _)
  | false =>
   rw [List.find?_cons_of_neg (by rw [hb]; simp)] at hf
   exact xuD (outs:=z::rest) (h.2 (xhQ (fun e=>Nat.ne_of_beq_eq_false hb e.symm))) hf
theorem xoP {step:List U→Option (Nat×List U)} {xs:List U} (h:xax step xs):∃ n,xhy step n xs=some (xat step xs):=by
 unfold xat
 rw [dif_pos h]
 exact ⟨_,h.choose_spec.choose_spec⟩
theorem xpC {wr:List Nat} {tm:Nat→Option AV} {xs:List U}:(S.gen st wr tm xs).heap.next=S.base+S.rows.length+1:=rfl
theorem xyT {wr:List Nat} {tm:Nat→Option AV} {xs:List U}:∀ o∈st,o∈(S.gen st wr tm xs).heap.objs:=fun o ho=>by
 have e:(S.gen st wr tm xs).heap.objs=(xaR S.base xs S.objs (xaD xs S.slots 0).2).1++xcX S.base xs S.base S.rows (xaR S.base xs S.objs (xaD xs S.slots 0).2).2++st:=rfl
 rw [e]
 exact List.mem_append.2 (.inr ho)
theorem xs2 {code:Code} {body:Cfg→Tree (xct×Cfg)} {res:List Nat}
  (hbody:∀ (c:Cfg) (E:Env) (a:Act) (w:World) (Q:Exit→Act→World→Prop),CfgOk X0 E w0 N c a w→(body c).holds (xnF X0 w0 E N c Q)→code.wpIn (FR rnd) 0 P Q a w)
  (hwr:∀ c,(body c).all (Wr c (xcZ code))) {c0:Cfg} {E:Env} {a:Act} {w:World} {Q:Exit→Act→World→Prop} (hc0:CfgOk X0 E w0 N c0 a w)
  (h:(xkX P res (xge (xcZ code) []) body c0).holds (xnF X0 w0 E N c0 Q)):xo5 (FR rnd) 0 P code Q a w:=by
 unfold xkX at h
 simp only [] at h
 generalize hS:Spec.search P (xge (xcZ code) []) c0 body 4 ⟨(xiI c0.tmps (xge (xcZ code) [])).filter (fun x=>!xvi x.2),[],[],c0.heap.next,[]⟩=S at h
 generalize houts:xv9 S (S.still c0.heap.objs) (S.base+S.rows.length+1) res 0 (xjR (body (S.gen (S.still c0.heap.objs) (xge (xcZ code) []) c0.tmps [])))=outs at h
 have hwrm:∀ t,t∉xge (xcZ code) []→t∉xcZ code:=fun t ht hm=>ht ((xiT _ _).2 (.inl hm))
 generalize hwr0:xge (xcZ code) []=wr at h hwrm hS houts
 have hst0:∀ o∈S.still c0.heap.objs,o∈c0.heap.objs:=fun o ho=>(List.mem_filter.1 ho).1
 generalize hst:S.still c0.heap.objs=st at h hst0 houts
 split at h
 case h_2=>exact h.elim
 rename_i xs0 hm0
 split at h
 case isFalse=>exact h.elim
 rename_i hcond
 rw [Bool.and_eq_true,Bool.and_eq_true] at hcond
 obtain ⟨⟨hbase,hsin⟩,hoin⟩:=hcond
 have hbase:S.base=c0.heap.next:=Nat.eq_of_beq_eq_true hbase
 obtain ⟨hok,hbrs⟩:=h
 obtain ⟨n0,hn0⟩:=xoP hok
 generalize hr:xat (fun xs=>(xeM P S st (S.base+S.rows.length+1) outs (body (S.gen st wr c0.tmps xs)) 0).1.opt) xs0=r at hbrs hn0
 have hst2:∀ o∈st,o.key<S.base∧xa7 (fun k=>k<S.base) o.body:=fun o ho=>by rw [hbase]; exact hc0.lt o (hst0 o ho)
 have hlt0:∀ t v,c0.tmps t=some v→AV.lt S.base v:=fun t v ht=>by rw [hbase]; exact (hc0.point ht).2
 have key:∀ (n:Nat) (xs:List U) (E1:Env) (a1:Act) (w1:World),xhy (fun xs=>(xeM P S st (S.base+S.rows.length+1) outs (body (S.gen st wr c0.tmps xs)) 0).1.opt) n xs=some r →
   CfgOk X0 E1 w0 N (S.gen st wr c0.tmps xs) a1 w1→(∀ k,k<c0.heap.next→E1 k=E k)→xo5 (FR rnd) 0 P code Q a1 w1:=by
  intro n
  induction n with
  | zero=>intro xs E1 a1 w1 hi; cases hi
  | succ n ih =>
   intro xs E1 a1 w1 hi hg hE1
   refine xfK (hbody _ E1 a1 w1 _ hg ?_)
   unfold xhy at hi
   split at hi
   case h_3=>cases hi
   all_goals
    rename_i hstep
    refine xfJ (Ψ:=Wr (S.gen st wr c0.tmps xs) (xcZ code)) (fun x n' hx hw=>?_) _ _ hstep (hwr _)
    obtain ⟨x,c⟩:=x
    intro E2 a2 w2 hE2 hc2 hle hold
    have hstill:∀ {T:Spec} {us:List U} {st':List Obj},(∀ o∈st',o∈st)→T.match_ P st' (S.base+S.rows.length+1) c=some us→∀ o∈st',o∈c.heap.objs:=by
     intro T us st' hsub hm o ho
     obtain ⟨o',h1,h2,h3⟩:=xoD (xu8 hm) o ho
     have h4:=hold o' h1 h3
     rwa [hg.uniq o' h4 o (xyT o (hsub o ho)) h2] at h1
    have htm:x≠.ret→∀ t v,wr.any (Nat.beq t)=false→c0.tmps t=some v→c.tmps t=some v:=by
     intro hx t v ht hv
     have ht':t∉wr:=fun hm=>by rw [xjK.2 hm] at ht; cases ht
     rw [hw hx t (hwrm t ht'),xni hsin ht',hv]
    have hle':S.base<c.heap.next:=Nat.lt_of_lt_of_le (by rw [xpC]; omega) hle
    obtain ⟨rs,hrs1,hrs2,hS2,hH2⟩:=hc2
    rcases xu1 hx with ⟨rfl,us,hm,he⟩ | ⟨hnx,m,y,T,us,hf,hsame,hTb,hm,he⟩
   ·-- the next round
    cases he
    obtain ⟨E3,g1,g2,g3,g4⟩:=xgx (wr:=wr) (tm:=c0.tmps) hm hH2 hS2 (hstill (fun o h=>h) hm) hst2 (fun t v ht hv=>⟨htm (fun e=>by cases e) t v ht hv,hlt0 t v hv⟩)
    exact ih _ E3 a2 w2 hi ⟨rs,hrs1,hrs2,g2,g3⟩ (fun k hk=>by rw [g1 k (by omega),hE2 k (by rw [xpC]; omega),hE1 k hk])
   ·cases he
   ·cases he
   ·-- out
    cases he
    cases hi
    obtain ⟨hex,hret⟩:=xxZ hsame
    have hTs:∀ o∈T.still st,o∈st:=fun o ho=>(List.mem_filter.1 ho).1
    obtain ⟨E3,g1,g2,g3,g4⟩:=xgx (wr:=wr) (tm:=tmOf y c0.tmps) hm hH2 hS2 (hstill hTs hm) (fun o ho=>⟨by have:=(hst2 o (hTs o ho)).1; omega,xaU (fun k hk=>by omega) (hst2 o (hTs o ho)).2⟩) (fun t v ht hv=>by
     cases y with
     | ret=>cases hv
     | normal=>exact ⟨htm (fun e=>by have:=hret.2 e; cases this) t v ht hv,xf5 (by omega) _ (hlt0 t v hv)⟩
     | exit id=>exact ⟨htm (fun e=>by have:=hret.2 e; cases this) t v ht hv,xf5 (by omega) _ (hlt0 t v hv)⟩)
    have hq:=xuD hbrs hf E3 a2 w2 (fun k hk=>by rw [g1 k (by omega),hE2 k (by rw [xpC]; omega),hE1 k hk]) ⟨rs,hrs1,hrs2,g2,g3⟩ (by rw [xpC]; omega) (fun o ho hv=>by
     rcases g4 o ho with h1 | h1
     ·omega
     ·exact hst0 o (hTs o h1))
    have hq:Q y.toExit a2 w2:=hq
    rw [hex] at hq
    cases x with
    | normal=>exact absurd rfl hnx
    | exit id=>exact hq
    | ret=>exact hq
 obtain ⟨rs,hrs1,hrs2,hS0,hH0⟩:=hc0
 obtain ⟨E3,g1,g2,g3,g4⟩:=xgx (wr:=wr) (tm:=c0.tmps) hm0 hH0 hS0 hst0 hst2 (fun t v ht hv=>⟨hv,hlt0 t v hv⟩)
 exact key n0 xs0 E3 a w hn0 ⟨rs,hrs1,hrs2,g2,g3⟩ (fun k hk=>g1 k (by omega))
end
end Go.Sy
set_option linter.unusedVariables false
namespace Go.Sy
open Go.RowKit
section
variable {P:Program} {Γ:Con} {call:xgj} {yld:Nat→List AV→Heap→Tree (AV×Heap)} {X X0:List (Nat×Go.Obj)} {w0 w:World} {N:Nat} {D:List Deferred} {rnd:Option Nat} {E:Env} {H:Heap}
theorem xzy {w1:World} {l:Nat} {o:Go.Obj} {B:Nat} {wb:World} (h:Blw B wb w1) (hl:B≤l):Blw B wb (w1.putObj l o) :=
 ⟨⟨h.os,h.tape,h.output,by rw [World.putObj_size]; exact h.size,fun k hk=>by rw [World.putObj_heap_other (by omega)]; exact h.block k hk⟩,h.drawn⟩
theorem xbB (E:Env) {b:Body}:xa7 (fun k=>E k=E k) b:=by
 cases b with
 | loop=>exact fun t v _=>(xaW v).2 fun _ _=>rfl
 | cells cs=>exact (xcm _).2 fun _ _=>rfl
 | arr e sz els=>exact (xcm _).2 fun _ _=>rfl
 | row=>trivial
 | nst=>trivial
 | sub=>trivial
 | mp=>trivial
 | mq=>trivial
 | fin=>trivial
 | nil=>trivial
theorem xah.put {l:Nat} {o:Go.Obj} (h:xah X E w0 H w) (hl:w0.heap.size≤l) (hX:∀ x∈X,x.1≠l) (hO:∀ o'∈H.objs,blkO (E o'.key)≠some l) (hI:∀ o'∈H.objs,¬ Inn E w o'.key o'.body l):xah X E w0 H (w.putObj l o):=by
 have hbl:∀ o'∈H.objs,∀ g,blkO (E o'.key)=some g→(w.putObj l o).heap[g]?=w.heap[g]?:=fun o' ho' g hg=>World.putObj_heap_other (fun e=>hO o' ho' (by rw [hg,e]))
 have hin:∀ o'∈H.objs,∀ g,Inn E (w.putObj l o) o'.key o'.body g→Inn E w o'.key o'.body g:=fun o' ho' g hg=>xjz (h.objs o' ho') rfl (hbl o' ho') hg
 exact ⟨xzy h.below hl,h.env,fun o' ho'=>(h.objs o' ho').keep rfl (xbB E) (hbl o' ho') (by simp) (fun g hg=>World.putObj_heap_other (fun e=>hI o' ho' (by rw [← e]; exact hg))),h.high,h.inj,h.uniq,h.lt,
  fun x hx=>⟨by rw [World.putObj_heap_other (hX x hx)]; exact (h.prot x hx).1,(h.prot x hx).2⟩,
  fun o1 ho1 b hb=>h.deep o1 ho1 b (hin o1 ho1 b hb),fun x hx o1 ho1 hb=>h.protD x hx o1 ho1 (hin o1 ho1 _ hb),
  fun o1 ho1 b hb=>h.fsh o1 ho1 b (hb.imp id fun h=>⟨h.1,hin o1 ho1 b h.2⟩)⟩
theorem xah.addX {l:Nat} {o:Go.Obj} (h:xah X E w0 H w) (hl:w.heap[l]?=some o) (hO:∀ o'∈H.objs,blkO (E o'.key)≠some l) (hI:∀ o'∈H.objs,¬ Inn E w o'.key o'.body l):xah ((l,o)::X) E w0 H w :=
 ⟨h.below,h.env,h.objs,h.high,h.inj,h.uniq,h.lt,fun x hx=>by
  rcases List.mem_cons.1 hx with rfl | hx
  ·exact ⟨hl,hO⟩
  ·exact h.prot x hx,h.deep,fun x hx=>by
  rcases List.mem_cons.1 hx with rfl | hx
  ·exact hI
  ·exact h.protD x hx,h.fsh⟩
theorem xah.dropX {y:Nat×Go.Obj} (h:xah (y::X) E w0 H w):xah X E w0 H w :=
 ⟨h.below,h.env,h.objs,h.high,h.inj,h.uniq,h.lt,fun x hx=>h.prot x (List.mem_cons_of_mem _ hx),h.deep,fun x hx=>h.protD x (List.mem_cons_of_mem _ hx),h.fsh⟩
theorem xah.dropXs {Y:List (Nat×Go.Obj)} (h:xah (Y++X) E w0 H w):xah X E w0 H w :=
 ⟨h.below,h.env,h.objs,h.high,h.inj,h.uniq,h.lt,fun x hx=>h.prot x (List.mem_append.2 (.inr hx)),h.deep,fun x hx=>h.protD x (List.mem_append.2 (.inr hx)),h.fsh⟩
theorem xah.putX {l:Nat} {o0 o:Go.Obj} (h:xah ((l,o0)::X) E w0 H w) (hl:w0.heap.size≤l) (hX:∀ x∈X,x.1≠l):xah ((l,o)::X) E w0 H (w.putObj l o):=by
 obtain ⟨p1,p2⟩:=h.prot (l,o0) (by simp)
 have p3:∀ o'∈H.objs,¬ Inn E w o'.key o'.body l:=h.protD (l,o0) (by simp)
 exact (h.dropX.put hl hX p2 p3).addX (World.putObj_heap_same (Array.getElem?_eq_some_iff.1 p1).1) p2 (fun o' ho' hi=>p3 o' ho' (xjz (h.objs o' ho') rfl (fun g hg=>World.putObj_heap_other (fun e=>p2 o' ho' (by rw [hg,e]))) hi))
theorem xah.hide {o:Obj} {l:Nat} {ob:Go.Obj} (h:xah X E w0 H w) (ho:o∈H.objs) (hown:o.own=true) (hb:blkO (E o.key)=some l) (hl:w.heap[l]?=some ob):xah ((l,ob)::X) E w0 (xom o.key H) w∧w0.heap.size≤l∧∀ x∈X,x.1≠l:=by
 have hs:xah X E w0 (xom o.key H) w:=h.sub (fun o' ho'=>(List.mem_filter.1 ho').1) (fun o' ho'=>h.lt o' (List.mem_filter.1 ho').1)
 refine ⟨hs.addX hl (fun o' ho'=>?_) (fun o' ho' hi=>h.deep o' (List.mem_filter.1 ho').1 l hi o ho hown hb),h.high o ho hown l hb,fun x hx e=>(h.prot x hx).2 o ho (by rw [e]; exact hb)⟩
 obtain ⟨h1,h2⟩:=List.mem_filter.1 ho'
 have hne:o.key≠o'.key:=fun e=>by rw [← e,xcM] at h2; cases h2
 exact h.inj o ho o' h1 hown hne l hb
theorem xah.show_ {l key ver:Nat} {ob:Go.Obj} {b:Body} (h:xah ((l,ob)::X) E w0 H w) (hl:w0.heap.size≤l) (hX:∀ x∈X,x.1≠l) (hE:E key=.pointer (some ⟨l,0,none⟩)) (hb:xa0 E w key true b) (hk:key<H.next) (hall:xa7 (fun k=>k<H.next) b)
  (hno:∀ o∈H.objs,o.key≠key) (hf:xog b=true:=by rfl):xah X E w0 ⟨⟨key,ver,true,b⟩::H.objs,H.next⟩ w:=by
 obtain ⟨p1,p2⟩:=h.prot (l,ob) (by simp)
 have p3:∀ o'∈H.objs,¬ Inn E w o'.key o'.body l:=h.protD (l,ob) (by simp)
 have hbl:∀ {g},blkO (E key)=some g→g=l:=fun {g} hg=>by rw [hE] at hg; cases hg; rfl
 refine ⟨h.below,h.env,?_,?_,?_,?_,?_,?_,?_,?_,?_⟩
 ·intro o ho
  rcases List.mem_cons.1 ho with rfl | ho
  ·exact hb
  ·exact h.objs o ho
 ·intro o ho hown g hg
  rcases List.mem_cons.1 ho with rfl | ho
  ·rw [hbl hg]; exact hl
  ·exact h.high o ho hown g hg
 ·intro o ho o' ho' hown hne g hg hg'
  rcases List.mem_cons.1 ho with rfl | ho<;>rcases List.mem_cons.1 ho' with rfl | ho'
  ·exact hne rfl
  ·exact p2 o' ho' (by rw [hg',hbl hg])
  ·exact p2 o ho (by rw [hg,hbl hg'])
  ·exact h.inj o ho o' ho' hown hne g hg hg'
 ·intro o ho o' ho' hk
  rcases List.mem_cons.1 ho with rfl | ho<;>rcases List.mem_cons.1 ho' with rfl | ho'
  ·rfl
  ·exact absurd hk.symm (hno o' ho')
  ·exact absurd hk (hno o ho)
  ·exact h.uniq o ho o' ho' hk
 ·intro o ho
  rcases List.mem_cons.1 ho with rfl | ho
  ·exact ⟨hk,hall⟩
  ·exact h.lt o ho
 ·intro x hx
  refine ⟨(h.prot x (List.mem_cons_of_mem _ hx)).1,fun o ho=>?_⟩
  rcases List.mem_cons.1 ho with rfl | ho
  ·intro e; exact hX x hx (hbl e)
  ·exact (h.prot x (List.mem_cons_of_mem _ hx)).2 o ho
 ·intro o ho g hg o' ho' hown hb'
  rcases List.mem_cons.1 ho with rfl | ho
  ·exact xcL hf hg
  ·rcases List.mem_cons.1 ho' with rfl | ho'
   ·rw [hbl hb'] at hg; exact p3 o ho hg
   ·exact h.deep o ho g hg o' ho' hown hb'
 ·intro x hx o ho hg
  rcases List.mem_cons.1 ho with rfl | ho
  ·exact xcL hf hg
  ·exact h.protD x (List.mem_cons_of_mem _ hx) o ho hg
 ·intro o ho g hg
  rcases List.mem_cons.1 ho with rfl | ho
  ·exact xmu hf hg
  ·exact h.fsh o ho g hg
theorem xah.alloc (h:xah X E w0 H w) (o:Go.Obj):xah X E w0 H (w.alloc o):=by
 have old:∀ k,k<w.heap.size→(w.alloc o).heap[k]?=w.heap[k]?:=fun k hk=>(xcR w o).block k hk
 have hin:∀ o'∈H.objs,∀ g,Inn E (w.alloc o) o'.key o'.body g→Inn E w o'.key o'.body g:=fun o' ho' g hg=>xjz (h.objs o' ho') rfl (fun g hg=>old g (xnB (h.objs o' ho') hg)) hg
 refine ⟨h.below.alloc h.below.size _,h.env,fun o' ho'=>(h.objs o' ho').keep rfl (xbB E) (fun g hg=>old g (xnB (h.objs o' ho') hg)) (xcR w o).size (fun g hg=>old g (xoS (h.objs o' ho') hg)),h.high,h.inj,h.uniq,h.lt,fun x hx=>⟨?_,(h.prot x hx).2⟩,
  fun o1 ho1 b hb=>h.deep o1 ho1 b (hin o1 ho1 b hb),fun x hx o1 ho1 hb=>h.protD x hx o1 ho1 (hin o1 ho1 _ hb),fun o1 ho1 b hb=>h.fsh o1 ho1 b (hb.imp id fun h=>⟨h.1,hin o1 ho1 b h.2⟩)⟩
 rw [old x.1 (Array.getElem?_eq_some_iff.1 (h.prot x hx).1).1]
 exact (h.prot x hx).1
theorem xah.envUp {E2:Env} (h:xah X E w0 H w) (hE:∀ k,k<H.next→E2 k=E k) (henv:∀ k,(E2 k).oneCell'=true):xah X E2 w0 H w :=
 ⟨h.below,henv,fun o ho=>(h.objs o ho).keep (hE _ (h.lt o ho).1) (xaU (fun k hk=>hE k hk) (h.lt o ho).2) (fun _ _=>rfl) (Nat.le_refl _) (fun _ _=>rfl),
  fun o ho hown b hb=>h.high o ho hown b (by rw [← hE _ (h.lt o ho).1]; exact hb),
  fun o ho o' ho' hown hne b hb=>by rw [hE _ (h.lt o ho).1] at hb; rw [hE _ (h.lt o' ho').1]; exact h.inj o ho o' ho' hown hne b hb,
  h.uniq,h.lt,fun x hx=>⟨(h.prot x hx).1,fun o ho=>by rw [hE _ (h.lt o ho).1]; exact (h.prot x hx).2 o ho⟩,
  fun o ho b hb o' ho' hown=>by rw [hE _ (h.lt o' ho').1]; exact h.deep o ho b (xgD (hE _ (h.lt o ho).1) hb) o' ho' hown,
  fun x hx o ho hb=>h.protD x hx o ho (xgD (hE _ (h.lt o ho).1) hb),
  fun o ho b hb=>h.fsh o ho b (hb.imp (fun h1=>⟨h1.1,by rw [← hE _ (h.lt o ho).1]; exact h1.2⟩) fun h1=>⟨h1.1,xgD (hE _ (h.lt o ho).1) h1.2⟩)⟩
theorem xue {k:Nat} {l:List Obj} (h:xgn k l=false):∀ o∈l,o.key≠k:=fun o ho e=>by
 have:xgn k l=true:=xhj.2 ⟨o,ho,e⟩
 rw [h] at this
 cases this
theorem xw4 {a:Act} {g:Operand} {l:Nat} {gi:FuncId} {first caps:List AV} {E E2:Env} {key:Nat} {w1:World} (hg:a.eval g=(AV.fn (.func gi) first caps).den E) (hcap:(AV.fn (.func gi) first caps).den E2=(AV.fn (.func gi) first caps).den E) (hE:E2 key=.pointer (some ⟨l,0,none⟩)) (hfun:xdE P gi) :
  ∃ d,(resolve a.eval (rangeCall g l) 0).run P w1=.ok d w1∧(invoke d.target d.args).run P w1=.ok (.enter gi (AV.denL E2 (first++[.yl key]++caps)).toArray) w1:=by
 obtain ⟨fn,h1,h2,h3⟩:=hfun
 have h4:fn.body.isNone=false:=by cases hb:fn.body with
  | none=>rw [hb] at h3; cases h3
  | some _=>rfl
 have h5:(fn.name == "runtime.NumGoroutine")=false:=by simpa using h2
 rw [← hcap] at hg
 refine ⟨{ target:=.fn (.func gi) (AV.denL E2 caps).toArray,args:=(AV.denL E2 first).toArray++#[.func (.yield l) #[] #[]] },?_,?_⟩
 ·show Sem.run P (Deferred.ofValue (a.eval g) (#[Operand.const (.func (.yield l) #[] #[])].map a.eval)) w1=_
  rw [hg]
  simp [AV.den,Deferred.ofValue,Act.eval]
 ·simp only [invoke,callFunc,Sem.run_bind,run_program,Result.andThen_ok,h1,h4,h5,Bool.false_eq_true,if_false,Sem.run_pure]
  congr 2
  simp [xar,AV.den,hE,blk]
theorem xt1 {k st:Nat} {pend:Option Code} (h:xvb (xai k H.objs)=some (st,pend)) (hH:xah X E w0 H w):∃ o,(o∈H.objs∧o.key=k∧o.own=true)∧∃ l r,E k=.pointer (some ⟨l,0,none⟩)∧w.heap[l]?=some (.loop r)∧r.state=stOf st∧r.pending=pend:=by
 unfold xvb at h
 split at h
 ·rename_i hf
  cases h
  obtain ⟨hm,hk⟩:=xaj hf
  refine ⟨_,⟨hm,hk,rfl⟩,?_⟩
  obtain ⟨l,fn,tmps,dfr,h1,h2,_⟩:=hH.objs _ hm
  rw [hk] at h1
  exact ⟨l,_,h1,h2,rfl,rfl⟩
 ·rename_i hf
  cases h
  obtain ⟨hm,hk⟩:=xaj hf
  refine ⟨_,⟨hm,hk,rfl⟩,?_⟩
  obtain ⟨l,r,h1,h2⟩:=hH.objs _ hm
  rw [hk] at h1
  exact ⟨l,r,h1,h2⟩
 ·cases h
theorem xqa (hcall:xih P call) (hk:xft P call) {res:List Nat} {f:Operand} {params:Array Tmp} {assign body:Code} {c:Cfg} {a:Act} {Q:Exit→Act→World→Prop} (hc:CfgOk X0 E w0 N c a w)
  (h:(xaN P Γ call yld false res N (.rangeFunc f params assign body) c).holds (xnF X0 w0 E N c Q)):(Code.rangeFunc f params assign body).wpIn (FR none) 0 P Q a w:=by
 unfold xaN at h
 rw [if_neg (by simp)] at h
 split at h
 case h_2=>exact h.elim
 rename_i gi first caps hf
 obtain ⟨hev,hfl⟩:=hc.readS hf
 have hne:call gi (first++[.yl c.heap.next]++caps) ⟨⟨c.heap.next,c.heap.next,true,.loop 0 none N c.tmps params assign body⟩::c.heap.objs,c.heap.next+1⟩≠.bad:=fun e=>by rw [e] at h; exact h
 have hfun:=hk _ _ _ hne
 obtain ⟨rs,hrs1,hrs2,hS,hH⟩:=hc
 refine wpIn_rangeFunc fun fn _=>?_
 let l:=w.heap.size+1
 let rec_:Loop:={ state:=.ready,pending:=none,fn:=fn,tmps:=a.tmps,params:=params,assign:=assign,body:=body,defers:=w.heap.size }
 let w1:=(w.alloc (.deferred (some []))).alloc (.loop rec_)
 let E2:Env:=upd E c.heap.next (.pointer (some ⟨l,0,none⟩))
 have hE2:∀ k,k<c.heap.next→E2 k=E k:=fun k hk=>xcS _ _ (by omega)
 have hE2n:E2 c.heap.next=.pointer (some ⟨l,0,none⟩):=xbH _ _ _
 have hcap:(AV.fn (.func gi) first caps).den E2=(AV.fn (.func gi) first caps).den E:=xhL hE2 _ hfl
 obtain ⟨d,hres,hinv⟩:=xw4 (w1:=w1) hev hcap hE2n hfun
 refine ⟨l,[mark w.heap.size],w1,d,w1,gi,_,w1,run_enterLoop_outer _ _ _ _ _,hres,fun _ _=>trivial,hinv,fun h=>(by cases h),?_⟩
 have hsz1:(w.alloc (.deferred (some []))).heap.size=w.heap.size+1:=World.size_alloc _ _
 have hdef1:(w.alloc (.deferred (some []))).heap[w.heap.size]?=some (.deferred (some [])):=xbQ _ _
 have hl1:w1.heap[l]?=some (.loop rec_):=by
  have:=xbQ (w.alloc (.deferred (some []))) (.loop rec_)
  rw [hsz1] at this
  exact this
 have hdef:w1.heap[w.heap.size]?=some (.deferred (some [])):=by
  rw [(xcR (w.alloc (.deferred (some []))) (.loop rec_)).block w.heap.size (by rw [hsz1]; omega)]
  exact hdef1
 have hbl:∀ o∈c.heap.objs,∀ b,blkO (E o.key)=some b→b<w.heap.size:=fun o ho b hb=>xnB (hH.objs o ho) hb
 have hXl:∀ x∈xmR rs X0,x.1<w.heap.size:=fun x hx=>(Array.getElem?_eq_some_iff.1 (hH.prot x hx).1).1
 have hw0:w0.heap.size≤w.heap.size:=hH.below.size
 have hH1:xah (xmR (w.heap.size::rs) X0) E2 w0 ⟨⟨c.heap.next,c.heap.next,true,.loop 0 none N c.tmps params assign body⟩::c.heap.objs,c.heap.next+1⟩ w1:=by
  have h1:xah (xmR rs X0) E w0 c.heap w1:=(hH.alloc _).alloc _
  have hin1:∀ o∈c.heap.objs,∀ g,Inn E w1 o.key o.body g→g<w.heap.size:=fun o ho g hg=>xoS (hH.objs o ho) (xjz (w:=w) (hH.objs o ho) rfl (fun g hg=>by
   have:=hbl o ho g hg
   exact ((xcR (w.alloc _) _).block g (Nat.lt_of_lt_of_le this (xcR w _).size)).trans ((xcR w _).block g this)) hg)
  have h2:xah (xmR (w.heap.size::rs) X0) E w0 c.heap w1:=h1.addX hdef (fun o ho e=>by have:=hbl o ho _ e; omega) (fun o ho hi=>by have:=hin1 o ho _ hi; omega)
  have h3:xah ((l,.loop rec_)::xmR (w.heap.size::rs) X0) E w0 c.heap w1:=h2.addX hl1 (fun o ho e=>by have:=hbl o ho _ e; omega) (fun o ho hi=>by have:=hin1 o ho _ hi; omega)
  have h4:xah ((l,.loop rec_)::xmR (w.heap.size::rs) X0) E2 w0 c.heap w1:=h3.envUp hE2 (fun k=>by
   by_cases hk:k=c.heap.next
   ·rw [hk,hE2n]; rfl
   ·show (upd E _ _ k).oneCell'=true
    rw [xcS _ _ hk]; exact hH.env k)
  have h5:xah ((l,.loop rec_)::xmR (w.heap.size::rs) X0) E2 w0 ⟨c.heap.objs,c.heap.next+1⟩ w1:=h4.sub (fun o ho=>ho) (fun o ho=>⟨by have:=(h4.lt o ho).1; omega,xaU (fun k hk=>by omega) (h4.lt o ho).2⟩)
  refine h5.show_ (show w0.heap.size≤w.heap.size+1 by omega) (fun x hx=>?_) hE2n ?_ (Nat.lt_succ_self _) ?_ (fun o ho e=>by have:=(hH.lt o ho).1; omega)
  ·rcases List.mem_cons.1 hx with rfl | hx
   ·show w.heap.size≠w.heap.size+1; omega
   ·have:=hXl x hx
    show x.1≠w.heap.size+1; omega
  ·refine ⟨l,fn,a.tmps,w.heap.size,hE2n,hl1,hS.size,fun t v ht=>?_⟩
   have hpt:=hS.ok t
   have e:xal c.tmps t=.is v:=by simp [xal,ht]
   rw [e] at hpt
   rw [xhL hE2 v hpt.2]; exact hpt.1
  ·intro t v ht
   have hpt:=hS.ok t
   have e:xal c.tmps t=.is v:=by simp [xal,ht]
   rw [e] at hpt
   exact xf5 (Nat.le_succ _) v hpt.2
 have hargs:AV.ltL (c.heap.next+1) (first++[.yl c.heap.next]++caps):=by
  rw [xen]
  intro v hv
  simp only [List.mem_append,List.mem_singleton] at hv
  rcases hv with (hv | rfl) | hv
  ·exact xf5 (Nat.le_succ _) v ((xen _ _).1 hfl.1 v hv)
  ·exact Nat.lt_succ_self _
  ·exact xf5 (Nat.le_succ _) v ((xen _ _).1 hfl.2 v hv)
 refine xlq.2 (hcall _ w0 gi _ _ E2 w1 _ hH1 hargs (xaM (fun x hx=>?_) (xbw h)))
 obtain ⟨v,H2⟩:=x
 intro E3 w3 hE3 hH3 hv3 hle3 hold3
 simp only [] at hx
 split at hx
 case h_2=>exact hx.elim
 rename_i st' pend' hend
 obtain ⟨o1,hfind,l1,r1,q1,q2,hst1,hpd1⟩:=xt1 hend hH3
 split at hx
 ·exact hx.elim
 ·rename_i hst
  split at hx
  case h_2=>exact hx.elim
  rename_i x hpend
  obtain ⟨hm,hkey,how⟩:=hfind
  have hE3l:E3 c.heap.next=.pointer (some ⟨l,0,none⟩):=by rw [hE3 _ (Nat.lt_succ_self _)]; exact hE2n
  rw [hE3l] at q1
  cases q1
  subst hpd1
  have hbusy:stOf st'≠.busy:=fun e=>by
   match st',hst,e with
   | 0,_,e=>cases e
   | 1,h,_=>exact h rfl
   | 2,_,e=>cases e
   | n+3,_,e=>cases e
  refine ⟨r1.pending,_,run_endLoop q2 (by rw [hst1]; exact hbusy),?_⟩
  obtain ⟨g1,g2,g3⟩:=hH3.hide hm how (l:=l) (by rw [hkey,hE3l]; rfl) q2
  have hH4:=(g1.putX (o:=.loop { r1 with state:=.exhausted }) g2 g3).dropX
  rw [hkey] at hH4
  have hcfg:CfgOk X0 E3 w0 N ⟨c.tmps,⟨H2.objs.filter fun o=>!(Nat.beq o.key c.heap.next),H2.next⟩⟩ { a with defers:=[mark w.heap.size]++a.defers } (w3.putObj l (.loop { r1 with state:=.exhausted })):=by
   refine ⟨w.heap.size::rs,fun r hr=>?_,?_,⟨?_,hS.size,?_⟩,hH4⟩
   ·rcases List.mem_cons.1 hr with rfl | hr
    ·refine ⟨hw0,fun x hx e=>?_⟩
     have:=hXl x (List.mem_append.2 (.inr hx))
     omega
    ·exact hrs1 r hr
   ·refine List.nodup_cons.2 ⟨fun hm=>?_,hrs2⟩
    have:=hXl (w.heap.size,.deferred (some [])) (List.mem_append.2 (.inl (List.mem_map.2 ⟨_,hm,rfl⟩)))
    simp at this
   ·show mark w.heap.size::a.defers=mark w.heap.size::rs.map mark
    rw [hS.defers]
   ·have h6:xaH E3 H2.next N (rs.map mark) (xal c.tmps) a:=hS.env (fun k hk=>by rw [hE3 k (Nat.lt_succ_of_lt hk),hE2 k hk]) (Nat.le_trans (Nat.le_succ _) hle3)
    exact h6.ok
  have hq:=hx E3 { a with defers:=[mark w.heap.size]++a.defers } _ (fun k hk=>by rw [hE3 k (Nat.lt_succ_of_lt hk),hE2 k hk]) hcfg (Nat.le_trans (Nat.le_succ _) hle3) (fun o ho hv=>by
   have h1:=hold3 o (List.mem_filter.1 ho).1 (Nat.lt_succ_of_lt hv)
   rcases List.mem_cons.1 h1 with rfl | h1
   ·exact absurd hv (Nat.lt_irrefl _)
   ·exact h1)
  generalize r1.pending=pd at hpend hq ⊢
  cases pd with
  | none =>
   cases hpend
   exact hq
  | some cd =>
   cases cd with
   | exit id=>cases hpend; exact wpIn_exit hq
   | ret=>cases hpend; exact wpIn_ret hq
   | _=>cases hpend
theorem xxp {key sz:Nat} {hi:Int} {H':Heap} {p:Prop} (h:xah X E w0 H w) (hx:cutK key sz hi H=some (p,H')) (hp:p):xah X (upd E H.next ((AV.vw key sz none hi).den E)) w0 H' w∧H'.next=H.next+1 ∧
  (∀ o∈H'.objs,o.ver<H.next→o∈H.objs):=by
 unfold cutK at hx
 split at hx
 case h_2=>cases hx
 rename_i k' ver e ks l hf
 split at hx
 case isFalse=>cases hx
 rename_i hsz
 have hsz:=Nat.eq_of_beq_eq_true hsz
 subst hsz
 simp only [Option.some.injEq,Prod.mk.injEq] at hx
 obtain ⟨rfl,rfl⟩:=hx
 obtain ⟨hlo,hhi⟩:=hp
 obtain ⟨hm,hk⟩:=xaj hf
 simp only [] at hk
 subst hk
 have hb:xaY w true e ks.length (E k') l.length (rowV ks l):=h.objs _ hm
 have hE:∀ k,k<H.next→upd E H.next ((AV.vw k' ks.length none hi).den E) k=E k:=fun k hk=>xcS _ _ (by omega)
 have hEn:upd E H.next ((AV.vw k' ks.length none hi).den E) H.next=(AV.vw k' ks.length none hi).den E:=xbH _ _ _
 have hn:hi.toNat≤l.length:=by omega
 have hlen:(l.take hi.toNat).length=hi.toNat:=by rw [List.length_take]; omega
 have hv:(∃ a,E k'=.slice a 0 0∧l.length=0∧(AV.vw k' ks.length none hi).den E=.slice a 0 0)∨∃ g cap cur,E k'=.slice (some ⟨g,0,none⟩) l.length cap∧w.heap[g]?=some (.cells cur e (0,0))∧l.length≤cap∧cap≤maxLen∧cur.size=cap*ks.length∧cur.toList.take (l.length*ks.length)=rowV ks l ∧
   (AV.vw k' ks.length none hi).den E=.slice (some ⟨g,0,none⟩) hi.toNat cap:=by
  rcases hb.own rfl with ⟨a,h1,h2⟩ | ⟨g,cap,cur,h1,h2,h3,h4,h5,h6⟩
  ·refine .inl ⟨a,h1,h2,?_⟩
   have:hi.toNat=0:=by omega
   simp [AV.den,h1,xea,sliced,loN,this]
  ·refine .inr ⟨g,cap,cur,h1,h2,h3,h4,h5,h6,?_⟩
   have e5:((⟨g,0,none⟩:Addr).add 0)=⟨g,0,none⟩:=rfl
   simp [AV.den,h1,xea,sliced,loN,e5]
 have hblk:∀ g,blkO ((AV.vw k' ks.length none hi).den E)=some g→blkO (E k')=some g:=by
  intro g hg
  rcases hv with ⟨a,h1,_,h3⟩ | ⟨g',cap,cur,h1,_,_,_,_,_,h3⟩
  ·rw [h3] at hg; rw [h1]; exact hg
  ·rw [h3] at hg; rw [h1]; exact hg
 have hs:xah X E w0 ⟨H.objs.filter (fun o=>!(Nat.beq o.key k')),H.next⟩ w:=h.sub (fun o ho=>(List.mem_filter.1 ho).1) (fun o ho=>h.lt o (List.mem_filter.1 ho).1)
 have hne:∀ o∈H.objs.filter (fun o=>!(Nat.beq o.key k')),o∈H.objs∧o.key≠k':=by
  intro o ho
  obtain ⟨h1,h2⟩:=List.mem_filter.1 ho
  exact ⟨h1,fun e=>by rw [e,xcM] at h2; cases h2⟩
 have hs2:=hs.envUp (E2:=upd E H.next ((AV.vw k' ks.length none hi).den E)) hE (fun k=>by
  by_cases hk:k=H.next
  ·rw [hk,hEn]
   rcases hv with ⟨a,_,_,h3⟩ | ⟨g',cap,cur,_,_,_,_,_,_,h3⟩<;>rw [h3]<;>rfl
  ·rw [xcS _ _ hk]; exact h.env k)
 have hrow:xaY w true e ks.length ((AV.vw k' ks.length none hi).den E) (l.take hi.toNat).length (rowV ks (l.take hi.toNat)):=by
  refine xcC ?_ (xaT _ _)
  rcases hv with ⟨a,h1,h2,h3⟩ | ⟨g,cap,cur,h1,h2,h3,h4,h5,h6,h7⟩
  ·exact .inl ⟨a,h3,by rw [hlen]; omega⟩
  ·refine .inr ⟨g,cap,cur,by rw [h7,hlen],h2,by rw [hlen]; omega,h4,h5,?_⟩
   rw [hlen,xp2,← h6,List.take_take,Nat.min_eq_left (Nat.mul_le_mul_right _ hn)]
 refine ⟨⟨h.below,hs2.env,?_,?_,?_,?_,?_,?_,?_,?_,?_⟩,rfl,?_⟩
 ·intro o ho
  rcases List.mem_cons.1 ho with rfl | ho
  ·show xaY w true e ks.length (upd E H.next _ H.next) _ _
   rw [hEn]; exact hrow
  ·exact hs2.objs o ho
 ·intro o ho hown b hb'
  rcases List.mem_cons.1 ho with rfl | ho
  ·simp only [hEn] at hb'
   exact h.high _ hm rfl b (hblk b hb')
  ·exact hs2.high o ho hown b hb'
 ·intro o ho o' ho' hown hk b hb1 hb2
  rcases List.mem_cons.1 ho with rfl | ho<;>rcases List.mem_cons.1 ho' with rfl | ho'
  ·exact hk rfl
  ·simp only [hEn] at hb1
   obtain ⟨m1,m2⟩:=hne o' ho'
   rw [hE _ (h.lt o' m1).1] at hb2
   exact h.inj _ hm o' m1 rfl (Ne.symm m2) b (hblk b hb1) hb2
  ·simp only [hEn] at hb2
   obtain ⟨m1,m2⟩:=hne o ho
   rw [hE _ (h.lt o m1).1] at hb1
   exact h.inj o m1 _ hm hown m2 b hb1 (hblk b hb2)
  ·exact hs2.inj o ho o' ho' hown hk b hb1 hb2
 ·intro o ho o' ho' hk
  rcases List.mem_cons.1 ho with rfl | ho<;>rcases List.mem_cons.1 ho' with rfl | ho'
  ·rfl
  ·have:=(hs.lt o' ho').1
   simp only [] at hk this
   omega
  ·have:=(hs.lt o ho).1
   simp only [] at hk this
   omega
  ·exact hs2.uniq o ho o' ho' hk
 ·intro o ho
  rcases List.mem_cons.1 ho with rfl | ho
  ·exact ⟨Nat.lt_succ_self _,trivial⟩
  ·exact ⟨Nat.lt_succ_of_lt (hs.lt o ho).1,xaU (fun k hk=>Nat.lt_succ_of_lt hk) (hs.lt o ho).2⟩
 ·intro x hx
  refine ⟨(h.prot x hx).1,fun o ho=>?_⟩
  rcases List.mem_cons.1 ho with rfl | ho
  ·simp only [hEn]
   intro e'
   exact (h.prot x hx).2 _ hm (hblk _ e')
  ·exact (hs2.prot x hx).2 o ho
 ·intro o ho b hi o' ho' hown' hb'
  rcases List.mem_cons.1 ho with rfl | ho
  ·exact xcL rfl hi
  ·rcases List.mem_cons.1 ho' with rfl | ho'
   ·simp only [hEn] at hb'
    exact h.deep o (hne o ho).1 b (xgD (hE _ (hs.lt o ho).1) hi) _ hm rfl (hblk b hb')
   ·exact hs2.deep o ho b hi o' ho' hown' hb'
 ·intro x hx o ho hi
  rcases List.mem_cons.1 ho with rfl | ho
  ·exact xcL rfl hi
  ·exact hs2.protD x hx o ho hi
 ·intro o ho b hi
  rcases List.mem_cons.1 ho with rfl | ho
  ·exact xmu rfl hi
  ·exact hs2.fsh o ho b hi
 ·intro o ho hver
  rcases List.mem_cons.1 ho with rfl | ho
  ·exact absurd hver (Nat.lt_irrefl _)
  ·exact (hne o ho).1
theorem xfW {c:Cfg} {Q:Exit→Act→World→Prop} {x:xct}:∀ {ts:List Nat} {c1:Cfg},(xki ts c1).holds (fun c2=>xnF X0 w0 E N c Q (x,c2))→xnF X0 w0 E N c Q (x,c1)
 | [],c1,h=>h
 | t::r,c1,h=>by
  unfold xki at h
  split at h
  ·rename_i key sz hi ht
   split at h
   ·rename_i p H hc
    have ih:=xfW (ts:=r) h.2
    intro E' a' w' hE hc1 hle hold
    have hpt:=hc1.point ht
    obtain ⟨rs,hrs1,hrs2,hS,hH⟩:=hc1
    obtain ⟨g1,g2,g3⟩:=xxp hH hc h.1
    have hle:c.heap.next≤c1.heap.next:=hle
    have hE2:∀ k,k<c1.heap.next→upd E' c1.heap.next ((AV.vw key sz none hi).den E') k=E' k:=fun k hk=>xcS _ _ (by omega)
    have hS2:=hS.env (E':=upd E' c1.heap.next ((AV.vw key sz none hi).den E')) (n':=H.next) hE2 (by rw [g2]; exact Nat.le_succ _)
    refine ih (upd E' c1.heap.next ((AV.vw key sz none hi).den E')) a' w' (fun k hk=>by rw [hE2 k (by omega)]; exact hE k hk) ⟨rs,hrs1,hrs2,⟨hS2.defers,hS2.size,fun t'=>?_⟩,g1⟩ (by rw [show (Cfg.heap ⟨upd c1.tmps t (some (.sl c1.heap.next)),H⟩).next=H.next from rfl,g2]; exact Nat.le_succ_of_le hle) (fun o ho hv=>hold o (g3 o ho (Nat.lt_of_lt_of_le hv hle)) hv)
    by_cases e:t'=t
    ·subst e
     have e1:xal (upd c1.tmps t' (some (.sl c1.heap.next))) t'=.is (.sl c1.heap.next):=by simp [xal,xbH]
     show xjn _ H.next _ t' (xal (upd c1.tmps t' (some (.sl c1.heap.next))) t')
     rw [e1]
     refine ⟨?_,show c1.heap.next<H.next from by rw [g2]; exact Nat.lt_succ_self _⟩
     show _=upd E' c1.heap.next _ c1.heap.next
     rw [xbH]; exact hpt.1
    ·have e1:xal (upd c1.tmps t (some (.sl c1.heap.next))) t'=xal c1.tmps t':=by simp [xal,xcS _ _ e]
     show xjn _ H.next _ t' (xal (upd c1.tmps t (some (.sl c1.heap.next))) t')
     rw [e1]
     exact hS2.ok t'
   ·exact xfW (ts:=r) h
  ·exact xfW (ts:=r) h
theorem xtC {c:Cfg} {wr:List Nat} {Q:Exit→Act→World→Prop} {r:xct×Cfg} (h:(xtD wr c r).holds (xnF X0 w0 E N c Q)):xnF X0 w0 E N c Q r:=by
 obtain ⟨x,c1⟩:=r
 cases x with
 | ret=>exact h
 | normal=>exact xfW (xbw h)
 | exit id=>exact xfW (xbw h)
theorem xgr {b:Frame} {k:List Go.Item} {cs:List Frame} {a:Act} {c:Code}:step P (lone (b.atR a (.code (.scope c)::k)) cs w)=.next (lone (b.atR a (.code c::.inScope c::k)) cs w) :=
 step_lone_go (by simp [stepG,stepG.exec,Frame.atR])
theorem xsp {b:Frame} {k:List Go.Item} {cs:List Frame} {a:Act} {c:Code}:step P (lone (b.atR a (.inScope c::k)) cs w)=.next (lone (b.atR a k) cs w) :=
 step_lone_go (by simp [stepG,stepG.exec,Frame.atR])
theorem xl7 {F:Fence} {n:Nat} {a:Act} {c:Code} {Q:Exit→Act→World→Prop} (h:c.wpIn F n P (Exit.noGoto Q) a w):(Code.scope c).wpIn F n P Q a w:=by
 intro b k cs hro hb hr
 have h0:(lone (b.atR a (.code (.scope c)::k)) cs w).fenced P F:=fenced_calm hb hr rfl
 obtain ⟨e,a₁,w₁,hq,harr⟩:=h b (.inScope c::k) cs hro hb hr
 cases e with
 | normal=>exact ⟨.normal,a₁,w₁,hq,.head h0 xgr (StepsIn.trans harr (.one (fenced_calm hb hr rfl) xsp))⟩
 | exit id=>exact ⟨.exit id,a₁,w₁,hq,fun k' hk=>.head h0 xgr (harr.1 k' (by simp [exitTo,hk])),fun hr' hk=>let ⟨k₁,h1,h2⟩:=harr.2 hr' (by simp [exitTo,hk]); ⟨k₁,h1,.head h0 xgr h2⟩⟩
 | goto l=>exact hq.elim
 | ret=>exact ⟨_,a₁,w₁,hq,.of_steps (.one h0 xgr) harr⟩
 | panic ch=>exact ⟨_,a₁,w₁,hq,.of_steps (.one h0 xgr) harr⟩
 | outgrown=>exact ⟨_,a₁,w₁,hq,.of_steps (.one h0 xgr) harr⟩
theorem xbl (hΓ:xbh P Γ) (hcall:xih P call) (hk:xft P call) (hyld:xuI P yld) {res:List Nat} {rb:Bool} (hrb:rb=false→rnd=none) :
  ∀ (code:Code) (c:Cfg) (E:Env) (a:Act) (w:World) (Q:Exit→Act→World→Prop),CfgOk X0 E w0 N c a w →
   (xaN P Γ call yld rb res N code c).holds (xnF X0 w0 E N c Q)→code.wpIn (FR rnd) 0 P Q a w
 | .skip,c,E,a,w,Q,hc,h=>wpIn_skip (h E a w (fun _ _=>rfl) hc (Nat.le_refl _) (Old.refl _))
 | .region id ops draw,c,E,a,w,Q,hc,h=>by
  unfold xaN at h
  obtain ⟨rs,hrs1,hrs2,hS,hH⟩:=hc
  have post:∀ x:RCfg,xnF X0 w0 E N c Q (.normal,⟨xf3 x.1,x.2⟩)→Post (xmR rs X0) w0 E c.heap N (rs.map mark) (Q .normal) x:=fun x hx E' a' w' hE hS hH hle hold=>hx E' a' w' hE ⟨rs,hrs1,hrs2,xzO hS,hH⟩ hle hold
  have h2:=xbw h
  unfold xjf at h2
  split at h2
  ·exact h2.2.elim
  cases draw with
  | false =>
   rw [if_pos rfl] at h2
   exact wpIn_region_list (xjE hΓ hcall hk hyld ops ops.toList [] _ _ E a w (xlY _) hS hH (xaM (fun x hx=>post x hx) h2))
  | true =>
   rw [if_neg (by simp)] at h2
   exact xpt hΓ hcall hk hS (xlY _) hH (xaM (fun x hx=>post x hx) h2)
 | .seq x y,c,E,a,w,Q,hc,h=>by
  unfold xaN at h
  refine wpIn_seq (xbl hΓ hcall hk hyld hrb x c E a w _ hc (xaM (fun r hr=>?_) (xbw h)))
  intro E' a' w' hE hc' hle hold
  obtain ⟨e,c'⟩:=r
  cases e with
  | normal=>exact xbl hΓ hcall hk hyld hrb y c' E' a' w' Q hc' (xaM (fun r2 hr2=>hr2.next hE hle hold) hr)
  | exit id=>exact hr E' a' w' hE hc' hle hold
  | ret=>exact hr E' a' w' hE hc' hle hold
 | .cond x t e,c,E,a,w,Q,hc,h=>by
  unfold xaN at h
  split at h
  ·rename_i b hb
   have hv:=(hc.readS hb).1
   exact wpIn_cond_split hv (fun ht=>xbl hΓ hcall hk hyld hrb t c E a w Q hc (h.1 ht)) (fun hf=>xbl hΓ hcall hk hyld hrb e c E a w Q hc (h.2 hf))
  ·rename_i b hb
   have hv:=(hc.readS hb).1
   have hv:a.eval x=.bool b:=hv
   refine wpIn_cond_split hv (fun ht=>?_) (fun hf=>?_)
   ·subst ht; exact xbl hΓ hcall hk hyld hrb t c E a w Q hc h
   ·subst hf; exact xbl hΓ hcall hk hyld hrb e c E a w Q hc h
  ·exact h.elim
 | .block id body,c,E,a,w,Q,hc,h=>by
  unfold xaN at h
  refine wpIn_block (xbl hΓ hcall hk hyld hrb body c E a w _ hc (xaM (fun r hr=>?_) (xbw h)))
  intro E' a' w' hE hc' hle hold
  obtain ⟨e,c'⟩:=r
  cases e with
  | normal=>exact hr E' a' w' hE hc' hle hold
  | exit id' =>
   simp only [] at hr
   show if id'=id then Q .normal a' w' else Q (.exit id') a' w'
   by_cases hid:id'=id
   ·subst hid
    rw [if_pos rfl]
    rw [xcM] at hr
    exact hr E' a' w' hE hc' hle hold
   ·rw [if_neg hid]
    rw [xhQ hid] at hr
    exact hr E' a' w' hE hc' hle hold
  | ret=>exact hr E' a' w' hE hc' hle hold
 | .exit id,c,E,a,w,Q,hc,h=>wpIn_exit (h E a w (fun _ _=>rfl) hc (Nat.le_refl _) (Old.refl _))
 | .ret,c,E,a,w,Q,hc,h=>wpIn_ret (h E a w (fun _ _=>rfl) hc (Nat.le_refl _) (Old.refl _))
 | .loop body,c,E,a,w,Q,hc,h=>by
  unfold xaN at h
  have hbody:∀ (c:Cfg) (E:Env) (a:Act) (w:World) (Q:Exit→Act→World→Prop),CfgOk X0 E w0 N c a w→(xaN P Γ call yld rb res N body c).holds (xnF X0 w0 E N c Q)→body.wpIn (FR rnd) 0 P Q a w :=
   xbl hΓ hcall hk hyld hrb body
  have key:∀ (known:Cfg→Bool) (n:Nat) (c:Cfg) (E:Env) (a:Act) (w:World),CfgOk X0 E w0 N c a w →
    (xln known (xkX P res (xge (xcZ body) []) fun c=>(xaN P Γ call yld rb res N body c).bind (xtD (xge (xcZ body) []) c)) (fun c=>xaN P Γ call yld rb res N body c) n c).holds (xnF X0 w0 E N c Q)→xo5 (FR rnd) 0 P body Q a w:=by
   intro known n
   induction n with
   | zero=>intro c E a w _ h; exact h.elim
   | succ n ih =>
    intro c E a w hc h
    unfold xln at h
    split at h
    ·refine xfK (hbody c E a w _ hc (xaM (fun r hr=>?_) (xbw h)))
     intro E' a' w' hE hc' hle hold
     obtain ⟨e,c'⟩:=r
     cases e with
     | normal=>exact ih c' E' a' w' hc' (xaM (fun r2 hr2=>hr2.next hE hle hold) hr)
     | exit id=>exact hr E' a' w' hE hc' hle hold
     | ret=>exact hr E' a' w' hE hc' hle hold
    ·exact xs2 (fun c E a w Q hc h=>hbody c E a w Q hc (xaM (fun r hr=>xtC hr) (xbw h))) (fun c=>xdi (xcb (fun r hr=>xsw hr) (xcH body c))) hc h
  exact xii (key _ _ c E a w hc h)
 | .rangeFunc f params assign body,c,E,a,w,Q,hc,h=>by
  cases rb with
  | true=>unfold xaN at h; rw [if_pos rfl] at h; exact h.elim
  | false =>
   have:=hrb rfl
   subst this
   exact xqa hcall hk hc h
 | .scope body,c,E,a,w,Q,hc,h=>by
  unfold xaN at h
  refine xl7 (xbl hΓ hcall hk hyld hrb body c E a w _ hc (xaM (fun r hr=>?_) h))
  intro E' a' w' hE hc' hle hold
  obtain ⟨e,c'⟩:=r
  cases e with
  | normal=>exact hr E' a' w' hE hc' hle hold
  | exit id=>exact hr E' a' w' hE hc' hle hold
  | ret=>exact hr E' a' w' hE hc' hle hold
 | .label _,c,E,a,w,Q,hc,h=>wpIn_label (h E a w (fun _ _=>rfl) hc (Nat.le_refl _) (Old.refl _))
 | .goto _,_,_,_,_,_,_,h=>h.elim
 | .refuse _,_,_,_,_,_,_,h=>h.elim
end
end Go.Sy
set_option linter.unusedVariables false
namespace Go.Sy
open Go.RowKit
section
variable {P:Program} {Γ:Con} {call:xgj} {yld:Nat→List AV→Heap→Tree (AV×Heap)} {X X0:List (Nat×Go.Obj)} {w0 w:World} {N:Nat} {D:List Deferred} {rnd:Option Nat} {E:Env} {H:Heap}
theorem xoJ {n:Nat}:∀ (ps:List Nat) (vs:List AV) (tm:Nat→Option AV) (tmps:Array Value),ps.length=vs.length→(∀ p∈ps,p<N)→N≤tmps.size→(∀ t v,tm t=some v→tmps.getD t undef=v.den E∧AV.lt n v)→AV.ltL n vs →
  N≤((ps.zip (AV.denL E vs)).foldl (fun (tmps:Array Value) (x:Nat×Value)=>tmps.setIfInBounds x.1 x.2) tmps).size ∧
  ∀ t v,xgP ps vs tm t=some v→((ps.zip (AV.denL E vs)).foldl (fun (tmps:Array Value) (x:Nat×Value)=>tmps.setIfInBounds x.1 x.2) tmps).getD t undef=v.den E∧AV.lt n v
 | [],[],tm,tmps,_,_,hs,ht,_=>⟨hs,ht⟩
 | p::ps,u::vs,tm,tmps,hl,hp,hs,ht,hv=>by
  have hp0:=hp p (by simp)
  refine xoJ ps vs (upd tm p (some u)) (tmps.setIfInBounds p (u.den E)) (by simpa using hl) (fun q hq=>hp q (by simp [hq])) (by simpa using hs) (fun t v htv=>?_) hv.2
  by_cases h:t=p
  ·subst h
   rw [xbH] at htv
   cases htv
   refine ⟨?_,hv.1⟩
   rw [Array.getD_eq_getD_getElem?,Array.getElem?_setIfInBounds,if_pos rfl,if_pos (by omega)]
   rfl
  ·rw [xcS _ _ h] at htv
   rw [Array.getD_eq_getD_getElem?,Array.getElem?_setIfInBounds,if_neg (fun e=>h e.symm),← Array.getD_eq_getD_getElem?]
   exact ht t v htv
 | [],_::_,_,_,hl,_,_,_,_=>by simp at hl
 | _::_,[],_,_,hl,_,_,_,_=>by simp at hl
theorem xah.putXA {A:List (Nat×Go.Obj)} {l:Nat} {o0 o:Go.Obj} (h:xah (A++(l,o0)::X) E w0 H w) (hl:w0.heap.size≤l) (hA:∀ x∈A,x.1≠l) (hX:∀ x∈X,x.1≠l):xah (A++(l,o)::X) E w0 H (w.putObj l o):=by
 obtain ⟨p1,p2⟩:=h.prot (l,o0) (List.mem_append.2 (.inr (by simp)))
 have h1:xah (A++X) E w0 H w:=⟨h.below,h.env,h.objs,h.high,h.inj,h.uniq,h.lt,fun x hx=>h.prot x (by
  rcases List.mem_append.1 hx with hx | hx
  ·exact List.mem_append.2 (.inl hx)
  ·exact List.mem_append.2 (.inr (List.mem_cons_of_mem _ hx))),h.deep,fun x hx=>h.protD x (by
  rcases List.mem_append.1 hx with hx | hx
  ·exact List.mem_append.2 (.inl hx)
  ·exact List.mem_append.2 (.inr (List.mem_cons_of_mem _ hx))),h.fsh⟩
 have p3:∀ o'∈H.objs,¬ Inn E w o'.key o'.body l:=h.protD (l,o0) (List.mem_append.2 (.inr (by simp)))
 have h2:=(h1.put (o:=o) hl (fun x hx=>by
  rcases List.mem_append.1 hx with hx | hx
  ·exact hA x hx
  ·exact hX x hx) p2 p3).addX (World.putObj_heap_same (Array.getElem?_eq_some_iff.1 p1).1) p2 (fun o' ho' hi=>p3 o' ho' (xjz (h.objs o' ho') rfl (fun g hg=>World.putObj_heap_other (fun e=>p2 o' ho' (by rw [hg,e]))) hi))
 exact ⟨h2.below,h2.env,h2.objs,h2.high,h2.inj,h2.uniq,h2.lt,fun x hx=>h2.prot x (by
  rcases List.mem_append.1 hx with hx | hx
  ·exact List.mem_cons_of_mem _ (List.mem_append.2 (.inl hx))
  ·rcases List.mem_cons.1 hx with rfl | hx
   ·exact List.mem_cons_self
   ·exact List.mem_cons_of_mem _ (List.mem_append.2 (.inr hx))),h2.deep,fun x hx=>h2.protD x (by
  rcases List.mem_append.1 hx with hx | hx
  ·exact List.mem_cons_of_mem _ (List.mem_append.2 (.inl hx))
  ·rcases List.mem_cons.1 hx with rfl | hx
   ·exact List.mem_cons_self
   ·exact List.mem_cons_of_mem _ (List.mem_append.2 (.inr hx))),h2.fsh⟩
theorem xiA {v:AV} {o:Obj} {Φ:AV×Heap→Prop} (h:(xpJ v o H).holds Φ):(∀ o'∈H.objs,o'.key≠o.key)∧Φ (v,⟨o::H.objs,H.next⟩):=by
 unfold xpJ at h
 split at h
 ·exact h.elim
 ·rename_i hk
  exact ⟨xue (by simpa using hk),h⟩
theorem xqQ (hΓ:xbh P Γ) (hcall:xih P call) (hk:xft P call) (hyld:xuI P yld):xuI P (xqR P Γ call yld):=by
 intro X w0 key args H E w R hH hkey hargs h
 unfold xqR at h
 split at h
 case h_2=>exact h.elim
 rename_i k' ver N tm params assign body hfind
 split at h
 case isFalse=>exact h.elim
 rename_i hc
 obtain ⟨hlen,hpar⟩:=hc
 obtain ⟨hm,hkk⟩:=xaj hfind
 simp only [] at hkk
 subst hkk
 obtain ⟨l,fn,tmps,dfr,q1,q2,q3,q4⟩:=hH.objs _ hm
 simp only [] at q1
 have q2:w.heap[l]?=some (.loop { state:=.ready,pending:=none,fn:=fn,tmps:=tmps,params:=params,assign:=assign,body:=body,defers:=dfr }):=q2
 have hblk:blk (E k')=l:=by rw [q1]; rfl
 rw [hblk]
 have htm:∀ t v,tm t=some v→AV.lt H.next v:=(hH.lt _ hm).2
 obtain ⟨g1,g2,g3⟩:=hH.hide hm rfl (l:=l) (by simp only []; rw [q1]; rfl) q2
 refine ⟨fn,_,assign,body,run_yield q2 (by simp [xar,hlen]),?_⟩
 obtain ⟨s1,s2⟩:=xoJ (N:=N) (E:=E) (n:=H.next) params.toList args tm tmps (by simp [hlen]) (fun p hp=>by simpa using List.all_eq_true.1 hpar p hp) q3 (fun t v ht=>⟨q4 t v ht,htm t v ht⟩) hargs
 have hfold:(params.zip (AV.denL E args).toArray).foldl (fun (tmps:Array Value) (x:Nat×Value)=>tmps.setIfInBounds x.1 x.2) tmps=(params.toList.zip (AV.denL E args)).foldl (fun (tmps:Array Value) (x:Nat×Value)=>tmps.setIfInBounds x.1 x.2) tmps:=by
  rw [← Array.foldl_toList,Array.toList_zip]
 refine roundIn_of_wpIn (F:=FR none) trivial ?_
 show assign.wpIn (FR (some l)) 0 P _ _ w
 refine xbl (rnd:=some l) (rb:=true) (X0:=(l,.loop { state:=.ready,pending:=none,fn:=fn,tmps:=tmps,params:=params,assign:=assign,body:=body,defers:=dfr })::X) (w0:=w0) (N:=N) hΓ hcall hk hyld (fun e=>by cases e) assign ⟨xgP params.toList args tm,xom k' H⟩ E _ w _ ⟨[],(fun r hr=>by cases hr),List.nodup_nil,⟨rfl,?_,fun t=>?_⟩,g1⟩ (xaM (fun x hx=>?_) (xbw h))
 ·show N≤Array.size (Array.foldl _ tmps (params.zip _))
  exact hfold▸s1
 ·show xjn E H.next _ t (xal (xgP params.toList args tm) t)
  cases ht:xgP params.toList args tm t with
  | none =>
   have e:xal (xgP params.toList args tm) t=.junk:=by simp [xal,ht]
   rw [e]; trivial
  | some v =>
   have e:xal (xgP params.toList args tm) t=.is v:=by simp [xal,ht]
   rw [e]
   obtain ⟨r1,r2⟩:=s2 t v ht
   refine ⟨?_,r2⟩
   show Array.getD (Array.foldl _ tmps (params.zip _)) t undef=_
   exact hfold▸r1
 intro E1 a1 w1 hE1 hc1 hle1 hold1
 obtain ⟨x,c1⟩:=x
 cases x with
 | exit id=>exact hx.elim
 | ret=>exact hx.elim
 | normal =>
  obtain ⟨rs,hrs1,hrs2,hS1,hH1⟩:=hc1
  have hp1:=(hH1.prot (l,_) (List.mem_append.2 (.inr (List.mem_cons_self)))).1
  refine ⟨_,run_beginRound hp1 rfl,?_⟩
  have hrl:∀ r∈rs,r≠l:=fun r hr e=>(hrs1 r hr).2 (l,_) List.mem_cons_self e.symm
  have hH2:=hH1.putXA (A:=rs.map (fun r=>(r,Go.Obj.deferred (some [])))) (o:=.loop { state:=.busy,pending:=none,fn:=fn,tmps:=tmps,params:=params,assign:=assign,body:=body,defers:=dfr }) g2 (fun x hx=>by
   obtain ⟨r,hr,rfl⟩:=List.mem_map.1 hx
   exact hrl r hr) g3
  refine xbl (rnd:=some l) (rb:=true) (X0:=(l,.loop { state:=.busy,pending:=none,fn:=fn,tmps:=tmps,params:=params,assign:=assign,body:=body,defers:=dfr })::X) (w0:=w0) (N:=N) hΓ hcall hk hyld (fun e=>by cases e) body c1 E1 a1 _ _ ⟨rs,fun r hr=>⟨(hrs1 r hr).1,fun x hx=>?_⟩,hrs2,hS1,hH2⟩ (xaM (fun y hy=>?_) (xbw hx))
  ·rcases List.mem_cons.1 hx with rfl | hx
   ·exact fun e=>hrl r hr e.symm
   ·exact (hrs1 r hr).2 x (List.mem_cons_of_mem _ hx)
  obtain ⟨y,c2⟩:=y
  intro E2 a2 w3 hE2 hc2 hle2 hold2
  obtain ⟨rs',_,_,_,hH3'⟩:=hc2
  have hH3:xah ((l,.loop { state:=.busy,pending:=none,fn:=fn,tmps:=tmps,params:=params,assign:=assign,body:=body,defers:=dfr })::X) E2 w0 c2.heap w3:=hH3'.dropXs
  have hp3:=(hH3.prot (l,_) List.mem_cons_self).1
  have hle1:H.next≤c1.heap.next:=hle1
  have hle2:c1.heap.next≤c2.heap.next:=hle2
  have hEE:∀ k,k<H.next→E2 k=E k:=fun k hk=>by rw [hE2 k (Nat.lt_of_lt_of_le hk hle1)]; exact hE1 k hk
  have hkl:E2 k'=.pointer (some ⟨l,0,none⟩):=by rw [hEE k' hkey]; exact q1
  have hl3:l<w3.heap.size:=(Array.getElem?_eq_some_iff.1 hp3).1
  have holdA:∀ o∈c2.heap.objs,o.ver<H.next→o∈H.objs:=fun o ho hv=>(List.mem_filter.1 (hold1 o (hold2 o ho (Nat.lt_of_lt_of_le hv hle1)) hv)).1
  have back:∀ (st:Nat) (pend:Option Code) (ver2:Nat) (ls:LoopState) (jump:Option Code) (rb:Bool),stOf st=ls→(∀ o'∈c2.heap.objs,o'.key≠k')→pend=jump →
    xah X E2 w0 ⟨⟨k',ver2,true,.loop st pend N tm params assign body⟩::c2.heap.objs,c2.heap.next⟩ (w3.putObj l (.loop { state:=ls,pending:=jump,fn:=fn,tmps:=tmps,params:=params,assign:=assign,body:=body,defers:=dfr })):=by
   intro st pend ver2 ls jump rb hst hno hpj
   subst hpj
   refine (hH3.putX (o:=.loop { state:=ls,pending:=pend,fn:=fn,tmps:=tmps,params:=params,assign:=assign,body:=body,defers:=dfr }) g2 g3).show_ g2 g3 hkl ?_ (by omega) ?_ hno
   ·refine ⟨l,fn,tmps,dfr,hkl,?_,q3,fun t v ht=>?_⟩
    ·rw [hst]; exact World.putObj_heap_same hl3
    ·rw [xhL hEE v (htm t v ht)]; exact q4 t v ht
   ·intro t v ht
    exact xf5 (by omega) v (htm t v ht)
  have backF:∀ (ver2:Nat) (jump:Option Code),(∀ o'∈c2.heap.objs,o'.key≠k') →
    xah X E2 w0 ⟨⟨k',ver2,true,.fin 2 jump⟩::c2.heap.objs,c2.heap.next⟩ (w3.putObj l (.loop { state:=.done,pending:=jump,fn:=fn,tmps:=tmps,params:=params,assign:=assign,body:=body,defers:=dfr })):=by
   intro ver2 jump hno
   refine (hH3.putX (o:=.loop { state:=.done,pending:=jump,fn:=fn,tmps:=tmps,params:=params,assign:=assign,body:=body,defers:=dfr }) g2 g3).show_ g2 g3 hkl ?_ (by omega) ?_ hno
   ·exact ⟨l,_,hkl,World.putObj_heap_same hl3,rfl,rfl⟩
   ·trivial
  cases y with
  | normal =>
   obtain ⟨hno,hΦ⟩:=xiA hy
   have hΦ:=hΦ E2 _ hEE (back 0 none ver .ready none true rfl hno rfl) trivial (Nat.le_trans hle1 hle2) (fun o ho hv=>by
    rcases List.mem_cons.1 ho with rfl | ho
    ·exact hm
    ·exact holdA o ho hv)
   exact ⟨_,_,run_endRound none hp3,hΦ⟩
  | exit id =>
   obtain ⟨hno,hΦ⟩:=xiA hy
   have hΦ:=hΦ E2 _ hEE (backF c2.heap.next (some (.exit id)) hno) trivial (Nat.le_trans hle1 hle2) (fun o ho hv=>by
    rcases List.mem_cons.1 ho with rfl | ho
    ·have:c2.heap.next<H.next:=hv
     omega
    ·exact holdA o ho hv)
   exact ⟨_,_,run_endRound (some (.exit id)) hp3,hΦ⟩
  | ret =>
   obtain ⟨hno,hΦ⟩:=xiA hy
   have hΦ:=hΦ E2 _ hEE (backF c2.heap.next (some .ret) hno) trivial (Nat.le_trans hle1 hle2) (fun o ho hv=>by
    rcases List.mem_cons.1 ho with rfl | ho
    ·have:c2.heap.next<H.next:=hv
     omega
    ·exact holdA o ho hv)
   exact ⟨_,_,run_endRound (some .ret) hp3,hΦ⟩
end
end Go.Sy
set_option linter.unusedVariables false
namespace Go.Sy
open Go.RowKit
section
variable {P:Program} {yld:Nat→List AV→Heap→Tree (AV×Heap)} {q:SeqQ} {w0:World} {X X1 X2:List (Nat×Go.Obj)} {E0:Env} {n0:Nat} {j:Int} {w:World} {Qx:List (Nat×Go.Obj)→Exit→Act→World→Prop}
end
def xxF (P:Program) (Ξ:xo4):Prop:=∀ f args objs q,Ξ f args objs=some q→xdE P f∧∀ yld,xuI P yld→∀ (X:List (Nat×Go.Obj)) (w0:World) (H:Heap) (E:Env) (w:World) (R:Ending→World→Prop),H.objs=objs →
 xah X E w0 H w→AV.ltL H.next args →
 (xBs P yld q H).holds (fun x=>∀ E' w',(∀ k,k<H.next→E' k=E k)→xah X E' w0 x.2 w'→AV.lt x.2.next x.1→H.next≤x.2.next→Old H x.2→R (.returned (x.1.den E')) w') →
 Calls P f (AV.denL E args).toArray w R
theorem xaA {P:Program}:xxF P xcO:=fun _ _ _ _ h=>by cases h
end Go.Sy
set_option linter.unusedVariables false
namespace Go.Sy
open Go.RowKit
section
variable {P:Program} {Γ:Con} {Ξ:xo4} {X:List (Nat×Go.Obj)} {w0 w:World} {N:Nat} {E:Env} {H:Heap}
theorem xah.filter (h:xah X E w0 H w) (p:Obj→Bool):xah X E w0 { H with objs:=H.objs.filter p } w :=
 h.sub (fun o ho=>(List.mem_filter.1 ho).1) (fun o ho=>h.lt o (List.mem_filter.1 ho).1)
theorem xah.restrict (h:xah X E w0 H w) (next:Nat) (roots:List Nat):xah X E w0 (restrict next roots H) w:=h.filter _
def xmN (tmps:Array Value):ResultVar→Sem Value
 | .tmp t=>pure (tmps.getD t undef)
 | .cell x t=>do loadVar t (← asAddr (tmps.getD x undef))
theorem xpa {c:Cfg} {a:Act} {D:List Deferred} (hS:xaH E c.heap.next N D (xal c.tmps) a) (hH:xah X E w0 c.heap w) {r:ResultVar} {v:AV} (h:xnR P c r=some v) :
  (xmN a.tmps r).run P w=.ok (v.den E) w∧AV.lt c.heap.next v:=by
 have slot:∀ t v,c.tmps t=some v→a.tmps.getD t undef=v.den E∧AV.lt c.heap.next v:=fun t v ht=>by
  have:=hS.ok t
  have e:xal c.tmps t=.is v:=by simp [xal,ht]
  rw [e] at this
  exact this
 cases r with
 | tmp t =>
  obtain ⟨h1,h2⟩:=slot t v h
  exact ⟨by simp [xmN,h1],h2⟩
 | cell x t =>
  simp only [xnR] at h
  split at h
  ·rename_i key off hx
   split at h
   ·rename_i k ver own cs ho
    obtain ⟨h1,h2⟩:=slot _ _ hx
    obtain ⟨hm,hkey⟩:=xaj ho
    simp only [] at hkey
    subst hkey
    obtain ⟨b,T,e1,hT⟩:=hH.objs _ hm
    simp only [] at e1
    have hb:blk (E k)=b:=by rw [e1]; rfl
    exact ⟨by simp [xmN,h1,AV.den,hb,asAddr,xoF hT h],xgV h (hH.lt _ hm).2⟩
   ·cases h
  ·cases h
theorem xe3 {c:Cfg} {a:Act} {D:List Deferred} (hS:xaH E c.heap.next N D (xal c.tmps) a) (hH:xah X E w0 c.heap w):∀ (rs:List ResultVar) (vs:List AV),xeG P c rs=some vs →
  (rs.mapM (xmN a.tmps)).run P w=.ok (AV.denL E vs) w∧AV.ltL c.heap.next vs
 | [],vs,h=>by cases h; exact ⟨by simp [AV.denL],trivial⟩
 | r::rs,vs,h=>by
  unfold xeG at h
  split at h
  ·rename_i v vs' h1 h2
   cases h
   obtain ⟨e1,l1⟩:=xpa hS hH h1
   obtain ⟨e2,l2⟩:=xe3 hS hH rs vs' h2
   refine ⟨?_,l1,l2⟩
   rw [List.mapM_cons]
   simp only [Sem.run_bind,e1,e2,Result.andThen_ok,Sem.run_pure,AV.denL]
  ·cases h
theorem xjp {c:Cfg} {a:Act} {D:List Deferred} (hS:xaH E c.heap.next N D (xal c.tmps) a) (hH:xah X E w0 c.heap w) {fn:Func} {vs:List AV} (h:xeG P c fn.results.toList=some vs) :
  (results fn a.tmps).run P w=.ok (if h:(AV.denL E vs).toArray.size=1 then (AV.denL E vs).toArray[0] else .tuple (AV.denL E vs).toArray) w:=by
 have:=(xe3 hS hH _ _ h).1
 have e:results fn a.tmps=(do
   let vs ← fn.results.mapM (xmN a.tmps)
   pure (if h:vs.size=1 then vs[0] else .tuple vs)):=by
  unfold results
  congr 2
 rw [e]
 simp only [Sem.run_bind,Array.mapM_eq_mapM_toList,Sem.run_map,this,Result.andThen_ok,Sem.run_pure]
theorem xkG {fn:Func} {tmps:Array Value} {R:Ending→World→Prop}:∀ (rs:List Nat) (w:World),(∀ r∈rs,w0.heap.size≤r∧∀ x∈X,x.1≠r)→rs.Nodup→xah (xmR rs X) E w0 H w →
  (∀ w',xah X E w0 H w'→∃ v,(results fn tmps).run P w'=.ok v w'∧R (.returned v) w')→LeavesInM (FR none) 0 P fn tmps R (rs.map mark) .returning w
 | [],w,_,_,hH,hfin=>hfin w hH
 | r::rs,w,hrs,hn,hH,hfin=>by
  have hH':xah ((r,.deferred (some []))::xmR rs X) E w0 H w:=hH
  have hp:=(hH'.prot (r,.deferred (some [])) List.mem_cons_self).1
  have hn':=List.nodup_cons.1 hn
  refine ⟨by simp,.inl ⟨r,_,rfl,run_takeDeferred hp,?_⟩⟩
  refine xkG rs _ (fun r' hr'=>hrs r' (List.mem_cons_of_mem _ hr')) hn'.2 (hH'.putX (hrs r List.mem_cons_self).1 (fun x hx=>?_)).dropX hfin
  rcases List.mem_append.1 hx with hx | hx
  ·obtain ⟨r',hr',rfl⟩:=List.mem_map.1 hx
   exact fun e=>hn'.1 (by rw [← show r'=r from e]; exact hr')
  ·exact (hrs r List.mem_cons_self).2 x hx
theorem xfw (hΞ:xxF P Ξ):∀ n,xft P (xaZ P Γ Ξ n)
 | 0=>fun _ _ _ h=>absurd (by simp [xaZ]) h
 | n+1=>fun f args H h=>by
  unfold xaZ at h
  split at h
  ·rename_i q hq
   exact (hΞ _ _ _ _ hq).1
  split at h
  ·exact absurd rfl h
  ·rename_i fn hf
   split at h
   ·exact absurd rfl h
   ·rename_i code hb
    split at h
    ·rename_i hc
     exact ⟨fn,hf,hc.1,by rw [hb]; rfl⟩
    ·exact absurd rfl h
theorem xvE (hΓ:xbh P Γ) (hΞ:xxF P Ξ) {n:Nat} (hcall:xih P (xaZ P Γ Ξ n)) (hyld:xuI P (xoW P Γ Ξ n)):xih P (xaZ P Γ Ξ (n+1)):=by
 intro X w0 f args H E w R hH hargs h
 unfold xaZ at h
 split at h
 ·rename_i p key e ks L hq
  exact (hΞ _ _ _ _ hq).2 _ hyld X w0 H E w R rfl hH hargs h
 split at h
 ·exact h.elim
 ·rename_i fn hf
  split at h
  ·exact h.elim
  ·rename_i code hb
   split at h
   ·rename_i hc
    refine xlq.1 (callsIn_of_wp_marks (F:=FR none) (n:=0) hf hb trivial (xbl (rnd:=none) (rb:=false) (X0:=X) (w0:=w0) hΓ hcall (xfw hΞ n) hyld (fun _=>rfl) code ⟨_,H⟩ E _ w _ ⟨[],(fun _ h=>by cases h),List.nodup_nil,⟨rfl,?_,fun t=>?_⟩,hH⟩ (xaM (fun x hx=>?_) (xbw h))))
    ·simp [xar]; omega
    ·have hal:=(xen _ _).1 hargs
     unfold xal
     by_cases ht:t<args.length
     ·have e1:args[t]?=some args[t]:=List.getElem?_eq_getElem ht
      simp only [e1]
      refine ⟨?_,hal _ (List.getElem_mem ht)⟩
      rw [Array.getD_eq_getD_getElem?,Array.getElem?_append_left (by simp [xar]; exact ht)]
      simp [xar,ht]
     ·have e1:args[t]?=none:=List.getElem?_eq_none (by omega)
      simp only [e1]
      refine ⟨?_,trivial⟩
      rw [Array.getD_eq_getD_getElem?,Array.getElem?_append_right (by simp [xar]; omega),Array.getElem?_replicate]
      split<;>rfl
    ·intro E' a' w' hE hc' hle hold
     obtain ⟨e,c⟩:=x
     obtain ⟨rs,hrs1,hrs2,hS,hH'⟩:=hc'
     have hold:Old H c.heap:=hold
     have hle:H.next≤c.heap.next:=hle
     have fin:((match xeG P c fn.results.toList with
       | some [v]=>(match xsy P c.heap.objs c.heap.next v with
        | some x=>xtV [] x.p (.ret (x.v,restrict H.next (AV.keys x.v) (c.heap.eff x)))
        | none=>Tree.ret (v,restrict H.next (AV.keys v) c.heap))
       | some vs=>Tree.ret (AV.tup vs,restrict H.next (AV.keysL vs) c.heap)
       | none=>Tree.bad).holds fun x=>∀ (E':Env) (w':World),(∀ k,k<H.next→E' k=E k)→xah X E' w0 x.2 w'→AV.lt x.2.next x.1→H.next≤x.2.next→Old H x.2→R (.returned (x.1.den E')) w') →
       LeavesInM (FR none) 0 P fn a'.tmps R a'.defers .returning w':=by
      intro h
      rw [hS.defers]
      refine xkG rs w' hrs1 hrs2 hH' fun w'' hH2=>?_
      have holdr:∀ roots,Old H (restrict H.next roots c.heap):=fun roots o ho hv=>hold o (List.mem_filter.1 ho).1 hv
      split at h
      ·rename_i v hv
       refine ⟨_,xjp hS hH2 hv,?_⟩
       split at h
       ·rename_i x hx
        have hH2:xah X E' w0 c.heap w'':=hH2
        have hle:H.next≤c.heap.next:=hle
        obtain ⟨hn,h⟩:=xmj h
        obtain ⟨f1,f2,f3⟩:=xsx (w:=w'') hH2 (fun o ho=>Nat.ne_of_lt (hH2.lt o ho).1) hx
        obtain ⟨E2,g1,g2⟩:=f3 (by
         unfold Eff.holds
         cases hp:x.p with
         | none=>trivial
         | some p=>exact hn p hp)
        have hH3:=hH2.effAt f1 g1 (fun o ho=>⟨.inl (hH2.lt o ho).1,xaU (fun k hk=>.inl hk) (hH2.lt o ho).2⟩) (n':=c.heap.next+x.nk) (Nat.le_add_right _ _) (Nat.le_refl _)
        have hE:∀ k,k<H.next→E' k=E k:=hE
        have f4:∀ o∈x.add,c.heap.next≤o.ver:=f1.ver
        have hold:Old H c.heap:=hold
        have:=h E2 w'' (fun k hk=>(g1.agree k (.inl (Nat.lt_of_lt_of_le hk hle))).trans (hE k hk)) (xah.restrict (H:=c.heap.eff x) hH3 _ _) (xdU (fun k hk=>(hk.elim (fun h=>Nat.lt_of_lt_of_le h (Nat.le_add_right _ _)) (fun h=>h):k<c.heap.next+x.nk)) _ f1.val) (Nat.le_trans hle (Nat.le_add_right _ _)) (fun o ho hv=>by
         refine hold o ?_ hv
         have ho:=(List.mem_filter.1 ho).1
         rcases List.mem_append.1 ho with ho | ho
         ·have:=f4 o ho
          omega
         ·exact (List.mem_filter.1 ho).1)
        rw [g2] at this
        simpa [AV.denL] using this
       ·have:=h E' w'' hE (hH2.restrict _ _) ((xe3 hS hH2 _ _ hv).2.1) hle (holdr _)
        simpa [AV.denL] using this
      ·rename_i vs hne hv
       refine ⟨_,xjp hS hH2 hv,?_⟩
       have:=h E' w'' hE (hH2.restrict _ _) ((xe3 hS hH2 _ _ hv).2) hle (holdr _)
       have hlen:¬ (AV.denL E' vs).toArray.size=1:=by
        intro hl
        have hl:vs.length=1:=by simpa [xar] using hl
        match vs,hl with
        | [v],_=>exact hne v rfl
       rw [dif_neg hlen]
       simpa [AV.den] using this
      ·exact h.elim
     cases e with
     | exit id=>exact hx.elim
     | normal=>exact fin hx
     | ret=>exact fin hx
   ·exact h.elim
theorem xBq (hΓ:xbh P Γ) (hΞ:xxF P Ξ):∀ n,xih P (xaZ P Γ Ξ n)∧xuI P (xoW P Γ Ξ n)
 | 0=>⟨fun _ _ _ _ _ _ _ _ _ _ h=>(by simp [xaZ] at h; exact h.elim),fun _ _ _ _ _ _ _ _ _ _ _ h=>(by simp [xoW] at h; exact h.elim)⟩
 | n+1=>by
  obtain ⟨h1,h2⟩:=xBq hΓ hΞ n
  refine ⟨xvE hΓ hΞ h1 h2,?_⟩
  have:=xqQ hΓ h1 (xfw hΞ n) h2
  intro X w0 key args H E w R hH hk ha h
  unfold xoW at h
  exact this X w0 key args H E w R hH hk ha h
theorem xny (hΓ:xbh P Γ) (hΞ:xxF P Ξ) (n:Nat):xih P (xaZ P Γ Ξ n):=(xBq hΓ hΞ n).1
def xhM (as:List AV) (os:List Obj):Spec:=⟨as.zipIdx.map fun x=>(x.2,x.1),os,[],os.length,[]⟩
def ext (P:Program) (Γ:Con) (F:FuncId) (as:List AV) (os:List Obj) (eff:List U→Option Eff):Con:=fun f args objs =>
 if Nat.beq f F then
  if Nat.beq args.length as.length&&Nat.beq objs.length os.length then
   match (xhM as os).match_ P [] 1 ⟨fun t=>args[t]?,⟨frozen objs,objs.length⟩⟩ with
   | some us=>eff us
   | none=>none
  else none
 else Γ f args objs
theorem xs6 (us:List U):∀ (as:List AV) (i j:Nat),xaD us ((as.zipIdx i).map fun x=>(x.2,x.1)) j=(((xcl us as j).1.zipIdx i).map fun x=>(x.2,x.1),(xcl us as j).2)
 | [],_,_=>rfl
 | a::r,i,j=>by
  have ih:=xs6 us r (i+1) (xeA us a j).2
  have e1:xaD us (((a::r).zipIdx i).map fun x=>(x.2,x.1)) j=((i,(xeA us a j).1)::(xaD us ((r.zipIdx (i+1)).map fun x=>(x.2,x.1)) (xeA us a j).2).1,(xaD us ((r.zipIdx (i+1)).map fun x=>(x.2,x.1)) (xeA us a j).2).2):=rfl
  have e2:xcl us (a::r) j=((xeA us a j).1::(xcl us r (xeA us a j).2).1,(xcl us r (xeA us a j).2).2):=rfl
  rw [e1,ih,e2]
  rfl
theorem xgT (us:List U):∀ (as:List AV) (j:Nat),(xcl us as j).1.length=as.length
 | [],_=>rfl
 | a::r,j=>by
  show ((xeA us a j).1::(xcl us r (xeA us a j).2).1).length=_
  simp [xgT us r]
theorem xn2:∀ (l:List AV) (i t:Nat),xdA (i+t) ((l.zipIdx i).map fun x=>(x.2,x.1))=l[t]?
 | [],_,_=>rfl
 | a::r,i,0=>by
  show (if Nat.beq (i+0) i then some a else _)=_
  rw [Nat.add_zero,xcM]; rfl
 | a::r,i,t+1=>by
  show (if Nat.beq (i+(t+1)) i then some a else xdA (i+(t+1)) ((r.zipIdx (i+1)).map fun x=>(x.2,x.1)))=_
  rw [xhQ (by omega),show i+(t+1)=i+1+t by omega,xn2 r (i+1) t]
  simp
mutual
theorem xsa (us:List U):∀ (v:AV) (j:Nat),AV.keys (xeA us v j).1=AV.keys v
 | .bool _,_=>rfl
 | .int _ _,_=>rfl
 | .fn f a b,j=>by
  show AV.keysL (xcl us a j).1++AV.keysL (xcl us b (xcl us a j).2).1=AV.keysL a++AV.keysL b
  rw [xgE us a,xgE us b]
 | .agg cs,j=>xgE us cs j
 | .tup cs,j=>xgE us cs j
 | .ptr _ _,_=>rfl
 | .val _,_=>rfl
 | .sl _,_=>rfl
 | .ix _ _ _ _ _,_=>rfl
 | .vw _ _ none _,_=>rfl
 | .vw _ _ (some _) _,_=>rfl
 | .yl _,_=>rfl
theorem xgE (us:List U):∀ (l:List AV) (j:Nat),AV.keysL (xcl us l j).1=AV.keysL l
 | [],_=>rfl
 | a::r,j=>by
  show AV.keys (xeA us a j).1++AV.keysL (xcl us r (xeA us a j).2).1=AV.keys a++AV.keysL r
  rw [xsa us a,xgE us r]
end
theorem xjD (ver:Nat) (us:List U):∀ (os:List Obj) (j:Nat),∀ o∈(xaR ver us os j).1,∃ s∈os,o.key=s.key∧xa6 o.body=xa6 s.body
 | [],_,o,h=>by cases h
 | s::r,j,o,h=>by
  have e:(xaR ver us (s::r) j).1=⟨s.key,ver,s.own,(xgc us s.body j).1⟩::(xaR ver us r (xgc us s.body j).2).1:=rfl
  rw [e] at h
  rcases List.mem_cons.1 h with rfl | h
  ·refine ⟨s,by simp,rfl,?_⟩
   show xa6 (xgc us s.body j).1=_
   cases s.body<;>rfl
  ·obtain ⟨s',h1,h2⟩:=xjD ver us r _ o h
   exact ⟨s',by simp [h1],h2⟩
theorem xox:∀ l:List Nat,∃ M,∀ k∈l,k<M
 | []=>⟨0,fun k h=>by cases h⟩
 | a::r=>by
  obtain ⟨M,hM⟩:=xox r
  refine ⟨M+a+1,fun k hk=>?_⟩
  rcases List.mem_cons.1 hk with rfl | hk
  ·omega
  ·have:=hM k hk; omega
theorem xav (hΞ:xxF P Ξ) (hΓ:xbh P Γ) {n:Nat} {F:FuncId} {as:List AV} {os:List Obj} {eff:List U→Option Eff} (hflat:os.all (fun o=>xa6 o.body&&Nat.blt o.key os.length)=true)
  (hargs:(AV.keysL as).all (fun k=>Nat.blt k os.length)=true)
  (hcol:∀ us x,eff us=some x→∃ p,xas P os.length (xaZ P Γ Ξ n F (xcl us as 0).1 ⟨(xaR os.length us os (xcl us as 0).2).1,os.length⟩)=some { x with p:=p }∧(x.holds→Eff.holds { x with p:=p })):xbh P (ext P Γ F as os eff):=by
 intro f args objs x h
 unfold ext at h
 split at h
 case isFalse=>exact hΓ f args objs x h
 rename_i hf
 have hf:f=F:=Nat.eq_of_beq_eq_true hf
 subst hf
 split at h
 case isFalse=>cases h
 rename_i hl
 rw [Bool.and_eq_true] at hl
 have hl1:args.length=as.length:=Nat.eq_of_beq_eq_true hl.1
 have hl2:objs.length=os.length:=Nat.eq_of_beq_eq_true hl.2
 split at h
 case h_2=>cases h
 rename_i us hm
 obtain ⟨p0,hc,hph⟩:=hcol us x h
 have hfun:xdE P f:=xfw hΞ n f (xcl us as 0).1 _ fun e=>(by rw [e] at hc; cases hc)
 obtain ⟨hwf0,hfit0⟩:=xcz hc
 unfold xvS
 rw [hl2]
 have hwf:xgo os.length x:=⟨hwf0.rm,hwf0.key,hwf0.uniq,hwf0.flat,hwf0.val,hwf0.ver⟩
 have hfit:x.holds→(xaZ P Γ Ξ n f (xcl us as 0).1 ⟨(xaR os.length us os (xcl us as 0).2).1,os.length⟩).holds (Fits os.length x):=fun hp=>hfit0 (hph hp)
 refine ⟨fun _=>⟨hfun,hwf,fun hp E w hpre=>?_⟩,fun hne=>absurd hwf.rm hne⟩
 obtain ⟨M,hM⟩:=xox (AV.keysL args++objs.map (fun o=>o.key))
 have hmem:∀ o∈Sy.frozen objs,∃ o'∈objs,o={ o' with own:=false,body:=xwR o'.body }:=fun o ho=>by
  obtain ⟨o',ho',rfl⟩:=List.mem_map.1 ho
  exact ⟨o',ho',rfl⟩
 have hH:xah [] E w ⟨Sy.frozen objs,M⟩ w:=by
  refine ⟨Blw.refl _ _,hpre.env,?_,?_,?_,?_,?_,?_,?_,?_,?_⟩
  ·intro o ho; obtain ⟨o',ho',rfl⟩:=hmem o ho
   have:=(hpre.rows o' ho').1
   obtain ⟨k,v,own,b⟩:=o'
   cases b<;>first | exact this | exact this.2
  ·intro o ho hown; obtain ⟨o',ho',rfl⟩:=hmem o ho; cases hown
  ·intro o ho o2 ho2 hown; obtain ⟨o',ho',rfl⟩:=hmem o ho; cases hown
  ·intro o ho o2 ho2 hk
   obtain ⟨o',ho',rfl⟩:=hmem o ho
   obtain ⟨o2',ho2',rfl⟩:=hmem o2 ho2
   rw [hpre.uniq o' ho' o2' ho2' hk]
  ·intro o ho
   obtain ⟨o',ho',rfl⟩:=hmem o ho
   exact ⟨hM _ (List.mem_append.2 (.inr (List.mem_map.2 ⟨o',ho',rfl⟩))),by
    have:=xca (p:=fun k=>k<M) (hpre.rows o' ho').2.1
    obtain ⟨k,v,own,b⟩:=o'
    cases b<;>exact this⟩
  ·intro y hy; cases hy
  ·intro o ho b hb o2 ho2 hown; obtain ⟨o',ho',rfl⟩:=hmem o2 ho2; cases hown
  ·intro y hy; cases hy
  ·intro o ho b hb
   obtain ⟨o',ho',rfl⟩:=hmem o ho
   rcases hb with ⟨h1,_⟩ | ⟨⟨h1,_⟩,_⟩
   ·obtain ⟨k,v,own,bd⟩:=o'
    cases bd<;>cases h1
   ·cases h1
 have hS:xaH E M 0 [] (xal fun t=>args[t]?) { tmps:=(AV.denL E args).toArray,defers:=[] }:=by
  refine ⟨rfl,Nat.zero_le _,fun t=>?_⟩
  cases ht:args[t]? with
  | none =>
   have e:xal (fun t=>args[t]?) t=.junk:=by simp [xal,ht]
   rw [e]; trivial
  | some v =>
   have e:xal (fun t=>args[t]?) t=.is v:=by simp [xal,ht]
   rw [e]
   refine ⟨?_,(xen _ _).1 ((xcm _).2 fun k hk=>hM k (List.mem_append.2 (.inl hk))) v (List.mem_of_getElem? ht)⟩
   rw [Array.getD_eq_getD_getElem?]
   simp [xar,ht]
 have hm':(xhM as os).match_ P [] 1 ⟨fun t=>args[t]?,⟨Sy.frozen objs,M⟩⟩=some us:=hm
 obtain ⟨E2,g1,g2,g3,g4⟩:=xgx (wr:=[]) (tm:=fun _=>none) hm' hH hS (fun o ho=>by cases ho) (fun o ho=>by cases ho) (fun t v _ hv=>by cases hv)
 have hz:=xs6 us as 0 0
 have hgs:∀ t v,(xcl us as 0).1[t]?=some v→((xhM as os).gen [] [] (fun _=>none) us).tmps t=some v:=by
  intro t v ht
  have e:((xhM as os).gen [] [] (fun _=>none) us).tmps t=(match xdA t (xaD us (as.zipIdx.map fun x=>(x.2,x.1)) 0).1 with | some v=>some v | none=>if ([]:List Nat).any (Nat.beq t) then none else none):=rfl
  rw [e,hz]
  have:=xn2 (xcl us as 0).1 0 t
  rw [Nat.zero_add] at this
  rw [this,ht]
 have hden:AV.denL E2 (xcl us as 0).1=AV.denL E args:=by
  apply List.ext_getElem?
  intro t
  rw [xar,xar,List.getElem?_map,List.getElem?_map]
  cases ht:(xcl us as 0).1[t]? with
  | none =>
   have h1:=List.getElem?_eq_none_iff.1 ht
   rw [xgT] at h1
   rw [List.getElem?_eq_none (by omega)]
   rfl
  | some v =>
   have h1:=(List.getElem?_eq_some_iff.1 ht).1
   rw [xgT] at h1
   have hpt:=g2.ok t
   have e:xal ((xhM as os).gen [] [] (fun _=>none) us).tmps t=.is v:=by simp [xal,hgs t v ht]
   rw [e] at hpt
   have h2:args[t]?=some args[t]:=List.getElem?_eq_getElem (by omega)
   rw [h2]
   have h3:=hpt.1
   simp only [Array.getD_eq_getD_getElem?,xar] at h3
   simp only [List.getElem?_toArray,List.getElem?_map,h2,Option.map_some,Option.getD_some] at h3
   simp only [Option.map_some,h3]
 have hHc:xah [] E2 w ⟨(xaR os.length us os (xcl us as 0).2).1,os.length⟩ w:=by
  refine g3.sub (fun o ho=>?_) (fun o ho=>?_)
  ·have e:((xhM as os).gen [] [] (fun _=>none) us).heap.objs=(xaR os.length us os (xaD us (as.zipIdx.map fun x=>(x.2,x.1)) 0).2).1++[]++[]:=rfl
   rw [e,hz,List.append_nil,List.append_nil]
   exact ho
  ·obtain ⟨s,h1,h2,h3⟩:=xjD _ _ _ _ o ho
   have h4:=List.all_eq_true.1 hflat s h1
   rw [Bool.and_eq_true] at h4
   exact ⟨by rw [h2]; simpa using h4.2,xca (by rw [h3]; exact h4.1)⟩
 rw [← hden]
 refine xny hΓ hΞ n [] w f _ _ E2 w _ hHc ((xcm _).2 fun k hk=>?_) (xaM (fun y hy=>?_) (hfit hp))
 ·rw [xgE] at hk
  simpa using List.all_eq_true.1 hargs k hk
 ·intro E1 w' hE hH' _ _ _
  obtain ⟨E',e1,e2,e3,e4,e5,e6,e7,e8⟩:=hy [] E1 w w' hH'
  exact ⟨E',by rw [e3],fun k hk=>by rw [e1 k hk,hE k hk]; exact g1 k hk,e2,hH'.below,e4,fun o ho b hb=>.inl (e5 o ho b hb),e6,e7,e8⟩
end
end Go.Sy
