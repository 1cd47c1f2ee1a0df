/- Several texts in one (wip/pack.py): XSyNs XSyJ XSyD. -/
import Derived.CheckFast
import Derived.Test.YthfjhbbpdhjklaaGreatQTT01
set_option linter.unusedVariables false
namespace Go.Sy
open Go.RowKit
section
variable {P:Program} {X:List (Nat×Go.Obj)} {E:Env} {w0 w:World} {objs:List Obj} {n K:Nat} {ρ:Operand→Option AV} {e:Operand→Value}
theorem xiO.inn {own:Bool} {e:TypeId} {ks:List NK} {key:Nat} {l:List (List Int)} {vs:List Value} (h:xiO w own e ks (E key) l vs) {j:Nat} {u:Value} (hj:vs[j]?=some u) {g:Nat} (hg:blkO u=some g):Inn E w key (.nst e ks l) g:=by
 obtain ⟨a,ha,hc',_⟩:=h.row.reads.blkHead h.row.len hj
 exact ⟨a,j,u,ha,(h.get hj).1,hc',hg⟩
theorem xiO.of_inn {own:Bool} {e:TypeId} {ks:List NK} {key:Nat} {l:List (List Int)} {vs:List Value} (h:xiO w own e ks (E key) l vs) {g:Nat} (hg:Inn E w key (.nst e ks l) g):∃ (j:Nat) (u:Value),vs[j]?=some u∧blkO u=some g:=by
 obtain ⟨a,j,u,ha,hj,hc,hb⟩:=hg
 have hjv:j<vs.length:=by rw [h.row.len]; exact hj
 obtain ⟨a',ha',hc'⟩:=h.row.reads.cell j vs[j] (List.getElem?_eq_getElem hjv)
 rw [ha] at ha'
 cases ha'
 rw [hc] at hc'
 exact ⟨j,u,by rw [List.getElem?_eq_getElem hjv]; exact hc'.symm,hb⟩
theorem xfU.one {k:NK} {m:Int} {u:Value} (h:xfU w k m u):u.oneCell'=true:=by
 cases k with
 | c k =>
  have h:u=k.val m:=h
  rw [h]; cases k<;>rfl
 | s e ks=>exact h.1
theorem xfU.move {w':World} {k:NK} {m:Int} {u:Value} (h:xfU w k m u) (hw:∀ g,blkO u=some g→w'.heap[g]?=w.heap[g]?) (hs:w.heap.size≤w'.heap.size):xfU w' k m u:=by
 cases k with
 | c k=>exact h
 | s e ks=>exact ⟨h.1,h.2.move hw hs⟩
structure EncG (P:Program) (objs:List Obj) (K:Nat) (rm:List Nat) (subs:List Obj):Prop where
 gone:∀ k∈rm,∃ o∈objs,o.key=k∧o.own=true
 sub:∀ s∈subs,∃ o∈objs,xap s.key objs=some o∧o.own=true∧o.key=s.key∧s.key∈rm∧s.own=false∧s.ver=K∧∃ e ks l,s.body=.sub e ks l∧xes P o.body=some (e,ks,l)
theorem EncG.nil:EncG P objs K [] []:=⟨by simp,by simp⟩
theorem EncG.app {r r':List Nat} {s s':List Obj} (h:EncG P objs K r s) (h':EncG P objs K r' s'):EncG P objs K (r++r') (s++s'):=by
 refine ⟨fun k hk=>?_,fun k hk=>?_⟩
 ·rcases List.mem_append.1 hk with hk | hk
  ·exact h.gone k hk
  ·exact h'.gone k hk
 ·rcases List.mem_append.1 hk with hk | hk
  ·obtain ⟨o,h1,h2,h3,h4,h5,h6⟩:=h.sub k hk
   exact ⟨o,h1,h2,h3,h4,List.mem_append.2 (.inl h5),h6⟩
  ·obtain ⟨o,h1,h2,h3,h4,h5,h6⟩:=h'.sub k hk
   exact ⟨o,h1,h2,h3,h4,List.mem_append.2 (.inr h5),h6⟩
def EncB (E:Env) (objs:List Obj) (rm:List Nat) (u:Value):Prop:=∀ b,blkO u=some b→(∃ k∈rm,blkO (E k)=some b)∨∃ o∈objs,o.own=false∧xoW o.body=true∧blkO (E o.key)=some b
theorem EncB.mono {r r':List Nat} {u:Value} (h:EncB E objs r u) (hr:∀ k∈r,k∈r'):EncB E objs r' u:=fun b hb=>by
 rcases h b hb with ⟨k,hk,h1⟩ | h1
 ·exact .inl ⟨k,hr k hk,h1⟩
 ·exact .inr h1
theorem xyl {k:CK} {m:Int} {b:Nat} (h:blkO (k.val m)=some b):False:=by cases k<;>cases h
theorem xzL {e:TypeId} {sz:Nat}:xa8 w false e sz (.slice none 0 0) 0 [] :=
 ⟨⟨⟨none,0,rfl,Nat.le_refl _,Nat.zero_le _⟩,by simp,by simp [blkO]⟩,by simp,by simp⟩
theorem xCv (hH:xae X E w0 ⟨objs,n⟩ w) {E':Env} {w':World} (hE:∀ o∈objs,E' o.key=E o.key) (hw:∀ g,g<w.heap.size→w'.heap[g]?=w.heap[g]?) (hs:w.heap.size≤w'.heap.size)
  {k:NK} {v:AV} {m:Int} {rm:List Nat} {subs:List Obj} (h:encK P objs K k v=some (m,rm,subs)):xfU w' k m (v.den E')∧EncG P objs K rm subs∧EncB E objs rm (v.den E'):=by
 have nilCell:∀ {e:TypeId} {ks:List CK},xfU w' (.s e ks) (encL []) (.slice none 0 0):=by
  intro e ks
  refine ⟨rfl,?_⟩
  rw [xtQ]
  exact xzL
 have nilB:EncB E objs [] (.slice none 0 0):=fun b hb=>by cases hb
 unfold encK at h
 split at h
 ·-- plain
  rename_i k v
  split at h
  ·rename_i m' hc
   cases h
   have:=xwQ E' hc
   exact ⟨this,EncG.nil,fun b hb=>by rw [this] at hb; exact (xyl hb).elim⟩
  ·cases h
 ·rename_i e ks key
  split at h
  case h_2=>cases h
  rename_i k0 ver own b hf
  obtain ⟨hm,hk⟩:=xan hf
  have hk:k0=key:=hk
  subst hk
  have hb:=hH.objs _ hm
  have hEk:E' k0=E k0:=hE _ hm
  have cell:∀ {l:List (List Int)},xes P b=some (e,ks,l)→xfU w' (.s e ks) (encL l) (E k0):=by
   intro l hr
   have hrow:=xbR hr hb
   refine ⟨hH.env _,?_⟩
   rw [xtQ]
   refine xa8.move ⟨hrow.reads,hrow.len,fun h=>by cases h⟩ (fun g hg=>hw g (hrow.reads.blk g hg)) hs
  split at h
  ·rename_i e' ks' l hr
   split at h
   case isFalse=>cases h
   rename_i hc
   obtain ⟨rfl,rfl⟩:=hc
   simp only [AV.den,hEk]
   split at h
   ·cases h
    refine ⟨cell hr,⟨?_,?_⟩,fun b hb=>.inl ⟨k0,by simp,hb⟩⟩
    ·intro k hk; simp at hk; subst hk; exact ⟨_,hm,rfl,rfl⟩
    ·intro s hs; simp at hs; subst hs
     exact ⟨_,hm,hf,rfl,rfl,by simp,rfl,rfl,_,_,_,rfl,hr⟩
   ·split at h
    ·rename_i hsub
     cases h
     exact ⟨cell hr,EncG.nil,fun b hb=>.inr ⟨_,hm,rfl,hsub,hb⟩⟩
    ·cases h
  ·split at h
   ·cases h
    have hb:E k0=.slice none 0 0:=hb
    simp only [AV.den,hEk,hb]
    exact ⟨nilCell,EncG.nil,nilB⟩
   ·cases h
 ·cases h
  exact ⟨nilCell,EncG.nil,nilB⟩
 ·cases h
theorem xyb (hH:xae X E w0 ⟨objs,n⟩ w) {E':Env} {w':World} (hE:∀ o∈objs,E' o.key=E o.key) (hw:∀ g,g<w.heap.size→w'.heap[g]?=w.heap[g]?) (hs:w.heap.size≤w'.heap.size) :
  ∀ {ks:List NK} {vs:List AV} {ns:List Int} {rm:List Nat} {subs:List Obj},encE P objs K ks vs=some (ns,rm,subs) →
   (∀ (j:Nat) (k:NK) (v:AV),ks[j]?=some k→vs[j]?=some v→xfU w' k (ns.getD j 0) (v.den E'))∧EncG P objs K rm subs∧(∀ v∈vs,EncB E objs rm (v.den E'))∧vs.length=ks.length
 | [],[],ns,rm,subs,h=>by cases h; exact ⟨by simp,EncG.nil,by simp,rfl⟩
 | k::ks,v::vs,ns,rm,subs,h=>by
  unfold encE at h
  split at h
  ·rename_i m r s ms rs ss h1 h2
   cases h
   obtain ⟨a1,a2,a3⟩:=xCv hH hE hw hs h1
   obtain ⟨b1,b2,b3,b4⟩:=xyb hH hE hw hs h2
   refine ⟨fun j k' v' hk hv=>?_,a2.app b2,fun v' hv=>?_,by simp [b4]⟩
   ·cases j with
    | zero=>simp at hk hv; subst hk; subst hv; exact a1
    | succ j=>simp at hk hv; simpa using b1 j k' v' hk hv
   ·rcases List.mem_cons.1 hv with rfl | hv
    ·exact a3.mono fun k hk=>List.mem_append.2 (.inl hk)
    ·exact (b3 v' hv).mono fun k hk=>List.mem_append.2 (.inr hk)
  ·cases h
 | [],_::_,_,_,_,h=>by cases h
 | _::_,[],_,_,_,h=>by cases h
theorem xya (hH:xae X E w0 ⟨objs,n⟩ w) {E':Env} {w':World} (hE:∀ o∈objs,E' o.key=E o.key) (hw:∀ g,g<w.heap.size→w'.heap[g]?=w.heap[g]?) (hs:w.heap.size≤w'.heap.size) {ks:List NK} :
  ∀ {els:List (List AV)} {l:List (List Int)} {rm:List Nat} {subs:List Obj},encR P objs K ks els=some (l,rm,subs) →
   (∀ (i j:Nat) (k:NK) (el:List AV) (v:AV),els[i]?=some el→ks[j]?=some k→el[j]?=some v→xfU w' k ((l.getD i []).getD j 0) (v.den E'))∧EncG P objs K rm subs∧(∀ el∈els,∀ v∈el,EncB E objs rm (v.den E'))∧l.length=els.length
 | [],l,rm,subs,h=>by cases h; exact ⟨by simp,EncG.nil,by simp,rfl⟩
 | el::els,l,rm,subs,h=>by
  unfold encR at h
  split at h
  ·rename_i m r s ms rs ss h1 h2
   cases h
   obtain ⟨a1,a2,a3,_⟩:=xyb hH hE hw hs h1
   obtain ⟨b1,b2,b3,b4⟩:=xya hH hE hw hs h2
   refine ⟨fun i j k' el' v' hi hk hv=>?_,a2.app b2,fun el' hel v' hv=>?_,by simp [b4]⟩
   ·cases i with
    | zero=>simp at hi; subst hi; exact a1 j k' v' hk hv
    | succ i=>simp at hi; simpa using b1 i j k' el' v' hi hk hv
   ·rcases List.mem_cons.1 hel with rfl | hel
    ·exact (a3 v' hv).mono fun k hk=>List.mem_append.2 (.inl hk)
    ·exact (b3 el' hel v' hv).mono fun k hk=>List.mem_append.2 (.inr hk)
  ·cases h
theorem xyA (hH:xae X E w0 ⟨objs,n⟩ w) (hfr:∀ o∈objs,o.key≠K) {x y:Eff} {E':Env} {w':World} (hx:xdq n objs K x) (he:xeW E objs w K x E' w') (h:xup P objs K x=some y) :
  xdq n objs K y∧xeW E objs w K y E' w'∧y.v=x.v∧y.nk=1∧y.p=none:=by
 unfold xup at h
 split at h
 case h_2=>cases h
 rename_i k0 ver0 e sz els v
 split at h
 case isFalse=>cases h
 rename_i hkv
 obtain ⟨rfl,rfl⟩:=hkv
 split at h
 case h_2=>cases h
 rename_i ks hks
 split at h
 case isFalse=>cases h
 rename_i hsz
 rw [Bool.and_eq_true] at hsz
 have hsz:ks.length=sz:=Nat.eq_of_beq_eq_true hsz.2
 subst hsz
 split at h
 case h_2=>cases h
 rename_i l rm subs henc
 cases h
 have hE:∀ o∈objs,E' o.key=E o.key:=fun o ho=>he.agree _ (by have:=hfr o ho; show o.key<_∨_+1≤o.key; omega)
 have hchg:∀ g,g<w.heap.size→w'.heap[g]?=w.heap[g]?:=fun g hg=>he.chg.block g hg (by simp)
 obtain ⟨c1,c2,c3,c4⟩:=xya hH hE hchg he.chg.size henc
 obtain ⟨r1,r2,r3⟩:=he.bodies _ (List.mem_singleton.2 rfl)
 have r2:∀ el∈els,el.length=ks.length:=r2
 have hnst:xiO w' true e ks (E' ver0) l (AV.denL E' els.flatten):=by
  refine ⟨by rw [c4]; exact r1,fun i j k hi hj=>?_⟩
  have hi':i<els.length:=by rw [← c4]; exact hi
  have hel:els[i]?=some els[i]:=List.getElem?_eq_getElem hi'
  have hjl:j<ks.length:=(List.getElem?_eq_some_iff.1 hj).1
  have hlen:=r2 els[i] (List.getElem_mem hi')
  have hv:(els[i])[j]?=some ((els[i])[j]'(by rw [hlen]; exact hjl)):=List.getElem?_eq_getElem _
  refine ⟨_,?_,c1 i j k _ _ hel hj hv⟩
  rw [xaJ,List.getElem?_map,xod els i j _ r2 hel hjl,hv]
  rfl
 have hown0:∀ g,blkO (E' ver0)=some g→w.heap.size≤g:=fun g hg=>by
  rcases he.own _ (List.mem_singleton.2 rfl) rfl g hg with h | ⟨k,hk,_⟩
  ·exact h
  ·cases hk
 have hinn:∀ g,Inn E' w' ver0 (.nst e ks l) g→(∃ k∈rm,blkO (E k)=some g)∨∃ o∈objs,o.own=false∧xoW o.body=true∧blkO (E o.key)=some g:=by
  intro g hg
  obtain ⟨j,u,hj,hb⟩:=hnst.of_inn hg
  rw [xaJ,List.getElem?_map] at hj
  obtain ⟨v,hv,rfl⟩:=Option.map_eq_some_iff.1 hj
  obtain ⟨el,hel,hvel⟩:=List.mem_flatten.1 (List.mem_of_getElem? hv)
  exact c3 el hel v hvel g hb
 have hinlt:∀ g,Inn E' w' ver0 (.nst e ks l) g→g<w.heap.size:=by
  intro g hg
  rcases hinn g hg with ⟨k,hk,h1⟩ | ⟨o,ho,_,_,h1⟩
  ·obtain ⟨o,ho,rfl,_⟩:=c2.gone k hk
   exact xiX (hH.objs o ho) h1
  ·exact xiX (hH.objs o ho) h1
 have hnk:∀ k∈rm,k≠ver0:=fun k hk e=>by
  obtain ⟨o,ho,rfl,_⟩:=c2.gone k hk
  exact hfr o ho e
 have hsubE:∀ s∈subs,E' s.key=E s.key:=fun s hs=>by
  obtain ⟨o,ho,_,_,h3,_⟩:=c2.sub s hs
  rw [← h3]; exact hE o ho
 have hsubI:∀ s∈subs,∀ g,¬ Inn E' w' s.key s.body g:=fun s hs g hg=>by
  obtain ⟨o,ho,_,_,_,_,_,_,e1,k1,l1,hb,_⟩:=c2.sub s hs
  rw [hb] at hg; exact hg
 have hshr:∀ g,(∃ k∈rm,blkO (E k)=some g)∨(∃ o∈objs,o.own=false∧xoW o.body=true∧blkO (E o.key)=some g)→Shr E objs w rm g:=by
  rintro g (h1 | ⟨o,ho,h2,h3,h4⟩)
  ·exact .inr (.inl h1)
  ·refine .inr (.inr (.inl ⟨o,ho,h2,fun hk=>?_,h4⟩))
   obtain ⟨o',ho',h5,h6⟩:=c2.gone _ hk
   have:=hH.uniq o' ho' o ho h5
   rw [this,h2] at h6
   cases h6
 refine ⟨⟨c2.gone,?_,?_,?_,hx.val,?_⟩,⟨he.agree,he.env,?_,?_,?_,?_,?_,?_,?_,?_⟩,rfl,rfl,rfl⟩
 ·intro o ho
  rcases List.mem_cons.1 ho with rfl | ho
  ·exact .inr ⟨Nat.le_refl _,Nat.lt_succ_self _⟩
  ·obtain ⟨_,_,_,_,_,h5,_⟩:=c2.sub o ho
   exact .inl h5
 ·intro o ho o' ho' hk
  rcases List.mem_cons.1 ho with rfl | ho<;>rcases List.mem_cons.1 ho' with rfl | ho'
  ·rfl
  ·exfalso
   obtain ⟨_,_,_,_,_,h5,_⟩:=c2.sub o' ho'
   exact hnk _ h5 hk.symm
  ·exfalso
   obtain ⟨_,_,_,_,_,h5,_⟩:=c2.sub o ho
   exact hnk _ h5 hk
  ·obtain ⟨o1,_,f1,_,_,_,g1,g2,e1,k1,l1,g3,g4⟩:=c2.sub o ho
   obtain ⟨o2,_,f2,_,_,_,g1',g2',e2,k2,l2,g3',g4'⟩:=c2.sub o' ho'
   rw [hk,f2] at f1
   cases f1
   rw [g4] at g4'
   cases g4'
   obtain ⟨a,b,c,d⟩:=o
   obtain ⟨a',b',c',d'⟩:=o'
   simp only [] at hk g1 g2 g3 g1' g2' g3'
   subst hk g1 g2 g3 g1' g2' g3'
   rfl
 ·intro o ho
  rcases List.mem_cons.1 ho with rfl | ho
  ·trivial
  ·obtain ⟨_,_,_,_,_,_,_,_,e1,k1,l1,hb,_⟩:=c2.sub o ho
   rw [hb]; trivial
 ·intro o ho
  rcases List.mem_cons.1 ho with rfl | ho
  ·exact Nat.le_refl _
  ·obtain ⟨_,_,_,_,_,_,_,h7,_⟩:=c2.sub o ho
   rw [h7]; exact Nat.le_refl _
 ·refine ⟨he.chg.drawn,he.chg.os,he.chg.tape,he.chg.output,he.chg.size,fun k hk _=>hchg k hk⟩
 ·intro o ho
  rcases List.mem_cons.1 ho with rfl | ho
  ·exact ⟨_,hnst⟩
  ·obtain ⟨o1,ho1,f1,f2,f3,_,g1,g2,e1,k1,l1,g3,g4⟩:=c2.sub o ho
   rw [g3,g1]
   refine ⟨rfl,?_⟩
   rw [hsubE o ho,← f3]
   have hrow:=xbR g4 (hH.objs o1 ho1)
   exact xa8.move ⟨hrow.reads,hrow.len,fun h=>by cases h⟩ (fun g hg=>hchg g (hrow.reads.blk g hg)) he.chg.size
 ·intro o ho hown g hg
  rcases List.mem_cons.1 ho with rfl | ho
  ·exact .inl (hown0 g hg)
  ·obtain ⟨_,_,_,_,_,_,g1,_⟩:=c2.sub o ho
   rw [g1] at hown; cases hown
 ·intro o ho hown g hg
  rcases List.mem_cons.1 ho with rfl | ho
  ·cases hown
  ·obtain ⟨_,_,_,_,_,h5,_⟩:=c2.sub o ho
   rw [hsubE o ho] at hg
   exact .inr (.inl ⟨_,h5,hg⟩)
 ·intro o ho o' ho' hown hne g hg hg'
  rcases List.mem_cons.1 ho with rfl | ho
  ·rcases List.mem_cons.1 ho' with rfl | ho'
   ·exact hne rfl
   ·obtain ⟨o1,ho1,_,_,f3,_⟩:=c2.sub o' ho'
    rw [hsubE o' ho',← f3] at hg'
    have:=xiX (hH.objs o1 ho1) hg'
    have:=hown0 g hg
    omega
  ·obtain ⟨_,_,_,_,_,_,g1,_⟩:=c2.sub o ho
   rw [g1] at hown; cases hown
 ·intro o ho g hg
  rcases List.mem_cons.1 ho with rfl | ho
  ·exact hshr g (hinn g hg)
  ·exact (hsubI o ho g hg).elim
 ·intro o ho g hg o' ho' hown hb
  rcases List.mem_cons.1 ho with rfl | ho
  ·rcases List.mem_cons.1 ho' with rfl | ho'
   ·have:=hinlt g hg
    have:=hown0 g hb
    omega
   ·obtain ⟨_,_,_,_,_,_,g1,_⟩:=c2.sub o' ho'
    rw [g1] at hown; cases hown
  ·exact hsubI o ho g hg
 ·intro o ho g hg
  rcases List.mem_cons.1 ho with rfl | ho
  ·rcases hg with ⟨h1,_⟩ | ⟨_,hg⟩
   ·cases h1
   ·rcases hinn g hg with h1 | ⟨o,ho,h2,h3,h4⟩
    ·exact .inr (.inl h1)
    ·exact .inr (.inr ⟨o,ho,.inl ⟨h3,h4⟩⟩)
  ·rcases hg with ⟨_,hg⟩ | ⟨h1,_⟩
   ·obtain ⟨_,_,_,_,_,h5,_⟩:=c2.sub o ho
    rw [hsubE o ho] at hg
    exact .inr (.inl ⟨_,h5,hg⟩)
   ·obtain ⟨_,_,_,_,_,_,g1,_⟩:=c2.sub o ho
    rw [g1] at h1; cases h1.1
theorem xne {p:Nat→Prop}:∀ (ks:List NK) (j:Nat) (el:List Int),(slN ks j el=[]∨p K)→AV.allL p (nksA K ks j el)
 | [],_,_,_=>trivial
 | .c k::r,j,el,h=>⟨by cases k<;>trivial,xne r (j+1) el h⟩
 | .s e ks::r,j,el,h=>by
  rcases h with h | h
  ·cases h
  ·exact ⟨h,xne r (j+1) el (.inr h)⟩
theorem xnd:∀ (ks:List NK) (j:Nat) (el:List Int) (us:List Value),us.length=ks.length→(∀ (i:Nat) (k:NK),ks[i]?=some k→∃ u,us[i]?=some u∧xfU w k (el.getD (j+i) 0) u) →
  (slN ks j el=[]→∀ E':Env,AV.denL E' (nksA K ks j el)=us) ∧
  ∀ e ks' m,slN ks j el=[(e,ks',m)]→∃ u∈us,xfU w (.s e ks') m u∧∀ E':Env,E' K=u→AV.denL E' (nksA K ks j el)=us
 | [],j,el,us,hl,_=>by
  have:us=[]:=List.eq_nil_of_length_eq_zero hl
  subst this
  exact ⟨fun _ _=>rfl,fun _ _ _ h=>by cases h⟩
 | .c k::r,j,el,[],hl,_=>by simp at hl
 | .s e ks::r,j,el,[],hl,_=>by simp at hl
 | .c k::r,j,el,u::us,hl,h=>by
  obtain ⟨u',hu,hc⟩:=h 0 (.c k) rfl
  cases hu
  have hc:u=k.val (el.getD j 0):=hc
  obtain ⟨h1,h2⟩:=xnd r (j+1) el us (by simpa using hl) fun i k' hk=>by
   obtain ⟨v,hv,hc⟩:=h (i+1) k' hk
   exact ⟨v,hv,by rw [show j+1+i=j+(i+1) from by omega]; exact hc⟩
  refine ⟨fun h3 E'=>?_,fun e ks' m h3=>?_⟩
  ·simp only [nksA,AV.denL,xwS,h1 h3 E',hc]
  ·obtain ⟨x,hx,hcx,hd⟩:=h2 e ks' m h3
   refine ⟨x,List.mem_cons_of_mem _ hx,hcx,fun E' hE=>?_⟩
   simp only [nksA,AV.denL,xwS,hd E' hE,hc]
 | .s e ks::r,j,el,u::us,hl,h=>by
  obtain ⟨u',hu,hc⟩:=h 0 (.s e ks) rfl
  cases hu
  obtain ⟨h1,h2⟩:=xnd r (j+1) el us (by simpa using hl) fun i k' hk=>by
   obtain ⟨v,hv,hc⟩:=h (i+1) k' hk
   exact ⟨v,hv,by rw [show j+1+i=j+(i+1) from by omega]; exact hc⟩
  refine ⟨(fun h3=>by cases h3),fun e' ks' m h3=>?_⟩
  simp only [slN,List.cons.injEq,Prod.mk.injEq] at h3
  obtain ⟨⟨rfl,rfl,rfl⟩,h4⟩:=h3
  refine ⟨u,List.mem_cons_self,hc,fun E' hE=>?_⟩
  simp only [nksA,AV.denL,AV.den,h1 h4 E',hE]
theorem xAz (hH:xae X E w0 ⟨objs,n⟩ w) {t:TypeId} {v:AV} {x:Eff} (h:xr0 P objs K t v=some x) :
  xdq n objs K x∧x.nk≤1∧(x.holds→∃ E',(Instr.loadAt t (v.den E)).run P w=.ok (x.v.den E') w∧xeW E objs w K x E' w∧∀ o∈x.add,∀ g,blkO (E' o.key)=some g→∃ o'∈objs,Inn E w o'.key o'.body g):=by
 unfold xr0 at h
 split at h
 case h_2=>cases h
 rename_i key sz kn i off
 split at h
 case h_2=>cases h
 rename_i k0 ver own e ks l m hf hm
 obtain ⟨hmem,hk⟩:=xan hf
 have hk:k0=key:=hk
 subst hk
 split at h
 case isFalse=>cases h
 rename_i hc
 obtain ⟨rfl,h0,hoff,hmp⟩:=hc
 obtain ⟨vs,hN⟩:=hH.objs _ hmem
 have hN:xiO w own e ks (E k0) l vs:=hN
 generalize hpart:(ks.drop off).take m=part at h
 have hpl:part.length=m:=by rw [← hpart]; simp; omega
 have cells:inR i l→∃ us:List Value,us.length=part.length∧(∀ (j:Nat) (k:NK),part[j]?=some k→∃ u,us[j]?=some u∧xfU w k ((l.getD i.toNat []).getD (off+j) 0) u) ∧
   (∀ u∈us,∃ q:Nat,vs[q]?=some u)∧∀ (E':Env) (cs:List AV) (u:AV),AV.denL E' cs=us→xi1 P t cs 0=some u→(Instr.loadAt t ((AV.ix k0 ks.length kn i off).den E)).run P w=.ok (u.den E') w:=by
  intro hp
  have hil:i.toNat<l.length:=by have:=hp.1; have:=hp.2; omega
  have hbound:i.toNat*ks.length+off+m≤vs.length:=by
   rw [hN.row.len]
   have:(i.toNat+1)*ks.length≤l.length*ks.length:=Nat.mul_le_mul_right _ hil
   rw [Nat.add_mul,Nat.one_mul] at this
   omega
  refine ⟨(vs.drop (i.toNat*ks.length+off)).take m,by simp; omega,fun j k hj=>?_,fun u hu=>?_,fun E' cs u hden hu=>?_⟩
  ·have hjm:j<m:=by rw [← hpl]; exact (List.getElem?_eq_some_iff.1 hj).1
   rw [← hpart,List.getElem?_take,if_pos hjm,List.getElem?_drop] at hj
   obtain ⟨u,hu,hcell⟩:=hN.cell i.toNat (off+j) k hil hj
   exact ⟨u,by rw [List.getElem?_take,if_pos hjm,List.getElem?_drop,Nat.add_assoc]; exact hu,hcell⟩
  ·obtain ⟨q,hq⟩:=List.getElem?_of_mem hu
   rw [List.getElem?_take] at hq
   split at hq
   ·rw [List.getElem?_drop] at hq; exact ⟨_,hq⟩
   ·cases hq
  ·obtain ⟨u0,hu0⟩:∃ u0,vs[i.toNat*ks.length+off]?=some u0:=⟨_,List.getElem?_eq_getElem (by omega)⟩
   obtain ⟨a,ha,_⟩:=hN.row.reads.cell _ u0 hu0
   have:=xoC (P:=P) (t:=t) (E:=E') (w:=w) (a0:=a.add (i.toNat*ks.length+off)) (off:=0) (cs:=cs) (fun j u hj=>by
    rw [hden,List.getElem?_take] at hj
    split at hj
    ·rw [List.getElem?_drop] at hj
     obtain ⟨a',ha',hc'⟩:=hN.row.reads.cell _ u hj
     rw [ha] at ha'
     cases ha'
     rw [xlG]
     exact hc'
    ·cases hj) hu
   rw [xuf] at this
   simp only [AV.den,ha,Option.map_some,Instr.loadAt,Instr.sureAddr,Sem.run_bind,Sem.run_pure,Result.andThen_ok]
   exact this
 split at h
 ·-- no slice
  rename_i u hu hsl
  cases h
  refine ⟨xjk _ (xiC hu (xne _ _ _ (.inl hsl))),Nat.zero_le _,fun hp=>?_⟩
  obtain ⟨us,h1,h2,_,h4⟩:=cells hp
  exact ⟨E,h4 E _ _ ((xnd part off _ us h1 h2).1 hsl E) hu,xjl hH.env _ _,by simp⟩
 ·rename_i u e' ks' m' hu hsl
  cases h
  refine ⟨⟨by simp,?_,?_,?_,xiC hu (xne _ _ _ (.inr (.inr (Nat.lt_succ_self _)))),?_⟩,Nat.le_refl _,fun hp=>?_⟩
  ·intro o ho; simp at ho; subst ho; exact .inr ⟨Nat.le_refl _,Nat.lt_succ_self _⟩
  ·intro o ho o' ho' _; simp at ho ho'; subst ho; subst ho'; rfl
  ·intro o ho; simp at ho; subst ho; cases own<;>trivial
  ·intro o ho; simp at ho; subst ho; exact Nat.le_refl _
  obtain ⟨us,h1,h2,h3,h4⟩:=cells hp
  obtain ⟨c,hcm,hcell,hd⟩:=(xnd (K:=K) part off _ us h1 h2).2 e' ks' m' hsl
  obtain ⟨q,hq⟩:=h3 c hcm
  have hinn:∀ g,blkO c=some g→Inn E w k0 (.nst e ks l) g:=fun g hg=>hN.inn hq hg
  refine ⟨fun k=>if k=K then c else E k,h4 _ _ _ (hd _ (if_pos rfl)) hu,⟨fun k hk=>if_neg (by simp at hk; omega),fun k=>?_,Chg.refl _ _,?_,?_,?_,?_,?_,?_,?_⟩,?_⟩
  ·by_cases hk:k=K
   ·simp [hk,hcell.one]
   ·simp [hk,hH.env k]
  ·intro o ho; simp at ho; subst ho
   have hr:xa8 w false e' ks'.length c (decL m').length (rowV ks' (decL m')):=hcell.2
   cases own with
   | true=>exact ⟨rfl,by show xa8 w false e' ks'.length (if K=K then c else E K) _ _; rw [if_pos rfl]; exact hr⟩
   | false=>show xa8 w false e' ks'.length (if K=K then c else E K) _ _; rw [if_pos rfl]; exact hr
  ·intro o ho hown; simp at ho; subst ho; cases hown
  ·intro o ho _ g hg; simp at ho; subst ho; simp at hg
   exact .inr (.inr (.inr ⟨_,hmem,hinn g hg⟩))
  ·intro o ho o' ho' hown; simp at ho; subst ho; cases hown
  ·intro o ho g hg; simp at ho; subst ho; cases own<;>exact hg.elim
  ·intro o ho g hg; simp at ho; subst ho; cases own<;>exact hg.elim
  ·intro o ho g hg; simp at ho; subst ho
   rcases hg with ⟨h5,hg⟩ | ⟨h5,_⟩
   ·cases own with
    | false=>cases h5
    | true =>
     simp at hg
     exact .inr (.inr ⟨_,hmem,.inr ⟨⟨rfl,rfl⟩,hinn g hg⟩⟩)
   ·cases h5.1
  ·intro o ho g hg; simp at ho; subst ho; simp at hg
   exact ⟨_,hmem,hinn g hg⟩
 ·cases h
theorem xxI (hH:xae X E w0 ⟨objs,n⟩ w) {t:TypeId} {v:AV} {x:Eff} (h:xr0 P objs K t v=some x) :
  xdq n objs K x∧x.nk≤1∧(x.holds→∃ E',(Instr.loadAt t (v.den E)).run P w=.ok (x.v.den E') w∧xeW E objs w K x E' w):=by
 obtain ⟨h1,h2,h3⟩:=xAz hH h
 exact ⟨h1,h2,fun hp=>by obtain ⟨E',g1,g2,_⟩:=h3 hp; exact ⟨E',g1,g2⟩⟩
theorem xiO.append {own1 own2 own':Bool} {e:TypeId} {ks:List NK} {v1 v2 v':Value} {l1 l2:List (List Int)} {vs ws:List Value} {w':World} (h1:xiO w own1 e ks v1 l1 vs) (h2:xiO w own2 e ks v2 l2 ws)
  (hr:xa8 w' own' e ks.length v' (l1.length+l2.length) (vs++ws)) (hm:∀ u∈vs++ws,∀ g,blkO u=some g→w'.heap[g]?=w.heap[g]?) (hs:w.heap.size≤w'.heap.size):xiO w' own' e ks v' (l1++l2) (vs++ws):=by
 refine ⟨by rw [List.length_append]; exact hr,fun i j k hi hj=>?_⟩
 have hjl:j<ks.length:=(List.getElem?_eq_some_iff.1 hj).1
 by_cases hlt:i<l1.length
 ·obtain ⟨u,hu,hc⟩:=h1.cell i j k hlt hj
  have hlen:i*ks.length+j<vs.length:=(List.getElem?_eq_some_iff.1 hu).1
  refine ⟨u,by rw [List.getElem?_append_left hlen]; exact hu,?_⟩
  rw [show (l1++l2).getD i []=l1.getD i [] from by rw [List.getD_eq_getElem?_getD,List.getElem?_append_left hlt,← List.getD_eq_getElem?_getD]]
  exact hc.move (hm u (List.mem_append.2 (.inl (List.mem_of_getElem? hu)))) hs
 ·have hge:l1.length≤i:=Nat.le_of_not_lt hlt
  obtain ⟨u,hu,hc⟩:=h2.cell (i-l1.length) j k (by rw [List.length_append] at hi; omega) hj
  have hlen:=h1.row.len
  have hmul:(i-l1.length)*ks.length=i*ks.length-l1.length*ks.length:=Nat.sub_mul _ _ _
  have hle:l1.length*ks.length≤i*ks.length:=Nat.mul_le_mul_right _ hge
  refine ⟨u,?_,?_⟩
  ·rw [List.getElem?_append_right (by omega),hlen,show i*ks.length+j-l1.length*ks.length=(i-l1.length)*ks.length+j from by omega]
   exact hu
  ·rw [show (l1++l2).getD i []=l2.getD (i-l1.length) [] from by rw [List.getD_eq_getElem?_getD,List.getElem?_append_right hge,← List.getD_eq_getElem?_getD]]
   exact hc.move (hm u (List.mem_append.2 (.inr (List.mem_of_getElem? hu)))) hs
theorem xiO.empty {own:Bool} {e:TypeId} {ks:List NK} {v:Value} (hr:xa8 w own e ks.length v 0 []):xiO w own e ks v [] [] :=
 ⟨hr,fun i _ _ hi=>by simp at hi⟩
theorem xp1 (hH:xae X E w0 ⟨objs,n⟩ w) {rm:List Nat} {v v':Value} {w':World} {e:TypeId} {ks:List NK} {l:List (List Int)} {p:Option Prop} (hrm:(rm=[]∧blkO v=none)∨∃ key,rm=[key]∧v=E key∧∃ o∈objs,o.key=key∧o.own=true) (h1:v'.oneCell'=true)
  {vs:List Value} (hb:xiO w' true e ks v' l vs) (hc:Chg w w' (blkO v).toList) (hblk:∀ g,blkO v'=some g→w.heap.size≤g∨blkO v=some g)
  (hin:∀ u∈vs,∀ g,blkO u=some g→∃ o∈objs,(o.own=true∧xuI o.body=true)∧Inn E w o.key o.body g):xeW E objs w K ⟨p,rm,1,[⟨K,K,true,.nst e ks l⟩],.sl K⟩ (fun k=>if k=K then v' else E k) w':=by
 have hb':xiO w' true e ks ((fun k=>if k=K then v' else E k:Env) K) l vs:=by simp only [if_true]; exact hb
 have hinn:∀ g,Inn (fun k=>if k=K then v' else E k) w' K (.nst e ks l) g→∃ o∈objs,(o.own=true∧xuI o.body=true)∧Inn E w o.key o.body g:=by
  intro g hg
  obtain ⟨j,u,hj,hbu⟩:=hb'.of_inn hg
  exact hin u (List.mem_of_getElem? hj) g hbu
 refine ⟨fun k hk=>if_neg (by simp at hk; omega),fun k=>?_,?_,?_,?_,?_,?_,?_,?_,?_⟩
 ·by_cases hk:k=K
  ·simp [hk,h1]
  ·simp [hk,hH.env k]
 ·rcases hrm with ⟨rfl,h0⟩ | ⟨key,rfl,rfl,_⟩
  ·rw [h0] at hc; exact hc
  ·cases hg:blkO (E key) with
   | none=>rw [hg] at hc; simpa [hg] using hc
   | some g=>rw [hg] at hc; simpa [hg] using hc
 ·intro o ho; simp at ho; subst ho; exact ⟨vs,hb'⟩
 ·intro o ho _ g hg; simp at ho; subst ho; simp at hg
  rcases hblk g hg with h | h
  ·exact .inl h
  ·rcases hrm with ⟨rfl,h0⟩ | ⟨key,rfl,rfl,_⟩
   ·rw [h0] at h; cases h
   ·exact .inr ⟨key,by simp,h⟩
 ·intro o ho hf; simp at ho; subst ho; cases hf
 ·intro o ho o' ho' _ hne; simp at ho ho'; subst ho; subst ho'; exact absurd rfl hne
 ·intro o ho g hg; simp at ho; subst ho
  obtain ⟨o,ho,_,h⟩:=hinn g hg
  exact .inr (.inr (.inr ⟨o,ho,h⟩))
 ·intro o ho g hg o' ho' _ hb2; simp at ho ho'; subst ho; subst ho'; simp at hb2
  obtain ⟨o,ho,_,h⟩:=hinn g hg
  rcases hblk g hb2 with h2 | h2
  ·have:=xkZ (hH.objs o ho) h; omega
  ·rcases hrm with ⟨_,h0⟩ | ⟨key,_,rfl,o2,ho2,rfl,hown2⟩
   ·rw [h0] at h2; cases h2
   ·exact hH.deep o ho g h o2 ho2 hown2 h2
 ·intro o ho g hg; simp at ho; subst ho
  rcases hg with ⟨h5,_⟩ | ⟨_,hg⟩
  ·cases h5
  ·obtain ⟨o,ho,hown,h⟩:=hinn g hg
   exact .inr (.inr ⟨o,ho,.inr ⟨hown,h⟩⟩)
theorem xp0 {rm:List Nat} {e:TypeId} {ks:List NK} {l:List (List Int)} {p:Option Prop} (hrm:∀ k∈rm,∃ o∈objs,o.key=k∧o.own=true):xdq n objs K ⟨p,rm,1,[⟨K,K,true,.nst e ks l⟩],.sl K⟩:=by
 refine ⟨hrm,?_,?_,?_,Or.inr (Nat.lt_succ_self _),?_⟩
 ·intro o ho; simp at ho; subst ho; exact .inr ⟨Nat.le_refl _,Nat.lt_succ_self _⟩
 ·intro o ho o' ho' _; simp at ho ho'; subst ho; subst ho'; rfl
 ·intro o ho; simp at ho; subst ho; trivial
 ·intro o ho; simp at ho; subst ho; exact Nat.le_refl _
theorem xuU (hH:xae X E w0 ⟨objs,n⟩ w) {t ty:TypeId} {s y:AV} {x:Eff} (h:xnk P objs K t s y=some x) :
  xdq n objs K x∧x.nk=1∧(x.holds→∃ E' w',(Builtin.append_ #[t,t] ty #[s.den E,y.den E]).run P w=.ok (x.v.den E') w'∧xeW E objs w K x E' w'):=by
 unfold xnk at h
 split at h
 case h_2=>cases h
 rename_i key2
 split at h
 case h_2=>cases h
 rename_i k2 ver2 e2 ks2 l2 e hf2 ht
 obtain ⟨hm2,hk2⟩:=xan hf2
 have hk2:k2=key2:=hk2
 subst hk2
 split at h
 case h_2=>cases h
 rename_i ie hi
 split at h
 case isFalse=>cases h
 rename_i hc
 obtain ⟨rfl,hsz,h0,hz⟩:=hc
 unfold xDG at hz
 obtain ⟨ws,hN2⟩:=hH.objs _ hm2
 have hN2:xiO w true e2 ks2 (E k2) l2 ws:=hN2
 cases hzz:ie.zero with
 | none=>rw [hzz] at hz; cases hz
 | some z =>
 rw [hzz] at hz
 have hzs:z.cells.size=ie.size:=Nat.eq_of_beq_eq_true hz
 have hws1:∀ u∈ws,u.oneCell'=true:=by
  intro u hu
  obtain ⟨q,hq⟩:=List.getElem?_of_mem hu
  obtain ⟨_,_,_,hcell⟩:=hN2.get hq
  exact hcell.one
 have hin2:∀ u∈ws,∀ g,blkO u=some g→∃ o∈objs,(o.own=true∧xuI o.body=true)∧Inn E w o.key o.body g:=by
  intro u hu g hg
  obtain ⟨q,hq⟩:=List.getElem?_of_mem hu
  exact ⟨_,hm2,⟨rfl,rfl⟩,hN2.inn hq hg⟩
 have core:∀ {v:Value} {m:Nat} {vs:List Value} {l1:List (List Int)},xm4 w e2 ie.size v m vs→xiO w true e2 ks2 v l1 vs→m=l1.length→(∀ u∈vs,∀ g,blkO u=some g→∃ o∈objs,(o.own=true∧xuI o.body=true)∧Inn E w o.key o.body g) →
   (∀ g,blkO v=some g→∃ o∈objs,o.own=true∧blkO (E o.key)=some g)→xdo ie.bytes (l1.length+l2.length) →
   ∃ v' w',(Builtin.append_ #[t,t] ty #[v,E k2]).run P w=.ok v' w'∧xiO w' true e2 ks2 v' (l1++l2) (vs++ws)∧Chg w w' (blkO v).toList∧(∀ b,blkO v'=some b→w.heap.size≤b∨blkO v=some b)∧v'.oneCell'=true:=by
  intro v m vs l1 ho hN1 hml hin1 hvb hfit
  subst hml
  have hlen1:=hN1.row.len
  have hlen2:=hN2.row.len
  rw [hsz] at hlen1 hlen2
  obtain ⟨v',w',hr,ho',hch,hbl,h1'⟩:=xvw (P:=P) (ty:=ty) ht hi hzz hzs h0 ho hlen1 hN2.row.reads hlen2 hws1 hfit
  refine ⟨v',w',hr,?_,hch,hbl,h1'⟩
  refine hN1.append hN2 (by rw [hsz]; exact xd6 ho' (by rw [List.length_append,hlen1,hlen2,Nat.add_mul])) (fun u hu g hg=>?_) hch.size
  obtain ⟨o,hom,hown,hI⟩:∃ o∈objs,(o.own=true∧xuI o.body=true)∧Inn E w o.key o.body g:=by
   rcases List.mem_append.1 hu with hu | hu
   ·exact hin1 u hu g hg
   ·exact hin2 u hu g hg
  refine hch.block g (xkZ (hH.objs o hom) hI) fun hmem=>?_
  rw [Option.mem_toList] at hmem
  obtain ⟨o2,hom2,hown2,hb2⟩:=hvb g hmem
  exact hH.deep o hom g hI o2 hom2 hown2 hb2
 have nilN:xiO w true e2 ks2 (.slice none 0 0) [] []:=xiO.empty (xd6 (.inl ⟨none,rfl,rfl⟩) (by simp))
 split at h
 ·-- nil
  cases h
  refine ⟨xp0 (by simp),rfl,fun hp=>?_⟩
  have hp:xdo ie.bytes l2.length:=hp
  obtain ⟨v',w',hr,hN,hch,hbl,h1⟩:=core (v:=.slice none 0 0) (m:=0) (vs:=[]) (l1:=[]) (.inl ⟨none,rfl,rfl⟩) nilN rfl (by simp) (fun g hg=>by cases hg) (by simpa using hp)
  exact ⟨_,w',by simp only [AV.den,if_true]; exact hr,xp1 hH (.inl ⟨rfl,rfl⟩) h1 (by simpa using hN) hch hbl (by simpa using hin2)⟩
 ·rename_i key
  split at h
  case isFalse=>cases h
  rename_i hne
  split at h
  ·-- a nil object
   rename_i k1 ver1 hf1
   cases h
   obtain ⟨hm1,hk1⟩:=xan hf1
   have hk1:k1=key:=hk1
   subst hk1
   have hnil:E k1=.slice none 0 0:=hH.objs _ hm1
   refine ⟨xp0 (fun k hk=>by simp at hk; subst hk; exact ⟨_,hm1,rfl,rfl⟩),rfl,fun hp=>?_⟩
   have hp:xdo ie.bytes l2.length:=hp
   obtain ⟨v',w',hr,hN,hch,hbl,h1⟩:=core (v:=E k1) (m:=0) (vs:=[]) (l1:=[]) (.inl ⟨none,hnil,rfl⟩) (by rw [hnil]; exact nilN) rfl (by simp) (fun g hg=>by rw [hnil] at hg; cases hg) (by simpa using hp)
   exact ⟨_,w',by simp only [AV.den,if_true]; exact hr,xp1 hH (.inr ⟨k1,rfl,rfl,_,hm1,rfl,rfl⟩) h1 (by simpa using hN) hch hbl (by simpa using hin2)⟩
  ·rename_i k1 ver1 e1 ks1 l1 hf1
   split at h
   case isFalse=>cases h
   rename_i hc1
   obtain ⟨rfl,rfl⟩:=hc1
   cases h
   obtain ⟨hm1,hk1⟩:=xan hf1
   have hk1:k1=key:=hk1
   subst hk1
   obtain ⟨vs,hN1⟩:=hH.objs _ hm1
   have hN1:xiO w true e1 ks1 (E k1) l1 vs:=hN1
   have hin1:∀ u∈vs,∀ g,blkO u=some g→∃ o∈objs,(o.own=true∧xuI o.body=true)∧Inn E w o.key o.body g:=by
    intro u hu g hg
    obtain ⟨q,hq⟩:=List.getElem?_of_mem hu
    exact ⟨_,hm1,⟨rfl,rfl⟩,hN1.inn hq hg⟩
   refine ⟨xp0 (fun k hk=>by simp at hk; subst hk; exact ⟨_,hm1,rfl,rfl⟩),rfl,fun hp=>?_⟩
   have hp:xdo ie.bytes (l1.length+l2.length):=hp
   obtain ⟨v',w',hr,hN,hch,hbl,h1⟩:=core (v:=E k1) (m:=l1.length) (vs:=vs) (l1:=l1) (by rw [← hsz]; exact hN1.row.own rfl) hN1 rfl hin1 (fun g hg=>⟨_,hm1,rfl,hg⟩) hp
   exact ⟨_,w',by simp only [AV.den,if_true]; exact hr,xp1 hH (.inr ⟨k1,rfl,rfl,_,hm1,rfl,rfl⟩) h1 hN hch hbl (fun u hu g hg=>by
    rcases List.mem_append.1 hu with hu | hu
    ·exact hin1 u hu g hg
    ·exact hin2 u hu g hg)⟩
  ·cases h
 ·cases h
theorem xmG {kt:TypeId} {q:IntKind} (h:keyI P kt=some q):P.underlying kt=some (.int q):=by
 unfold keyI at h
 split at h
 ·rename_i q' hu; cases h; exact hu
 ·cases h
theorem xrh {q:IntKind} {v:AV} {m:Int} (h:intK q v=some m):v.den E=.int q m:=by
 unfold intK at h
 split at h
 ·split at h
  ·rename_i hk; cases h; subst hk; rfl
  ·cases h
 ·split at h
  ·rename_i hk; cases h; subst hk; rfl
  ·cases h
 ·cases h
theorem xCu (hH:xae X E w0 ⟨objs,n⟩ w) {k:NK} {v:AV} {m:Int} (h:encQ P objs k v=some m):xfU w k m (v.den E)∧∀ b,blkO (v.den E)=some b→∃ o∈objs,o.own=false∧blkO (E o.key)=some b:=by
 have nilCell:∀ {e:TypeId} {ks:List CK},xfU w (.s e ks) (encL []) (.slice none 0 0):=by
  intro e ks
  refine ⟨rfl,?_⟩
  rw [xtQ]
  exact xzL
 unfold encQ at h
 split at h
 ·rename_i k v
  have:=xwQ E h
  exact ⟨this,fun b hb=>by rw [this] at hb; exact (xyl hb).elim⟩
 ·rename_i e ks key
  split at h
  case h_2=>cases h
  rename_i k0 ver b hf
  obtain ⟨hm,hk⟩:=xan hf
  have hk:k0=key:=hk
  subst hk
  split at h
  case h_2=>cases h
  rename_i e' ks' l hr
  split at h
  case isFalse=>cases h
  rename_i hc
  obtain ⟨rfl,rfl⟩:=hc
  cases h
  have hrow:=xbR hr (hH.objs _ hm)
  refine ⟨⟨hH.env _,?_⟩,fun b hb=>⟨_,hm,rfl,hb⟩⟩
  rw [xtQ]
  exact hrow
 ·cases h
  exact ⟨nilCell,fun b hb=>by cases hb⟩
 ·cases h
theorem xpZ (hH:xae X E w0 ⟨objs,n⟩ w):∀ {ks:List NK} {vs:List AV} {ns:List Int},xuN P objs ks vs=some ns →
  (AV.denL E vs).length=ks.length∧ns.length=ks.length∧(∀ (j:Nat) (k:NK),ks[j]?=some k→∃ u,(AV.denL E vs)[j]?=some u∧xfU w k (ns.getD j 0) u)∧∀ u∈AV.denL E vs,∀ b,blkO u=some b→∃ o∈objs,o.own=false∧blkO (E o.key)=some b
 | [],[],ns,h=>by cases h; exact ⟨rfl,rfl,(fun j k hj=>by simp at hj),(fun u hu=>by cases hu)⟩
 | k::ks,v::vs,ns,h=>by
  unfold xuN at h
  split at h
  ·rename_i m ms h1 h2
   cases h
   obtain ⟨a1,a2⟩:=xCu hH h1
   obtain ⟨b1,b2,b3,b4⟩:=xpZ hH h2
   refine ⟨by simp [AV.denL,b1],by simp [b2],fun j k' hj=>?_,fun u hu=>?_⟩
   ·cases j with
    | zero=>simp at hj; subst hj; exact ⟨_,rfl,a1⟩
    | succ j=>simp at hj; simpa [AV.denL] using b3 j k' hj
   ·rcases List.mem_cons.1 hu with rfl | hu
    ·exact a2
    ·exact b4 u hu
  ·cases h
 | [],_::_,_,h=>by cases h
 | _::_,[],_,h=>by cases h
theorem xxz {q:IntKind} {ks:List NK} {v:Value} {l:List (List Int)} {b:Nat} {es:Array MapEntry} {clock:Nat} (hM:MqOk w v q ks l b es clock) {i:Nat} {e:MapEntry} (he:es.toList[i]?=some e):∃ r,l[i]?=some r∧l.getD i []=r∧r∈l∧e.key=.int q (r.getD 0 0)∧r.take 1=[r.getD 0 0]:=by
 have hil:i<l.length:=by rw [← hM.len]; exact (List.getElem?_eq_some_iff.1 he).1
 have hr:=List.getElem?_eq_getElem hil
 have hd:l.getD i []=l[i]:=by rw [List.getD_eq_getElem?_getD,hr]; rfl
 refine ⟨l[i],hr,hd,List.getElem_mem hil,by rw [← hd]; exact (hM.ents i e he).1,?_⟩
 have hne:=hM.wf _ (List.getElem_mem hil)
 generalize l[i]=r at hne
 cases r with
 | nil=>exact absurd rfl hne
 | cons a r=>rfl
theorem xEQ {q:IntKind} {kt:TypeId} (hq:P.underlying kt=some (.int q)) {ks:List NK} {v:Value} {l:List (List Int)} {b:Nat} {es:Array MapEntry} {clock:Nat} (hM:MqOk w v q ks l b es clock) (m:Int) :
  ((Instr.findKey kt (.int q m) es.toList).run P w=.ok none w∧xaO 1 [m] l=none∧∀ r∈l,r.take 1≠[m]) ∨
  ∃ j r e,(Instr.findKey kt (.int q m) es.toList).run P w=.ok (some (j,e.val)) w∧l[j]?=some r∧r.take 1=[m]∧es.toList[j]?=some e∧e.key=.int q m∧xaO 1 [m] l=some (r.drop 1):=by
 have hks:∀ x∈es.toList,Go.MapKept.IsKey (.int q) x.key:=fun x hx=>by
  obtain ⟨i,hi⟩:=List.mem_iff_getElem?.1 hx
  obtain ⟨r,_,_,_,h4,_⟩:=xxz hM hi
  rw [h4]; exact rfl
 rcases Go.MapKept.findNow_spec (d:=.int q) (k:=.int q m) rfl es.toList 0 hks with ⟨h1,h2⟩ | ⟨j,e,h1,h2,h3⟩
 ·have hno:∀ r∈l,r.take 1≠[m]:=by
   intro r hr hk
   obtain ⟨i,hi⟩:=List.mem_iff_getElem?.1 hr
   have hil:i<es.toList.length:=by rw [hM.len]; exact (List.getElem?_eq_some_iff.1 hi).1
   obtain ⟨r',a1,_,_,a4,a5⟩:=xxz hM (List.getElem?_eq_getElem hil)
   rw [hi] at a1
   cases a1
   rw [a5] at hk
   exact h2 _ (List.getElem_mem hil) (by rw [a4]; injection hk with hk _; rw [hk])
  refine .inl ⟨Go.MapKept.run_findKey hq h1,?_,hno⟩
  unfold xaO
  rw [List.find?_eq_none.2 (fun r hr=>by simpa using hno r hr)]
  rfl
 ·obtain ⟨r,a1,_,a3,a4,a5⟩:=xxz hM h2
  have hk:r.take 1=[m]:=by
   rw [a4] at h3
   rw [a5,(Value.int.inj h3).2]
  refine .inr ⟨j,r,e,by simpa using Go.MapKept.run_findKey hq h1,a1,hk,h2,h3,?_⟩
  unfold xaO
  cases hf:l.find? (fun r=>decide (r.take 1=[m])) with
  | none=>exact absurd hk (by simpa using List.find?_eq_none.1 hf _ a3)
  | some r' =>
   have h4:=List.mem_of_find?_eq_some hf
   have h5:r'.take 1=[m]:=by simpa using List.find?_some hf
   obtain ⟨i,hi⟩:=List.mem_iff_getElem?.1 h4
   have hij:i=j:=by
    have hil:=(List.getElem?_eq_some_iff.1 hi).1
    have hjl:=(List.getElem?_eq_some_iff.1 a1).1
    have e1:l[i]=r':=(List.getElem?_eq_some_iff.1 hi).2
    have e2:l[j]=r:=(List.getElem?_eq_some_iff.1 a1).2
    have hpw:=List.pairwise_iff_getElem.1 hM.nodup
    rcases Nat.lt_trichotomy i j with hlt | hlt | hlt
    ·exact (hpw i j (by simpa using hil) (by simpa using hjl) hlt (by simp only [List.getElem_map,e1,e2,h5,hk])).elim
    ·exact hlt
    ·exact (hpw j i (by simpa using hjl) (by simpa using hil) hlt (by simp only [List.getElem_map,e1,e2,h5,hk])).elim
   subst hij
   rw [a1] at hi
   cases hi
   rfl
theorem xuF (hH:xae X E w0 ⟨objs,n⟩ w) {t:TypeId} {x:Eff} (h:xwf P K t=some x) :
  xdq n objs K x∧x.nk≤1∧(x.holds→∃ E' w',(Instr.makeMap t none).run P w=.ok (x.v.den E') w'∧xeW E objs w K x E' w'):=by
 unfold xwf at h
 split at h
 case h_2=>cases h
 rename_i kt et hu
 split at h
 case h_2=>cases h
 rename_i q ks hq hks hag
 cases h
 have hno:∀ g,¬ Inn (fun k=>if k=K then .map (some w.heap.size) else E k) (w.alloc (.map #[] 0)) K (.mq kt et q ks []) g:=by
  rintro g ⟨m,es,clock,h1,h2,e,he,_⟩
  have h1:Value.map (some w.heap.size)=.map (some m):=by simpa using h1
  cases h1
  rw [xbb] at h2
  cases h2
  simp at he
 refine ⟨xjJ (b:=.mq kt et q ks []) trivial (Nat.lt_succ_self K),Nat.le_refl _,fun _=>⟨fun k=>if k=K then .map (some w.heap.size) else E k,w.alloc (.map #[] 0),?_,fun k hk=>if_neg (by simp at hk; omega),fun k=>?_,Chg.of_below (xbo _ _) _,?_,?_,?_,?_,?_,?_,?_⟩⟩
 ·simp [Instr.makeMap,AV.den]
 ·by_cases hk:k=K
  ·simp [hk,Value.oneCell']
  ·simp [hk,hH.env k]
 ·intro o ho; simp at ho; subst ho
  exact ⟨w.heap.size,#[],0,if_pos rfl,xbb w _,rfl,(fun i e he=>by simp at he),(fun r hr=>by cases hr),List.nodup_nil,Go.MapKept.stamped_empty 0⟩
 ·intro o ho _ g hg; simp at ho; subst ho; simp [blkO] at hg; subst hg; exact .inl (Nat.le_refl _)
 ·intro o ho hf; simp at ho; subst ho; cases hf
 ·intro o ho o' ho' _ hne; simp at ho ho'; subst ho; subst ho'; exact absurd rfl hne
 ·intro o ho g hg; simp at ho; subst ho; exact absurd hg (hno g)
 ·intro o ho g hg; simp at ho; subst ho; exact absurd hg (hno g)
 ·intro o ho g hg; simp at ho; subst ho
  rcases hg with ⟨h1,_⟩ | ⟨h1,_⟩
  ·cases h1
  ·cases h1.2
theorem xBE (E:Env) (ok:Bool) (v:AV) (b:Bool):(okV ok v b).den E=if ok then .tuple #[v.den E,.bool b] else v.den E:=by cases ok<;>rfl
theorem xBF {p:Nat→Prop} {ok:Bool} {v:AV} {b:Bool} (h:AV.all p v):AV.all p (okV ok v b):=by
 cases ok
 ·exact h
 ·exact ⟨h,trivial,trivial⟩
theorem xwi (hH:xae X E w0 ⟨objs,n⟩ w) {t:TypeId} {v k:AV} {ok:Bool} {x:Eff} (h:xpN P objs K t v k ok=some x) :
  xdq n objs K x∧x.nk≤1∧(x.holds→∃ E',(Instr.lookup t (v.den E) (k.den E) ok).run P w=.ok (x.v.den E') w∧xeW E objs w K x E' w):=by
 unfold xpN at h
 split at h
 case h_2=>cases h
 rename_i key
 split at h
 case h_2=>cases h
 rename_i k0 ver own kt et q ks l hf
 split at h
 case h_2=>cases h
 rename_i m z hm hz
 split at h
 case h_2=>cases h
 rename_i zc hzc
 split at h
 case isFalse=>cases h
 rename_i hc
 obtain ⟨hmem,hk⟩:=xan hf
 have hk:k0=key:=hk
 subst hk
 obtain ⟨b,es,clock,hM⟩:=hH.objs _ hmem
 have hM:MqOk w (E k0) q ks l b es clock:=hM
 have hu:=xgq hc.1
 have hq:=xmG hc.2
 obtain ⟨z1,z2,z3,z4⟩:=xpZ hH hzc
 have cells:∃ us:List Value,us.length=ks.length∧(∀ (j:Nat) (k:NK),ks[j]?=some k→∃ u,us[j]?=some u∧xfU w k (((xaO 1 [m] l).getD zc).getD (0+j) 0) u) ∧
   (∀ u∈us,∀ g,blkO u=some g→Shr E objs w [] g) ∧
   (Instr.lookup t ((AV.sl k0).den E) (k.den E) ok).run P w=.ok (if ok then .tuple #[.agg us.toArray,.bool (xaO 1 [m] l).isSome] else .agg us.toArray) w:=by
  have hv:(AV.sl k0).den E=.map (some b):=hM.is
  rw [hv,xrh (E:=E) hm]
  have hck:=Go.MapKept.run_checkKey (P:=P) (w:=w) hq (k:=.int q m) rfl es.isEmpty 9999
  rcases xEQ (P:=P) hq hM m with ⟨h1,h2,_⟩ | ⟨j,r,e,h1,h2,h3,h4,h5,h6⟩
  ·refine ⟨AV.denL E z,z1,fun j k' hj=>?_,fun u hu g hg=>?_,?_⟩
   ·obtain ⟨u,hu,hcell⟩:=z3 j k' hj
    exact ⟨u,hu,by rw [h2,Nat.zero_add]; exact hcell⟩
   ·obtain ⟨o,ho,hown,hb⟩:=z4 u hu g hg
    exact .inr (.inr (.inl ⟨o,ho,hown,by simp,hb⟩))
   ·have hzr:=xmf (P:=P) hz E w
    unfold Instr.lookup
    simp only [Sem.run_bind,run_underlying hu,Result.andThen_ok,Go.MapKept.run_getObj_map hM.at_,Sem.run_pure,hck,h1,hzr,h2,AV.den]
    cases ok<;>rfl
  ·obtain ⟨_,cs,c1,c2,c3⟩:=hM.ents j e h4
   have hd:l.getD j []=r:=by rw [List.getD_eq_getElem?_getD,h2]; rfl
   rw [hd] at c3
   refine ⟨cs,c2,fun j' k' hj=>?_,fun u hu g hg=>.inr (.inr (.inr ⟨_,hmem,b,es,clock,hM.is,hM.at_,e,List.mem_of_getElem? h4,cs,c1,u,hu,hg⟩)),?_⟩
   ·obtain ⟨u,hu,hcell⟩:=c3 j' k' hj
    refine ⟨u,hu,?_⟩
    rw [h6]
    show xfU w k' ((r.drop 1).getD (0+j') 0) u
    rw [Nat.zero_add,List.getD_eq_getElem?_getD,List.getElem?_drop,Nat.add_comm,← List.getD_eq_getElem?_getD]
    exact hcell
   ·unfold Instr.lookup
    simp only [Sem.run_bind,run_underlying hu,Result.andThen_ok,Go.MapKept.run_getObj_map hM.at_,Sem.run_pure,hck,h1,h6,c1]
    cases ok<;>rfl
 obtain ⟨us,u1,u2,u3,u4⟩:=cells
 split at h
 ·rename_i hsl
  cases h
  refine ⟨xjk _ (xBF (xne _ _ _ (.inl hsl))),Nat.zero_le _,fun _=>⟨E,?_,xjl hH.env _ _⟩⟩
  rw [xBE,AV.den,(xnd (K:=K) ks 0 _ us u1 u2).1 hsl E,u4]
 ·rename_i e' ks' m' hsl
  cases h
  refine ⟨⟨by simp,?_,?_,?_,xBF (xne _ _ _ (.inr (.inr (Nat.lt_succ_self _)))),?_⟩,Nat.le_refl _,fun _=>?_⟩
  ·intro o ho; simp at ho; subst ho; exact .inr ⟨Nat.le_refl _,Nat.lt_succ_self _⟩
  ·intro o ho o' ho' _; simp at ho ho'; subst ho; subst ho'; rfl
  ·intro o ho; simp at ho; subst ho; trivial
  ·intro o ho; simp at ho; subst ho; exact Nat.le_refl _
  obtain ⟨c,hcm,hcell,hd⟩:=(xnd (K:=K) ks 0 _ us u1 u2).2 e' ks' m' hsl
  refine ⟨fun k=>if k=K then c else E k,?_,fun k hk=>if_neg (by simp at hk; omega),fun k=>?_,Chg.refl _ _,?_,?_,?_,?_,?_,?_,?_⟩
  ·rw [xBE,AV.den,hd _ (if_pos rfl),u4]
  ·by_cases hk:k=K
   ·simp [hk,hcell.one]
   ·simp [hk,hH.env k]
  ·intro o ho; simp at ho; subst ho
   have hr:xa8 w false e' ks'.length c (decL m').length (rowV ks' (decL m')):=hcell.2
   show xa8 w false e' ks'.length (if K=K then c else E K) _ _
   rw [if_pos rfl]; exact hr
  ·intro o ho hown; simp at ho; subst ho; cases hown
  ·intro o ho _ g hg; simp at ho; subst ho; simp at hg
   exact u3 c hcm g hg
  ·intro o ho o' ho' hown; simp at ho; subst ho; cases hown
  ·intro o ho g hg; simp at ho; subst ho; exact hg.elim
  ·intro o ho g hg; simp at ho; subst ho; exact hg.elim
  ·intro o ho g hg; simp at ho; subst ho
   rcases hg with ⟨h5,_⟩ | ⟨h5,_⟩
   ·cases h5
   ·cases h5.1
 ·cases h
theorem xqV (hH:xae X E w0 ⟨objs,n⟩ w) {t:TypeId} {v k u:AV} {x:Eff} (h:xjd P objs K t v k u=some x) :
  xdq n objs K x∧x.nk≤1∧x.v=.val undef∧(x.holds→∃ w',(Instr.mapUpdate t (v.den E) (k.den E) (u.den E)).run P w=.ok () w'∧xeW E objs w K x E w'):=by
 unfold xjd at h
 split at h
 case h_2=>cases h
 rename_i key
 split at h
 case h_2=>cases h
 rename_i k0 ver kt et q ks l hf
 split at h
 case h_2=>cases h
 rename_i m cs hm
 split at h
 case h_2=>cases h
 rename_i vc hvc
 split at h
 case isFalse=>cases h
 rename_i hc
 cases h
 obtain ⟨hmem,hk⟩:=xan hf
 have hk:k0=key:=hk
 subst hk
 obtain ⟨b,es,clock,hM⟩:=hH.objs _ hmem
 have hM:MqOk w (E k0) q ks l b es clock:=hM
 have hu:=xgq hc.1
 have hq:=xmG hc.2
 obtain ⟨z1,z2,z3,z4⟩:=xpZ hH hvc
 have hblk:blkO (E k0)=some b:=by rw [hM.is]; rfl
 have hbl:b<w.heap.size:=(Array.getElem?_eq_some_iff.1 hM.at_).1
 refine ⟨⟨?_,?_,?_,?_,trivial,?_⟩,Nat.zero_le _,rfl,fun _=>?_⟩
 ·intro k hk; simp at hk; subst hk; exact ⟨_,hmem,rfl,rfl⟩
 ·intro o ho; simp at ho; subst ho; exact .inl (by simp)
 ·intro o ho o' ho' _; simp at ho ho'; subst ho; subst ho'; rfl
 ·intro o ho; simp at ho; subst ho; trivial
 ·intro o ho; simp at ho; subst ho; exact Nat.le_refl _
 have hv:(AV.sl k0).den E=.map (some b):=hM.is
 have stay:∀ (es':Array MapEntry) (clock':Nat) (k':NK) (m':Int) (u:Value),xfU w k' m' u→(∀ g,blkO u=some g→g≠b)→xfU { w with heap:=w.heap.setIfInBounds b (.map es' clock') } k' m' u:=fun es' clock' k' m' u hn hg =>
  hn.move (fun g h1=>by simp [Array.getElem?_setIfInBounds_ne (fun e=>hg g h1 e.symm)]) (by simp)
 have oldne:∀ e∈es.toList,∀ cs:List Value,e.val=.agg cs.toArray→∀ u∈cs,∀ g,blkO u=some g→g≠b:=fun e he cs hcs u hu g hg e1=>by
  subst e1
  exact hH.deep _ hmem g ⟨g,es,clock,hM.is,hM.at_,e,he,cs,hcs,u,hu,hg⟩ _ hmem rfl hblk
 have newne:∀ u∈AV.denL E cs,∀ g,blkO u=some g→g≠b:=fun u hu g hg e1=>by
  subst e1
  obtain ⟨o,ho,hown,hb⟩:=z4 u hu g hg
  exact hH.inj _ hmem o ho rfl (fun e=>by
   have:=hH.uniq _ hmem o ho e
   rw [← this] at hown
   cases hown) g hblk hb
 have hnew:∀ (es':Array MapEntry) (clock':Nat),∀ (j:Nat) (k':NK),ks[j]?=some k'→∃ u,(AV.denL E cs)[j]?=some u∧xfU { w with heap:=w.heap.setIfInBounds b (.map es' clock') } k' ((m::vc).getD (j+1) 0) u:=fun es' clock' j k' hj=>by
  obtain ⟨u,hu,hcell⟩:=z3 j k' hj
  exact ⟨u,hu,stay es' clock' k' _ u hcell (newne u (List.mem_of_getElem? hu))⟩
 have hold:∀ (es':Array MapEntry) (clock':Nat) (i:Nat) (e:MapEntry),es.toList[i]?=some e→∃ cs:List Value,e.val=.agg cs.toArray∧cs.length=ks.length∧∀ (j:Nat) (k:NK),ks[j]?=some k→∃ u,cs[j]?=some u∧xfU { w with heap:=w.heap.setIfInBounds b (.map es' clock') } k ((l.getD i []).getD (j+1) 0) u:=fun es' clock' i e he=>by
  obtain ⟨_,cs,c1,c2,c3⟩:=hM.ents i e he
  refine ⟨cs,c1,c2,fun j k hj=>?_⟩
  obtain ⟨u,hu,hcell⟩:=c3 j k hj
  exact ⟨u,hu,stay es' clock' k _ u hcell (oldne e (List.mem_of_getElem? he) cs c1 u (List.mem_of_getElem? hu))⟩
 have fin:∀ (es':Array MapEntry) (clock':Nat),MqOk { w with heap:=w.heap.setIfInBounds b (.map es' clock') } (E k0) q ks (xdU 1 [m] vc l) b es' clock'→(∀ e∈es'.toList,(∃ e0∈es.toList,e.val=e0.val)∨e.val=.agg (AV.denL E cs).toArray) →
   xeW E objs w K ⟨none,[k0],0,[⟨k0,K,true,.mq kt et q ks (xdU 1 [m] vc l)⟩],.val undef⟩ E { w with heap:=w.heap.setIfInBounds b (.map es' clock') }:=by
  intro es' clock' h1 h2
  have hin:∀ g,Inn E { w with heap:=w.heap.setIfInBounds b (.map es' clock') } k0 (.mq kt et q ks (xdU 1 [m] vc l)) g→g≠b∧Shr E objs w [k0] g:=by
   rintro g ⟨m1,es1,clock1,i1,i2,e,he,cs1,hcs,u,hu,hg⟩
   rw [hM.is] at i1
   cases i1
   rw [show ({ w with heap:=w.heap.setIfInBounds b (.map es' clock') }:World).heap[b]?=some (.map es' clock') by simp [hbl]] at i2
   cases i2
   rcases h2 e he with ⟨e0,he0,hv0⟩ | hv0
   ·rw [hcs] at hv0
    exact ⟨oldne e0 he0 cs1 hv0.symm u hu g hg,.inr (.inr (.inr ⟨_,hmem,b,es,clock,hM.is,hM.at_,e0,he0,cs1,hv0.symm,u,hu,hg⟩))⟩
   ·rw [hcs] at hv0
    have e1:cs1=AV.denL E cs:=by
     have:=Value.agg.inj hv0
     simpa using congrArg Array.toList this
    rw [e1] at hu
    refine ⟨newne u hu g hg,?_⟩
    obtain ⟨o,ho,hown,hb⟩:=z4 u hu g hg
    refine .inr (.inr (.inl ⟨o,ho,hown,fun hm=>?_,hb⟩))
    simp at hm
    have:=hH.uniq _ hmem o ho hm.symm
    rw [← this] at hown
    cases hown
  refine ⟨fun _ _=>rfl,hH.env,⟨Nat.le_refl _,rfl,rfl,rfl,by simp,fun g hg hne=>?_⟩,?_,?_,?_,?_,?_,?_,?_⟩
  ·have:g≠b:=fun e=>hne (by simp [hblk,e])
   simp [Array.getElem?_setIfInBounds_ne (fun e=>this e.symm)]
  ·intro o ho; simp at ho; subst ho
   exact ⟨b,es',clock',h1⟩
  ·intro o ho _ g hg; simp at ho; subst ho; exact .inr ⟨k0,by simp,hg⟩
  ·intro o ho hf; simp at ho; subst ho; cases hf
  ·intro o ho o' ho' _ hne; simp at ho ho'; subst ho; subst ho'; exact absurd rfl hne
  ·intro o ho g hg; simp at ho; subst ho; exact (hin g hg).2
  ·intro o ho g hg o' ho' _ hb2; simp at ho ho'; subst ho; subst ho'
   have hb2:blkO (E k0)=some g:=hb2
   rw [hblk] at hb2
   cases hb2
   exact (hin _ hg).1 rfl
  ·intro o ho g hg; simp at ho; subst ho
   rcases hg with ⟨h5,_⟩ | ⟨h5,_⟩
   ·cases h5
   ·cases h5.2
 rw [hv,xrh (E:=E) hm]
 simp only [AV.den]
 have hck:=Go.MapKept.run_checkKey (P:=P) (w:=w) hq (k:=.int q m) rfl false 9999
 rcases xEQ (P:=P) hq hM m with ⟨h1,h2,h3⟩ | ⟨j,r,e,h1,h2,h3,h4,h5,h6⟩
 ·have hput:xdU 1 [m] vc l=l++[m::vc]:=by unfold xdU; rw [h2]; rfl
  refine ⟨_,?_,fin (es.push { key:=.int q m,val:=.agg (AV.denL E cs).toArray,born:=clock }) (clock+1) ?_ ?_⟩
  ·simp only [Instr.mapUpdate,Sem.run_bind,run_underlying hu,Result.andThen_ok,Go.MapKept.run_getObj_map hM.at_,hck,h1,Go.MapKept.run_setObj_map _ hM.at_]
  ·rw [hput]
   refine ⟨hM.is,by simp [hbl],by simp [← hM.len],fun i e he=>?_,?_,?_,Go.MapKept.stamped_push hM.stamp fun x hx e=>?_⟩
   ·rw [Array.toList_push] at he
    by_cases hi:i<es.toList.length
    ·rw [List.getElem?_append_left hi] at he
     have hil:i<l.length:=by rw [← hM.len]; exact hi
     have hd:(l++[m::vc]).getD i []=l.getD i []:=by rw [List.getD_eq_getElem?_getD,List.getElem?_append_left hil,← List.getD_eq_getElem?_getD]
     rw [hd]
     exact ⟨(hM.ents i e he).1,hold _ _ i e he⟩
    ·rw [List.getElem?_append_right (by omega)] at he
     have hi0:i-es.toList.length=0:=by
      have:=(List.getElem?_eq_some_iff.1 he).1
      simp at this
      omega
     rw [hi0] at he
     simp at he
     subst he
     have hil:i=l.length:=by
      have:=hM.len
      omega
     have hd:(l++[m::vc]).getD i []=m::vc:=by rw [hil,List.getD_eq_getElem?_getD]; simp
     rw [hd]
     exact ⟨rfl,AV.denL E cs,rfl,z1,hnew _ _⟩
   ·intro r hr
    rcases List.mem_append.1 hr with hr | hr
    ·exact hM.wf r hr
    ·rw [List.mem_singleton.1 hr]; simp
   ·rw [List.map_append]
    refine List.nodup_append.2 ⟨hM.nodup,by simp,fun a ha b hb=>?_⟩
    have hb:b=[m]:=by simpa using hb
    obtain ⟨r,hr,rfl⟩:=List.mem_map.1 ha
    rw [hb]
    exact h3 r hr
   ·obtain ⟨i,hi⟩:=List.mem_iff_getElem?.1 hx
    obtain ⟨r,_,_,a3,a4,a5⟩:=xxz hM hi
    rw [a4] at e
    exact h3 r a3 (by rw [a5,(Value.int.inj e).2])
  ·intro e he
   rw [Array.toList_push] at he
   rcases List.mem_append.1 he with he | he
   ·exact .inl ⟨e,he,rfl⟩
   ·rw [List.mem_singleton.1 he]; exact .inr rfl
 ·have hput:xdU 1 [m] vc l=l.map (fun r=>bif decide (r.take 1=[m]) then m::vc else r):=by unfold xdU; rw [h6]; rfl
  have htk:∀ r:List Int,(bif decide (r.take 1=[m]) then m::vc else r).take 1=r.take 1:=by
   intro r
   by_cases h:r.take 1=[m]<;>simp [h]
  have hst:=Go.MapKept.run_keyThatStays (P:=P) (w:=w) (d:=.int q) (k:=.int q m) rfl
  have hesj:es[j]?=some e:=by simpa using h4
  have uniqj:∀ (i:Nat) (r':List Int),l[i]?=some r'→r'.take 1=[m]→i=j:=by
   intro i r' hr hk
   have hil:=(List.getElem?_eq_some_iff.1 hr).1
   have hjl:=(List.getElem?_eq_some_iff.1 h2).1
   have e1:l[i]=r':=(List.getElem?_eq_some_iff.1 hr).2
   have e2:l[j]=r:=(List.getElem?_eq_some_iff.1 h2).2
   have hpw:=List.pairwise_iff_getElem.1 hM.nodup
   rcases Nat.lt_trichotomy i j with hlt | hlt | hlt
   ·exact (hpw i j (by simpa using hil) (by simpa using hjl) hlt (by simp only [List.getElem_map,e1,e2,hk,h3])).elim
   ·exact hlt
   ·exact (hpw j i (by simpa using hjl) (by simpa using hil) hlt (by simp only [List.getElem_map,e1,e2,hk,h3])).elim
  have hmod:∀ i,(es.modify j fun e=>{ e with key:=.int q m,val:=.agg (AV.denL E cs).toArray }).toList[i]?=if j=i then (es.toList[i]?).map (fun e=>{ e with key:=.int q m,val:=.agg (AV.denL E cs).toArray }) else es.toList[i]?:=by
   intro i
   rw [Array.toList_modify,List.getElem?_modify]
   by_cases hji:j=i
   ·simp only [hji,if_true]
    cases es.toList[i]?<;>rfl
   ·simp only [hji,if_false]
    cases es.toList[i]?<;>rfl
  refine ⟨_,?_,fin (es.modify j fun e=>{ e with key:=.int q m,val:=.agg (AV.denL E cs).toArray }) clock ?_ ?_⟩
  ·simp only [Instr.mapUpdate,Sem.run_bind,run_underlying hu,Result.andThen_ok,Go.MapKept.run_getObj_map hM.at_,hck,h1,hesj,Option.map_some,Option.getD_some,h5,hst,Go.MapKept.run_setObj_map _ hM.at_]
  ·rw [hput]
   refine ⟨hM.is,by simp [hbl],by have:=hM.len; simp at this ⊢; exact this,fun i e' he=>?_,?_,?_,Go.MapKept.stamped_modify hM.stamp j _ (fun _ _=>rfl) (fun e' _ he'=>by rw [hesj] at he'; cases he'; exact h5.symm)⟩
   ·rw [hmod] at he
    by_cases hji:j=i
    ·subst hji
     rw [if_pos rfl,h4] at he
     simp at he
     subst he
     have hd:(l.map (fun r=>bif decide (r.take 1=[m]) then m::vc else r)).getD j []=m::vc:=by
      rw [List.getD_eq_getElem?_getD,List.getElem?_map,h2]
      simp [h3]
     rw [hd]
     exact ⟨rfl,AV.denL E cs,rfl,z1,hnew _ _⟩
    ·rw [if_neg hji] at he
     have hil:i<l.length:=by rw [← hM.len]; exact (List.getElem?_eq_some_iff.1 he).1
     have hne:¬ (l[i]).take 1=[m]:=fun hk=>hji (uniqj i _ (List.getElem?_eq_getElem hil) hk).symm
     have hd:(l.map (fun r=>bif decide (r.take 1=[m]) then m::vc else r)).getD i []=l.getD i []:=by
      rw [List.getD_eq_getElem?_getD,List.getElem?_map,List.getD_eq_getElem?_getD,List.getElem?_eq_getElem hil]
      simp [hne]
     rw [hd]
     exact ⟨(hM.ents i e' he).1,hold _ _ i e' he⟩
   ·intro r hr
    obtain ⟨r0,hr0,rfl⟩:=List.mem_map.1 hr
    cases decide (r0.take 1=[m]) with
    | true=>simp
    | false=>exact hM.wf r0 hr0
   ·rw [List.map_map]
    have:((fun r:List Int=>r.take 1)∘fun r=>bif decide (r.take 1=[m]) then m::vc else r)=fun r=>r.take 1:=by funext r; exact htk r
    rw [this]; exact hM.nodup
  ·intro e' he
   obtain ⟨i,hi⟩:=List.mem_iff_getElem?.1 he
   rw [hmod] at hi
   by_cases hji:j=i
   ·subst hji
    rw [if_pos rfl,h4] at hi
    simp at hi
    subst hi
    exact .inr rfl
   ·rw [if_neg hji] at hi
    exact .inl ⟨e',List.mem_of_getElem? hi,rfl⟩
theorem xz5 {m:List Int}:∀ {l:List (List Int)},(∀ r∈l,r.take 1≠m)→xiz 1 m l=l:=fun {l} h =>
 List.filter_eq_self.2 fun r hr=>by simp [h r hr]
theorem xye {m:List Int}:∀ {l:List (List Int)} {j:Nat} {r:List Int},(l.map fun r=>r.take 1).Nodup→l[j]?=some r→r.take 1=m→xiz 1 m l=l.eraseIdx j
 | [],j,r,_,hj,_=>by simp at hj
 | a::l,0,r,hn,hj,hm=>by
  simp at hj
  subst hj
  have hn:=List.nodup_cons.1 hn
  have h0:∀ r∈l,r.take 1≠m:=fun r hr e=>hn.1 (List.mem_map.2 ⟨r,hr,by show r.take 1=a.take 1; rw [e,hm]⟩)
  have:xiz 1 m (a::l)=xiz 1 m l:=by
   unfold xiz
   rw [List.filter_cons_of_neg (by simp [hm])]
  rw [this,xz5 h0]
  rfl
 | a::l,j+1,r,hn,hj,hm=>by
  have hj:l[j]?=some r:=by simpa using hj
  have hn:=List.nodup_cons.1 hn
  have ha:a.take 1≠m:=fun e=>hn.1 (List.mem_map.2 ⟨r,List.mem_of_getElem? hj,by show r.take 1=a.take 1; rw [e,hm]⟩)
  have:xiz 1 m (a::l)=a::xiz 1 m l:=by
   unfold xiz
   rw [List.filter_cons_of_pos (by simp [ha])]
  rw [this,xye hn.2 hj hm]
  rfl
theorem xwO (hH:xae X E w0 ⟨objs,n⟩ w) {t:TypeId} {v k:AV} {x:Eff} {ats:Array TypeId} {ty:TypeId} (hat:ats[0]?=some t) (h:xp4 P objs K t v k=some x) :
  xdq n objs K x∧x.nk≤1∧x.v=.tup []∧(x.holds→∃ w',(Builtin.delete_ ats ty #[v.den E,k.den E]).run P w=.ok (.tuple #[]) w'∧xeW E objs w K x E w'):=by
 unfold xp4 at h
 split at h
 case h_2=>cases h
 rename_i key
 split at h
 case h_2=>cases h
 rename_i k0 ver kt et q ks l hf
 split at h
 case h_2=>cases h
 rename_i m hm
 split at h
 case isFalse=>cases h
 rename_i hc
 cases h
 obtain ⟨hmem,hk⟩:=xan hf
 have hk:k0=key:=hk
 subst hk
 obtain ⟨b,es,clock,hM⟩:=hH.objs _ hmem
 have hM:MqOk w (E k0) q ks l b es clock:=hM
 have hu:=xgq hc.1
 have hq:=xmG hc.2
 have hblk:blkO (E k0)=some b:=by rw [hM.is]; rfl
 have hbl:b<w.heap.size:=(Array.getElem?_eq_some_iff.1 hM.at_).1
 refine ⟨⟨?_,?_,?_,?_,trivial,?_⟩,Nat.zero_le _,rfl,fun _=>?_⟩
 ·intro k hk; simp at hk; subst hk; exact ⟨_,hmem,rfl,rfl⟩
 ·intro o ho; simp at ho; subst ho; exact .inl (by simp)
 ·intro o ho o' ho' _; simp at ho ho'; subst ho; subst ho'; rfl
 ·intro o ho; simp at ho; subst ho; trivial
 ·intro o ho; simp at ho; subst ho; exact Nat.le_refl _
 have hv:(AV.sl k0).den E=.map (some b):=hM.is
 have stay:∀ (es':Array MapEntry) (clock':Nat) (k':NK) (m':Int) (u:Value),xfU w k' m' u→(∀ g,blkO u=some g→g≠b)→xfU { w with heap:=w.heap.setIfInBounds b (.map es' clock') } k' m' u:=fun es' clock' k' m' u hn hg =>
  hn.move (fun g h1=>by simp [Array.getElem?_setIfInBounds_ne (fun e=>hg g h1 e.symm)]) (by simp)
 have oldne:∀ e∈es.toList,∀ cs:List Value,e.val=.agg cs.toArray→∀ u∈cs,∀ g,blkO u=some g→g≠b:=fun e he cs hcs u hu g hg e1=>by
  subst e1
  exact hH.deep _ hmem g ⟨g,es,clock,hM.is,hM.at_,e,he,cs,hcs,u,hu,hg⟩ _ hmem rfl hblk
 have hold:∀ (es':Array MapEntry) (clock':Nat) (i:Nat) (e:MapEntry),es.toList[i]?=some e→∃ cs:List Value,e.val=.agg cs.toArray∧cs.length=ks.length∧∀ (j:Nat) (k:NK),ks[j]?=some k→∃ u,cs[j]?=some u∧xfU { w with heap:=w.heap.setIfInBounds b (.map es' clock') } k ((l.getD i []).getD (j+1) 0) u:=fun es' clock' i e he=>by
  obtain ⟨_,cs,c1,c2,c3⟩:=hM.ents i e he
  refine ⟨cs,c1,c2,fun j k hj=>?_⟩
  obtain ⟨u,hu,hcell⟩:=c3 j k hj
  exact ⟨u,hu,stay es' clock' k _ u hcell (oldne e (List.mem_of_getElem? he) cs c1 u (List.mem_of_getElem? hu))⟩
 have fin:∀ (es':Array MapEntry) (clock':Nat),MqOk { w with heap:=w.heap.setIfInBounds b (.map es' clock') } (E k0) q ks (xiz 1 [m] l) b es' clock'→(∀ e∈es'.toList,e∈es.toList) →
   xeW E objs w K ⟨none,[k0],0,[⟨k0,K,true,.mq kt et q ks (xiz 1 [m] l)⟩],.tup []⟩ E { w with heap:=w.heap.setIfInBounds b (.map es' clock') }:=by
  intro es' clock' h1 h2
  have hin:∀ g,Inn E { w with heap:=w.heap.setIfInBounds b (.map es' clock') } k0 (.mq kt et q ks (xiz 1 [m] l)) g→g≠b∧Shr E objs w [k0] g:=by
   rintro g ⟨m1,es1,clock1,i1,i2,e,he,cs1,hcs,u,hu,hg⟩
   rw [hM.is] at i1
   cases i1
   rw [show ({ w with heap:=w.heap.setIfInBounds b (.map es' clock') }:World).heap[b]?=some (.map es' clock') by simp [hbl]] at i2
   cases i2
   exact ⟨oldne e (h2 e he) cs1 hcs u hu g hg,.inr (.inr (.inr ⟨_,hmem,b,es,clock,hM.is,hM.at_,e,h2 e he,cs1,hcs,u,hu,hg⟩))⟩
  refine ⟨fun _ _=>rfl,hH.env,⟨Nat.le_refl _,rfl,rfl,rfl,by simp,fun g hg hne=>?_⟩,?_,?_,?_,?_,?_,?_,?_⟩
  ·have:g≠b:=fun e=>hne (by simp [hblk,e])
   simp [Array.getElem?_setIfInBounds_ne (fun e=>this e.symm)]
  ·intro o ho; simp at ho; subst ho
   exact ⟨b,es',clock',h1⟩
  ·intro o ho _ g hg; simp at ho; subst ho; exact .inr ⟨k0,by simp,hg⟩
  ·intro o ho hf; simp at ho; subst ho; cases hf
  ·intro o ho o' ho' _ hne; simp at ho ho'; subst ho; subst ho'; exact absurd rfl hne
  ·intro o ho g hg; simp at ho; subst ho; exact (hin g hg).2
  ·intro o ho g hg o' ho' _ hb2; simp at ho ho'; subst ho; subst ho'
   have hb2:blkO (E k0)=some g:=hb2
   rw [hblk] at hb2
   cases hb2
   exact (hin _ hg).1 rfl
  ·intro o ho g hg; simp at ho; subst ho
   rcases hg with ⟨h5,_⟩ | ⟨h5,_⟩
   ·cases h5
   ·cases h5.2
 rw [hv,xrh (E:=E) hm]
 have hck:=fun em=>Go.MapKept.run_checkKey (P:=P) (w:=w) hq (k:=.int q m) rfl em 9999
 rcases xEQ (P:=P) hq hM m with ⟨h1,h2,h3⟩ | ⟨j,r,e,h1,h2,h3,h4,h5,h6⟩
 ·refine ⟨_,?_,fin es clock ?_ (fun e he=>he)⟩
  ·simp [Builtin.delete_,hat,Sem.run_bind,run_underlying hu,Result.andThen_ok,Go.MapKept.run_getObj_map hM.at_,hck,h1,Go.MapKept.run_setObj_map _ hM.at_]
  ·rw [xz5 h3]
   exact ⟨hM.is,by simp [hbl],hM.len,fun i e he=>⟨(hM.ents i e he).1,hold _ _ i e he⟩,hM.wf,hM.nodup,hM.stamp⟩
 ·have hlist:(es.eraseIdxIfInBounds j).toList=es.toList.eraseIdx j:=by simp
  refine ⟨_,?_,fin (es.eraseIdxIfInBounds j) clock ?_ (fun e he=>?_)⟩
  ·simp [Builtin.delete_,hat,Sem.run_bind,run_underlying hu,Result.andThen_ok,Go.MapKept.run_getObj_map hM.at_,hck,h1,Go.MapKept.run_setObj_map _ hM.at_]
  ·rw [xye hM.nodup h2 h3]
   have hjl:=(List.getElem?_eq_some_iff.1 h2).1
   have hje:=(List.getElem?_eq_some_iff.1 h4).1
   refine ⟨hM.is,by simp [hbl],?_,fun i e' he=>?_,fun r hr=>hM.wf r (List.mem_of_mem_eraseIdx hr),?_,Go.MapKept.stamped_erase hM.stamp j⟩
   ·rw [hlist,List.length_eraseIdx_of_lt hje,List.length_eraseIdx_of_lt hjl,hM.len]
   ·rw [hlist,List.getElem?_eraseIdx] at he
    have hg:∀ i',(if i<j then l[i]? else l[i+1]?)=l[i']?→(l.eraseIdx j).getD i []=l.getD i' []:=fun i' hi=>by
     rw [List.getD_eq_getElem?_getD,List.getElem?_eraseIdx,hi,← List.getD_eq_getElem?_getD]
    by_cases hij:i<j
    ·rw [if_pos hij] at he
     rw [hg i (if_pos hij)]
     exact ⟨(hM.ents i e' he).1,hold _ _ i e' he⟩
    ·rw [if_neg hij] at he
     rw [hg (i+1) (if_neg hij)]
     exact ⟨(hM.ents (i+1) e' he).1,hold _ _ (i+1) e' he⟩
   ·exact hM.nodup.sublist ((List.eraseIdx_sublist l j).map _)
  ·rw [hlist] at he
   exact List.mem_of_mem_eraseIdx he
theorem xBM {v:Value} {q:IntKind} {ents:List (Int×FuncId)} {b:Nat} {es:Array MapEntry} {clock:Nat} (hM:MfOk w v q ents b es clock) {i:Nat} {e:MapEntry} (he:es.toList[i]?=some e):∃ p,ents[i]?=some p∧e.key=.int q p.1∧e.val=.agg #[.func (.func p.2) #[] #[]]:=by
 have h:(es.toList.map (fun e=>(e.key,e.val)))[i]?=(ents.map fun p=>((.int q p.1,.agg #[.func (.func p.2) #[] #[]]):Value×Value))[i]?:=by rw [hM.tab]
 rw [List.getElem?_map,List.getElem?_map,he] at h
 cases hp:ents[i]? with
 | none=>rw [hp] at h; cases h
 | some p =>
  rw [hp] at h
  simp only [Option.map_some,Option.some.injEq,Prod.mk.injEq] at h
  exact ⟨p,rfl,h.1,h.2⟩
theorem xF7 {q:IntKind} {kt:TypeId} (hq:P.underlying kt=some (.int q)) {v:Value} {ents:List (Int×FuncId)} {b:Nat} {es:Array MapEntry} {clock:Nat} (hM:MfOk w v q ents b es clock) (m:Int) :
  ((Instr.findKey kt (.int q m) es.toList).run P w=.ok none w∧∀ p∈ents,p.1≠m) ∨
  ∃ (j:Nat) (e:MapEntry) (p:Int×FuncId),(Instr.findKey kt (.int q m) es.toList).run P w=.ok (some (j,.agg #[.func (.func p.2) #[] #[]])) w∧ents.find? (fun p=>decide (p.1=m))=some p:=by
 have hks:∀ x∈es.toList,Go.MapKept.IsKey (.int q) x.key:=fun x hx=>by
  obtain ⟨i,hi⟩:=List.mem_iff_getElem?.1 hx
  obtain ⟨p,_,h4,_⟩:=xBM hM hi
  rw [h4]; exact rfl
 have hlen:es.toList.length=ents.length:=by
  have:=congrArg List.length hM.tab
  simpa using this
 rcases Go.MapKept.findNow_spec (d:=.int q) (k:=.int q m) rfl es.toList 0 hks with ⟨h1,h2⟩ | ⟨j,e,h1,h2,h3⟩
 ·refine .inl ⟨Go.MapKept.run_findKey hq h1,fun p hp e=>?_⟩
  obtain ⟨i,hi⟩:=List.mem_iff_getElem?.1 hp
  have hil:i<es.toList.length:=by rw [hlen]; exact (List.getElem?_eq_some_iff.1 hi).1
  obtain ⟨p',a1,a2,_⟩:=xBM hM (List.getElem?_eq_getElem hil)
  rw [hi] at a1
  cases a1
  exact h2 _ (List.getElem_mem hil) (by rw [a2,e])
 ·obtain ⟨p,a1,a2,a3⟩:=xBM hM h2
  rw [a2] at h3
  have hpm:p.1=m:=(Value.int.inj h3).2
  refine .inr ⟨j,e,p,?_,?_⟩
  ·rw [← a3]; simpa using Go.MapKept.run_findKey hq h1
  ·cases hf:ents.find? (fun p=>decide (p.1=m)) with
   | none=>exact absurd hpm (by simpa using List.find?_eq_none.1 hf _ (List.mem_of_getElem? a1))
   | some p' =>
    have h4:=List.mem_of_find?_eq_some hf
    have h5:p'.1=m:=by simpa using List.find?_some hf
    obtain ⟨i,hi⟩:=List.mem_iff_getElem?.1 h4
    have hij:i=j:=by
     have hil:=(List.getElem?_eq_some_iff.1 hi).1
     have hjl:=(List.getElem?_eq_some_iff.1 a1).1
     have e1:ents[i]=p':=(List.getElem?_eq_some_iff.1 hi).2
     have e2:ents[j]=p:=(List.getElem?_eq_some_iff.1 a1).2
     have hpw:=List.pairwise_iff_getElem.1 hM.nodup
     rcases Nat.lt_trichotomy i j with hlt | hlt | hlt
     ·exact (hpw i j (by simpa using hil) (by simpa using hjl) hlt (by simp only [List.getElem_map,e1,e2,h5,hpm])).elim
     ·exact hlt
     ·exact (hpw j i (by simpa using hjl) (by simpa using hil) hlt (by simp only [List.getElem_map,e1,e2,h5,hpm])).elim
    subst hij
    rw [a1] at hi
    cases hi
    rfl
theorem xuG (hH:xae X E w0 ⟨objs,n⟩ w) {t:TypeId} {x:Eff} (h:xwg P K t=some x) :
  xdq n objs K x∧x.nk≤1∧(x.holds→∃ E' w',(Instr.makeMap t none).run P w=.ok (x.v.den E') w'∧xeW E objs w K x E' w'):=by
 unfold xwg at h
 split at h
 case h_2=>cases h
 rename_i kt et hu
 split at h
 case h_2=>cases h
 rename_i q hq
 cases h
 exact ⟨xjJ (b:=.mf kt et q []) trivial (Nat.lt_succ_self K),Nat.le_refl _,fun _=>⟨_,w.alloc (.map #[] 0),by simp [Instr.makeMap,AV.den],xk7 (b:=.mf kt et q []) (u:=.map (some w.heap.size)) hH.env rfl ⟨w.heap.size,#[],0,by simp,xbb w _,rfl,List.nodup_nil⟩ (xbo _ _) (fun g hg=>by cases hg; exact Nat.le_refl _) _⟩⟩
theorem xwu (hH:xae X E w0 ⟨objs,n⟩ w) {t:TypeId} {v k u:AV} {x:Eff} (h:xpR P objs K t v k u=some x) :
  xdq n objs K x∧x.nk≤1∧x.v=.val undef∧(x.holds→∃ w',(Instr.mapUpdate t (v.den E) (k.den E) (u.den E)).run P w=.ok () w'∧xeW E objs w K x E w'):=by
 unfold xpR at h
 split at h
 case h_2=>cases h
 rename_i key
 split at h
 case h_2=>cases h
 rename_i k0 ver kt et q ents hf
 split at h
 case h_2=>cases h
 rename_i k' m g
 split at h
 case isFalse=>cases h
 rename_i hc
 cases h
 obtain ⟨rfl,hc1,hc2,hc3⟩:=hc
 obtain ⟨hmem,hk⟩:=xan hf
 have hk:k0=key:=hk
 subst hk
 obtain ⟨b,es,clock,hM⟩:=hH.objs _ hmem
 have hM:MfOk w (E k0) k' ents b es clock:=hM
 have hu:=xgq hc1
 have hq:=xmG hc2
 have hno:∀ p∈ents,p.1≠m:=fun p hp=>by simpa using List.all_eq_true.1 hc3 p hp
 have hblk:blkO (E k0)=some b:=by rw [hM.is]; rfl
 have hbl:b<w.heap.size:=(Array.getElem?_eq_some_iff.1 hM.at_).1
 refine ⟨⟨?_,?_,?_,?_,trivial,?_⟩,Nat.zero_le _,rfl,fun _=>?_⟩
 ·intro k hk; simp at hk; subst hk; exact ⟨_,hmem,rfl,rfl⟩
 ·intro o ho; simp at ho; subst ho; exact .inl (by simp)
 ·intro o ho o' ho' _; simp at ho ho'; subst ho; subst ho'; rfl
 ·intro o ho; simp at ho; subst ho; trivial
 ·intro o ho; simp at ho; subst ho; exact Nat.le_refl _
 have hv:(AV.sl k0).den E=.map (some b):=hM.is
 have hkd:(AV.val (.int k' m)).den E=.int k' m:=rfl
 have hud:(AV.agg [.fn (.func g) [] []]).den E=.agg #[.func (.func g) #[] #[]]:=rfl
 rw [hv,hkd,hud]
 have hck:=Go.MapKept.run_checkKey (P:=P) (w:=w) hq (k:=.int k' m) rfl false 9999
 rcases xF7 (P:=P) hq hM m with ⟨h1,h2⟩ | ⟨j,e,p,h1,h2⟩
 ·refine ⟨{ w with heap:=w.heap.setIfInBounds b (.map (es.push { key:=.int k' m,val:=.agg #[.func (.func g) #[] #[]],born:=clock }) (clock+1)) },by simp only [Instr.mapUpdate,Sem.run_bind,run_underlying hu,Result.andThen_ok,Go.MapKept.run_getObj_map hM.at_,hck,h1,Go.MapKept.run_setObj_map _ hM.at_],fun _ _=>rfl,hH.env,⟨Nat.le_refl _,rfl,rfl,rfl,by simp,fun g hg hne=>?_⟩,?_,?_,?_,?_,?_,?_,?_⟩
  ·have:g≠b:=fun e=>hne (by simp [hblk,e])
   simp [Array.getElem?_setIfInBounds_ne (fun e=>this e.symm)]
  ·intro o ho; simp at ho; subst ho
   refine ⟨b,es.push { key:=.int k' m,val:=.agg #[.func (.func g) #[] #[]],born:=clock },clock+1,hM.is,by simp [hbl],?_,?_⟩
   ·rw [Array.toList_push,List.map_append,hM.tab,List.map_append]; rfl
   ·rw [List.map_append]
    refine List.nodup_append.2 ⟨hM.nodup,by simp,fun a ha b hb=>?_⟩
    have hb:b=m:=by simpa using hb
    obtain ⟨r,hr,rfl⟩:=List.mem_map.1 ha
    rw [hb]
    exact hno r hr
  ·intro o ho _ g hg; simp at ho; subst ho; exact .inr ⟨k0,by simp,hg⟩
  ·intro o ho hf; simp at ho; subst ho; cases hf
  ·intro o ho o' ho' _ hne; simp at ho ho'; subst ho; subst ho'; exact absurd rfl hne
  ·intro o ho g hg; simp at ho; subst ho; exact hg.elim
  ·intro o ho g hg; simp at ho; subst ho; exact hg.elim
  ·intro o ho g hg; simp at ho; subst ho
   rcases hg with ⟨h5,_⟩ | ⟨h5,_⟩
   ·cases h5
   ·cases h5.2
 ·exfalso
  exact hno p (List.mem_of_find?_eq_some h2) (by simpa using List.find?_some h2)
theorem xwk (hH:xae X E w0 ⟨objs,n⟩ w) {t:TypeId} {v k:AV} {ok:Bool} {x:Eff} (h:xpO P objs t v k ok=some x) :
  x.rm=[]∧x.nk=0∧x.add=[]∧AV.all (fun _=>False) x.v∧(x.holds→(Instr.lookup t (v.den E) (k.den E) ok).run P w=.ok (x.v.den E) w):=by
 unfold xpO at h
 split at h
 case h_2=>cases h
 rename_i key
 split at h
 case h_2=>cases h
 rename_i k0 ver own kt et q ents hf
 split at h
 case h_2=>cases h
 rename_i m hm
 split at h
 case isFalse=>cases h
 rename_i hc
 cases h
 obtain ⟨rfl,hc1,hc2⟩:=hc
 obtain ⟨hmem,hk⟩:=xan hf
 have hk:k0=key:=hk
 subst hk
 obtain ⟨b,es,clock,hM⟩:=hH.objs _ hmem
 have hM:MfOk w (E k0) q ents b es clock:=hM
 have hu:=xgq hc1
 have hq:=xmG hc2
 refine ⟨rfl,rfl,rfl,⟨trivial,trivial⟩,fun hp=>?_⟩
 have hp:(ents.any fun p=>decide (p.1=m))=true:=hp
 have hv:(AV.sl k0).den E=.map (some b):=hM.is
 rw [hv,xrh (E:=E) hm]
 have hck:=Go.MapKept.run_checkKey (P:=P) (w:=w) hq (k:=.int q m) rfl es.isEmpty 9999
 rcases xF7 (P:=P) hq hM m with ⟨h1,h2⟩ | ⟨j,e,p,h1,h2⟩
 ·exfalso
  obtain ⟨p,hp1,hp2⟩:=List.any_eq_true.1 hp
  exact h2 p hp1 (by simpa using hp2)
 ·have hd:(AV.agg [.fs m ents]).den E=.agg #[.func (.func p.2) #[] #[]]:=by
   simp [AV.den,AV.denL,xxW,h2]
  rw [hd]
  unfold Instr.lookup
  simp only [Sem.run_bind,run_underlying hu,Result.andThen_ok,Go.MapKept.run_getObj_map hM.at_,Sem.run_pure,hck,h1]
  rfl
end
end Go.Sy
set_option linter.unusedVariables false
namespace Go.Sy
open Go.RowKit
section
variable {P:Program} {X:List (Nat×Go.Obj)} {E:Env} {w0 w:World} {objs:List Obj} {n K:Nat} {ρ:Operand→Option AV} {e:Operand→Value}
theorem xjK (hE:∀ k,(E k).oneCell'=true) {rm:List Nat} {v v':Value} {w':World} {b:Body} {p:Option Prop} (hrm:(rm=[]∧blkO v=none)∨∃ key,rm=[key]∧v=E key) (h1:v'.oneCell'=true)
  (hb:xbm (fun k=>if k=K then v' else E k) w' K true b) (hc:Chg w w' (blkO v).toList) (hblk:∀ g,blkO v'=some g→w.heap.size≤g∨blkO v=some g) (hf:xq5 b=true:=by rfl):xeW E objs w K ⟨p,rm,1,[⟨K,K,true,b⟩],.sl K⟩ (fun k=>if k=K then v' else E k) w':=by
 refine ⟨fun k hk=>if_neg (by simp at hk; omega),fun k=>?_,?_,?_,?_,?_,?_,?_,?_,?_⟩
 ·by_cases hk:k=K
  ·simp [hk,h1]
  ·simp [hk,hE k]
 ·rcases hrm with ⟨rfl,h0⟩ | ⟨key,rfl,rfl⟩
  ·rw [h0] at hc; exact hc
  ·cases hg:blkO (E key) with
   | none=>rw [hg] at hc; simpa [hg] using hc
   | some g=>rw [hg] at hc; simpa [hg] using hc
 ·intro o ho; simp at ho; subst ho; exact hb
 ·intro o ho _ g hg; simp at ho; subst ho; simp at hg
  rcases hblk g hg with h | h
  ·exact .inl h
  ·rcases hrm with ⟨rfl,h0⟩ | ⟨key,rfl,rfl⟩
   ·rw [h0] at h; cases h
   ·exact .inr ⟨key,by simp,h⟩
 ·intro o ho hf; simp at ho; subst ho; cases hf
 ·intro o ho o' ho' _ hne; simp at ho ho'; subst ho; subst ho'; exact absurd rfl hne
 ·intro o ho g hg; simp at ho; subst ho; exact xcC hf hg
 ·intro o ho g hg; simp at ho; subst ho; exact xcC hf hg
 ·intro o ho g hg; simp at ho; subst ho; exact xmK hf hg
theorem xeQ {rm:List Nat} {b:Body} {p:Option Prop} (hrm:∀ k∈rm,∃ o∈objs,o.key=k∧o.own=true) (hb:xbn (fun k=>k<n) b):xdq n objs K ⟨p,rm,1,[⟨K,K,true,b⟩],.sl K⟩:=by
 refine ⟨hrm,?_,?_,?_,Or.inr (Nat.lt_succ_self _),?_⟩
 ·intro o ho; simp at ho; subst ho; exact .inr ⟨Nat.le_refl _,Nat.lt_succ_self _⟩
 ·intro o ho o' ho' _; simp at ho ho'; subst ho; subst ho'; rfl
 ·intro o ho; simp at ho; subst ho; exact xaY (fun k hk=>.inl hk) hb
 ·intro o ho; simp at ho; subst ho; exact Nat.le_refl _
theorem xzp {els:List (List AV)} (hE:∀ k,(E k).oneCell'=true) (h:els.flatten.all AV.scalar=true):∀ u∈AV.denL E els.flatten,u.oneCell'=true:=by
 intro u hu
 rw [xaJ] at hu
 obtain ⟨c,hc,rfl⟩:=List.mem_map.1 hu
 exact xu2 (List.all_eq_true.1 h c hc) hE
theorem xhx (hH:xae X E w0 ⟨objs,n⟩ w) {t ty te:TypeId} {ie:TypeInfo} (ht:P.underlying t=some (.slice te)) (hi:P.info? te=some ie) {b2:Body} (hok:xub te ie b2=true)
  {v v2:Value} {own2:Bool} {m m2 sz:Nat} {vs ws:List Value} {e1 e2:TypeId} (hsz:sz=ie.size) (he1:e1=te) (ho:xm4 w e1 sz v m vs) (hl:vs.length=m*sz) (hs:xa8 w own2 e2 sz v2 m2 ws) (h1:∀ u∈ws,u.oneCell'=true) (hf:xdo ie.bytes (m+m2)) :
  ∃ v' w',(Builtin.append_ #[t,t] ty #[v,v2]).run P w=.ok v' w'∧xa8 w' true te sz v' (m+m2) (vs++ws)∧Chg w w' (blkO v).toList∧(∀ b,blkO v'=some b→w.heap.size≤b∨blkO v=some b)∧v'.oneCell'=true:=by
 subst hsz; subst he1
 unfold xub at hok
 rw [Bool.and_eq_true] at hok
 obtain ⟨h2,h3⟩:=hok
 cases hz:ie.zero with
 | none=>rw [hz] at h2; cases h2
 | some z =>
  rw [hz] at h2
  have hzs:z.cells.size=ie.size:=Nat.eq_of_beq_eq_true h2
  have h0:ie.size≠0:=by
   intro e0
   cases b2<;>simp [e0] at h3
  obtain ⟨v',w',hr,ho',hc,hb,h1'⟩:=xvw (P:=P) (ty:=ty) ht hi hz hzs h0 ho hl hs.reads hs.len h1 hf
  exact ⟨v',w',hr,xd6 ho' (by rw [List.length_append,hl,hs.len,Nat.add_mul]),hc,hb,h1'⟩
theorem xua {te e2:TypeId} {ie:TypeInfo} {ks:List CK} {l:List (List Int)} (h:xub te ie (.row e2 ks l)=true):e2=te∧ks.length=ie.size:=by
 unfold xub at h
 rw [Bool.and_eq_true] at h
 have h3:=h.2
 simp only [Bool.and_eq_true] at h3
 exact ⟨Nat.eq_of_beq_eq_true h3.1.1,Nat.eq_of_beq_eq_true h3.1.2⟩
theorem xpj {te e2:TypeId} {ie:TypeInfo} {sz:Nat} {els:List (List AV)} (h:xub te ie (.arr e2 sz els)=true):e2=te∧sz=ie.size:=by
 unfold xub at h
 rw [Bool.and_eq_true] at h
 have h3:=h.2
 simp only [Bool.and_eq_true] at h3
 exact ⟨Nat.eq_of_beq_eq_true h3.1.1,Nat.eq_of_beq_eq_true h3.1.2⟩
theorem xzq {te e2:TypeId} {ie:TypeInfo} {ks:List CK} {l:List (List Int)} {b:Body} (h:xub te ie b=true) (hr:xes P b=some (e2,ks,l)):e2=te∧ks.length=ie.size:=by
 cases b with
 | row=>cases hr; exact xua h
 | sub=>unfold xub at h; rw [Bool.and_eq_true] at h; cases h.2
 | nst=>cases hr
 | arr e' sz els =>
  obtain ⟨h1,h2⟩:=xpj h
  simp only [xes] at hr
  cases hk:xq0 P 9 e' with
  | none=>rw [hk] at hr; cases hr
  | some ks' =>
   rw [hk] at hr
   simp only [] at hr
   split at hr
   ·rename_i hl
    cases hc:xyi ks' els with
    | none=>rw [hc] at hr; cases hr
    | some l'=>rw [hc] at hr; cases hr; exact ⟨h1,by rw [hl,h2]⟩
   ·cases hr
 | cells=>cases hr
 | nil=>cases hr
 | mp=>cases hr
 | mf=>cases hr
 | mq=>cases hr
 | fin=>cases hr
 | loop=>cases hr
def xE1 (E:Env) (w:World) (own:Bool) (v:Value):Body→Prop
 | .row e ks l=>xa8 w own e ks.length v l.length (rowV ks l)
 | .sub e ks l=>xa8 w own e ks.length v l.length (rowV ks l)
 | .arr e sz els=>xa8 w own e sz v els.length (AV.denL E els.flatten)∧(∀ el∈els,el.length=sz)∧els.flatten.all AV.scalar=true
 | _=>True
theorem xrw {b:Body} {e:TypeId} {ks:List CK} {l:List (List Int)} {own:Bool} {v:Value} (h:xes P b=some (e,ks,l)) (hb:xE1 E w own v b):xa8 w own e ks.length v l.length (rowV ks l):=by
 cases b with
 | row=>cases h; exact hb
 | sub=>cases h; exact hb
 | nst=>cases h
 | arr e' sz els =>
  simp only [xes] at h
  cases hk:xq0 P 9 e' with
  | none=>rw [hk] at h; cases h
  | some ks' =>
   rw [hk] at h
   simp only [] at h
   split at h
   ·rename_i hl
    cases hc:xyi ks' els with
    | none=>rw [hc] at h; cases h
    | some l' =>
     rw [hc] at h
     cases h
     obtain ⟨h1,h2⟩:=xpe E hc
     have:=hb.1
     rw [h1,← h2,← hl] at this
     exact this
   ·cases h
 | cells=>cases h
 | nil=>cases h
 | mp=>cases h
 | mf=>cases h
 | mq=>cases h
 | fin=>cases h
 | loop=>cases h
theorem xwV (hH:xae X E w0 ⟨objs,n⟩ w) (hfr:∀ o∈objs,o.key≠K∧xbn (fun k=>k≠K) o.body) {t ty te:TypeId} {ie:TypeInfo} (ht:P.underlying t=some (.slice te)) (hi:P.info? te=some ie) {s:AV} {x:Eff} {k2:Nat} {own2:Bool} {b2:Body} {v2:Value}
  (hb2:xE1 E w own2 v2 b2) (hlt2:xbn (fun k=>k<n) b2) (hfr2:xbn (fun k=>k≠K) b2) (hok:xub te ie b2=true) (h:xol P K ie.bytes s (tgtA objs s) k2 b2=some x) :
  xdq n objs K x∧x.nk≤1∧(x.holds→∃ E' w',(Builtin.append_ #[t,t] ty #[s.den E,v2]).run P w=.ok (x.v.den E') w'∧xeW E objs w K x E' w'):=by
 have hEK:∀ (u:Value) (l:List AV),AV.allL (fun k=>k≠K) l→AV.denL (fun k=>if k=K then u else E k) l=AV.denL E l:=fun u l hl=>xcl (fun k (hk:k≠K)=>if_neg hk) l hl
 have newrow:∀ {u:Value} {w':World} {ks:List CK} {l:List (List Int)} {e1:TypeId},xa8 w' true e1 ks.length u l.length (rowV ks l)→xbm (fun k=>if k=K then u else E k) w' K true (.row e1 ks l):=by
  intro u w' ks l e1 hr
  show xa8 w' true e1 ks.length (if K=K then u else E K) l.length (rowV ks l)
  rw [if_pos rfl]; exact hr
 have newarr:∀ {u:Value} {w':World} {sz:Nat} {els:List (List AV)} {e1:TypeId},xa8 w' true e1 sz u els.length (AV.denL E els.flatten)→(∀ el∈els,el.length=sz)→els.flatten.all AV.scalar=true→AV.allL (fun k=>k≠K) els.flatten→xbm (fun k=>if k=K then u else E k) w' K true (.arr e1 sz els):=by
  intro u w' sz els e1 hr h1 h2 h3
  refine ⟨?_,h1,h2⟩
  rw [hEK _ _ h3]; simp only [if_true]; exact hr
 unfold xol at h
 split at h
 ·-- nil object,arr
  rename_i key k0 ver e2 sz2 els2 hf
  by_cases hc:key≠k2∧xdo ie.bytes els2.length
  case neg=>rw [if_neg hc] at h; cases h
  rw [if_pos hc] at h
  cases h
  obtain ⟨hm,hk⟩:=xan hf
  have hk:k0=key:=hk
  subst hk
  have hnil:E k0=.slice none 0 0:=hH.objs _ hm
  obtain ⟨rfl,hsz⟩:=xpj hok
  obtain ⟨r1,r2,r3⟩:=hb2
  refine ⟨xeQ (fun k hk=>by simp at hk; subst hk; exact ⟨_,hm,rfl,rfl⟩) hlt2,Nat.le_refl _,fun _=>?_⟩
  obtain ⟨v',w',hr,hro,hch,hbl,h1⟩:=xhx hH (ty:=ty) ht hi hok (v:=E k0) (m:=0) (vs:=[]) hsz rfl (.inl ⟨none,hnil,rfl⟩) (by simp) r1 (xzp hH.env r3) (by simpa using hc.2)
  refine ⟨_,w',by simp only [AV.den,if_true]; exact hr,xjK hH.env (.inr ⟨k0,rfl,rfl⟩) h1 (newarr (by simpa using hro) r2 r3 hfr2) hch hbl⟩
 ·-- nil object,row
  rename_i key k0 ver e2 ks2 l2 hf
  by_cases hc:key≠k2
  case neg=>rw [if_neg hc] at h; cases h
  rw [if_pos hc] at h
  cases h
  obtain ⟨hm,hk⟩:=xan hf
  have hk:k0=key:=hk
  subst hk
  have hnil:E k0=.slice none 0 0:=hH.objs _ hm
  obtain ⟨rfl,hsz⟩:=xua hok
  refine ⟨xeQ (fun k hk=>by simp at hk; subst hk; exact ⟨_,hm,rfl,rfl⟩) xb4,Nat.le_refl _,fun hp=>?_⟩
  have hp:xdo ie.bytes l2.length:=hp
  obtain ⟨v',w',hr,hro,hch,hbl,h1⟩:=xhx hH (ty:=ty) ht hi hok (v:=E k0) (m:=0) (vs:=[]) hsz rfl (.inl ⟨none,hnil,rfl⟩) (by simp) hb2 (xoD _ _) (by simpa using hp)
  refine ⟨_,w',by simp only [AV.den,if_true]; exact hr,xjK hH.env (.inr ⟨k0,rfl,rfl⟩) h1 (newrow (by simpa using hro)) hch hbl⟩
 ·-- nil,arr
  rename_i e2 sz2 els2
  by_cases hc:xdo ie.bytes els2.length
  case neg=>rw [if_neg hc] at h; cases h
  rw [if_pos hc] at h
  cases h
  obtain ⟨rfl,hsz⟩:=xpj hok
  obtain ⟨r1,r2,r3⟩:=hb2
  refine ⟨xeQ (by simp) hlt2,Nat.le_refl _,fun _=>?_⟩
  obtain ⟨v',w',hr,hro,hch,hbl,h1⟩:=xhx hH (ty:=ty) ht hi hok (v:=.slice none 0 0) (m:=0) (vs:=[]) hsz rfl (.inl ⟨none,rfl,rfl⟩) (by simp) r1 (xzp hH.env r3) (by simpa using hc)
  refine ⟨_,w',by simp only [AV.den,if_true]; exact hr,xjK hH.env (.inl ⟨rfl,rfl⟩) h1 (newarr (by simpa using hro) r2 r3 hfr2) hch hbl⟩
 ·-- nil,row
  rename_i e2 ks2 l2
  cases h
  obtain ⟨rfl,hsz⟩:=xua hok
  refine ⟨xeQ (by simp) xb4,Nat.le_refl _,fun hp=>?_⟩
  have hp:xdo ie.bytes l2.length:=hp
  obtain ⟨v',w',hr,hro,hch,hbl,h1⟩:=xhx hH (ty:=ty) ht hi hok (v:=.slice none 0 0) (m:=0) (vs:=[]) hsz rfl (.inl ⟨none,rfl,rfl⟩) (by simp) hb2 (xoD _ _) (by simpa using hp)
  refine ⟨_,w',by simp only [AV.den,if_true]; exact hr,xjK hH.env (.inl ⟨rfl,rfl⟩) h1 (newrow (by simpa using hro)) hch hbl⟩
 ·-- arr,arr
  rename_i key k0 ver e1 sz1 els1 e2 sz2 els2 hf
  by_cases hc:key≠k2∧e1=e2∧sz1=sz2∧xdo ie.bytes (els1.length+els2.length)
  case neg=>rw [if_neg hc] at h; cases h
  rw [if_pos hc] at h
  cases h
  obtain ⟨_,rfl,rfl,hfit⟩:=hc
  obtain ⟨hm,hk⟩:=xan hf
  have hk:k0=key:=hk
  subst hk
  obtain ⟨q1,q2,q3⟩:=hH.objs _ hm
  have hfr1:=hfr _ hm
  have hlt1:=(hH.lt _ hm).2
  obtain ⟨rfl,hsz⟩:=xpj hok
  obtain ⟨r1,r2,r3⟩:=hb2
  have hall:∀ {p:Nat→Prop},AV.allL p els1.flatten→AV.allL p els2.flatten→AV.allL p (els1++els2).flatten:=by
   intro p h1 h2
   rw [List.flatten_append,xe9] at *
   intro a ha
   rcases List.mem_append.1 ha with ha | ha
   ·exact h1 a ha
   ·exact h2 a ha
  refine ⟨xeQ (fun k hk=>by simp at hk; subst hk; exact ⟨_,hm,rfl,rfl⟩) (hall hlt1 hlt2),Nat.le_refl _,fun _=>?_⟩
  obtain ⟨v',w',hr,hro,hch,hbl,h1⟩:=xhx hH (ty:=ty) ht hi hok hsz rfl (q1.own rfl) q1.len r1 (xzp hH.env r3) hfit
  refine ⟨_,w',by simp only [AV.den,if_true]; exact hr,xjK hH.env (.inr ⟨k0,rfl,rfl⟩) h1 (newarr ?_ ?_ ?_ (hall hfr1.2 hfr2)) hch hbl⟩
  ·rw [List.length_append,List.flatten_append,xaJ,List.map_append,← xaJ,← xaJ]
   exact hro
  ·intro el hel
   rcases List.mem_append.1 hel with hel | hel
   ·exact q2 el hel
   ·exact r2 el hel
  ·rw [List.flatten_append,List.all_append,q3,r3]; rfl
 ·-- rows
  rename_i key k0 ver b1 _ _ _ hf
  split at h
  ·rename_i e1 ks1 l1 e2 ks2 l2 hr1 hr2
   by_cases hc:key≠k2∧e1=e2∧ks1=ks2
   case neg=>rw [if_neg hc] at h; cases h
   rw [if_pos hc] at h
   cases h
   obtain ⟨_,rfl,rfl⟩:=hc
   obtain ⟨hm,hk⟩:=xan hf
   have hk:k0=key:=hk
   subst hk
   have q:=xbR hr1 (hH.objs _ hm)
   have r:=xrw hr2 hb2
   obtain ⟨rfl,hsz⟩:=xzq hok hr2
   refine ⟨xeQ (fun k hk=>by simp at hk; subst hk; exact ⟨_,hm,rfl,rfl⟩) xb4,Nat.le_refl _,fun hp=>?_⟩
   have hp:xdo ie.bytes (l1.length+l2.length):=hp
   obtain ⟨v',w',hr,hro,hch,hbl,h1⟩:=xhx hH (ty:=ty) ht hi hok hsz rfl (q.own rfl) q.len r (xoD _ _) hp
   refine ⟨_,w',by simp only [AV.den,if_true]; exact hr,xjK hH.env (.inr ⟨k0,rfl,rfl⟩) h1 (newrow ?_) hch hbl⟩
   rw [List.length_append,xn4]
   exact hro
  ·cases h
 ·cases h
theorem xyr (hH:xae X E w0 ⟨objs,n⟩ w) (hfr:∀ o∈objs,o.key≠K∧xbn (fun k=>k≠K) o.body) {bytes:Nat} {s:AV} {x:Eff} {k2:Nat} {b2:Body}
  (hlt2:xbn (fun k=>k<n) b2) (h:xol P K bytes s (tgtA objs s) k2 b2=some x):xdq n objs K x∧x.nk≤1:=by
 have own1:∀ {key k0 ver:Nat} {b:Body},xap key objs=some ⟨k0,ver,true,b⟩→∀ k∈[key],∃ o∈objs,o.key=k∧o.own=true:=by
  intro key k0 ver b hf k hk
  simp at hk; subst hk
  obtain ⟨hm,hk⟩:=xan hf
  exact ⟨_,hm,hk,rfl⟩
 unfold xol at h
 split at h
 ·rename_i hf
  split at h
  ·cases h; exact ⟨xeQ (own1 hf) hlt2,Nat.le_refl _⟩
  ·cases h
 ·rename_i hf
  split at h
  ·cases h; exact ⟨xeQ (own1 hf) xb4,Nat.le_refl _⟩
  ·cases h
 ·split at h
  ·cases h; exact ⟨xeQ (by simp) hlt2,Nat.le_refl _⟩
  ·cases h
 ·cases h; exact ⟨xeQ (by simp) xb4,Nat.le_refl _⟩
 ·rename_i key k0 ver e1 sz1 els1 e2 sz2 els2 hf
  split at h
  ·cases h
   obtain ⟨hm,hk⟩:=xan hf
   have hlt1:=(hH.lt _ hm).2
   refine ⟨xeQ (own1 hf) ?_,Nat.le_refl _⟩
   show AV.allL _ (els1++els2).flatten
   have h1:AV.allL (fun k=>k<n) els1.flatten:=hlt1
   have h2:AV.allL (fun k=>k<n) els2.flatten:=hlt2
   rw [List.flatten_append,xe9] at *
   intro a ha
   rcases List.mem_append.1 ha with ha | ha
   ·exact h1 a ha
   ·exact h2 a ha
  ·cases h
 ·rename_i hf
  split at h
  ·split at h
   ·cases h; exact ⟨xeQ (own1 hf) xb4,Nat.le_refl _⟩
   ·cases h
  ·cases h
 ·cases h
theorem xpr (hH:xae X E w0 ⟨objs,n⟩ w) {y:AV} {k2:Nat} {b2:Body} {p:Option Prop} (h:srcA P objs y=some (k2,b2,p)) :
  ∃ o∈objs,o.key=k2∧(b2=o.body∨∃ e ks l,b2=.row e ks l)∧(xjG p→xE1 E w false (y.den E) b2):=by
 have weaken:∀ {own:Bool} {e:TypeId} {sz:Nat} {v:Value} {m:Nat} {vs:List Value},xa8 w own e sz v m vs→xa8 w false e sz v m vs:=fun h=>⟨h.reads,h.len,fun h=>by cases h⟩
 cases y with
 | sl key =>
  simp only [srcA] at h
  split at h
  ·rename_i o hf
   cases h
   obtain ⟨hm,hk⟩:=xan hf
   subst hk
   refine ⟨o,hm,rfl,?_,fun _=>?_⟩
   ·cases hb:o.body<;>first | exact .inl rfl | exact .inr ⟨_,_,_,rfl⟩
   have:=hH.objs _ hm
   simp only [AV.den]
   revert this
   generalize o.body=b
   intro this
   cases b with
   | row=>exact weaken this
   | sub=>exact weaken this.2
   | arr=>exact ⟨weaken this.1,this.2⟩
   | _=>trivial
  ·cases h
 | vw key sz lo hi =>
  simp only [srcA] at h
  split at h
  ·rename_i o hf
   split at h
   ·rename_i e ks l hr
    split at h
    ·rename_i hks
     cases h
     obtain ⟨hm,hk⟩:=xan hf
     subst hk
     refine ⟨o,hm,rfl,.inr ⟨_,_,_,rfl⟩,fun hp=>?_⟩
     have:=xDc (xbR hr (hH.objs _ hm)) (lo:=lo) (hi:=hi) hp
     rw [hks] at this
     show xa8 w false e ks.length _ _ _
     rw [hks]
     exact this
    ·cases h
   ·cases h
  ·cases h
 | _=>cases h
theorem xt8 (hH:xae X E w0 ⟨objs,n⟩ w) (hfr:∀ o∈objs,o.key≠K∧xbn (fun k=>k≠K) o.body) {t ty:TypeId} {s y:AV} {x:Eff} (h:xiB P objs K t s y=some x) :
  xdq n objs K x∧x.nk≤1∧(x.holds→∃ E' w',(Builtin.append_ #[t,t] ty #[s.den E,y.den E]).run P w=.ok (x.v.den E') w'∧xeW E objs w K x E' w'):=by
 unfold xiB at h
 split at h
 case h_2=>cases h
 rename_i key2 b2 p hsrc
 split at h
 case h_2=>cases h
 rename_i te ht
 cases hi:P.info? te with
 | none=>rw [hi] at h; cases h
 | some ie =>
 rw [hi] at h
 simp only [] at h
 by_cases hok:xub te ie b2=true
 case neg=>rw [if_neg hok] at h; cases h
 rw [if_pos hok] at h
 obtain ⟨o2,hm2,rfl,hbody,hso⟩:=xpr hH hsrc
 have hlt2:xbn (fun k=>k<n) b2:=by
  rcases hbody with rfl | ⟨_,_,_,rfl⟩
  ·exact (hH.lt _ hm2).2
  ·exact xb4
 have hfr2:xbn (fun k=>k≠K) b2:=by
  rcases hbody with rfl | ⟨_,_,_,rfl⟩
  ·exact (hfr _ hm2).2
  ·exact xb4
 obtain ⟨z,hz,rfl⟩:=Option.map_eq_some_iff.1 h
 have wf:xdq n objs K z→xdq n objs K { z with p:=xuR p z.p }:=fun h=>⟨h.rm,h.key,h.uniq,h.all,h.val,h.ver⟩
 have ok:∀ {E':Env} {w':World},xeW E objs w K z E' w'→xeW E objs w K { z with p:=xuR p z.p } E' w':=fun h=>⟨h.agree,h.env,h.chg,h.bodies,h.own,h.ro,h.inj,h.dp,h.dq,h.df⟩
 have split_:({ z with p:=xuR p z.p }:Eff).holds→xjG p∧z.holds:=by
  intro h
  obtain ⟨zp,_,_,_,_⟩:=z
  cases p with
  | none=>exact ⟨trivial,h⟩
  | some p=>cases zp with
   | none=>exact ⟨h,trivial⟩
   | some q=>exact h
 by_cases hp:xjG p
 ·obtain ⟨a1,a2,a3⟩:=xwV (ty:=ty) hH hfr ht hi (hso hp) hlt2 hfr2 hok hz
  refine ⟨wf a1,a2,fun hh=>?_⟩
  obtain ⟨E',w',r1,r2⟩:=a3 (split_ hh).2
  exact ⟨E',w',r1,ok r2⟩
 ·-- the form alone
  obtain ⟨f1,f2⟩:=xyr hH hfr hlt2 hz
  exact ⟨wf f1,f2,fun hh=>absurd (split_ hh).1 hp⟩
theorem xp5 {p q:Option Prop} (h:xjG (xuR p q)):xjG p∧xjG q:=by
 cases p with
 | none=>exact ⟨trivial,h⟩
 | some p=>cases q with
  | none=>exact ⟨h,trivial⟩
  | some q=>exact h
theorem xt6 (hH:xae X E w0 ⟨objs,n⟩ w) {t ty:TypeId} {s y:AV} {x:Eff} (hs:AV.all (fun k=>k<n) s) (h:xlb P objs K t s y=some x) :
  xdq n objs K x∧x.nk=0∧(x.holds→∃ w',(Builtin.append_ #[t,t] ty #[s.den E,y.den E]).run P w=.ok (x.v.den E) w'∧xeW E objs w K x E w'):=by
 obtain ⟨key,sz,lo,hi,rfl⟩:∃ key sz lo hi,s=.vw key sz lo hi:=by cases s<;>first | exact ⟨_,_,_,_,rfl⟩ | cases h
 unfold xlb at h
 simp only [] at h
 split at h
 case h_2=>cases h
 rename_i k2 b2 p hsrc
 split at h
 case h_2=>cases h
 rename_i e2 ks2 l2 k0 ver b te hr2 hf ht
 split at h
 case h_2=>cases h
 rename_i e ks l ie hr hi'
 split at h
 case isFalse=>cases h
 rename_i hc
 cases h
 obtain ⟨rfl,rfl,rfl,rfl,hsz,hne0⟩:=hc
 obtain ⟨hm,hk⟩:=xan hf
 have hk:k0=key:=hk
 subst hk
 have hrow:xa8 w true e2 ks2.length (E k0) l.length (rowV ks2 l):=xbR hr (hH.objs _ hm)
 obtain ⟨o2,hm2,rfl,hbody,hso⟩:=xpr hH hsrc
 refine ⟨xmS ⟨_,hm,rfl,rfl⟩ xb4 hs,rfl,fun hp=>?_⟩
 obtain ⟨hp1,hp2⟩:=xp5 (p:=p) (q:=some _) hp
 obtain ⟨⟨c1,c2⟩,c3⟩:xAU l lo hi∧hi.toNat+l2.length≤l.length:=hp2
 have src:=xrw hr2 (hso hp1)
 obtain ⟨a2,cap2,hv2,_,_⟩:=src.reads.is
 have hspl:xiP l hi.toNat l2=l.take hi.toNat++l2++l.drop (hi.toNat+l2.length):=rfl
 by_cases hm0:l2.length=0
 ·have hl2:l2=[]:=List.eq_nil_of_length_eq_zero hm0
  subst hl2
  have hs0:xiP l hi.toNat []=l:=by simp [xiP]
  rw [hs0] at hspl
  refine ⟨w,?_,xk6 hH.env (by rw [← hspl]; exact hrow) ⟨0,.inr (Chg.refl _ _)⟩⟩
  obtain ⟨a,c,hv,hmc,_⟩:=hrow.reads.is
  have hle:hi.toNat-loN lo≤c-loN lo:=by omega
  rw [hv2]
  simp only [AV.den,xfE,hv,sliced,List.length_nil,Nat.add_zero,Int.toNat_natCast]
  generalize (if c=loN lo then a else a.map fun x=>x.add (loN lo*ks2.length))=a'
  cases a' with
  | none=>cases a2<;>simp [Builtin.append_,run_underlying ht,sizeOf,typeInfo,hi',Builtin.lenOf,Builtin.firstCells,loadCells,loadCellsFrom,hle]
  | some a'=>cases a2<;>simp [Builtin.append_,run_underlying ht,sizeOf,typeInfo,hi',Builtin.lenOf,Builtin.firstCells,loadCells,loadCellsFrom,storeCells,hle]
 ·rcases hrow.own rfl with ⟨a',ha,hn⟩ | ⟨g,cap,cur,hE',hg,hcap,hmax,hcs,htk⟩
  ·omega
  ·have hne:¬ cap=loN lo:=by omega
   have hcap0:cap≠0:=by omega
   have hrl:(rowV ks2 l2).length=l2.length*ks2.length:=xbu _ _
   obtain ⟨u0,hu0⟩:∃ u0,(rowV ks2 l2)[0]?=some u0:=⟨_,List.getElem?_eq_getElem (by rw [hrl]; exact Nat.mul_pos (by omega) (by omega))⟩
   obtain ⟨ad,had,_⟩:=src.reads.cell 0 u0 hu0
   rw [hv2] at had
   have had:a2=some ad:=had
   subst had
   have hnews:∀ j u,(rowV ks2 l2)[j]?=some u→w.cell? (ad.add j)=some u:=by
    intro j u hj
    obtain ⟨a',ha',hcl⟩:=src.reads.cell j u hj
    rw [hv2] at ha'
    cases ha'
    exact hcl
   have hfc:=run_firstCells_some (P:=P) w ks2.length l2.length ad l2.length cap2 (rowV ks2 l2) hrl hnews
   have hfit:hi.toNat*ks2.length+(rowV ks2 l2).length≤cur.size:=by
    rw [hrl,← Nat.add_mul,hcs]
    exact Nat.mul_le_mul_right _ (by omega)
   have hst:=run_storeCells_at P g (hi.toNat*ks2.length) e2 (rowV ks2 l2) 0 cur w hg (by simpa using hfit) (xoD _ _)
   simp only [Nat.add_zero] at hst
   have hown:=xvb (w:=w) hE' hg hcap hmax hcs htk (lo:=hi.toNat) (m:=l2) c3
   refine ⟨_,?_,xk6 hH.env (by rw [← hspl]; exact hown) ⟨g,.inl ⟨by rw [hE']; simp [blkO,hcap0],xjn _ _ _⟩⟩⟩
   have hroom:hi.toNat-loN lo+l2.length≤cap-loN lo:=by omega
   have hadd:loN lo*ks2.length+(hi.toNat-loN lo)*ks2.length=hi.toNat*ks2.length:=by rw [← Nat.add_mul]; congr 1; omega
   have hlen:hi.toNat-loN lo+l2.length=hi.toNat+l2.length-loN lo:=by omega
   rw [hv2]
   simp only [AV.den,xfE,hE',sliced,if_neg hne,Option.map_some,xik,Nat.zero_add,Int.toNat_natCast]
   have hst':(storeCells ((⟨g,loN lo*ks2.length,none⟩:Addr).add ((hi.toNat-loN lo)*ks2.length)) (rowV ks2 l2)).run P w=.ok () (w.setRow g (cur.toList.take (hi.toNat*ks2.length)++rowV ks2 l2++cur.toList.drop (hi.toNat*ks2.length+(rowV ks2 l2).length)).toArray):=by rw [xik,hadd]; exact hst
   have hroom2:hi.toNat+l2.length-loN lo≤cap-loN lo:=by omega
   simp [Builtin.append_,run_underlying ht,sizeOf,typeInfo,hi',Builtin.lenOf,hsz,hroom2,hfc,hst',hlen]
theorem xvT (hH:xae X E w0 ⟨objs,n⟩ w) (hfr:∀ o∈objs,o.key≠K) {v:AV} {x:Eff} (h:xvU P objs K v=some x) :
  xdq n objs K x∧x.nk=1∧(x.holds→∃ E',xeW E objs w K x E' w∧x.v.den E'=v.den E):=by
 unfold xvU at h
 split at h
 case h_2=>cases h
 rename_i key sz hi
 split at h
 case h_2=>cases h
 rename_i k0 ver b hf
 split at h
 case h_2=>cases h
 rename_i e ks l hr
 split at h
 case isFalse=>cases h
 rename_i hsz
 cases h
 subst hsz
 obtain ⟨hm,hk⟩:=xan hf
 have hk:k0=key:=hk
 subst hk
 have hrow:xa8 w true e ks.length (E k0) l.length (rowV ks l):=xbR hr (hH.objs _ hm)
 refine ⟨xeQ (fun k hk=>by simp at hk; subst hk; exact ⟨_,hm,rfl,rfl⟩) xb4,rfl,fun hp=>?_⟩
 obtain ⟨h1,h2⟩:0≤hi∧hi≤(l.length:Int):=hp
 let v':Value:=xfE (E k0) ks.length 0 hi.toNat
 have h3:hi.toNat≤l.length:=by omega
 have htl:(l.take hi.toNat).length=hi.toNat:=by simp; omega
 have hown:xm4 w e ks.length v' hi.toNat (rowV ks (l.take hi.toNat))∧∀ g,blkO v'=some g→blkO (E k0)=some g:=by
  rcases hrow.own rfl with ⟨a,ha,hn⟩ | ⟨g,cap,cur,hE',hg,hcap,hmax,hcs,htk⟩
  ·have h0:hi.toNat=0:=by omega
   refine ⟨.inl ⟨a,?_,h0⟩,?_⟩
   ·simp [v',xfE,ha,sliced,h0]
   ·intro g hg
    simp [v',xfE,ha,sliced,h0] at hg
    cases a<;>simp [blkO] at hg
  ·have hv':v'=.slice (some ⟨g,0,none⟩) hi.toNat cap:=by
    simp only [v',xfE,hE',sliced,Nat.sub_zero,Nat.zero_mul,Option.map_some,xuf]
    split<;>rfl
   rw [hv',hE']
   refine ⟨.inr ⟨g,cap,cur,rfl,hg,by omega,hmax,hcs,?_⟩,fun _ h=>h⟩
   rw [xrD,← htk,List.take_take,Nat.min_eq_left (Nat.mul_le_mul_right _ h3)]
 have hro:=xd6 hown.1 (by rw [xbu,htl])
 refine ⟨fun k=>if k=K then v' else E k,xjK hH.env (.inr ⟨k0,rfl,rfl⟩) (xpF (hH.env _) _ _ _) ?_ (Chg.refl _ _) (fun g hg=>.inr (hown.2 g hg)),?_⟩
 ·show xa8 w true e ks.length (if K=K then v' else E K) (l.take hi.toNat).length (rowV ks (l.take hi.toNat))
  rw [if_pos rfl,htl]; exact hro
 ·simp only [AV.den,if_true]; rfl
theorem xcN (hH:xae X E w0 ⟨objs,n⟩ w) {o:Oper} {p:Option Prop} {v:AV} (hv:AV.all (fun k=>k<n) v) (hr:(⟨p,[],0,[],v⟩:Eff).holds→(execOp e o).run P w=.ok (.value (v.den E)) w) :
  xdq n objs K ⟨p,[],0,[],v⟩∧OpOk P E objs w K e o ⟨p,[],0,[],v⟩∧(⟨p,[],0,[],v⟩:Eff).nk≤1 :=
 ⟨xjk p (xeT (fun k hk=>.inl hk) v hv),fun hp=>⟨E,w,_,hr hp,.inl rfl,xjl hH.env p v⟩,Nat.zero_le _⟩
theorem xy4 (hH:xae X E w0 ⟨objs,n⟩ w) (op:BinOp) (k k':IntKind) (hk:k=k'∨xwt op=true) (a b:Int) (t yt:TypeId) (x y:Operand) (o:Oper) (ho:o.op=.binOp op t x y yt) (hx:e x=.int k a) (hy:e y=.int k' b) {z:Eff} (h:xDq op k a b=some z) :
  xdq n objs K z∧OpOk P E objs w K e o z∧z.nk≤1:=by
 have hs:∀ op',xwt op=true→op'=op→op'=.shl∨op'=.shr:=by
  intro op' h1 h2; subst h2; cases op'<;>simp [xwt] at h1 ⊢
 by_cases hsh:op=.shl∨op=.shr
 ·rcases hsh with rfl | rfl<;>simp only [xDq,chkE] at h<;>cases h<;>refine xcN hH trivial (fun hp=>?_) <;>
   (have hb:0≤b:=hp; simp [execOp,ho,hx,hy,eqGuard,binOp,Op.shift,AV.den,bShl,Int.not_lt.2 hb]; done)
 ·have hkk:k=k':=hk.elim id fun h=>absurd (hs op h rfl) hsh
  subst hkk
  have b1:Op.intBits .and k a b=pure (.int k (bAnd k a b)):=rfl
  have b2:Op.intBits .or k a b=pure (.int k (bOr k a b)):=rfl
  have b3:Op.intBits .xor k a b=pure (.int k (bXor k a b)):=rfl
  have b4:Op.intBits .andNot k a b=pure (.int k (bNot k a b)):=rfl
  cases op<;>simp only [xDq,okE,chkE] at h<;>cases h<;>first
   | exact absurd (.inl rfl) hsh
   | exact absurd (.inr rfl) hsh
   | (refine xcN hH trivial (fun hp=>?_); first
    | (simp [execOp,ho,hx,hy,eqGuard,binOp,Op.intArith,Op.intCmp,AV.den]; done)
    | (simp only [execOp,ho,hx,hy,eqGuard,binOp,b1,b2,b3,b4,AV.den]; simp; done)
    | (have hb:b≠0:=hp; simp [execOp,ho,hx,hy,eqGuard,binOp,Op.intDiv,AV.den,hb]; done))
theorem xlQ (hH:xae X E w0 ⟨objs,n⟩ w) {d:Nat} {v:AV} {z:Eff} (hv:AV.all (fun k=>k<n) v) (h:xhu P objs d v=some z) :
  ∃ p u,z=⟨p,[],0,[],u⟩∧AV.all (fun k=>k<n) u∧(z.holds→∃ a,v.den E=.pointer (some a)∧u.den E=.pointer (some (a.add d))):=by
 have key:∀ {key:Nat} {own:Bool} {te:TypeId} {sz' m:Nat} {vs:List Value} {sz:Nat} {kn:Bool} {i:Int} {off:Nat},xa8 w own te sz' (E key) m vs→0<vs.length →
   ∃ a,(AV.ix key sz kn i off).den E=.pointer (some a)∧(AV.ix key sz kn i (off+d)).den E=.pointer (some (a.add d)):=by
  intro key own te sz' m vs sz kn i off hr hpos
  obtain ⟨a,ha,_⟩:=hr.reads.cell 0 vs[0] (List.getElem?_eq_getElem hpos)
  exact ⟨a.add (i.toNat*sz+off),by simp only [AV.den,ha,Option.map_some],by simp only [AV.den,ha,Option.map_some,xlG,Nat.add_assoc]⟩
 unfold xhu at h
 split at h
 ·rename_i key off
  cases h
  exact ⟨_,_,rfl,hv,fun _=>⟨_,rfl,by simp [AV.den,xik]⟩⟩
 ·rename_i key sz kn i off
  cases hf:xap key objs with
  | none=>rw [hf] at h; cases h
  | some o =>
  rw [hf] at h
  simp only [] at h
  obtain ⟨hm,hk⟩:=xan hf
  subst hk
  have hb:=hH.objs _ hm
  obtain ⟨k0,ver,own,b⟩:=o
  simp only [] at h hb hv
  cases b with
  | arr e sz' els =>
   obtain ⟨h1,h2,h3⟩:=hb
   cases kn with
   | true =>
    simp only [] at h
    split at h
    ·rename_i hc
     cases h
     exact ⟨_,_,rfl,hv,fun _=>key h1 (by rw [h1.len]; exact Nat.mul_pos (by omega) (by omega))⟩
    ·cases h
   | false =>
    simp only [] at h
    split at h
    ·rename_i e2 ks l hr
     split at h
     ·rename_i hks
      cases h
      refine ⟨_,_,rfl,hv,fun hp=>?_⟩
      have hp:inR i l:=hp
      have hrow:=xbR (E:=E) (w:=w) (key:=k0) (own:=own) hr ⟨h1,h2,h3⟩
      have:0<ks.length:=List.length_pos_iff.2 hks
      exact key hrow (by rw [hrow.len]; exact Nat.mul_pos (by have:=hp.1; have:=hp.2; omega) this)
     ·cases h
    ·cases h
  | row e ks l =>
   simp only [] at h
   split at h
   ·rename_i hks
    cases h
    refine ⟨_,_,rfl,hv,fun hp=>?_⟩
    have hp:inR i l:=hp
    have hrow:xa8 w own e ks.length (E k0) l.length (rowV ks l):=hb
    have:0<ks.length:=List.length_pos_iff.2 hks
    exact key hrow (by rw [hrow.len]; exact Nat.mul_pos (by have:=hp.1; have:=hp.2; omega) this)
   ·cases h
  | sub e ks l =>
   simp only [] at h
   split at h
   ·rename_i hks
    cases h
    refine ⟨_,_,rfl,hv,fun hp=>?_⟩
    have hp:inR i l:=hp
    have hrow:xa8 w own e ks.length (E k0) l.length (rowV ks l):=hb.2
    have:0<ks.length:=List.length_pos_iff.2 hks
    exact key hrow (by rw [hrow.len]; exact Nat.mul_pos (by have:=hp.1; have:=hp.2; omega) this)
   ·cases h
  | nst e ks l =>
   simp only [] at h
   split at h
   ·rename_i hks
    cases h
    refine ⟨_,_,rfl,hv,fun hp=>?_⟩
    have hp:inR i l:=hp
    obtain ⟨vs,hb⟩:=hb
    have hrow:=hb.row
    have:0<ks.length:=List.length_pos_iff.2 hks
    exact key hrow (by rw [hrow.len]; exact Nat.mul_pos (by have:=hp.1; have:=hp.2; omega) this)
   ·cases h
  | cells=>cases h
  | nil=>cases h
  | mp=>cases h
  | mf=>cases h
  | mq=>cases h
  | fin=>cases h
  | loop=>cases h
 ·cases h
theorem xq1 (hH:xae X E w0 ⟨objs,n⟩ w) {t:TypeId} {a i:AV} {x:Eff} (ha:AV.all (fun k=>k<n) a) (h:xjg P objs t a i=some x) :
  ∃ p u,x=⟨p,[],0,[],u⟩∧AV.all (fun k=>k<n) u∧(x.holds→(Instr.indexAt t (a.den E) (i.den E)).run P w=.ok (u.den E) w):=by
 unfold xjg at h
 split at h
 ·rename_i d hd
  obtain ⟨p,u,rfl,hu,hr⟩:=xlQ hH ha h
  refine ⟨p,u,rfl,hu,fun hp=>?_⟩
  obtain ⟨a0,h1,h2⟩:=hr hp
  unfold xGo at hd
  split at hd
  ·rename_i len e key sz0 kn i0 off k m hu'
   split at hd
   ·rename_i sz hsz
    split at hd
    ·rename_i hb
     cases hd
     rw [h1,h2]
     simp only [Instr.indexAt,AV.den,asIntOf,Instr.sureAddr,Sem.run_bind,Sem.run_pure,Result.andThen_ok,run_underlying hu',if_pos hb,xcm hsz]
    ·cases hd
   ·cases hd
  ·cases hd
 ·exact xq3 hH ha h
theorem xAD (hH:xae X E w0 ⟨objs,n⟩ w) {t ty:TypeId} {v:AV} {z:Eff} (h:lenA P objs (P.underlying t) v=some z) :
  ∃ u,z=⟨none,[],0,[],u⟩∧AV.all (fun k=>k<n) u∧(Builtin.len_ #[t] ty #[v.den E]).run P w=.ok (u.den E) w:=by
 have key:∀ {te:TypeId} {a:Option Addr} {m c:Nat},P.underlying t=some (.slice te)→(Builtin.len_ #[t] ty #[.slice a m c]).run P w=.ok (.int .i64 m) w:=by
  intro te a m c hu
  simp [Builtin.len_,run_underlying hu,goInt]
 unfold lenA at h
 split at h
 ·rename_i te k0 hu
  split at h
  ·rename_i k1 ver own e sz els hf
   cases h
   obtain ⟨hm,hk⟩:=xan hf
   have hk:k1=k0:=hk
   subst hk
   obtain ⟨h1,_,_⟩:=hH.objs _ hm
   obtain ⟨a,c,hv,_⟩:=h1.reads.is
   have hv:E k1=_:=hv
   exact ⟨_,rfl,trivial,by simp only [AV.den,hv]; exact key hu⟩
  ·rename_i k1 ver own e ks l hf
   cases h
   obtain ⟨hm,hk⟩:=xan hf
   have hk:k1=k0:=hk
   subst hk
   have h1:xa8 w own e ks.length (E k1) l.length (rowV ks l):=hH.objs _ hm
   obtain ⟨a,c,hv,_⟩:=h1.reads.is
   exact ⟨_,rfl,trivial,by simp only [AV.den,hv]; exact key hu⟩
  ·rename_i k1 ver own e ks l hf
   cases h
   obtain ⟨hm,hk⟩:=xan hf
   have hk:k1=k0:=hk
   subst hk
   have h1:xa8 w own e ks.length (E k1) l.length (rowV ks l):=(hH.objs _ hm).2
   obtain ⟨a,c,hv,_⟩:=h1.reads.is
   exact ⟨_,rfl,trivial,by simp only [AV.den,hv]; exact key hu⟩
  ·rename_i k1 ver own e ks l hf
   cases h
   obtain ⟨hm,hk⟩:=xan hf
   have hk:k1=k0:=hk
   subst hk
   obtain ⟨vs,h1⟩:=hH.objs _ hm
   obtain ⟨a,c,hv,_⟩:=h1.row.reads.is
   have hv:E k1=_:=hv
   exact ⟨_,rfl,trivial,by simp only [AV.den,hv]; exact key hu⟩
  ·rename_i k1 ver own hf
   cases h
   obtain ⟨hm,hk⟩:=xan hf
   have hk:k1=k0:=hk
   subst hk
   have h1:E k1=.slice none 0 0:=hH.objs _ hm
   exact ⟨_,rfl,trivial,by simp only [AV.den,h1]; exact key hu⟩
  ·cases h
 ·rename_i te a m c hu
  cases h
  exact ⟨_,rfl,trivial,key hu⟩
 ·rename_i te k0 sz lo hi hu
  split at h
  ·rename_i o hf
   split at h
   ·rename_i y hr
    cases h
    obtain ⟨e,ks,l⟩:=y
    obtain ⟨hm,hk⟩:=xan hf
    subst hk
    obtain ⟨a,c,hv,_⟩:=(xbR hr (hH.objs _ hm)).reads.is
    exact ⟨_,rfl,trivial,by simp only [AV.den,xfE,hv,sliced]; exact key hu⟩
   ·cases h
  ·cases h
 ·cases h
theorem xA5 {bytes:Nat} {s:AV} {o:Option Obj} {key2:Nat} {b2:Body} {x:Eff} (h:xol P K bytes s o key2 b2=some x):x.nk=1:=by
 unfold xol at h
 repeat' split at h
 all_goals first | (cases h; done) | (cases h; rfl)
theorem xyq {t:TypeId} {s y:AV} {x:Eff} (h:xiB P objs K t s y=some x):x.nk=1:=by
 unfold xiB at h
 split at h
 ·split at h
  ·split at h
   ·split at h
    ·obtain ⟨z,hz,rfl⟩:=Option.map_eq_some_iff.1 h
     show z.nk=1
     exact xA5 hz
    ·cases h
   ·cases h
  ·cases h
 ·cases h
theorem xvQ (hH:xae X E w0 ⟨objs,n⟩ w) {t:TypeId} {v:AV} {x:Eff} (h:xpw P objs K t v=some x) {hiv mxv:Value} (h1:∃ k,hiv=.int k 0) (h2:∃ k,mxv=.int k 0) :
  xdq n objs K x∧x.nk=1∧∃ E' w',(Instr.sliceAt t (v.den E) none (some hiv) (some mxv)).run P w=.ok (x.v.den E') w'∧xeW E objs w K x E' w':=by
 obtain ⟨k,rfl⟩:=h1
 obtain ⟨k',rfl⟩:=h2
 unfold xpw at h
 split at h
 case h_2=>cases h
 rename_i te hu
 split at h
 case h_2=>cases h
 rename_i sz hs
 have fin:∀ {a:Option Addr} {len c:Nat} {b:Body},xbm (fun k=>if k=K then .slice a 0 0 else E k) w K true b→xbn (fun k=>k<n) b→v.den E=.slice a len c→xq5 b=true →
   xdq n objs K ⟨none,[],1,[⟨K,K,true,b⟩],.sl K⟩∧(⟨none,[],1,[⟨K,K,true,b⟩],.sl K⟩:Eff).nk=1∧∃ E' w',(Instr.sliceAt t (v.den E) none (some (.int k 0)) (some (.int k' 0))).run P w=.ok ((AV.sl K).den E') w'∧xeW E objs w K ⟨none,[],1,[⟨K,K,true,b⟩],.sl K⟩ E' w':=by
  intro a len c b hb hall hv hflat
  refine ⟨xjJ hall (Nat.lt_succ_self K),rfl,_,w,?_,xk7 (u:=.slice a 0 0) hH.env rfl hb (Blw.refl _ _) (fun g hg=>by cases a<;>simp [blkO] at hg) _ hflat⟩
  rw [hv]
  simp only [AV.den,if_true]
  exact xAs hu hs
 have nilrow:∀ {a:Option Addr} {e:TypeId} {ks:List CK},xbm (fun k=>if k=K then .slice a 0 0 else E k) w K true (.row e ks []):=by
  intro a e ks
  show xa8 w true e ks.length (if K=K then .slice a 0 0 else E K) 0 (rowV ks [])
  rw [if_pos rfl]
  exact xd6 (.inl ⟨a,rfl,rfl⟩) (by simp [rowV])
 split at h
 ·rename_i key
  split at h
  case h_2=>cases h
  rename_i o hf
  obtain ⟨hm,hk⟩:=xan hf
  subst hk
  have hb:=hH.objs _ hm
  split at h
  ·rename_i hbody
   cases h
   rw [hbody] at hb
   have hE:E o.key=.slice none 0 0:=hb
   exact fin (a:=none) (by show (if K=K then _ else _)=_; rw [if_pos rfl]) xok hE rfl
  ·split at h
   case h_2=>cases h
   rename_i e ks l hr
   split at h
   ·cases h
    obtain ⟨a,c,hv,_⟩:=(xbR hr hb).reads.is
    exact fin nilrow xb4 hv rfl
   ·cases h
 ·cases h
  exact fin (a:=none) (by show (if K=K then _ else _)=_; rw [if_pos rfl]) xok rfl rfl
 ·cases h
theorem xqy {x:Option AV} (h:xwr x=true):∃ k,x=some (.val (.int k 0)):=by
 unfold xwr at h
 split at h
 ·rename_i k n
  exact ⟨k,by rw [of_decide_eq_true h]⟩
 ·cases h
theorem xqI (hH:xae X E w0 ⟨objs,n⟩ w) (hρ:∀ x v,ρ x=some v→e x=v.den E∧AV.lt K v) (hKn:K≤n) (o:Oper) {z:Eff} (h:xfR P ρ objs K o.op=some z) (hfr:z.nk≠0→∀ o∈objs,o.key≠K∧xbn (fun k=>k≠K) o.body) :
  xdq n objs K z∧OpOk P E objs w K e o z∧z.nk≤1:=by
 have hρ1:∀ x v,ρ x=some v→e x=v.den E:=fun x v h=>(hρ x v h).1
 have hρ2:∀ x v,ρ x=some v→AV.all (fun k=>k<n) v:=fun x v h=>xeM hKn v (hρ x v h).2
 have hρL:∀ (l:List Operand) (vs:List AV),xlY ρ l=some vs→AV.allL (fun k=>k<n) vs:=fun l vs h=>(xe9 _ _).2 (xjy (Q:=AV.all (fun k=>k<n)) hρ2 l vs h)
 have newbox:∀ {t:TypeId} {cs:List AV},AV.allL (fun k=>k<K) cs→(execOp e o).run P w=.ok (.value (.pointer (some ⟨w.heap.size,0,none⟩))) (w.alloc (.cells (AV.denL E cs).toArray t)) →
   xdq n objs K ⟨none,[],1,[⟨K,K,true,.cells cs⟩],.ptr K 0⟩∧OpOk P E objs w K e o ⟨none,[],1,[⟨K,K,true,.cells cs⟩],.ptr K 0⟩∧(⟨none,[],1,[⟨K,K,true,.cells cs⟩],.ptr K 0⟩:Eff).nk≤1:=by
  intro t cs hcs hr
  refine ⟨xjJ (xlF (fun k hk=>Nat.lt_of_lt_of_le hk hKn) _ hcs) (Nat.lt_succ_self K),fun _=>⟨_,_,_,hr,.inl ?_,xk7 (u:=.pointer (some ⟨w.heap.size,0,none⟩)) hH.env rfl ?_ (xbo _ _) ?_ _⟩,Nat.le_refl _⟩
  ·simp [AV.den,blk]
  ·refine ⟨w.heap.size,t,if_pos rfl,?_⟩
   rw [xcl (E:=E) (fun k (hk:k<K)=>if_neg (by omega)) cs hcs]
   exact xbb w _
  ·intro g hg; cases hg; exact Nat.le_refl _
 generalize hop:o.op=op at h
 unfold xfR at h
 split at h
 ·-- move
  split at h
  ·rename_i v hv; cases h; exact xcN hH (hρ2 _ _ hv) fun _=>by simp [execOp,hop,hρ1 _ _ hv]
  ·cases h
 ·split at h
  ·rename_i v hv; cases h; exact xcN hH (hρ2 _ _ hv) fun _=>by simp [execOp,hop,hρ1 _ _ hv]
  ·cases h
 ·-- alloc
  rename_i t
  split at h
  ·rename_i z' hz
   cases h
   exact newbox (t:=t) (xlc (xuc hz _)) (by simp [execOp,hop,Instr.alloc,xmf hz E,newVar,newRow,xhc (xnY hz) hH.env])
  ·cases h
 ·-- box
  rename_i t x
  split at h
  ·rename_i v hv
   split at h
   ·rename_i hpl
    cases h
    exact newbox (t:=t) (xlc (hρ _ _ hv).2) (by simp [execOp,hop,Instr.box,hρ1 _ _ hv,newVar,newRow,xhc hpl hH.env])
   ·cases h
  ·cases h
 ·-- buildSlice
  rename_i t len parts
  obtain ⟨x,hx,hxz⟩:=Option.map_eq_some_iff.1 h
  obtain ⟨h1,E',w',hr,he⟩:=xp8 hH hρ hKn hx
  have hxn:x.nk=1:=by
   clear hxz he hr
   unfold xdQ at hx
   split at hx
   ·split at hx
    ·split at hx
     ·split at hx
      ·cases hx; rfl
      ·cases hx
     ·cases hx
    ·cases hx
   ·cases hx
  cases hy:xup P objs K x with
  | none =>
   rw [hy] at hxz
   have hxz:x=z:=hxz
   subst hxz
   refine ⟨h1,fun _=>⟨E',w',.value (x.v.den E'),?_,.inl rfl,he⟩,Nat.le_of_eq hxn⟩
   simp only [execOp,hop,Sem.run_bind,hr,Result.andThen_ok,Sem.run_pure]
  | some y =>
   rw [hy] at hxz
   have hxz:y=z:=hxz
   subst hxz
   have hnz:y.nk=1:=by
    clear hr he h1 hfr
    unfold xup at hy
    split at hy
    ·split at hy
     ·split at hy
      ·split at hy
       ·split at hy
        ·cases hy; rfl
        ·cases hy
       ·cases hy
      ·cases hy
     ·cases hy
    ·cases hy
   obtain ⟨g1,g2,g3,g4,_⟩:=xyA hH (fun o ho=>(hfr (by rw [hnz]; exact Nat.one_ne_zero) o ho).1) h1 he hy
   refine ⟨g1,fun _=>⟨E',w',.value (y.v.den E'),?_,.inl rfl,g2⟩,Nat.le_of_eq g4⟩
   rw [g3]
   simp only [execOp,hop,Sem.run_bind,hr,Result.andThen_ok,Sem.run_pure]
 ·-- build
  rename_i t parts
  split at h
  ·rename_i z' place ps hz hp hps
   split at h
   ·rename_i cs hcs
    cases h
    have hbuilt:P.built t (parts.map fun (i,x)=>(i,e x)).toList=some (AV.denL E cs).toArray:=by
     have hl:(parts.map fun (i,x)=>(i,e x)).toList=ps.map fun p=>(p.1,p.2.den E):=by
      rw [Array.toList_map]; exact xmh hρ1 _ _ hps
     have hf:=xvl E hH.env ps z'.cells cs hcs
     rw [hl]
     have hpl:=xnY hz
     unfold xnm at hz
     unfold Program.built
     split at hz
     ·rename_i it hit
      cases h2:it.zero with
      | none=>simp [h2] at hz
      | some v =>
       have hzc:v.cells.toList=AV.denL E z'.cells:=by
        have:=xhc hpl hH.env
        simp only [h2,Option.map_some,Option.some.injEq] at hz
        rw [← hz,xhw] at this
        rw [this,hz]
       have hzc':v.cells=(AV.denL E z'.cells).toArray:=by rw [← hzc]
       unfold xBB at hp
       split at hp
       ·rename_i n te hu
        cases hie:P.info? te with
        | none=>simp [hie] at hp
        | some ie =>
         simp only [hie,Option.map_some,Option.some.injEq] at hp
         subst hp
         simp only [hit,hu,h2,hie,hzc']
         exact hf
       ·rename_i fields hu
        cases hm:fields.toList.mapM (fun f=>(P.info? f.type).map fun i=>(f.offset,i.size)) with
        | none=>simp [hm] at hp
        | some un =>
         simp only [hm,Option.map_some,Option.some.injEq] at hp
         subst hp
         simp only [hit,hu,h2,hm,hzc']
         exact hf
       ·cases hp
     ·cases hz
    refine xcN hH ?_ fun _=>by simp [execOp,hop,run_build w t _ _ hbuilt,AV.den]
    exact xAd ps z'.cells cs hcs (xoG (Q:=AV.all (fun k=>k<n)) hρ2 _ _ hps) (xlc (xuc hz _))
   ·cases h
  ·cases h
 ·-- load
  rename_i t x
  split at h
  ·rename_i v hv
   split at h
   ·rename_i y hy
    cases h
    obtain ⟨g1,g2,g3⟩:=xxI hH hy
    refine ⟨g1,fun hp=>?_,g2⟩
    obtain ⟨E',hr,he⟩:=g3 hp
    exact ⟨E',w,.value (z.v.den E'),by simp [execOp,hop,hρ1 _ _ hv,hr],.inl rfl,he⟩
   ·obtain ⟨p,u,rfl,hu,hr⟩:=xyX hH h
    exact xcN hH hu fun hp=>by simp [execOp,hop,hρ1 _ _ hv,hr hp]
  ·cases h
 ·-- store
  rename_i t x y
  split at h
  ·rename_i a v ha hv
   obtain ⟨h1,h2,h3⟩:=xw4 hH (hρ2 _ _ hv) h
   refine ⟨h1,fun hp=>?_,?_⟩
   ·obtain ⟨w',hr,he⟩:=h3 hp
    exact ⟨E,w',.skip,by simp [execOp,hop,hρ1 _ _ ha,hρ1 _ _ hv,hr],.inr ⟨rfl,by rw [h2]; rfl⟩,he⟩
   ·unfold xru at h
    split at h
    ·split at h
     ·split at h
      ·cases h; exact Nat.zero_le _
      ·cases h
     ·cases h
    ·split at h
     ·split at h
      ·split at h
       ·split at h
        ·cases h; exact Nat.zero_le _
        ·cases h
       ·cases h
      ·cases h
     ·cases h
    ·cases h
  ·cases h
 ·-- nilCheck
  split at h
  ·rename_i hx; cases h; exact xcN hH (hρ2 _ _ hx) fun _=>by simp [execOp,hop,hρ1 _ _ hx,AV.den]
  ·rename_i hx; cases h; exact xcN hH (hρ2 _ _ hx) fun _=>by simp [execOp,hop,hρ1 _ _ hx,AV.den]
  ·rename_i hx; cases h; exact xcN hH (hρ2 _ _ hx) fun _=>by simp [execOp,hop,hρ1 _ _ hx,AV.den]
  ·cases h
 ·-- binOp
  rename_i op t x y yt
  split at h
  ·rename_i k a k' b hx hy
   split at h
   ·rename_i hk
    exact xy4 hH op k k' hk a b t yt x y o hop (hρ1 _ _ hx) (hρ1 _ _ hy) h
   ·cases h
  ·rename_i a b hx hy
   split at h
   ·split at h
    ·rename_i r hr
     cases h
     have:=xmR (E:=E) 9 t _ _ r hr 9991 w
     simp only [AV.den] at this
     exact xcN hH trivial fun _=>by simp [execOp,hop,hρ1 _ _ hx,hρ1 _ _ hy,eqGuard,binOp,Op.equal,Op.maxDepth,this,AV.den]
    ·cases h
   ·split at h
    ·rename_i r hr
     cases h
     have:=xmR (E:=E) 9 t _ _ r hr 9991 w
     simp only [AV.den] at this
     exact xcN hH trivial fun _=>by simp [execOp,hop,hρ1 _ _ hx,hρ1 _ _ hy,eqGuard,binOp,Op.equal,Op.maxDepth,this,AV.den]
    ·cases h
   ·cases h
  ·rename_i a b hx hy
   split at h
   ·rename_i hg
    split at h
    ·split at h
     ·rename_i r hr
      cases h
      have:=xmR (E:=E) 9 t _ _ r hr 9991 w
      simp only [AV.den] at this
      exact xcN hH trivial fun _=>by simp [execOp,hop,hρ1 _ _ hx,hρ1 _ _ hy,run_eqGuard_agg w _ _ _ _ _ _ hg,binOp,Op.equal,Op.maxDepth,this,AV.den]
     ·cases h
    ·split at h
     ·rename_i r hr
      cases h
      have:=xmR (E:=E) 9 t _ _ r hr 9991 w
      simp only [AV.den] at this
      exact xcN hH trivial fun _=>by simp [execOp,hop,hρ1 _ _ hx,hρ1 _ _ hy,run_eqGuard_agg w _ _ _ _ _ _ hg,binOp,Op.equal,Op.maxDepth,this,AV.den]
     ·cases h
    ·cases h
   ·cases h
  ·cases h
 ·-- not
  split at h
  ·rename_i hx; cases h; exact xcN hH trivial fun _=>by simp [execOp,hop,hρ1 _ _ hx,AV.den,Op.unary]
  ·cases h
 ·-- neg
  split at h
  ·rename_i hx; cases h; exact xcN hH trivial fun _=>by simp [execOp,hop,hρ1 _ _ hx,AV.den,Op.unary,Op.intArith]
  ·cases h
 ·-- convert
  rename_i src dst x
  split at h
  ·rename_i k m k1 k2 hx hs hd
   split at h
   ·cases h
    exact xcN hH trivial fun _=>by simp [execOp,hop,hρ1 _ _ hx,AV.den,convert,run_underlying hs,run_underlying hd,Conv.intToInt]
   ·cases h
  ·cases h
 ·-- makeInterface
  rename_i t x
  split at h
  ·cases h
  ·rename_i v d hne hx hd
   cases h
   refine xcN hH (show AV.lt n v from xeM hKn v (hρ _ _ hx).2) fun _=>?_
   have hr:(Instr.makeInterface t (v.den E)).run P w=.ok (.iface t (v.den E)) w:=by
    unfold Instr.makeInterface
    simp only [Sem.run_bind,run_underlying hd,Result.andThen_ok]
    cases d with
    | interface ms=>exact (hne ms rfl).elim
    | _=>rfl
   simp only [execOp,hop,hρ1 _ _ hx,Sem.run_bind,hr,Result.andThen_ok,Sem.run_pure,AV.den]
  ·cases h
 ·-- makeFunc
  rename_i f first caps
  split at h
  ·rename_i a b ha hb
   cases h
   have e1:=xe0 hρ1 _ _ ha
   have e2:=xe0 hρ1 _ _ hb
   have f1:∀ l:Array Operand,l.map e=(l.toList.map e).toArray:=fun l=>by apply Array.ext'; simp
   exact xcN hH ⟨hρL _ _ ha,hρL _ _ hb⟩ fun _=>by simp only [execOp,hop,Instr.makeFunc,Sem.run_bind,Sem.run_pure,Result.andThen_ok,AV.den,← e1,← e2,← f1]
  ·cases h
 ·-- fieldAddr
  rename_i s x f
  split at h
  ·rename_i v fd hx hf
   split at h
   ·rename_i m hs
    obtain ⟨p,u,rfl,hu,hr⟩:=xlQ hH (hρ2 _ _ hx) h
    unfold xwD at hf
    split at hf
    ·rename_i fields hu'
     refine xcN hH hu fun hp=>?_
     obtain ⟨a,h1,h2⟩:=hr hp
     simp [execOp,hop,hρ1 _ _ hx,h1,h2,Instr.fieldAt,run_underlying hu',hf,Instr.sureAddr,fieldPlace,xcm hs]
    ·cases hf
   ·cases h
  ·cases h
 ·-- field
  rename_i s x f
  split at h
  ·rename_i cs fd hx hf
   split at h
   ·rename_i v hv
    cases h
    unfold xwD at hf
    split at hf
    ·rename_i fields hu
     have:=xkK hv E w
     exact xcN hH (xiC hv (hρ2 _ _ hx)) fun _=>by simp [execOp,hop,hρ1 _ _ hx,AV.den,Instr.field,run_underlying hu,hf,asAgg,this]
    ·cases hf
   ·cases h
  ·cases h
 ·-- index
  split at h
  ·rename_i cs k m len el hx hi hu
   split at h
   ·rename_i sz hsz
    split at h
    ·rename_i hb
     split at h
     ·rename_i v hv
      cases h
      exact xcN hH (xiC hv (hρ2 _ _ hx)) fun _=>by simp only [execOp,hop,Instr.index,hρ1 _ _ hx,hρ1 _ _ hi,AV.den,asIntOf,Sem.run_bind,Sem.run_pure,Result.andThen_ok,run_underlying hu,if_pos hb,xcm hsz,xkK hv E]
     ·cases h
    ·cases h
   ·cases h
  ·cases h
 ·-- indexAddr
  split at h
  ·rename_i v m hv hm
   obtain ⟨p,u,rfl,hu,hr⟩:=xq1 hH (hρ2 _ _ hv) h
   exact xcN hH hu fun hp=>by simp [execOp,hop,hρ1 _ _ hv,hρ1 _ _ hm,hr hp]
  ·cases h
 ·-- extract
  split at h
  ·rename_i vs hx
   split at h
   ·rename_i v hv
    cases h
    refine xcN hH ((xe9 _ _).1 (hρ2 _ _ hx) v (List.mem_of_getElem? hv)) fun _=>?_
    simp [execOp,hop,hρ1 _ _ hx,AV.den,Instr.extract,xaJ,hv]
   ·cases h
  ·cases h
 ·-- slice
  rename_i t x lo hi
  split at h
  ·rename_i v lo' hi' hv hlo hhi
   have r1:=xln hρ1 hlo
   have r2:=xln hρ1 hhi
   obtain ⟨p,u,rfl,hu,hr⟩:=xxc hH (hρ2 _ _ hv) h (lov:=lo.map e) (hiv:=hi.map e) r1 r2
   exact xcN hH hu fun hp=>by simp only [execOp,hop,hρ1 _ _ hv,Option.map_none,Sem.run_bind,hr hp,Result.andThen_ok,Sem.run_pure]
  ·cases h
 ·-- s[lo:hi:mx]
  rename_i t x lo hi mx
  split at h
  ·rename_i v hv
   split at h
   ·rename_i hz
    rw [Bool.and_eq_true,Bool.and_eq_true] at hz
    have hlo:lo=none:=by cases lo with
     | none=>rfl
     | some _=>cases hz.1.1
    subst hlo
    cases hhi:hi with
    | none=>rw [hhi] at hz; cases hz.1.2
    | some hx =>
    rw [hhi] at hz
    obtain ⟨k1,e1⟩:=xqy hz.1.2
    obtain ⟨k2,e2⟩:=xqy hz.2
    have e1:ρ hx=_:=e1
    obtain ⟨h1,h2,E',w',hr,he⟩:=xvQ hH h (hiv:=e hx) (mxv:=e mx) ⟨k1,by rw [hρ1 _ _ e1]; rfl⟩ ⟨k2,by rw [hρ1 _ _ e2]; rfl⟩
    refine ⟨h1,fun hp=>⟨E',w',_,?_,.inl rfl,he⟩,by rw [h2]; exact Nat.le_refl _⟩
    simp only [execOp,hop,hρ1 _ _ hv,hhi,Option.map_none,Option.map_some,Sem.run_bind,hr,Result.andThen_ok,Sem.run_pure]
   ·split at h
    ·rename_i lo' hi' mx' hlo hhi hmx
     have r1:=xln hρ1 hlo
     have r2:=xln hρ1 hhi
     obtain ⟨k,hk⟩:=r2
     cases hi with
     | none=>cases hk
     | some hx =>
     have hk:some (e hx)=some (.int k hi'):=hk
     injection hk with hk
     cases hmv:ρ mx with
     | none=>rw [hmv] at hmx; cases hmx
     | some mv =>
     rw [hmv] at hmx
     obtain ⟨k2,hk2⟩:=xri (show intA mv=some mx' from hmx) E
     obtain ⟨h1,h2,h3⟩:=xvO hH h (lov:=lo.map e) r1 (hiv:=e hx) (mxv:=e mx) ⟨k,hk⟩ ⟨k2,by rw [hρ1 _ _ hmv]; exact hk2⟩
     refine ⟨h1,fun hp=>?_,by rw [h2]; exact Nat.le_refl _⟩
     obtain ⟨E',w',hr,he⟩:=h3 hp
     refine ⟨E',w',_,?_,.inl rfl,he⟩
     simp only [execOp,hop,hρ1 _ _ hv,Option.map_some,Sem.run_bind,hr,Result.andThen_ok,Sem.run_pure]
    ·cases h
  ·cases h
 ·-- makeMap
  rename_i t
  split at h
  ·rename_i z' hq
   cases h
   obtain ⟨h1,h2,h3⟩:=xuF hH hq
   refine ⟨h1,fun hp=>?_,h2⟩
   obtain ⟨E',w',hr,he⟩:=h3 hp
   exact ⟨E',w',_,by simp only [execOp,hop,Option.map_none,Sem.run_bind,hr,Result.andThen_ok,Sem.run_pure],.inl rfl,he⟩
  split at h
  ·rename_i z' hq
   cases h
   obtain ⟨h1,h2,h3⟩:=xuH hH hq
   refine ⟨h1,fun hp=>?_,h2⟩
   obtain ⟨E',w',hr,he⟩:=h3 hp
   exact ⟨E',w',_,by simp only [execOp,hop,Option.map_none,Sem.run_bind,hr,Result.andThen_ok,Sem.run_pure],.inl rfl,he⟩
  obtain ⟨h1,h2,h3⟩:=xuG hH h
  refine ⟨h1,fun hp=>?_,h2⟩
  obtain ⟨E',w',hr,he⟩:=h3 hp
  exact ⟨E',w',_,by simp only [execOp,hop,Option.map_none,Sem.run_bind,hr,Result.andThen_ok,Sem.run_pure],.inl rfl,he⟩
 ·-- lookup
  rename_i t x ix ok
  split at h
  ·rename_i v k hv hk
   split at h
   ·rename_i z' hq
    cases h
    obtain ⟨h1,h2,h3⟩:=xwi hH hq
    refine ⟨h1,fun hp=>?_,h2⟩
    obtain ⟨E',hr,he⟩:=h3 hp
    exact ⟨E',w,_,by simp only [execOp,hop,hρ1 _ _ hv,hρ1 _ _ hk,Sem.run_bind,hr,Result.andThen_ok,Sem.run_pure],.inl rfl,he⟩
   split at h
   ·rename_i z' hq
    cases h
    obtain ⟨h1,h2,h3,h4,h5⟩:=xwm hH hq
    obtain ⟨p,rm,nk,add,vv⟩:=z
    simp only [] at h1 h2 h3 h4 h5
    subst h1; subst h2; subst h3
    exact ⟨xjk _ (xeT (fun k hk=>hk.elim) _ h4),fun hp=>⟨E,w,_,by simp only [execOp,hop,hρ1 _ _ hv,hρ1 _ _ hk,Sem.run_bind,h5 hp,Result.andThen_ok,Sem.run_pure],.inl rfl,xjl hH.env _ _⟩,Nat.zero_le _⟩
   obtain ⟨h1,h2,h3,h4,h5⟩:=xwk hH h
   obtain ⟨p,rm,nk,add,vv⟩:=z
   simp only [] at h1 h2 h3 h4 h5
   subst h1; subst h2; subst h3
   exact ⟨xjk _ (xeT (fun k hk=>hk.elim) _ h4),fun hp=>⟨E,w,_,by simp only [execOp,hop,hρ1 _ _ hv,hρ1 _ _ hk,Sem.run_bind,h5 hp,Result.andThen_ok,Sem.run_pure],.inl rfl,xjl hH.env _ _⟩,Nat.zero_le _⟩
  ·cases h
 ·-- insert
  rename_i t x ix y
  split at h
  ·rename_i v k u hv hk hu
   obtain ⟨h1,h2,h3,h4⟩:=xwu hH h
   refine ⟨h1,fun hp=>?_,h2⟩
   obtain ⟨w',hr,he⟩:=h4 hp
   exact ⟨E,w',.skip,by simp only [execOp,hop,hρ1 _ _ hv,hρ1 _ _ hk,hρ1 _ _ hu,Sem.run_bind,hr,Result.andThen_ok,Sem.run_pure],.inr ⟨rfl,by rw [h3]; rfl⟩,he⟩
  ·cases h
 ·-- mapUpdate
  rename_i t x ix y
  split at h
  ·rename_i v k u hv hk hu
   split at h
   ·rename_i z' hq
    cases h
    obtain ⟨h1,h2,h3,h4⟩:=xqV hH hq
    refine ⟨h1,fun hp=>?_,h2⟩
    obtain ⟨w',hr,he⟩:=h4 hp
    exact ⟨E,w',.skip,by simp only [execOp,hop,hρ1 _ _ hv,hρ1 _ _ hk,hρ1 _ _ hu,Sem.run_bind,hr,Result.andThen_ok,Sem.run_pure],.inr ⟨rfl,by rw [h3]; rfl⟩,he⟩
   obtain ⟨h1,h2,h3,h4⟩:=xqX hH h
   refine ⟨h1,fun hp=>?_,h2⟩
   obtain ⟨w',hr,he⟩:=h4 hp
   exact ⟨E,w',.skip,by simp only [execOp,hop,hρ1 _ _ hv,hρ1 _ _ hk,hρ1 _ _ hu,Sem.run_bind,hr,Result.andThen_ok,Sem.run_pure],.inr ⟨rfl,by rw [h3]; rfl⟩,he⟩
  ·cases h
 ·-- builtins
  rename_i b args argTypes
  split at h
  ·rename_i vs hvs
   have e1:=xe0 hρ1 _ _ hvs
   have e2:(args.map e).toList=AV.denL E vs:=by rw [Array.toList_map]; exact e1
   have hvl:=hρL _ _ hvs
   split at h
   ·-- min
    split at h
    ·rename_i k a r
     split at h
     ·rename_i v hv
      cases h
      obtain ⟨m,rfl⟩:=xBL hv
      have:=xwa (P:=P) (E:=E) (f:=Builtin.min2) (fun k a b=>rfl) k r a _ hv w
      exact xcN hH trivial fun _=>by simp only [execOp,hop,resolve,Sem.run_bind,Sem.run_pure,Result.andThen_ok,invoke,builtin,Builtin.min_,e2,AV.denL,AV.den,this]
     ·cases h
    ·cases h
   ·-- max
    split at h
    ·rename_i k a r
     split at h
     ·rename_i v hv
      cases h
      obtain ⟨m,rfl⟩:=xBL hv
      have:=xwa (P:=P) (E:=E) (f:=Builtin.max2) (fun k a b=>rfl) k r a _ hv w
      exact xcN hH trivial fun _=>by simp only [execOp,hop,resolve,Sem.run_bind,Sem.run_pure,Result.andThen_ok,invoke,builtin,Builtin.max_,e2,AV.denL,AV.den,this]
     ·cases h
    ·cases h
   ·-- len
    split at h
    ·rename_i x
     cases hat:argTypes[0]? with
     | none=>rw [hat] at h; simp only [Option.bind_none] at h; unfold lenA at h; cases h
     | some t =>
      rw [hat] at h
      obtain ⟨u,rfl,hu,hr⟩:=xAD (ty:=o.type) hH h
      refine xcN hH hu fun _=>?_
      have e3:args.map e=#[x.den E]:=by apply Array.ext'; rw [e2]; rfl
      have hr':(Builtin.len_ argTypes o.type #[x.den E]).run P w=.ok (u.den E) w:=by
       rw [← hr]
       unfold Builtin.len_
       simp [hat]
      simp only [execOp,hop,resolve,Sem.run_bind,Sem.run_pure,Result.andThen_ok,invoke,builtin,e3,hr']
    ·cases h
   ·-- append
    split at h
    ·rename_i s x t t' hts
     split at h
     ·rename_i htt
      subst htt
      have e3:args.map e=#[s.den E,x.den E]:=by apply Array.ext'; rw [e2]; rfl
      have e4:argTypes=#[t,t]:=by apply Array.ext'; exact hts
      split at h
      ·obtain ⟨h1,h2,h3⟩:=xt6 (ty:=o.type) hH hvl.1 h
       refine ⟨h1,fun hp=>?_,by rw [h2]; exact Nat.zero_le _⟩
       obtain ⟨w',hr,he⟩:=h3 hp
       exact ⟨E,w',.value (z.v.den E),by simp only [execOp,hop,resolve,Sem.run_bind,Sem.run_pure,Result.andThen_ok,invoke,builtin,e3,e4,hr],.inl rfl,he⟩
      ·split at h
       ·rename_i y hy
        cases h
        obtain ⟨h1,h2,h3⟩:=xuU (ty:=o.type) hH hy
        refine ⟨h1,fun hp=>?_,Nat.le_of_eq h2⟩
        obtain ⟨E',w',hr,he⟩:=h3 hp
        exact ⟨E',w',.value (z.v.den E'),by simp only [execOp,hop,resolve,Sem.run_bind,Sem.run_pure,Result.andThen_ok,invoke,builtin,e3,e4,hr],.inl rfl,he⟩
       obtain ⟨h1,h2,h3⟩:=xt8 (ty:=o.type) hH (hfr (by rw [xyq h]; exact Nat.one_ne_zero)) h
       refine ⟨h1,fun hp=>?_,h2⟩
       obtain ⟨E',w',hr,he⟩:=h3 hp
       exact ⟨E',w',.value (z.v.den E'),by simp only [execOp,hop,resolve,Sem.run_bind,Sem.run_pure,Result.andThen_ok,invoke,builtin,e3,e4,hr],.inl rfl,he⟩
     ·cases h
    ·cases h
   ·-- delete
    split at h
    ·rename_i x k t ts hts
     have hat:argTypes[0]?=some t:=by rw [← Array.getElem?_toList,hts]; rfl
     obtain ⟨h1,h2,h3,h4⟩:=xwO (ty:=o.type) hH hat h
     have e3:args.map e=#[x.den E,k.den E]:=by apply Array.ext'; rw [e2]; rfl
     refine ⟨h1,fun hp=>?_,h2⟩
     obtain ⟨w',hr,he⟩:=h4 hp
     exact ⟨E,w',.value (z.v.den E),by rw [h3]; simp only [execOp,hop,resolve,Sem.run_bind,Sem.run_pure,Result.andThen_ok,invoke,builtin,e3,hr]; rfl,.inl rfl,he⟩
    ·cases h
   ·-- clear
    split at h
    ·rename_i x t hts
     obtain ⟨h1,h2,h3,h4⟩:=xyj (ty:=o.type) hH h
     have e3:args.map e=#[x.den E]:=by apply Array.ext'; rw [e2]; rfl
     have e4:argTypes=#[t]:=by apply Array.ext'; exact hts
     refine ⟨h1,fun hp=>?_,by rw [h2]; exact Nat.zero_le _⟩
     obtain ⟨w',hr,he⟩:=h4 hp
     exact ⟨E,w',.value (z.v.den E),by rw [h3]; simp only [execOp,hop,resolve,Sem.run_bind,Sem.run_pure,Result.andThen_ok,invoke,builtin,e3,e4,hr]; rfl,.inl rfl,he⟩
    ·cases h
   ·cases h
  ·cases h
 ·cases h
end
end Go.Sy
set_option linter.unusedVariables false
namespace Go.Sy
noncomputable section
inductive Slot where
 | is (v:AV)
 | when (g:Nat) (want:Bool) (v:AV)
 | junk
abbrev xa4:=Nat→Slot
def upd {α:Type} (s:Nat→α) (d:Nat) (v:α):Nat→α:=fun t=>match Nat.beq t d with | true=>v | false=>s t
def put (s:xa4) (d:Option Nat) (v:Slot):xa4:=match d with | some d=>upd s d v | none=>s
abbrev Ctx:=List (Nat×Bool×Bool)
def readS (ctx:Ctx) (s:xa4):Operand→Option AV
 | .tmp t=>match s t with
  | .is v=>some v
  | .when g want v=>if ctx.any (fun c=>Nat.beq c.1 g&&(c.2.1==want)) then some v else none
  | .junk=>none
 | .const v=>some (ofValue v)
 | .global g=>some (.val (.pointer (some ⟨g,0,none⟩)))
 | .func f=>some (.fn (.func f) [] [])
def xfM (ctx:Ctx) (s:xa4) (c:Operand) (side:Bool):Operand→Option AV
 | .tmp t=>match s t with
  | .is v=>some v
  | .when g want v=>if ctx.any (fun c=>Nat.beq c.1 g&&(c.2.1==want)) then some v else match c with
   | .tmp g'=>if Nat.beq g g'&&(want==side) then some v else none
   | _=>none
  | .junk=>none
 | x=>readS ctx s x
def xAG (b:Bool):Operand→Bool
 | .const (.bool b')=>b'==b
 | _=>false
def xzl:AV→Option AV
 | .bool b=>some (.bool b)
 | .val (.bool b)=>some (.val (.bool b))
 | _=>none
def litV (b:Bool):Option AV→Bool
 | some (.val (.bool b'))=>b'==b
 | _=>false
def xBm (ctx:Ctx) (s:xa4) (c a b:Operand):Option Bool :=
 match readS ctx s c with
 | some (.bool _)=>if xAG false b&&litV false (xfM ctx s c true a) then some false else if xAG true a&&litV true (xfM ctx s c false b) then some true else none
 | _=>none
def xxq (ctx:Ctx) (s:xa4) (c a b:Operand):Option AV :=
 match readS ctx s c with
 | some (.val (.bool k))=>(match k with | true=>(xfM ctx s c true a).bind xzl | false=>(xfM ctx s c false b).bind xzl)
 | some (.bool cb)=>match (xfM ctx s c true a).map AV.weak,(xfM ctx s c false b).map AV.weak with
  | some (.bool x),some (.bool y) =>
   if xAG true a then some (.bool (cb||y)) else if xAG false b then some (.bool (cb&&x)) else some (.bool (bif cb then x else y))
  | _,_=>none
 | _=>none
def xv8 (ctx:Ctx) (s:xa4) (c a b:Operand):Option AV :=
 match xBm ctx s c a b with
 | some v=>some (.val (.bool v))
 | none=>xxq ctx s c a b
def xob (ops:Array Oper) (o:Oper):Option (Option (Nat×Bool)) :=
 match o.guard with
 | none=>some none
 | some (j,want)=>match ops[j]? with
  | some oj=>match oj.dst with
   | some d=>some (some (d,want))
   | none=>none
  | none=>none
def Heap.eff (H:Heap) (x:Eff):Heap:=⟨xfu x H.objs,H.next+x.nk⟩
abbrev RCfg:=xa4×Heap
def xbw (s:xa4):Nat→Nat→Bool→Option Ctx
 | 0,_,_=>none
 | n+1,g,want=>match s g with
  | .is v=>match v.weak with
   | .bool b=>some [(g,want,b)]
   | _=>none
  | .when g1 w1 v=>match v.weak with
   | .bool b=>(xbw s n g1 w1).map ((g,want,b)::·)
   | _=>none
  | .junk=>none
def xk1 (s:xa4) (g:Nat) (want:Bool):Option Bool :=
 match s g with
 | .is (.val (.bool b))=>some (b==want)
 | .is (.val _)=>some false
 | _=>none
def xGg:Ctx→Bool
 | []=>true
 | [(_,want,b)]=>b==want
 | (_,want,b)::r=>(b==want)&&xGg r
def xyh:Ctx→Prop→Prop
 | [],p=>p
 | (_,want,b)::r,p=>xyh r (b=want→p)
def xkF (ctx:Ctx) (v:AV):Slot:=match ctx with | []=>.is v | (g,want,_)::_=>.when g want v
def xxy {α:Type} (ctx:Ctx) (p:Option Prop) (t:Tree α):Tree α:=match p with | none=>t | some p=>.need (xyh ctx p) t
def xr2 (g:Nat) (v:Bool) (s:xa4):xa4 :=
 upd (fun t=>match s t with
  | .when g' w x=>if Nat.beq g' g then (match w==v with | true=>.is x | false=>.is (.val undef)) else .when g' w x
  | y=>y) g (.is (.val (.bool v)))
def brG:Ctx→xa4→(xa4→Tree RCfg)→(xa4→Tree RCfg)→Tree RCfg
 | [],s,t,_=>t s
 | (g,want,b)::rest,s,t,e=>.br (b==want) (brG rest (xr2 g want s) t e) (e (xr2 g (!want) s))
def xt5 (s:xa4) (H:Heap) (dst:Option Nat) (ctx:Ctx) (x:Eff):Tree RCfg :=
 if x.pure then xxy ctx x.p (.ret (put s dst (xkF ctx x.v),H))
 else match ctx with
  | []=>xxy [] x.p (.ret (put s dst (.is x.v),H.eff x))
  | c::r=>brG (c::r).reverse s (fun s=>xxy [] x.p (.ret (put s dst (.is x.v),H.eff x))) (fun s=>.ret (put s dst (.is (.val undef)),H))
def xwx (k:Nat):List (Option Nat)→Nat→Option Nat
 | [],_=>none
 | some k'::r,i=>if Nat.beq k k' then some i else xwx k r (i+1)
 | none::r,i=>xwx k r (i+1)
mutual
/-- The slices of a result that are new, under the names K, K+1 .. -/
def xnq (K:Nat):AV→List (Option Nat)→Option (AV×List (Option Nat))
 | .sl k,acc=>if Nat.blt k K then some (.sl k,acc) else match xwx k acc 0 with
  | some i=>some (.sl (K+i),acc)
  | none=>some (.sl (K+acc.length),acc++[some k])
 | .val (.slice none 0 0),acc=>some (.sl (K+acc.length),acc++[none])
 | .ptr k off,acc=>if Nat.blt k K then some (.ptr k off,acc) else none
 | .yl k,acc=>if Nat.blt k K then some (.yl k,acc) else none
 | .fn _ _ _,_=>none
 | .ifc t v,acc=>match xnq K v acc with | some (v',acc')=>some (.ifc t v',acc') | none=>none
 | .ix _ _ _ _ _,_=>none
 | .vw k sz lo hi,acc=>if Nat.blt k K then some (.vw k sz lo hi,acc) else none
 | .agg cs,acc=>match xBC K cs acc with | some (cs',acc')=>some (.agg cs',acc') | none=>none
 | .tup cs,acc=>match xBC K cs acc with | some (cs',acc')=>some (.tup cs',acc') | none=>none
 | v,acc=>some (v,acc)
def xBC (K:Nat):List AV→List (Option Nat)→Option (List AV×List (Option Nat))
 | [],acc=>some ([],acc)
 | a::r,acc=>match xnq K a acc with
  | some (a',acc')=>match xBC K r acc' with
   | some (r',acc'')=>some (a'::r',acc'')
   | none=>none
  | none=>none
end
def xjZ (P:Program) (K:Nat) (objs:List Obj):Nat→List (Option Nat)→Option (List Obj)
 | _,[]=>some []
 | i,none::r=>(xjZ P K objs (i+1) r).map (⟨K+i,K,true,.nil⟩::·)
 | i,some k::r=>match xap k objs with
  | some ⟨_,_,true,b⟩=>match b with
   | .nil=>(xjZ P K objs (i+1) r).map (⟨K+i,K,true,.nil⟩::·)
   | .nst e ks l=>(xjZ P K objs (i+1) r).map (⟨K+i,K,true,.nst e ks l⟩::·)
   | .mf kt et q l=>(xjZ P K objs (i+1) r).map (⟨K+i,K,true,.mf kt et q l⟩::·)
   | b=>match xes P b with
    | some (e,ks,l)=>(xjZ P K objs (i+1) r).map (⟨K+i,K,true,.row e ks l⟩::·)
    | none=>none
  | some ⟨_,_,false,.sub e ks l⟩=>(xjZ P K objs (i+1) r).map (⟨K+i,K,false,.sub e ks l⟩::·)
  | _=>none
def pack (P:Program) (K:Nat) (y:AV×Heap):Option Eff :=
 match xnq K y.1 [] with
 | some (v,acc)=>(xjZ P K y.2.objs 0 acc).map fun add=>⟨none,[],acc.length,add,v⟩
 | none=>none
mutual
def xoT (b:Bool):AV→AV→Option AV
 | .bool x,.bool y=>some (.bool (bif b then x else y))
 | .int k x,.int k' y=>if k=k' then some (.int k (bif b then x else y)) else none
 | .agg xs,.agg ys=>(xqu b xs ys).map .agg
 | .tup xs,.tup ys=>(xqu b xs ys).map .tup
 | .sl x,.sl y=>if x=y then some (.sl x) else none
 | _,_=>none
def xqu (b:Bool):List AV→List AV→Option (List AV)
 | [],[]=>some []
 | x::xs,y::ys=>match xoT b x y,xqu b xs ys with
  | some z,some zs=>some (z::zs)
  | _,_=>none
 | _,_=>none
end
def xBS (b:Bool):Body→Body→Option Body
 | .nil,.nil=>some .nil
 | .nil,.row e ks l=>some (.row e ks (bif b then [] else l))
 | .row e ks l,.nil=>some (.row e ks (bif b then l else []))
 | .row e ks l,.row e' ks' l'=>if e=e'∧ks=ks' then some (.row e ks (bif b then l else l')) else none
 | .nil,.nst e ks l=>some (.nst e ks (bif b then [] else l))
 | .nst e ks l,.nil=>some (.nst e ks (bif b then l else []))
 | .nst e ks l,.nst e' ks' l'=>if e=e'∧ks=ks' then some (.nst e ks (bif b then l else l')) else none
 | _,_=>none
def xBP (b:Bool):Body→Body→Option Body
 | .sub e ks l,.sub e' ks' l'=>if e=e'∧ks=ks' then some (.sub e ks (bif b then l else l')) else none
 | .sub e ks l,.row e' ks' l'=>if e=e'∧ks=ks' then some (.sub e ks (bif b then l else l')) else none
 | .row e ks l,.sub e' ks' l'=>if e=e'∧ks=ks' then some (.sub e ks (bif b then l else l')) else none
 | .sub e ks l,.nil=>some (.sub e ks (bif b then l else []))
 | .nil,.sub e ks l=>some (.sub e ks (bif b then [] else l))
 | _,_=>none
def xvf (b:Bool):List Obj→List Obj→Option (List Obj)
 | [],[]=>some []
 | ⟨k,v,o,x⟩::xs,⟨k',_,o',y⟩::ys=>if k=k' then (match (match o&&o' with | true=>(xBS b x y).map fun z=>(true,z) | false=>(xBP b x y).map fun z=>(false,z)),xvf b xs ys with
  | some z,some zs=>some (⟨k,v,z.1,z.2⟩::zs)
  | _,_=>none) else none
 | _,_=>none
def xzN (b:Bool):Option Prop→Option Prop→Option Prop
 | none,none=>none
 | some p,none=>some (b=true→p)
 | none,some q=>some (b=false→q)
 | some p,some q=>some ((b=true→p)∧(b=false→q))
def xBQ (b:Bool) (x y:Eff):Option Eff :=
 match xoT b x.v.weak y.v.weak,xvf b x.add y.add with
 | some v,some add=>if x.rm.isEmpty&&y.rm.isEmpty&&Nat.beq x.nk y.nk then some ⟨xzN b x.p y.p,[],x.nk,add,v⟩ else none
 | _,_=>none
def andP (p:Prop):Option Prop→Option Prop
 | none=>some p
 | some q=>some (p∧q)
def xEk:Body→Body→Option Prop
 | .nil,.nil=>some True
 | .nil,.row _ _ l=>some (l=[])
 | .row e ks l,.row e' ks' l'=>if e=e'∧ks=ks' then some (l=l') else none
 | .nil,.nst _ _ l=>some (l=[])
 | .nst e ks l,.nst e' ks' l'=>if e=e'∧ks=ks' then some (l=l') else none
 | .sub e ks l,.sub e' ks' l'=>if e=e'∧ks=ks' then some (l=l') else none
 | _,_=>none
def xAr:List Obj→List Obj→Option Prop
 | [],[]=>some True
 | ⟨k,_,o,x⟩::xs,⟨k',_,o',y⟩::ys=>if k=k'∧o=o' then (match xEk x y,xAr xs ys with
  | some p,some q=>some (p∧q)
  | _,_=>none) else none
 | _,_=>none
def xEj:AV→AV→Bool
 | .sl a,.sl b=>Nat.beq a b
 | _,_=>false
def askE (p:Prop) (x y:Eff):Option Eff :=
 match xAr x.add y.add with
 | some q=>if xEj x.v y.v&&Nat.beq x.nk y.nk then some { y with p:=andP (p→xjG x.p∧q) y.p } else none
 | none=>none
def dead {α:Type}:Tree α→Bool
 | .bad=>false
 | .br _ t e=>dead t&&dead e
 | .need _ t=>dead t
 | .ask _ .bad .bad=>true
 | .ask _ t e=>dead t&&dead e
 | .ret _=>false
def xai (P:Program) (K:Nat):Tree (AV×Heap)→Option Eff
 | .ret y=>pack P K y
 | .br b t e=>match xai P K t,xai P K e with
  | some x,some y=>xBQ b x y
  | some x,none=>if dead e then some { x with p:=andP (b=true) x.p } else none
  | none,some y=>if dead t then some { y with p:=andP (b=false) y.p } else none
  | none,none=>none
 | .need p t=>(xai P K t).map fun x=>{ x with p:=andP p x.p }
 | .ask p t e=>match xai P K t,xai P K e with
  | some x,some y=>askE p x y
  | _,_=>none
 | .bad=>none
def xtW (P:Program):Nat→TypeId→List TypeId
 | 0,t=>[t]
 | n+1,t=>match P.underlying t with
  | some (.struct fs)=>fs.toList.flatMap fun f=>xtW P n f.type
  | some (.array m e)=>(List.replicate m (xtW P n e)).flatten
  | _=>[t]
structure xeU where
 key:Option Nat
 own:Bool
 body:Body
def xmN (k:Nat):List xeU→Nat→Option Nat
 | [],_=>none
 | x::r,i=>match x.key with
  | some k'=>if Nat.beq k k' then some i else xmN k r (i+1)
  | none=>xmN k r (i+1)
def xgp (P:Program) (t:Option TypeId):Body :=
 match t.bind P.underlying with
 | some (.slice e)=>match xq0 P 9 e with
  | some (k::ks)=>.row e (k::ks) []
  | _=>.nil
 | _=>.nil
def canK (P:Program) (objs:List Obj) (t:Option TypeId) (k:Nat) (acc:List xeU):Option (Nat×List xeU) :=
 match xmN k acc 0 with
 | some i=>some (i,acc)
 | none=>match xap k objs with
  | some o=>some (acc.length,acc++[⟨some k,o.own,match o.body with | .nil=>xgp P t | b=>b⟩])
  | none=>none
mutual
def canV (P:Program) (objs:List Obj) (ts:Option TypeId):AV→List xeU→Option (AV×List xeU)
 | .sl k,acc=>match canK P objs ts k acc with | some (i,acc')=>some (.sl i,acc') | none=>none
 | .ptr k off,acc=>match canK P objs none k acc with | some (i,acc')=>some (.ptr i off,acc') | none=>none
 | .val (.slice none 0 0),acc=>match ts.bind P.underlying with
  | some (.slice _)=>some (.sl acc.length,acc++[⟨none,true,xgp P ts⟩])
  | _=>some (.val (.slice none 0 0),acc)
 | .fn f first caps,acc=>match canL P objs [] first acc with
  | some (first',acc')=>match canL P objs [] caps acc' with
   | some (caps',acc'')=>some (.fn f first' caps',acc'')
   | none=>none
  | none=>none
 | .agg cs,acc=>match canL P objs (match ts with | some t=>xtW P 9 t | none=>[]) cs acc with
  | some (cs',acc')=>some (.agg cs',acc')
  | none=>none
 | .tup cs,acc=>match canL P objs [] cs acc with
  | some (cs',acc')=>some (.tup cs',acc')
  | none=>none
 | .yl _,_=>none
 | .ix _ _ _ _ _,_=>none
 | .vw _ _ _ _,_=>none
 | .ifc _ _,_=>none
 | v,acc=>some (v,acc)
def canL (P:Program) (objs:List Obj):List TypeId→List AV→List xeU→Option (List AV×List xeU)
 | _,[],acc=>some ([],acc)
 | ts,a::r,acc=>match canV P objs ts.head? a acc with
  | some (a',acc')=>match canL P objs ts.tail r acc' with
   | some (r',acc'')=>some (a'::r',acc'')
   | none=>none
  | none=>none
end
def xbt:Body→Bool
 | .row _ _ _=>true
 | .mf _ _ _ _=>true
 | .nst _ _ _=>true
 | .sub _ _ _=>true
 | .mq _ _ _ _ _=>true
 | .nil=>true
 | _=>false
def xtY:Nat→List xeU→Option (List Obj)
 | _,[]=>some []
 | i,x::r=>match x.body with
  | .loop ..=>none
  | b=>(xtY (i+1) r).map (⟨i,0,x.own,b⟩::·)
def xfT (P:Program):List xeU→Option (List xeU)
 | []=>some []
 | x::r=>match x.body with
  | .row _ _ _ | .nil | .nst _ _ _ | .mq _ _ _ _ _=>(xfT P r).map (x::·)
  | .sub e ks l=>(xfT P r).map ({ x with body:=.row e ks l }::·)
  | .arr e sz els=>match xes P (.arr e sz els) with
   | some (e,ks,l)=>(xfT P r).map ({ x with body:=.row e ks l }::·)
   | none=>none
  | _=>none
abbrev xhh:=FuncId→List AV→Heap→Tree (AV×Heap)
abbrev Con:=FuncId→List AV→List Obj→Option Eff
def xlX (K:Nat) (es:List xeU) (i:Nat):Nat :=
 match es[i]? with
 | some ⟨some k,_,_⟩=>k
 | some ⟨none,_,_⟩=>0
 | none=>K+(i-es.length)
def xz7 (K:Nat) (es:List xeU) (x:Eff):Option Eff :=
 if x.rm.isEmpty&&x.add.all (fun o=>Nat.ble es.length o.key&&xbt o.body)&&(AV.keys x.v).all (fun i=>match es[i]? with | some ⟨none,_,_⟩=>false | _=>true) then
  some ⟨x.p,[],x.nk,x.add.map fun o=>⟨xlX K es o.key,K,o.own,o.body⟩,x.v.ren (xlX K es)⟩
 else none
section exec
variable (P:Program) (Γ:Con) (call:xhh) (yld:Nat→List AV→Heap→Tree (AV×Heap))
def xDg (f:FuncId):List TypeId:=match P.funcs[f]? with | some fn=>fn.params.toList | none=>[]
def xEw (f:FuncId) (args:List AV):Bool :=
 args.any (fun a=>match a with | .val (.slice none 0 0)=>true | _=>false)&&(AV.keysL args).isEmpty&&(Γ f (AV.weakL args) []).isSome
def xyo (f:FuncId) (args:List AV) (objs:List Obj) (K:Nat):Option (List Nat×Eff) :=
 match canL P objs (match xEw Γ f args with | true=>[] | false=>xDg P f) args [] with
 | some (args',es0)=>match xfT P es0 with
  | some es=>match xtY 0 es with
   | some objs'=>match Γ f (AV.weakL args') objs' with
    | some x=>match xz7 K es x with
     | some y=>some (es.filterMap (·.key),y)
     | none=>none
    | none=>none
   | none=>none
  | none=>none
 | none=>none
def xnw (objs:List Obj):Nat→List AV→Option (List AV×List Obj×List Nat×Option Prop)
 | _,[]=>some ([],[],[],none)
 | K,a::r=>match isVw a with
  | true=>match srcA P objs a,xnw objs (K+1) r with
   | some (k,b,p),some (r',add,ft,q)=>some (.sl K::r',⟨K,0,false,b⟩::add,k::ft,xuR p q)
   | _,_=>none
  | false=>match xnw objs K r with
   | some (r',add,ft,q)=>some (a::r',add,ft,q)
   | none=>none
def xwT (f:FuncId) (args:List AV) (objs:List Obj) (K:Nat):Option (List Nat×Eff) :=
 match args.any isVw with
 | false=>xyo P Γ f args objs K
 | true=>match xnw P objs K args with
  | some (args',add,ft,p)=>match xyo P Γ f args' (add++objs.filter fun o=>Nat.blt o.key K) (K+add.length) with
   | some (ft',x)=>some (ft++ft'.filter fun k=>Nat.blt k K,{ x with p:=xuR p x.p,nk:=match Nat.beq x.nk 0&&x.add.isEmpty&&(AV.keys x.v).all (fun k=>Nat.blt k K) with | true=>0 | false=>add.length+x.nk })
   | none=>none
  | none=>none
def frozen (l:List Obj):List Obj:=l.map fun o=>{ o with own:=false,body:=xAh o.body }
def xqb {α:Type} (p:α→Bool):Tree α→Bool
 | .ret a=>p a
 | .br _ t e=>xqb p t||xqb p e
 | .need _ t=>xqb p t
 | .ask _ t e=>xqb p t||xqb p e
 | .bad=>false
def xBD (args:List AV) (objs:List Obj):List Obj:=objs.filter fun o=>o.own&&(AV.keysL args).any (Nat.beq o.key)
def xFe (own:List Obj) (t:Tree (AV×Heap)):Bool:=xqb (fun x=>own.any fun o=>!(x.2.objs.any fun o'=>Nat.beq o'.key o.key&&Nat.beq o'.ver o.ver)) t
def xDy (f:FuncId) (args:List AV) (objs:List Obj) (K:Nat):Option Eff :=
 match xwT P Γ f args objs K with
 | some (_,x)=>some x
 | none=>match !(xBD args objs).isEmpty&&xFe (xBD args objs) (call f args ⟨objs,K⟩) with
  | true=>none
  | false=>xai P K (call f args ⟨frozen objs,K⟩)
def isYl:AV→Bool
 | .yl _=>true
 | _=>false
def xGi (f:FuncId) (args:List AV) (objs:List Obj) (K:Nat):Option Eff:=match args.any isYl with | true=>none | false=>xDy P Γ call f args objs K
def xEX (f:FuncId) (args:List AV) (objs:List Obj) (K:Nat):Option Eff :=
 match args with
 | .sl key::rest=>match AV.keysL rest with
  | []=>match xap key objs with
   | some ⟨_,_,true,b⟩=>match xes P b with
    | some (e,ks,l)=>match Γ f (.sl 0::AV.weakL rest) [⟨0,0,true,.row e ks l⟩] with
     | some x=>match x.rm,x.add with
      | [_],[⟨_,_,_,.row e' ks' l'⟩]=>some ⟨x.p,[key],0,[⟨key,K,true,.row e' ks' l'⟩],x.v.ren fun _=>key⟩
      | _,_=>none
     | none=>none
    | none=>none
   | _=>none
  | _=>none
 | _=>none
def xDU:Option AV→Bool
 | some (.val (.slice none 0 0))=>true
 | _=>false
def xBH (rd:Operand→Option AV) (objs:List Obj) (op:BinOp) (t:TypeId) (x y:Operand):Option (Prop×Bool) :=
 match (match op with | .eql=>some true | .neq=>some false | _=>none),P.underlying t with
 | some b,some (.slice _)=>if xDU (rd y) then (match rd x with
  | some (.sl key)=>match xap key objs with
   | some o=>match xes P o.body with
    | some (_,_::_,l)=>some (l=[],b)
    | _=>none
   | none=>none
  | _=>none) else none
 | _,_=>none
def xuq (o:Oper) (s:xa4) (H:Heap) (ctx:Ctx):Tree RCfg :=
 let rd:=readS ctx s
 match o.op with
 | .pick c a b=>match xv8 ctx s c a b with
  | some v=>.ret (put s o.dst (xkF ctx v),H)
  | none=>.bad
 | .call { callee:=.value f,args,.. }=>match rd f,xlY rd args.toList with
  | some (.fn (.func fi) first caps),some vs =>
   match xEX P Γ fi (first++vs++caps) H.objs H.next with
   | some x=>xt5 s H o.dst ctx x
   | none=>match xGi P Γ call fi (first++vs++caps) H.objs H.next with
   | some x=>xt5 s H o.dst ctx x
   | none=>match ctx with
    | []=>(call fi (first++vs++caps) H).bind fun (v,H')=>.ret (put s o.dst (.is v),H')
    | c::r=>brG (c::r).reverse s (fun s=>(call fi (first++vs++caps) H).bind fun (v,H')=>.ret (put s o.dst (.is v),H')) (fun s=>.ret (put s o.dst (.is (.val undef)),H))
  | some (.yl key),some vs =>
   match ctx with
   | []=>(yld key vs H).bind fun (v,H')=>.ret (put s o.dst (.is v),H')
   | c::r=>brG (c::r).reverse s (fun s=>(yld key vs H).bind fun (v,H')=>.ret (put s o.dst (.is v),H')) (fun s=>.ret (put s o.dst (.is (.val undef)),H))
  | _,_=>.bad
 | op=>match xm2 P rd H.objs H.next op with
  | some x=>xt5 s H o.dst ctx x
  | none=>match op with
   | .binOp bo t x y _=>match xBH P rd H.objs bo t x y with
    | some (p,v)=>.ask p (.ret (put s o.dst (xkF ctx (.val (.bool v))),H)) (.ret (put s o.dst (xkF ctx (.val (.bool !v))),H))
    | none=>.bad
   | _=>.bad
def xfs (N:Nat) (d:Option Nat) (seen:List Nat):Option (List Nat) :=
 match d with
 | none=>some seen
 | some d=>if Nat.blt d N&&!(seen.any (Nat.beq d)) then some (d::seen) else none
def xiM (N:Nat) (ops:Array Oper):List Oper→List Nat→xa4→Heap→Tree RCfg
 | [],_,s,H=>.ret (s,H)
 | o::rest,seen,s,H =>
  match xfs N o.dst seen with
  | none=>.bad
  | some seen' =>
   match xob ops o with
   | some none=>(xuq P Γ call yld o s H []).bind fun (s',H')=>xiM N ops rest seen' s' H'
   | some (some (g,want)) =>
    if seen.any (Nat.beq g) then
     match xk1 s g want with
     | some true=>(xuq P Γ call yld o s H []).bind fun (s',H')=>xiM N ops rest seen' s' H'
     | some false=>xiM N ops rest seen' (put s o.dst (.is (.val undef))) H
     | none=>match xbw s 9 g want with
      | some ctx=>(xuq P Γ call yld o s H ctx).bind fun (s',H')=>xiM N ops rest seen' s' H'
      | none=>.bad
    else .bad
   | none=>.bad
structure Item where
 o:Oper
 ctx:Ctx
 x:Eff
 key:Nat
 /-- it reads whatever was there when the region began -/
 all:Bool
 /-- it reads these objects -/
 foot:List Nat
 /-- its guard surely holds -/
 sure:Bool:=false
def Item.slot (it:Item):Slot:=if it.x.pure then xkF it.ctx it.x.v else .is it.x.v
def Item.touch (it:Item) (key:Nat):Bool:=it.x.rm.any (Nat.beq key)||(Nat.ble it.key key&&Nat.blt key (it.key+it.x.nk))
def Item.need (it:Item):Option Prop:=it.x.p.map (xyh it.ctx)
def xyN:Body→Bool
 | .loop ..=>false
 | _=>true
def Item.fine (it:Item):Bool :=
 (it.x.pure||it.ctx.isEmpty||it.sure)&&it.x.rm.all (fun k=>Nat.blt k it.key) &&
 it.x.add.all (fun o=>it.touch o.key&&Nat.ble it.key o.ver&&xyN o.body&&(AV.keysL o.body.cellsOf).all fun k=>Nat.blt k (it.key+it.x.nk)) &&
 (AV.keys it.x.v).all (fun k=>Nat.blt k (it.key+it.x.nk))
def keyOf:Option AV→List Nat
 | some (.ptr key _)=>[key]
 | some (.ix key _ _ _ _)=>[key]
 | some (.sl key)=>[key]
 | some (.vw key _ _ _)=>[key]
 | _=>[]
def xvi:Option AV→List Nat
 | some v=>AV.keysL v.cells
 | none=>[]
def xoY (rd:Operand→Option AV):Op→List Nat
 | .load _ x=>keyOf (rd x)
 | .store _ x _=>keyOf (rd x)
 | .indexAddr _ x _=>keyOf (rd x)
 | .fieldAddr _ x _=>keyOf (rd x)
 | .slice _ x _ _ _=>keyOf (rd x)
 | .lookup _ x _ _=>keyOf (rd x)
 | .mapUpdate _ x _ y=>keyOf (rd x)++xvi (rd y)
 | .insert _ x _ _=>keyOf (rd x)
 | .call { args,.. }=>args.toList.flatMap fun x=>keyOf (rd x)
 | .buildSlice _ _ parts=>parts.toList.flatMap fun p=>xvi (rd p.2)
 | _=>[]
def fsE (args:List AV) (objs:List Obj) (K:Nat) (n:Int):List (Int×FuncId)→Option Eff
 | []=>none
 | (k,g)::r=>match xwT P Γ g args objs K with
  | some ([],⟨p,[],0,[],v⟩)=>(match r with
   | []=>some ⟨andP (n=k) p,[],0,[],v⟩
   | _=>match fsE args objs K n r with
    | some ⟨q,[],0,[],u⟩=>(match xoT (decide (n=k)) v.weak u.weak with
     | some z=>some ⟨xzN (decide (n=k)) p q,[],0,[],z⟩
     | none=>none)
    | _=>none)
  | _=>none
def xw6 (o:Oper) (s:xa4) (objs0:List Obj) (H:Heap) (ctx:Ctx):Option Item :=
 let rd:=readS ctx s
 match o.op with
 | .pick c a b=>match xv8 ctx s c a b with
  | some v=>some ⟨o,ctx,⟨none,[],0,[],v⟩,H.next,false,[],false⟩
  | none=>none
 | .call { callee:=.value f,args,.. }=>match rd f,xlY rd args.toList with
  | some (.fn (.func fi) first caps),some vs =>
   match xwT P Γ fi (first++vs++caps) H.objs H.next with
   | some (ft,x)=>some ⟨o,ctx,x,H.next,false,ft,false⟩
   | none=>match xai P H.next (call fi (first++vs++caps) ⟨frozen objs0,H.next⟩) with
    | some x=>some ⟨o,ctx,x,H.next,true,[],false⟩
    | none=>none
  | some (.fs n ents),some vs=>match fsE P Γ vs H.objs H.next n ents with
   | some x=>some ⟨o,ctx,x,H.next,false,[],false⟩
   | none=>none
  | _,_=>none
 | .call { callee:=.invoke r name,args,.. }=>match rd r,xlY rd args.toList with
  | some (.ifc t v),some vs=>match xwb P t name with
   | some fi=>(match xwT P Γ fi (v::vs) H.objs H.next with
    | some (ft,x)=>some ⟨o,ctx,x,H.next,false,ft,false⟩
    | none=>match xai P H.next (call fi (v::vs) ⟨frozen objs0,H.next⟩) with
     | some x=>some ⟨o,ctx,x,H.next,true,[],false⟩
     | none=>none)
   | none=>none
  | _,_=>none
 | op=>match xm2 P rd H.objs H.next op with
  | some x=>some ⟨o,ctx,x,H.next,false,xoY rd op,false⟩
  | none=>none
def xze (ops:Array Oper) (o:Oper) (s:xa4) (seen:List Nat):Option Ctx :=
 match xob ops o with
 | some none=>some []
 | some (some (g,want))=>if seen.any (Nat.beq g) then xbw s 9 g want else none
 | none=>none
def xAb (asg:List (Nat×Bool)) (it:Item):Item :=
 match it.o.dst with
 | some d=>match asg.find? (fun y=>Nat.beq y.1 d) with
  | some (_,v)=>(match it.x.v with
   | .bool b=>{ it with x:={ it.x with p:=xuR it.x.p (some (b=v)),v:=.val (.bool v) } }
   | _=>it)
  | none=>it
 | none=>it
def xB6 (ops:Array Oper) (o:Oper) (s:xa4):Option Bool :=
 match xob ops o with
 | some (some (g,want))=>xk1 s g want
 | _=>none
def xCZ (asg:List (Nat×Bool)) (ops:Array Oper) (o:Oper) (s:xa4) (objs0:List Obj) (H:Heap) (ctx:Ctx):Option Item :=
 match xB6 ops o s with
 | some false=>some ⟨o,ctx,⟨none,[],0,[],.val undef⟩,H.next,false,[],false⟩
 | some true=>(xw6 P Γ call o s objs0 H ctx).map fun it=>{ xAb asg it with sure:=true }
 | none=>(xw6 P Γ call o s objs0 H ctx).map fun it=>{ xAb asg it with sure:=false }
def runD (asg:List (Nat×Bool)) (N:Nat) (ops:Array Oper) (objs0:List Obj):List Oper→List Nat→xa4→Heap→Option (List Item)
 | [],_,_,_=>some []
 | o::rest,seen,s,H =>
  match xfs N o.dst seen,xze ops o s seen with
  | some seen',some ctx=>match xCZ P Γ call asg ops o s objs0 H ctx with
   | some it=>if it.fine then (match runD asg N ops objs0 rest seen' (put s o.dst it.slot) (H.eff it.x) with | some l=>some (it::l) | none=>none) else none
   | none=>none
  | _,_=>none
def xDX (asg:List (Nat×Bool)) (N:Nat) (ops:Array Oper) (objs0:List Obj):List Oper→List Nat→xa4→Heap→Option (Nat×Bool)
 | [],_,_,_=>none
 | o::rest,seen,s,H =>
  match xfs N o.dst seen,xze ops o s seen with
  | some seen',some ctx=>match xCZ P Γ call asg ops o s objs0 H ctx with
   | some it=>if it.fine then xDX asg N ops objs0 rest seen' (put s o.dst it.slot) (H.eff it.x) else match ctx.getLast? with
    | some (g,_,b)=>if asg.any (fun y=>Nat.beq y.1 g) then none else some (g,b)
    | none=>none
   | none=>none
  | _,_=>none
def xqZ (it:Item):List Nat :=
 (it.o.op.operands.toList.filterMap fun | .tmp t=>some t | _=>none)++it.ctx.map (·.1)
def xe3:List Oper→List Nat→List Nat
 | [],acc=>acc
 | o::r,acc=>CheckFast.force (CheckFast.one (fun i=>acc.getD i 0) o) fun v=>xe3 r (acc++[v])
def xks (M:List Nat) (j m:Nat):Bool:=if Nat.blt m j then (M.getD j 0).testBit m else (M.getD m 0).testBit j
def Item.names (it:Item) (lo hi:Nat):Bool :=
 ((AV.keys it.x.v)++it.x.add.flatMap fun o=>o.key::AV.keysL o.body.cellsOf).any fun k=>Nat.ble lo k&&Nat.blt k hi
def xFN (l:List Nat) (y:Item):Bool:=l.any y.touch
def xzI (M:List Nat) (next0:Nat) (j:Nat) (x:Item) (m:Nat) (y:Item):Bool :=
 Nat.beq j m||xks M j m ||
 ((match y.o.dst with | some d=>!((xqZ x).any (Nat.beq d)) | none=>true) &&
  !(xFN x.foot y) &&
  (!x.all||y.x.rm.all (Nat.ble next0)) &&
  !(x.x.rm.any y.touch) &&
  (Nat.beq x.x.nk 0||!(y.names x.key (x.key+x.x.nk))))
def xDB (M:List Nat) (next0:Nat) (j:Nat) (x:Item) (m:Nat) (y:Item):Bool :=
 !x.all||y.x.rm.all (Nat.ble next0)||Nat.blt j m
def xv9 (next0:Nat) (ops:Array Oper) (L:List Item):Bool :=
 let M:=xe3 ops.toList []
 (ops.toList.zipIdx.all fun (o,i)=>o.after.all fun e=>!Region.binds .any e||Nat.blt e.on i) &&
 L.zipIdx.all fun (x,j)=>L.zipIdx.all fun (y,m)=>xzI M next0 j x m y&&xDB M next0 j x m y
def xbq (S:Nat→Bool):Nat→List Item→xa4→xa4
 | _,[],s=>s
 | i,it::r,s=>xbq S (i+1) r (if S i then put s it.o.dst it.slot else s)
def xdT (S:Nat→Bool):Nat→List Item→List Obj→List Obj
 | _,[],l=>l
 | i,it::r,l=>xdT S (i+1) r (if S i then xfu it.x l else l)
def xfS:List Item→Nat→Nat
 | [],n=>n
 | it::r,n=>xfS r (n+it.x.nk)
def xxx {α:Type}:List Item→Tree α→Tree α
 | [],t=>t
 | it::r,t=>match it.need with | some p=>.need p (xxx r t) | none=>xxx r t
def xtP (N:Nat) (ops:Array Oper) (s:xa4) (H:Heap):Nat→List (Nat×Bool)→Tree RCfg
 | 0,_=>.bad
 | n+1,asg=>match runD P Γ call asg N ops H.objs ops.toList [] s H with
  | some L=>if P.follows .mixedOrders&&xv9 H.next ops L then xxx L (.ret (xbq (fun _=>true) 0 L s,⟨xdT (fun _=>true) 0 L H.objs,xfS L H.next⟩)) else .bad
  | none=>match xDX P Γ call asg N ops H.objs ops.toList [] s H with
   | some (g,b)=>.br b (xtP N ops s H n ((g,true)::asg)) (xtP N ops s H n ((g,false)::asg))
   | none=>.bad
def xnj (N:Nat) (ops:Array Oper) (s:xa4) (H:Heap):Tree RCfg:=xtP P Γ call N ops s H 6 []
def xzy:List Oper→Nat→Option Nat
 | [],_=>none
 | o::r,i=>match o.op with
  | .call { callee:=.value (.tmp _),.. }=>some i
  | _=>xzy r (i+1)
def xDK (ops:Array Oper) (k:Nat):Bool :=
 let M:=xe3 ops.toList []
 (ops.toList.zipIdx.all fun (o,i)=>o.after.all fun e=>!Region.binds .any e||Nat.blt e.on i) &&
 ((List.range k).all fun i=>(M.getD k 0).testBit i) &&
 (ops.toList.zipIdx.all fun (o,j)=>!(Nat.blt k j)||o.after.any fun e=>Region.binds .any e&&Nat.beq (e.on+1) j) &&
 ((ops.toList.take k).all fun o=>o.guard.isNone)
def xo7 (N:Nat) (ops:Array Oper) (s:xa4) (H:Heap):Tree RCfg :=
 match xzy ops.toList 0 with
 | none=>.bad
 | some k=>match P.follows .mixedOrders&&xDK ops k with
  | false=>.bad
  | true=>match runD P Γ call [] N (ops.toList.take k).toArray H.objs (ops.toList.take k).toArray.toList [] s H with
   | some L=>(match xv9 H.next (ops.toList.take k).toArray L&&L.all (fun it=>it.ctx.isEmpty) with
    | true=>xxx L (xiM P Γ call yld N ops (ops.toList.drop k) ((ops.toList.take k).filterMap (·.dst)) (xbq (fun _=>true) 0 L s) ⟨xdT (fun _=>true) 0 L H.objs,xfS L H.next⟩)
    | false=>.bad)
   | none=>.bad
structure Cfg where
 tmps:Nat→Option AV
 heap:Heap
def xao (f:Nat→Option AV):xa4:=fun t=>match f t with | some v=>.is v | none=>.junk
def xgL (s:xa4):Nat→Option AV:=fun t=>match s t with | .is v=>some v | _=>none
inductive xck where
 | normal
 | exit (id:Nat)
 | ret
end exec
inductive U where
 | i (n:Int)
 | b (b:Bool)
 | r (l:List (List Int))
 deriving Inhabited
def gi (xs:List U) (j:Nat):Int:=match xs[j]? with | some (.i n)=>n | _=>0
def gb (xs:List U) (j:Nat):Bool:=match xs[j]? with | some (.b b)=>b | _=>false
def gr (xs:List U) (j:Nat):List (List Int):=match xs[j]? with | some (.r l)=>l | _=>[]
def xi2 (step:List U→Option (Nat×List U)):Nat→List U→Option (Nat×List U)
 | 0,_=>none
 | n+1,xs=>match step xs with
  | some (0,ys)=>xi2 step n ys
  | some (m+1,ys)=>some (m+1,ys)
  | none=>none
def xa5 (step:List U→Option (Nat×List U)) (xs:List U):Prop:=∃ n r,xi2 step n xs=some r
noncomputable def xa6 (step:List U→Option (Nat×List U)) (xs:List U):Nat×List U:=by
 classical exact if h:xa5 step xs then h.choose_spec.choose else (0,[])
inductive RT where
 | row (e:TypeId) (ks:List CK)
 | nst (e:TypeId) (ks:List NK)
 | sub (e:TypeId) (ks:List CK)
 | ro (e:TypeId) (ks:List CK)
def RT.body:RT→List (List Int)→Body
 | .row e ks,l=>.row e ks l
 | .nst e ks,l=>.nst e ks l
 | .sub e ks,l=>.sub e ks l
 | .ro e ks,l=>.row e ks l
def RT.own:RT→Bool
 | .sub _ _=>false
 | .ro _ _=>false
 | _=>true
def rtOf (P:Program) (b:Body):Option RT :=
 match xes P b with
 | some (e,ks,_)=>some (match xoW b with | true=>.sub e ks | false=>.row e ks)
 | none=>match b with
  | .nst e ks _=>some (.nst e ks)
  | _=>none
def xDb (P:Program) (o:Obj):Option RT :=
 match rtOf P o.body with
 | some (.row e ks)=>some (match o.own with | true=>.row e ks | false=>.ro e ks)
 | t=>t
def RT.join:RT→RT→RT
 | .row e ks,.sub _ _=>.sub e ks
 | .row e ks,.ro _ _=>.ro e ks
 | .sub e ks,.ro _ _=>.ro e ks
 | t,_=>t
structure Spec where
 slots:List (Nat×AV)
 objs:List Obj
 rows:List RT
 base:Nat
 drop:List Nat
mutual
/-- A shape filled with xkV from the j-th on. -/
def xfJ (xs:List U):AV→Nat→AV×Nat
 | .bool _,j=>(.bool (gb xs j),j+1)
 | .int k _,j=>(.int k (gi xs j),j+1)
 | .fn f a b,j=>match xcO xs a j with | (a',j1)=>match xcO xs b j1 with | (b',j2)=>(.fn f a' b',j2)
 | .agg cs,j=>match xcO xs cs j with | (cs',j1)=>(.agg cs',j1)
 | .tup cs,j=>match xcO xs cs j with | (cs',j1)=>(.tup cs',j1)
 | .vw k sz none _,j=>(.vw k sz none (gi xs j),j+1)
 | v,j=>(v,j)
def xcO (xs:List U):List AV→Nat→List AV×Nat
 | [],j=>([],j)
 | a::r,j=>match xfJ xs a j with | (a',j1)=>match xcO xs r j1 with | (r',j2)=>(a'::r',j2)
end
def xk2 (xs:List U):List (List AV)→Nat→List (List AV)×Nat
 | [],j=>([],j)
 | a::r,j=>match xcO xs a j with | (a',j1)=>match xk2 xs r j1 with | (r',j2)=>(a'::r',j2)
def xix (xs:List U):Body→Nat→Body×Nat
 | .cells cs,j=>match xcO xs cs j with | (cs',j1)=>(.cells cs',j1)
 | .row e ks _,j=>(.row e ks (gr xs j),j+1)
 | .nst e ks _,j=>(.nst e ks (gr xs j),j+1)
 | .sub e ks _,j=>(.sub e ks (gr xs j),j+1)
 | .mp kt et q m ke _,j=>(.mp kt et q m ke (gr xs j),j+1)
 | .mq kt et q ks _,j=>(.mq kt et q ks (gr xs j),j+1)
 | .arr e sz els,j=>match xk2 xs els j with | (els',j1)=>(.arr e sz els',j1)
 | b,j=>(b,j)
def xbj (xs:List U):List (Nat×AV)→Nat→List (Nat×AV)×Nat
 | [],j=>([],j)
 | (t,v)::r,j=>match xfJ xs v j with | (v',j1)=>match xbj xs r j1 with | (r',j2)=>((t,v')::r',j2)
def xbp (ver:Nat) (xs:List U):List Obj→Nat→List Obj×Nat
 | [],j=>([],j)
 | o::r,j=>match xix xs o.body j with | (b,j1)=>match xbp ver xs r j1 with | (r',j2)=>(⟨o.key,ver,o.own,b⟩::r',j2)
def xd9 (ver:Nat) (xs:List U):Nat→List RT→Nat→List Obj
 | _,[],_=>[]
 | k,t::r,j=>⟨k,ver,t.own,t.body (gr xs j)⟩::xd9 ver xs (k+1) r (j+1)
def xft (t:Nat):List (Nat×AV)→Option AV
 | []=>none
 | (t',v)::r=>if Nat.beq t t' then some v else xft t r
def xhl (k:Nat):List Obj→Bool
 | []=>false
 | o::r=>Nat.beq o.key k||xhl k r
def xsc (k:Nat):List Obj→Bool
 | []=>false
 | o::r=>(Nat.beq o.key k&&o.own)||xsc k r
def Spec.still (S:Spec) (l:List Obj):List Obj:=l.filter fun o=>!(xhl o.key S.objs)&&!(S.drop.any (Nat.beq o.key))
def Spec.gen (S:Spec) (st:List Obj) (wr:List Nat) (tm:Nat→Option AV) (xs:List U):Cfg :=
 match xbj xs S.slots 0 with
 | (sl,j1)=>match xbp S.base xs S.objs j1 with
  | (ob,j2)=>⟨fun t=>match xft t sl with | some v=>some v | none=>if wr.any (Nat.beq t) then none else tm t,
    ⟨ob++xd9 S.base xs S.base S.rows j2++st,S.base+S.rows.length+1⟩⟩
structure MS where
 km:List (Nat×Option Nat)
 us:List U
def xiv (k:Nat):List (Nat×Option Nat)→Option (Option Nat)
 | []=>none
 | (k',v)::r=>if Nat.beq k k' then some v else xiv k r
def addK (k:Nat) (v:Option Nat) (m:MS):Option MS :=
 match xiv k m.km with
 | none=>some { m with km:=(k,v)::m.km }
 | some u=>if u=v then some m else none
def xC8:Value→Value→Bool
 | .bool a,.bool b=>a==b
 | .int k a,.int k' b=>if k=k' then decide (a=b) else false
 | .pointer none,.pointer none=>true
 | .slice none 0 0,.slice none 0 0=>true
 | .map none,.map none=>true
 | .nilFunc,.nilFunc=>true
 | .nilIface,.nilIface=>true
 | _,_=>false
mutual
/-- The xkV of a value of some shape. -/
def xeL (base:Nat):AV→AV→MS→Option MS
 | .bool _,v,m=>match v.weak with | .bool b=>some { m with us:=.b b::m.us } | _=>none
 | .int k _,v,m=>match v.weak with | .int k' n=>if k=k' then some { m with us:=.i n::m.us } else none | _=>none
 | .val c,.val c',m=>if xC8 c c' then some m else none
 | .ptr k off,.ptr k' off',m=>if k=k'∧off=off'∧k<base then some m else none
 | .yl k,.yl k',m=>if k=k'∧k<base then some m else none
 | .vw k sz none _,.vw k' sz' none hi,m=>if k=k'∧sz=sz'∧k<base then some { m with us:=.i hi::m.us } else none
 | .sl k,.sl k',m=>if Nat.blt k base then (if k=k' then some m else none) else addK k (some k') m
 | .sl k,.val (.slice none 0 0),m=>if Nat.blt k base then none else addK k none m
 | .fn f a b,.fn f' a' b',m=>if f=f' then (match xmB base a a' m with | some m'=>xmB base b b' m' | none=>none) else none
 | .agg cs,.agg cs',m=>xmB base cs cs' m
 | .tup cs,.tup cs',m=>xmB base cs cs' m
 | _,_,_=>none
def xmB (base:Nat):List AV→List AV→MS→Option MS
 | [],[],m=>some m
 | a::r,a'::r',m=>match xeL base a a' m with | some m'=>xmB base r r' m' | none=>none
 | _,_,_=>none
end
def xpL (base:Nat):List (List AV)→List (List AV)→MS→Option MS
 | [],[],m=>some m
 | a::r,a'::r',m=>match xmB base a a' m with | some m'=>xpL base r r' m' | none=>none
 | _,_,_=>none
def xvX:Option Code→Option Code→Bool
 | none,none=>true
 | some .ret,some .ret=>true
 | some (.exit a),some (.exit b)=>Nat.beq a b
 | _,_=>false
def xdV (P:Program) (base:Nat):Body→Body→MS→Option MS
 | .cells cs,.cells cs',m=>xmB base cs cs' m
 | .row e ks _,b,m=>match b with
  | .nil=>some { m with us:=.r []::m.us }
  | b=>match xes P b with
   | some (e',ks',l)=>if e=e'∧ks=ks' then some { m with us:=.r l::m.us } else none
   | none=>none
 | .nst e ks _,b,m=>match b with
  | .nil=>some { m with us:=.r []::m.us }
  | .nst e' ks' l=>if e=e'∧ks=ks' then some { m with us:=.r l::m.us } else none
  | _=>none
 | .sub e ks _,.sub e' ks' l,m=>if e=e'∧ks=ks' then some { m with us:=.r l::m.us } else none
 | .arr e sz els,.arr e' sz' els',m=>if e=e'∧sz=sz' then xpL base els els' m else none
 | .nil,.nil,m=>some m
 | .mp kt et q n ke _,.mp kt' et' q' n' ke' l,m=>if kt=kt'∧et=et'∧q=q'∧n=n'∧ke=ke' then some { m with us:=.r l::m.us } else none
 | .mq kt et q ks _,.mq kt' et' q' ks' l,m=>if kt=kt'∧et=et'∧q=q'∧ks=ks' then some { m with us:=.r l::m.us } else none
 | .fin st pend,.fin st' pend',m=>if Nat.beq st st'&&xvX pend pend' then some m else none
 | _,_,_=>none
def xkU (base:Nat) (tmps:Nat→Option AV):List (Nat×AV)→MS→Option MS
 | [],m=>some m
 | (t,s)::r,m=>match tmps t with
  | some v=>match xeL base s v m with | some m'=>xkU base tmps r m' | none=>none
  | none=>none
def xmA (P:Program) (base:Nat) (objs:List Obj):List Obj→MS→Option MS
 | [],m=>some m
 | o::r,m=>match xap o.key objs with
  | some o'=>if o.own=o'.own∨o.own=false then (match xdV P base o.body o'.body m with | some m'=>xmA P base objs r m' | none=>none) else none
  | none=>none
def xxF (P:Program) (t:RT) (own:Bool) (b:Body) (m:MS):Option MS :=
 match t with
 | .sub e ks=>(match own||xoW b with | true=>xdV P 0 (.row e ks []) b m | false=>none)
 | .row e ks=>(match own with | true=>xdV P 0 (.row e ks []) b m | false=>none)
 | .ro e ks=>xdV P 0 (.row e ks []) b m
 | .nst e ks=>(match own with | true=>xdV P 0 (.nst e ks []) b m | false=>none)
def xmz (P:Program) (objs:List Obj):Nat→List RT→MS→Option MS
 | _,[],m=>some m
 | k,t::r,m=>match xiv k m.km with
  | some (some k')=>match xap k' objs with
   | some ⟨_,_,own,b⟩=>match xxF P t own b m with | some m'=>xmz P objs (k+1) r m' | none=>none
   | _=>none
  | _=>xmz P objs (k+1) r { m with us:=.r []::m.us }
def xmV:List Nat→Bool
 | []=>true
 | a::r=>!(r.any (Nat.beq a))&&xmV r
def xrv (objs:List Obj) (ver:Nat):List Obj→Bool
 | []=>true
 | o::r=>(match xap o.key objs with | some o'=>Nat.blt o'.ver ver | none=>false)&&xrv objs ver r
def Spec.match_ (P:Program) (S:Spec) (st:List Obj) (ver:Nat) (c:Cfg):Option (List U) :=
 match xkU S.base c.tmps S.slots ⟨[],[]⟩ with
 | some m1=>match xmA P S.base c.heap.objs S.objs m1 with
  | some m2=>match xmz P c.heap.objs S.base S.rows m2 with
   | some m3 =>
    if xmV (m2.km.filterMap (·.2))&&(m2.km.all fun x=>Nat.blt x.1 (S.base+S.rows.length)&&Nat.ble S.base x.1)&&((m2.km.filterMap (·.2)).all fun k=>!(xhl k S.objs)&&!(xsc k st)) &&
     xmV (S.objs.map (·.key))&&(S.objs.all fun o=>Nat.blt o.key S.base&&!(xhl o.key st))&&xrv c.heap.objs ver st
    then some m3.us.reverse else none
   | none=>none
  | none=>none
 | none=>none
def xck.same:xck→xck→Bool
 | .normal,.normal=>true
 | .ret,.ret=>true
 | .exit a,.exit b=>Nat.beq a b
 | _,_=>false
def xkV {α:Type}:Tree α→List α
 | .ret a=>[a]
 | .br _ t e=>xkV t++xkV e
 | .need _ t=>xkV t
 | .ask _ t e=>xkV t++xkV e
 | .bad=>[]
def xdw:Code→List Nat
 | .region _ ops _=>ops.toList.filterMap (·.dst)
 | .seq a b=>xdw a++xdw b
 | .cond _ a b=>xdw a++xdw b
 | .block _ a=>xdw a
 | .loop a=>xdw a
 | .scope a=>xdw a
 | _=>[]
def xzH (objs:List Obj):Nat→List Nat→List Nat→List Nat
 | 0,_,acc=>acc
 | _+1,[],acc=>acc
 | n+1,k::r,acc=>if acc.any (Nat.beq k) then xzH objs n r acc else
  match xap k objs with
  | some o=>xzH objs n (AV.keysL o.body.cellsOf++r) (k::acc)
  | none=>xzH objs n r (k::acc)
def restrict (next:Nat) (roots:List Nat) (H:Heap):Heap :=
 let old:=H.objs.filter fun o=>Nat.blt o.key next
 let ks:=xzH H.objs 200 (roots++old.flatMap fun o=>AV.keysL o.body.cellsOf) []
 { H with objs:=H.objs.filter fun o=>Nat.blt o.key next||ks.any (Nat.beq o.key) }
def xha:List Nat→List Nat→List Nat
 | [],acc=>acc.reverse
 | a::r,acc=>if acc.any (Nat.beq a) then xha r acc else xha r (a::acc)
mutual
def xFZ (P:Program) (base:Nat) (H0 H1:List Obj) (rows:List RT):AV→AV→Option (AV×List RT)
 | .val c,.val c'=>if xC8 c c' then some (.val c,rows) else
  (match (AV.val c).weak,(AV.val c').weak with
  | .bool b,.bool _=>some (.bool b,rows)
  | .int k n,.int k' _=>if k=k' then some (.int k n,rows) else none
  | _,_=>none)
 | .val (.bool b),.bool _=>some (.bool b,rows)
 | .val (.int k n),.int _ _=>some (.int k n,rows)
 | .bool b,v=>match v.weak with | .bool _=>some (.bool b,rows) | _=>none
 | .int k n,v=>match v.weak with | .int k' _=>if k=k' then some (.int k n,rows) else none | _=>none
 | .ptr k off,.ptr k' off'=>if k=k'∧off=off' then some (.ptr k off,rows) else none
 | .yl k,.yl k'=>if k=k' then some (.yl k,rows) else none
 | .sl k,.sl k'=>if Nat.ble base k then some (.sl k,rows) else if k=k' then some (.sl k,rows) else
  (match (xap k' H1).bind fun o=>xDb P o with
  | some t=>some (.sl (base+rows.length),rows++[match (xap k H0).bind fun o=>xDb P o with | some t'=>t.join t' | none=>t])
  | none=>none)
 | .val (.slice none 0 0),.sl k'=>(match (xap k' H1).bind fun o=>xDb P o with
  | some t=>some (.sl (base+rows.length),rows++[t])
  | none=>none)
 | .sl k,.val (.slice none 0 0)=>if Nat.ble base k then some (.sl k,rows) else
  (match (xap k H0).bind fun o=>xDb P o with
  | some t=>some (.sl (base+rows.length),rows++[t])
  | none=>none)
 | .fn f a b,.fn f' a' b'=>if f=f' then (match xy3 P base H0 H1 rows a a' with
  | some (x,rows1)=>match xy3 P base H0 H1 rows1 b b' with
   | some (y,rows2)=>some (.fn f x y,rows2)
   | none=>none
  | none=>none) else none
 | .agg cs,.agg cs'=>(match xy3 P base H0 H1 rows cs cs' with | some (x,r)=>some (.agg x,r) | none=>none)
 | .tup cs,.tup cs'=>(match xy3 P base H0 H1 rows cs cs' with | some (x,r)=>some (.tup x,r) | none=>none)
 | _,_=>none
def xy3 (P:Program) (base:Nat) (H0 H1:List Obj) (rows:List RT):List AV→List AV→Option (List AV×List RT)
 | [],[]=>some ([],rows)
 | a::r,a'::r'=>match xFZ P base H0 H1 rows a a' with
  | some (x,rows1)=>match xy3 P base H0 H1 rows1 r r' with
   | some (y,rows2)=>some (x::y,rows2)
   | none=>none
  | none=>none
 | _,_=>none
end
def xDS (P:Program) (base:Nat) (H0 H1:List Obj) (rows:List RT):List (List AV)→List (List AV)→Option (List (List AV)×List RT)
 | [],[]=>some ([],rows)
 | a::r,a'::r'=>match xy3 P base H0 H1 rows a a' with
  | some (x,rows1)=>match xDS P base H0 H1 rows1 r r' with
   | some (y,rows2)=>some (x::y,rows2)
   | none=>none
  | none=>none
 | _,_=>none
def xF0 (P:Program) (base:Nat) (H0 H1:List Obj) (rows:List RT) (x y:Body):Option (Body×List RT) :=
 match x,y with
 | .cells cs,.cells cs'=>(xy3 P base H0 H1 rows cs cs').map fun z=>(.cells z.1,z.2)
 | .mp kt et q m ke l,.mp _ _ _ _ _ _=>some (.mp kt et q m ke l,rows)
 | .mq kt et q ks l,.mq _ _ _ _ _=>some (.mq kt et q ks l,rows)
 | .nst e ks l,.nst _ _ _=>some (.nst e ks l,rows)
 | .arr e sz els,.arr e' sz' els'=>(match xDS P base H0 H1 rows els els' with
  | some z=>some (.arr e sz z.1,z.2)
  | none=>match xes P (.arr e sz els),xes P (.arr e' sz' els') with
   | some (e,ks,l),some _=>some (.row e ks l,rows)
   | _,_=>none)
 | x,y=>match xes P x,xes P y with
  | some (e,ks,l),some _=>some (.row e ks l,rows)
  | _,_=>none
def xr5 (P:Program) (base:Nat) (H0 H1:List Obj) (tmps:Nat→Option AV):List RT→List (Nat×AV)→List (Nat×AV)×List RT
 | rows,[]=>([],rows)
 | rows,(t,v)::r=>match (tmps t).bind (xFZ P base H0 H1 rows v) with
  | some (v',rows1)=>match xr5 P base H0 H1 tmps rows1 r with | (r',rows2)=>((t,v')::r',rows2)
  | none=>xr5 P base H0 H1 tmps rows r
def xzY (P:Program) (base ver:Nat) (H0 H1:List Obj):List Obj→Spec→Spec
 | [],S=>S
 | o::r,S=>xzY P base ver H0 H1 r (
  match xap o.key H1 with
  | none=>if S.drop.any (Nat.beq o.key) then S else { S with drop:=o.key::S.drop,objs:=S.objs.filter fun x=>!(Nat.beq x.key o.key) }
  | some o'=>if xhl o.key S.objs||S.drop.any (Nat.beq o.key) then S else if Nat.blt o'.ver ver then S else
   match xF0 P base H0 H1 S.rows o.body o'.body with
   | some (b,rows)=>{ S with objs:=S.objs++[⟨o.key,0,o.own&&o'.own,b⟩],rows:=rows }
   | none=>S)
def xBw (P:Program) (base:Nat) (H0 H1:List Obj):List Obj→Spec→Spec
 | [],S=>S
 | o::r,S=>match (xap o.key H1).bind fun o'=>(xF0 P base H0 H1 S.rows o.body o'.body).map fun z=>(z,o'.own) with
  | some ((b,rows),ow)=>xBw P base H0 H1 r { S with objs:=S.objs++[⟨o.key,0,o.own&&ow,b⟩],rows:=rows }
  | none=>xBw P base H0 H1 r S
def Spec.join (P:Program) (S:Spec) (c0 c1:Cfg):Spec :=
 let ver:=S.base+S.rows.length+1
 match xr5 P S.base c0.heap.objs c1.heap.objs c1.tmps S.rows S.slots with
 | (sl,rows) =>
  let S1:=xBw P S.base c0.heap.objs c1.heap.objs S.objs { S with slots:=sl,rows:=rows,objs:=[] }
  xzY P S.base ver c0.heap.objs c1.heap.objs (S.still c0.heap.objs) S1
def Spec.size (S:Spec):Nat:=S.slots.length+1000*(S.objs.length+S.rows.length+S.drop.length)
def Spec.enter (P:Program) (S:Spec) (c0:Cfg):Spec :=
 match xkU S.base c0.tmps S.slots ⟨[],[]⟩ with
 | some m1=>match xmA P S.base c0.heap.objs S.objs m1 with
  | some m2=>let ks:=(m2.km.filterMap (·.2)).filter fun k=>xsc k c0.heap.objs; { S with drop:=S.drop++ks.filter fun k=>!(S.drop.any (Nat.beq k)),objs:=S.objs.filter fun o=>!(ks.any (Nat.beq o.key)) }
  | none=>S
 | none=>S
def xyO:List (xck×Cfg)→List Cfg
 | []=>[]
 | (.normal,c)::r=>c::xyO r
 | _::r=>xyO r
def Spec.search (P:Program) (wr:List Nat) (c0:Cfg) (body:Cfg→Tree (xck×Cfg)):Nat→Spec→Spec
 | 0,S=>S
 | n+1,S =>
  let ls:=xkV (body (S.gen (S.still c0.heap.objs) wr c0.tmps []))
  let S1:=(xyO ls).foldl (fun S c1=>S.join P c0 c1) S
  let S':=S1.enter P c0
  if Nat.beq S'.size S.size then S' else Spec.search P wr c0 body n S'
def xi8 (tmps:Nat→Option AV):List Nat→List (Nat×AV)
 | []=>[]
 | t::r=>match tmps t with
  | some (.val (.tuple _))=>xi8 tmps r
  | some v=>(t,v.weak)::xi8 tmps r
  | none=>xi8 tmps r
def xws:AV→Bool
 | .val v=>match v with
  | .bool _ | .int _ _ | .string _ | .slice _ _ _ | .pointer _ | .map _ | .nilFunc | .nilIface | .agg _ | .func _ _ _=>false
  | _=>true
 | _=>false
def xre (tmps:Nat→Option AV):List Nat→List (Nat×AV)
 | []=>[]
 | t::r=>match tmps t with
  | some v=>if xws v then xre tmps r else (t,v)::xre tmps r
  | none=>xre tmps r
def xxs (S:Spec) (st:List Obj) (ver:Nat) (res:List Nat):Nat→List (xck×Cfg)→List (Nat×xck×Spec)
 | _,[]=>[]
 | n,(x,c)::r=>match x with
  | .normal=>xxs S st ver res (n+1) r
  | x =>
   let ts:=match x with | .ret=>res | _=>S.slots.map (·.1)
   let sl:=xre c.tmps ts
   let H:=restrict S.base (sl.flatMap fun y=>AV.keys y.2) c.heap
   (n+1,x,⟨sl,H.objs.filter fun o=>!(xhl o.key st)||!(Nat.blt o.ver ver),[],c.heap.next,(st.filter fun o=>!(xhl o.key H.objs)).map (·.key)⟩)::xxs S st ver res (n+1) r
def number (P:Program) (S:Spec) (st:List Obj) (ver:Nat) (outs:List (Nat×xck×Spec)):Tree (xck×Cfg)→Nat→Tree (Nat×List U)×Nat
 | .ret (x,c),n=>match x with
  | .normal=>(match S.match_ P st ver c with | some us=>.ret (0,us) | none=>.bad,n+1)
  | x=>(match outs.find? (fun y=>Nat.beq y.1 (n+1)) with
   | some (_,y,T)=>if y.same x&&Nat.ble c.heap.next T.base then (match T.match_ P (T.still st) ver c with | some us=>.ret (n+1,us) | none=>.bad) else .bad
   | none=>.bad,n+1)
 | .br b t e,n=>match number P S st ver outs t n with | (t',n1)=>match number P S st ver outs e n1 with | (e',n2)=>(.br b t' e',n2)
 | .need p t,n=>match number P S st ver outs t n with | (t',n1)=>(.need p t',n1)
 | .ask p t e,n=>match number P S st ver outs t n with | (t',n1)=>match number P S st ver outs e n1 with | (e',n2)=>(.ask p t' e',n2)
 | .bad,n=>(.bad,n)
def tmOf (y:xck) (tm:Nat→Option AV):Nat→Option AV:=match y with | .ret=>fun _=>none | _=>tm
def brs (st:List Obj) (wr:List Nat) (tm:Nat→Option AV) (r:Nat×List U):List (Nat×xck×Spec)→Tree (xck×Cfg)
 | []=>.bad
 | [(_,y,T)]=>.ret (y,T.gen (T.still st) wr (tmOf y tm) r.2)
 | (n,y,T)::rest=>.br (Nat.beq r.1 n) (.ret (y,T.gen (T.still st) wr (tmOf y tm) r.2)) (brs st wr tm r rest)
def xvM (wr:List Nat) (S:Spec):Bool:=S.slots.all fun x=>wr.any (Nat.beq x.1)
def xzJ (wr:List Nat) (outs:List (Nat×xck×Spec)):Bool:=outs.all fun y=>match y.2.1 with | .ret=>true | _=>xvM wr y.2.2
inductive Ask where
 | known
 | unknown
 | on (c:Cfg)
section exec
variable (P:Program) (Γ:Con) (call:xhh) (yld:Nat→List AV→Heap→Tree (AV×Heap))
def xEL (o:Oper):Bool:=match o.op with
 | .panic _=>true
 | _=>false
def xk5 (N:Nat) (ops:Array Oper) (draw:Bool) (c:Cfg):Tree RCfg :=
 match ops.toList.any xEL with
 | true=>.ask False .bad .bad
 | false=>if draw=false then xiM P Γ call yld N ops ops.toList [] (xao c.tmps) c.heap else match xnj P Γ call N ops (xao c.tmps) c.heap with
  | .bad=>xo7 P Γ call yld N ops (xao c.tmps) c.heap
  | t=>t
def xwB:Tree RCfg→Option RCfg
 | .ret x=>some x
 | .need _ t=>xwB t
 | .ask _ _ e=>xwB e
 | _=>none
def ask (N:Nat):Code→Cfg→Ask
 | .skip,c=>.on c
 | .region _ ops draw,c=>match xwB (xk5 P Γ call yld N ops draw c) with
  | some (s,H)=>.on ⟨xgL s,H⟩
  | none=>.unknown
 | .seq a b,c=>match ask N a c with
  | .on c'=>ask N b c'
  | x=>x
 | .cond x _ _,c=>match readS [] (xao c.tmps) x with
  | some (.val (.bool _))=>.known
  | _=>.unknown
 | .block _ a,c=>ask N a c
 | _,_=>.unknown
def cutK (key sz:Nat) (hi:Int) (H:Heap):Option (Prop×Heap) :=
 match xap key H.objs with
 | some ⟨_,_,true,.row e ks l⟩=>if Nat.beq ks.length sz then some ((0≤hi∧hi≤(l.length:Int)),⟨⟨H.next,H.next,true,.row e ks (l.take hi.toNat)⟩::H.objs.filter (fun o=>!(Nat.beq o.key key)),H.next+1⟩) else none
 | _=>none
def xmd:List Nat→Cfg→Tree Cfg
 | [],c=>.ret c
 | t::r,c=>match c.tmps t with
  | some (.vw key sz none hi)=>(match cutK key sz hi c.heap with
   | some (p,H)=>.need p (xmd r ⟨upd c.tmps t (some (.sl c.heap.next)),H⟩)
   | none=>xmd r c)
  | _=>xmd r c
def xDT:Option AV→Bool
 | some (.sl _)=>true
 | some (.val (.slice none 0 0))=>true
 | _=>false
def xxg (wr:List Nat) (c:Cfg) (r:xck×Cfg):Tree (xck×Cfg) :=
 match r.1 with
 | .ret=>.ret r
 | x=>(xmd (wr.filter fun t=>xDT (c.tmps t)) r.2).bind fun c'=>.ret (x,c')
noncomputable def xgP (res wr:List Nat) (body:Cfg→Tree (xck×Cfg)) (c0:Cfg):Tree (xck×Cfg) :=
 let S:=Spec.search P wr c0 body 4 ⟨(xi8 c0.tmps wr).filter (fun x=>!xws x.2),[],[],c0.heap.next,[]⟩
 let st:=S.still c0.heap.objs
 let ver:=S.base+S.rows.length+1
 let outs:=xxs S st ver res 0 (xkV (body (S.gen st wr c0.tmps [])))
 match S.match_ P st (c0.heap.next+1) c0 with
 | some xs0=>if Nat.beq S.base c0.heap.next&&xvM wr S&&xzJ wr outs then
   .need (xa5 (fun xs=>(number P S st ver outs (body (S.gen st wr c0.tmps xs)) 0).1.opt) xs0)
    (brs st wr c0.tmps (xa6 (fun xs=>(number P S st ver outs (body (S.gen st wr c0.tmps xs)) 0).1.opt) xs0) outs)
  else .bad
 | none=>.bad
def xxv:List (xck×Cfg)→Bool
 | []=>true
 | (.normal,_)::r=>r.all fun x=>match x.1 with | .normal=>false | _=>true
 | _::r=>xxv r
def xni (known:Cfg→Bool) (gen:Cfg→Tree (xck×Cfg)) (body:Cfg→Tree (xck×Cfg)):Nat→Cfg→Tree (xck×Cfg)
 | 0,_=>.bad
 | n+1,c=>if known c then (body c).bind fun (x,c')=>match x with
   | .normal=>xni known gen body n c'
   | x=>.ret (x,c')
  else gen c
def xFH:xck→Option Code
 | .normal=>none
 | .exit id=>some (.exit id)
 | .ret=>some .ret
def xF8:Option Code→Option xck
 | none=>some .normal
 | some (.exit id)=>some (.exit id)
 | some .ret=>some .ret
 | _=>none
def xyV:Option Obj→Option (Nat×Option Code)
 | some ⟨_,_,true,.loop st pend _ _ _ _ _⟩=>some (st,pend)
 | some ⟨_,_,true,.fin st pend⟩=>some (st,pend)
 | _=>none
noncomputable def xa2 (rnd:Bool) (res:List Nat) (N:Nat):Code→Cfg→Tree (xck×Cfg)
 | .skip,c=>.ret (.normal,c)
 | .region _ ops draw,c=>(xk5 P Γ call yld N ops draw c).bind fun (s,H)=>.ret (.normal,⟨xgL s,H⟩)
 | .seq a b,c=>(xa2 rnd res N a c).bind fun (x,c')=>match x with
  | .normal=>xa2 rnd res N b c'
  | x=>.ret (x,c')
 | .cond x t e,c=>match readS [] (xao c.tmps) x with
  | some (.bool b)=>.br b (xa2 rnd res N t c) (xa2 rnd res N e c)
  | some (.val (.bool b))=>(match b with | true=>xa2 rnd res N t c | false=>xa2 rnd res N e c)
  | _=>.bad
 | .block id body,c=>(xa2 rnd res N body c).bind fun (x,c')=>match x with
  | .exit id'=>if Nat.beq id' id then .ret (.normal,c') else .ret (.exit id',c')
  | x=>.ret (x,c')
 | .loop body,c=>xni (fun c=>match ask P Γ call yld N body c with | .known=>xxv (xkV (xa2 rnd res N body c)) | _=>false) (xgP P res (xha (xdw body) []) fun c=>(xa2 rnd res N body c).bind (xxg (xha (xdw body) []) c)) (fun c=>xa2 rnd res N body c) 100 c
 | .rangeFunc f params assign body,c=>match readS [] (xao c.tmps) f with
  | some (.fn (.func g) first caps) =>
   (call g (first++[.yl c.heap.next]++caps) ⟨⟨c.heap.next,c.heap.next,true,.loop 0 none N c.tmps params assign body⟩::c.heap.objs,c.heap.next+1⟩).bind fun (_,H2) =>
    match xyV (xap c.heap.next H2.objs) with
    | some (st,pend)=>if Nat.beq st 1 then .bad else match xF8 pend with
     | some x=>.ret (x,⟨c.tmps,⟨H2.objs.filter fun o=>!(Nat.beq o.key c.heap.next),H2.next⟩⟩)
     | none=>.bad
    | none=>.bad
  | _=>.bad
 | .exit id,c=>.ret (.exit id,c)
 | .ret,c=>.ret (.ret,c)
 | .scope body,c=>xa2 rnd res N body c
 | .label _,c=>.ret (.normal,c)
 | _,_=>.bad
def xpB (c:Cfg):ResultVar→Option AV
 | .tmp t=>c.tmps t
 | .cell a t=>match c.tmps a with
  | some (.ptr key off)=>match xap key c.heap.objs with
   | some ⟨_,_,_,.cells cs⟩=>xi1 P t cs off
   | _=>none
  | _=>none
def xfB (c:Cfg):List ResultVar→Option (List AV)
 | []=>some []
 | r::rs=>match xpB P c r,xfB c rs with
  | some v,some vs=>some (v::vs)
  | _,_=>none
end exec
def xEm (l:List ResultVar):List Nat:=l.flatMap fun | .tmp t=>[t] | .cell a _=>[a]
def xir (params:List Nat) (vs:List AV) (tm:Nat→Option AV):Nat→Option AV :=
 match params,vs with
 | p::ps,v::vs=>xir ps vs (upd tm p (some v))
 | _,_=>tm
def xwK (key:Nat) (H:Heap):Heap:=⟨H.objs.filter (fun o=>!(Nat.beq o.key key)),H.next⟩
def xrl (v:AV) (o:Obj) (H:Heap):Tree (AV×Heap):=if xhl o.key H.objs then .bad else .ret (v,⟨o::H.objs,H.next⟩)
noncomputable def xtG (P:Program) (Γ:Con) (call:xhh) (yld:Nat→List AV→Heap→Tree (AV×Heap)) (key:Nat) (args:List AV) (H:Heap):Tree (AV×Heap) :=
 match xap key H.objs with
 | some ⟨_,ver,true,.loop 0 none N tm params assign body⟩ =>
  if args.length=params.size∧(params.toList.all fun p=>Nat.blt p N)=true then
   (xa2 P Γ call yld true [] N assign ⟨xir params.toList args tm,xwK key H⟩).bind fun (x,c1) =>
    match x with
    | .normal=>(xa2 P Γ call yld true [] N body c1).bind fun (x,c2) =>
      match x with
      | .normal=>xrl (.val (.bool true)) ⟨key,ver,true,.loop 0 none N tm params assign body⟩ c2.heap
      | x=>xrl (.val (.bool false)) ⟨key,c2.heap.next,true,.fin 2 (xFH x)⟩ c2.heap
    | _=>.bad
  else .bad
 | _=>.bad
structure SeqQ where
 p:Prop
 key:Nat
 e:TypeId
 ks:List CK
 L:List (List (List Int))
abbrev xqK:=FuncId→List AV→List Obj→Option SeqQ
def xbs:xqK:=fun _ _ _=>none
def xyF (j:Int):Nat→Option AV:=fun t=>match t with | 0=>some (.int .i64 j) | _=>none
def xoA (yld:Nat→List AV→Heap→Tree (AV×Heap)) (key:Nat) (e:TypeId) (ks:List CK) (L:List (List (List Int))) (c:Cfg):Tree (xck×Cfg) :=
 match (c.tmps 0).map AV.weak with
 | some (.int .i64 j)=>.br (decide (j<(L.length:Int)))
   ((yld key [.sl c.heap.next] ⟨⟨c.heap.next,c.heap.next,true,.row e ks (L.getD j.toNat [])⟩::c.heap.objs,c.heap.next+1⟩).bind fun y=>match y.1 with
    | .val (.bool true)=>.ret (.normal,⟨upd c.tmps 0 (some (.int .i64 (j+1))),y.2⟩)
    | .val (.bool false)=>.ret (.exit 0,⟨c.tmps,y.2⟩)
    | _=>.bad)
   (.ret (.exit 1,c))
 | _=>.bad
def xme (yld:Nat→List AV→Heap→Tree (AV×Heap)) (q:SeqQ) (c:Cfg):Tree (xck×Cfg):=xoA yld q.key q.e q.ks q.L c
def xDL (y:xck×Cfg):Tree (AV×Heap) :=
 match y.1 with
 | .exit 0=>.ret (.val (.bool false),y.2.heap)
 | .exit 1=>.ret (.val (.bool true),y.2.heap)
 | _=>.bad
noncomputable def xzA (P:Program) (yld:Nat→List AV→Heap→Tree (AV×Heap)) (p:Prop) (key:Nat) (e:TypeId) (ks:List CK) (L:List (List (List Int))) (H:Heap):Tree (AV×Heap) :=
 .need p ((xgP P [] [0] (xoA yld key e ks L) ⟨xyF 0,H⟩).bind xDL)
noncomputable def xBq (P:Program) (yld:Nat→List AV→Heap→Tree (AV×Heap)) (q:SeqQ) (H:Heap):Tree (AV×Heap):=xzA P yld q.p q.key q.e q.ks q.L H
mutual
noncomputable def xaP (P:Program) (Γ:Con) (Ξ:xqK):Nat→xhh
 | 0,_,_,_=>.bad
 | n+1,f,args,H =>
  match Ξ f args H.objs with
  | some ⟨p,key,e,ks,L⟩=>xzA P (xqC P Γ Ξ n) p key e ks L H
  | none =>
  match P.funcs[f]? with
  | none=>.bad
  | some fn =>
   match fn.body with
   | none=>.bad
   | some code =>
    if fn.name ≠ "runtime.NumGoroutine" ∧ args.length≤fn.ntmps then
     (xa2 P Γ (xaP P Γ Ξ n) (xqC P Γ Ξ n) false (xEm fn.results.toList) fn.ntmps code ⟨fun t=>match args[t]? with | some v=>some v | none=>some (.val undef),H⟩).bind fun (x,c) =>
      match x with
      | .exit _=>.bad
      | _=>match xfB P c fn.results.toList with
       | some [v]=>(match xvU P c.heap.objs c.heap.next v with
        | some x=>xxy [] x.p (.ret (x.v,restrict H.next (AV.keys x.v) (c.heap.eff x)))
        | none=>.ret (v,restrict H.next (AV.keys v) c.heap))
       | some vs=>.ret (.tup vs,restrict H.next (AV.keysL vs) c.heap)
       | none=>.bad
    else .bad
noncomputable def xqC (P:Program) (Γ:Con) (Ξ:xqK):Nat→Nat→List AV→Heap→Tree (AV×Heap)
 | 0,_,_,_=>.bad
 | n+1,key,args,H=>xtG P Γ (xaP P Γ Ξ n) (xqC P Γ Ξ n) key args H
end
end
end Go.Sy
