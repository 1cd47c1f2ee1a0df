/- Several texts in one (wip/pack.py): XSyH XSyRc XSyRx XSyLq XSySo XShelf XInq1D XInq1 XInq2D XInq2 XInqO XInq3D XInq3. -/
import Derived.ProofKit
import Derived.OpenShut
import Derived.ReadAgain
import Derived.Carry
import Derived.JoinedTies
import Derived.Shelf.GgSortFunc.InsertionK
import Derived.Shelf.Small.Bits
import Derived.Shelf.Sort.Plain
import Derived.Shelf.Slices.In.SortNone
import Derived.Shelf.SlSortCmp.WholeK
import Derived.Shelf.Slices.CompactI
import Derived.Ground.Names2Prog
import Derived.Ground.SlsfProg
import Derived.Test.YthfjhbbpdhjklaaGreatProg
import Derived.Test.YthfjhbbpdhjklaaGreatRows
import Derived.Shelf.SlSortCmp.NoneTotal
import Derived.Test.YthfjhbbpdhjklaaGreatQTI02
import Derived.Test.YthfjhbbpdhjklaaGreatQTI04
set_option linter.unusedVariables false
namespace Go.Sy
open Go.ChangeShapes Go.WideShapes Go.ChangeAt Go.RowKit
def xoB:List CK→List Value→Prop
 | [],[]=>True
 | .int k::ks,v::vs=>(∃ n,v=.int k n∧(Lit.int k n).wf=true)∧xoB ks vs
 | .bool::ks,v::vs=>(∃ b,v=.bool b)∧xoB ks vs
 | _,_=>False
theorem xkZ:∀ {ks ks':List CK} {l l':List Value},xoB ks l→xoB ks' l'→xoB (ks++ks') (l++l')
 | [],_,[],_,_,h=>h
 | .int _::_,_,_::_,_,h,h'=>⟨h.1,xkZ h.2 h'⟩
 | .bool::_,_,_::_,_,h,h'=>⟨h.1,xkZ h.2 h'⟩
 | [],_,_::_,_,h,_=>h.elim
 | .int _::_,_,[],_,h,_=>h.elim
 | .bool::_,_,[],_,h,_=>h.elim
section
variable (P:Program)
def xlM:Nat→TypeId→Option (List CK)
 | 0,_=>none
 | n+1,t=>match P.underlying t with
  | some .bool=>some [.bool]
  | some (.int k)=>some [.int k]
  | some (.struct fs)=>match xt8 P (xlM n) fs.toList 0 with
   | some ks=>if ks.length=P.cellsOf t then some ks else none
   | none=>none
  | _=>none
inductive FK where
 | cells (ks:List CK)
 | sl (e:TypeId) (ks:List CK)
inductive VK where
 | one (k:CK)
 | agg (ks:List CK)
 | sl (e:TypeId) (ks:List CK)
 | mix (fs:List FK)
 | nst (e:TypeId) (fs:List FK)
def xmw (n:Nat):List Field→Nat→Option (List FK)
 | [],_=>some []
 | f::r,off=>if f.offset=off then (match P.underlying f.type with
   | some (.slice e)=>match xlM P n e with
    | some ks=>if ks.length=P.cellsOf e∧ks≠[]∧P.cellsOf f.type=1 then (match xmw n r (off+1) with | some l=>some (.sl e ks::l) | none=>none) else none
    | none=>none
   | _=>match xlM P n f.type with
    | some ks=>if ks.length=P.cellsOf f.type then (match xmw n r (off+ks.length) with | some l=>some (.cells ks::l) | none=>none) else none
    | none=>none) else none
def FK.size:FK→Nat
 | .cells ks=>ks.length
 | .sl _ _=>1
def xsn (n:Nat) (t:TypeId):Option VK :=
 match P.underlying t with
 | some .bool=>some (.one .bool)
 | some (.int k)=>some (.one (.int k))
 | some (.struct fs)=>match xlM P n t with
  | some ks=>some (.agg ks)
  | none=>match xmw P n fs.toList 0 with
   | some l=>if (l.map FK.size).sum=P.cellsOf t then some (.mix l) else none
   | none=>none
 | some (.slice e)=>match xlM P n e with
  | some ks=>if ks.length=P.cellsOf e∧ks≠[] then some (.sl e ks) else none
  | none=>match P.underlying e with
   | some (.struct fs)=>match xmw P n fs.toList 0 with
    | some l=>if (l.map FK.size).sum=P.cellsOf e∧P.cellsOf e≠0 then some (.nst e l) else none
    | none=>none
   | _=>none
 | _=>none
end
def nksF:List FK→List NK
 | []=>[]
 | .cells ks::r=>ks.map .c++nksF r
 | .sl e ks::r=>.s e ks::nksF r
theorem xmh:∀ l:List FK,(nksF l).length=(l.map FK.size).sum
 | []=>rfl
 | .cells ks::r=>by simp [nksF,FK.size,xmh r]
 | .sl e ks::r=>by simp [nksF,FK.size,xmh r]; omega
def elOk:List CK→List Int→Prop
 | [],[]=>True
 | .int k::ks,n::ns=>(Lit.int k n).wf=true∧elOk ks ns
 | .bool::ks,n::ns=>(n=0∨n=1)∧elOk ks ns
 | _,_=>False
theorem xqT:∀ {ks:List CK} {ns:List Int},elOk ks ns→ns.length=ks.length
 | [],[],_=>rfl
 | .int k::ks,n::ns,h=>by simp [xqT h.2]
 | .bool::ks,n::ns,h=>by simp [xqT h.2]
 | [],_::_,h=>h.elim
 | .int _::_,[],h=>h.elim
 | .bool::_,[],h=>h.elim
theorem xpG:∀ {ks:List CK} {cs:List Value} (pre:List Int),xoB ks cs→∃ ns,elOk ks ns∧cs=elV ks pre.length (pre++ns)
 | [],[],pre,_=>⟨[],trivial,rfl⟩
 | .int k::ks,v::vs,pre,h=>by
  obtain ⟨⟨n,rfl,hw⟩,h2⟩:=h
  obtain ⟨ns,h3,h4⟩:=xpG (pre++[n]) h2
  refine ⟨n::ns,⟨hw,h3⟩,?_⟩
  rw [h4]
  simp [elV,CK.val]
 | .bool::ks,v::vs,pre,h=>by
  obtain ⟨⟨b,rfl⟩,h2⟩:=h
  obtain ⟨ns,h3,h4⟩:=xpG (pre++[bif b then 1 else 0]) h2
  refine ⟨(bif b then 1 else 0)::ns,⟨by cases b<;>simp,h3⟩,?_⟩
  rw [h4]
  cases b<;>simp [elV,CK.val]
 | [],_::_,_,h=>h.elim
 | .int _::_,[],_,h=>h.elim
 | .bool::_,[],_,h=>h.elim
def xDI (W:World) (e:TypeId) (ks:List CK) (v:Value):Prop:=∃ l:List (List Int),(∀ el∈l,elOk ks el)∧xaY W false e ks.length v l.length (rowV ks l)
def xtq (W:World):List FK→List Value→Prop
 | [],cs=>cs=[]
 | .cells ks::r,cs=>xoB ks (cs.take ks.length)∧xtq W r (cs.drop ks.length)
 | .sl e ks::r,cs=>∃ v cs',cs=v::cs'∧xDI W e ks v∧xtq W r cs'
def xqU:List NK→List Int→Prop
 | [],[]=>True
 | .c (.int k)::ks,n::ns=>(Lit.int k n).wf=true∧xqU ks ns
 | .c .bool::ks,n::ns=>(n=0∨n=1)∧xqU ks ns
 | .s _ ks'::ks,n::ns=>(∃ l:List (List Int),n=encL l∧∀ el∈l,elOk ks' el)∧xqU ks ns
 | _,_=>False
def xfh (W:World):VK→Value→Prop
 | .one k,v=>xoB [k] [v]
 | .agg ks,v=>∃ cs,v=.agg cs.toArray∧xoB ks cs
 | .sl e ks,v=>∃ l:List (List Int),(∀ el∈l,elOk ks el)∧xaY W false e ks.length v l.length (rowV ks l)
 | .mix fs,v=>∃ cs,v=.agg cs.toArray∧xtq W fs cs
 | .nst e fs,v=>∃ l vs,xgl W false e (nksF fs) v l vs∧∀ el∈l,xqU (nksF fs) el
def xl5 (w:World):List NK→List Int→List Value→Prop
 | [],[],[]=>True
 | k::ks,n::ns,v::vs=>xfR w k n v∧xl5 w ks ns vs
 | _,_,_=>False
theorem xmY {w:World}:∀ {k1 k2:List NK} {n1 n2:List Int} {v1 v2:List Value},xl5 w k1 n1 v1→xl5 w k2 n2 v2→xl5 w (k1++k2) (n1++n2) (v1++v2)
 | [],_,[],_,[],_,_,h=>h
 | _::_,_,_::_,_,_::_,_,h,h'=>⟨h.1,xmY h.2 h'⟩
 | [],_,[],_,_::_,_,h,_=>h.elim
 | [],_,_::_,_,_,_,h,_=>h.elim
 | _::_,_,[],_,_,_,h,_=>h.elim
 | _::_,_,_::_,_,[],_,h,_=>h.elim
theorem xie:∀ {k1 k2:List NK} {n1 n2:List Int},xqU k1 n1→xqU k2 n2→xqU (k1++k2) (n1++n2)
 | [],_,[],_,_,h=>h
 | .c (.int k)::_,_,_::_,_,h,h'=>⟨h.1,xie h.2 h'⟩
 | .c .bool::_,_,_::_,_,h,h'=>⟨h.1,xie h.2 h'⟩
 | .s _ _::_,_,_::_,_,h,h'=>⟨h.1,xie h.2 h'⟩
 | [],_,_::_,_,h,_=>h.elim
 | .c (.int k)::_,_,[],_,h,_=>h.elim
 | .c .bool::_,_,[],_,h,_=>h.elim
 | .s _ _::_,_,[],_,h,_=>h.elim
theorem xvs:∀ {ks:List CK} {ns:List Int},elOk ks ns→xqU (ks.map .c) ns
 | [],[],_=>trivial
 | .int k::ks,n::ns,h=>⟨h.1,xvs h.2⟩
 | .bool::ks,n::ns,h=>⟨h.1,xvs h.2⟩
 | [],_::_,h=>h.elim
 | .int _::_,[],h=>h.elim
 | .bool::_,[],h=>h.elim
theorem xwf {w:World}:∀ {ks:List CK} {ns:List Int} (pre:List Int),elOk ks ns→xl5 w (ks.map .c) ns (elV ks pre.length (pre++ns))
 | [],[],_,_=>trivial
 | k::ks,n::ns,pre,h=>by
  have h2:elOk ks ns:=by cases k<;>exact h.2
  have ih:=xwf (w:=w) (pre++[n]) h2
  rw [List.append_assoc] at ih
  simp only [List.length_append,List.length_cons,List.length_nil,Nat.zero_add,List.singleton_append] at ih
  refine ⟨?_,ih⟩
  show k.val _=k.val n
  simp
 | [],_::_,_,h=>h.elim
 | .int _::_,[],_,h=>h.elim
 | .bool::_,[],_,h=>h.elim
theorem xs4 {W:World}:∀ {fs:List FK} {cs:List Value},xtq W fs cs→∃ ns,xqU (nksF fs) ns∧xl5 W (nksF fs) ns cs
 | [],cs,h=>by
  have h:cs=[]:=h
  subst h; exact ⟨[],trivial,trivial⟩
 | .cells ks::r,cs,h=>by
  obtain ⟨n1,h1,h2⟩:=xpG [] h.1
  obtain ⟨n2,h3,h4⟩:=xs4 h.2
  refine ⟨n1++n2,xie (xvs h1) h3,?_⟩
  rw [← List.take_append_drop ks.length cs,h2]
  exact xmY (xwf [] h1) h4
 | .sl e ks::r,cs,h=>by
  obtain ⟨v,cs',rfl,⟨l,hl,hr⟩,h2⟩:=h
  obtain ⟨ns,h3,h4⟩:=xs4 h2
  refine ⟨encL l::ns,⟨⟨l,rfl,hl⟩,h3⟩,⟨?_,?_⟩,h4⟩
  ·obtain ⟨a,c,h1,_⟩:=hr.reads.is
   rw [h1]; rfl
  ·rw [xdD]; exact hr
theorem xr0 {w:World}:∀ {ks:List NK} {ns:List Int} {vs:List Value},xl5 w ks ns vs→ns.length=ks.length∧vs.length=ks.length
 | [],[],[],_=>⟨rfl,rfl⟩
 | k::ks,n::ns,v::vs,h=>by obtain ⟨a,b⟩:=xr0 h.2; simp [a,b]
 | [],[],_::_,h=>h.elim
 | [],_::_,_,h=>h.elim
 | _::_,[],_,h=>h.elim
 | _::_,_::_,[],h=>h.elim
theorem xr1 {w:World}:∀ {ks:List NK} {ns:List Int} {vs:List Value},xl5 w ks ns vs→∀ (j:Nat) (k:NK),ks[j]?=some k→∃ u,vs[j]?=some u∧xfR w k (ns.getD j 0) u
 | [],[],[],_,j,k,hk=>by simp at hk
 | k0::ks,n::ns,v::vs,h,0,k,hk=>by
  simp only [List.getElem?_cons_zero,Option.some.injEq] at hk
  subst hk
  exact ⟨v,rfl,h.1⟩
 | k0::ks,n::ns,v::vs,h,j+1,k,hk=>xr1 h.2 j k (by simpa using hk)
 | [],[],_::_,h,_,_,_=>h.elim
 | [],_::_,_,h,_,_,_=>h.elim
 | _::_,[],_,h,_,_,_=>h.elim
 | _::_,_::_,[],h,_,_,_=>h.elim
theorem xs3 {α:Type} {z:Nat}:∀ (L:List (List α)),(∀ x∈L,x.length=z)→∀ i j,i<L.length→j<z→L.flatten[i*z+j]?=(L.getD i [])[j]?
 | [],_,i,j,hi,_=>by cases hi
 | x::L,h,0,j,_,hj=>by
  rw [List.flatten_cons,Nat.zero_mul,Nat.zero_add,List.getElem?_append_left (by rw [h x (by simp)]; exact hj)]; rfl
 | x::L,h,i+1,j,hi,hj=>by
  have hx:=h x (by simp)
  rw [List.flatten_cons,List.getElem?_append_right (by rw [hx,Nat.succ_mul]; omega),hx,show (i+1)*z+j-z=i*z+j by rw [Nat.succ_mul]; omega]
  exact xs3 L (fun y hy=>h y (by simp [hy])) i j (by simpa using hi) hj
theorem xwv {α:Type} {z:Nat}:∀ (L:List (List α)),(∀ x∈L,x.length=z)→L.flatten.length=L.length*z
 | [],_=>by simp
 | x::L,h=>by rw [List.flatten_cons,List.length_append,h x (by simp),xwv L (fun y hy=>h y (by simp [hy])),List.length_cons,Nat.succ_mul]; omega
def xgi (W:World):List VK→List Value→Prop
 | [],[]=>True
 | k::ks,v::vs=>xfh W k v∧xgi W ks vs
 | _,_=>False
section
variable {P:Program} {H:Type} {enc:TypeId×Value→H} {w:World} {base:Nat} {spare:Nat→Bool} {held:Bool}
theorem xqO {fuel:Nat} {rec_:TypeId→Option (List CK)} (hrec:∀ t ks cs x,rec_ t=some ks→DataW.trod enc P w base spare held fuel t cs=some x→xoB ks cs) (cs:List Value) :
  ∀ (fs:List Field) (off:Nat) (ks:List CK) (xs:List (DataW H×List MemPlace)),xt8 P rec_ fs off=some ks →
   fs.mapM (fun f=>DataW.trod enc P w base spare held fuel f.type ((cs.drop f.offset).take (P.cellsOf f.type)))=some xs→xoB ks ((cs.drop off).take ks.length)
 | [],off,ks,xs,h,_=>by cases h; simp [xoB]
 | f::r,off,ks,xs,h,hm=>by
  unfold xt8 at h
  split at h
  ·rename_i hoff
   split at h
   ·rename_i k1 hk1
    split at h
    ·rename_i hlen
     split at h
     ·rename_i k2 hk2
      cases h
      rw [List.mapM_cons] at hm
      simp only [bind,Option.bind_eq_some_iff,pure,Option.some.injEq] at hm
      obtain ⟨x,hx,xs',hxs,_⟩:=hm
      have h1:=hrec _ _ _ _ hk1 hx
      have h2:=xqO hrec cs r _ k2 xs' hk2 hxs
      have:=xkZ h1 h2
      rw [hoff,← hlen] at this
      rw [List.length_append,List.take_add,List.drop_drop]
      exact this
     ·cases h
    ·cases h
   ·cases h
  ·cases h
theorem xnl:∀ (fuel n:Nat) (t:TypeId) (ks:List CK) (cs:List Value) (x:DataW H×List MemPlace),xlM P n t=some ks→DataW.trod enc P w base spare held fuel t cs=some x→xoB ks cs
 | 0,_,_,_,_,_,_,h=>by cases h
 | fuel+1,0,t,ks,cs,x,h,_=>by cases h
 | fuel+1,n+1,t,ks,cs,x,h,hx=>by
  unfold xlM at h
  cases hu:P.underlying t with
  | none=>rw [hu] at h; cases h
  | some d =>
   rw [hu] at h
   cases d with
   | bool =>
    cases h
    obtain ⟨b,hcs,_⟩:=DataW.trod_bool hu hx
    rw [hcs]
    exact ⟨⟨b,rfl⟩,trivial⟩
   | int k =>
    cases h
    obtain ⟨m,hcs,_,hwf⟩:=DataW.trod_int hu hx
    rw [hcs]
    exact ⟨⟨m,rfl,hwf⟩,trivial⟩
   | struct fs =>
    simp only [] at h
    split at h
    ·rename_i ks' hks
     split at h
     ·rename_i hlen
      cases h
      unfold DataW.trod at hx
      rw [hu] at hx
      simp only [] at hx
      split at hx
      ·rename_i hl
       cases hm:fs.toList.mapM (fun f=>DataW.trod enc P w base spare held fuel f.type ((cs.drop f.offset).take (P.cellsOf f.type))) with
       | none=>rw [hm] at hx; cases hx
       | some xs =>
        have:=xqO (fun t ks cs x h1 h2=>xnl fuel n t ks cs x h1 h2) cs fs.toList 0 ks xs hks hm
        rw [List.drop_zero,hlen,← hl,List.take_length] at this
        exact this
      ·cases hx
     ·cases h
    ·cases h
   | _=>cases h
theorem xjI {base n:Nat} {a:Addr} {cs:List Value} (hn:n≠0) (h:w.cells? base a n=some cs):a.block<w.heap.size:=by
 unfold World.cells? at h
 split at h
 ·obtain ⟨m,rfl⟩:∃ m,n=m+1:=⟨n-1,by omega⟩
  have h2:w.cell? (a.add 0)=cs[0]?:=mapM_some_get h 0 0 (by simp)
  have h3:0<cs.length:=by
   have:cs.length=m+1:=by simpa using mapM_some_length h
   omega
  rw [List.getElem?_eq_getElem h3] at h2
  unfold World.cell? at h2
  rw [xgW] at h2
  cases hb:w.heap[a.block]? with
  | none=>rw [hb] at h2; cases h2
  | some o=>exact (Array.getElem?_eq_some_iff.1 hb).1
 ·cases h
theorem xr8 {fuel n:Nat} {t e:TypeId} {ks:List CK} {cs:List Value} {x:DataW H×List MemPlace} (hsp:∀ b,spare b=true) (hu:P.underlying t=some (.slice e)) (hks:xlM P n e=some ks) (hlen:ks.length=P.cellsOf e) (hne:ks≠[]) (h:DataW.trod enc P w base spare held fuel t cs=some x):∃ v,cs=[v]∧xDI w e ks v:=by
 rcases DataW.trod_slice hu h with ⟨h1,_⟩ | ⟨a,len0,cap0,elems,rest,m,hm,h1,_,_,hl,hc,hel,hget,hrest,_⟩
 ·refine ⟨_,h1,?_⟩
  refine ⟨[],(fun _ h=>by cases h),⟨⟨none,0,rfl,Nat.le_refl _,Nat.zero_le _⟩,fun j u hj=>by simp [rowV] at hj,fun b hb=>by cases hb⟩,by simp [rowV],fun h=>by cases h⟩
 ·refine ⟨_,h1,?_⟩
  have cells:∀ i,i<len0→∃ el,elOk ks el∧∀ j u,(elV ks 0 el)[j]?=some u→w.cell? (a.add (i*ks.length+j))=some u:=by
   intro i hi
   have hg:=hget i hi
   have hi':i<elems.length:=by omega
   rw [List.getElem?_eq_getElem hi',Option.bind_eq_some_iff] at hg
   obtain ⟨cs,hcs,htr⟩:=hg
   have hfit:=xnl m n e ks cs _ hks htr
   obtain ⟨el,h2,h3⟩:=xpG [] hfit
   simp only [List.length_nil,List.nil_append] at h3
   refine ⟨el,h2,fun j u hj=>?_⟩
   rw [← h3] at hj
   unfold World.cells? at hcs
   split at hcs
   ·have hj':j<P.cellsOf e:=by
     have:=(List.getElem?_eq_some_iff.1 hj).1
     have hl2:cs.length=P.cellsOf e:=by simpa using mapM_some_length hcs
     omega
    have:=mapM_some_get hcs j j (by simp [hj'])
    rw [← xjM,hlen,this,hj]
   ·cases hcs
  have build:∀ m,m≤len0→∃ l:List (List Int),l.length=m∧(∀ el∈l,elOk ks el)∧∀ i,i<m→∀ j u,(elV ks 0 (l.getD i []))[j]?=some u→w.cell? (a.add (i*ks.length+j))=some u:=by
   intro m
   induction m with
   | zero=>intro _; exact ⟨[],rfl,(fun _ h=>by cases h),fun i hi=>by omega⟩
   | succ m ih =>
    intro hm
    obtain ⟨l,l1,l2,l3⟩:=ih (by omega)
    obtain ⟨el,e1,e2⟩:=cells m (by omega)
    refine ⟨l++[el],by simp [l1],fun x hx=>?_,fun i hi=>?_⟩
    ·rcases List.mem_append.1 hx with hx | hx
     ·exact l2 x hx
     ·rw [List.mem_singleton.1 hx]; exact e1
    ·by_cases h:i<m
     ·have:(l++[el]).getD i []=l.getD i []:=by simp [List.getD_eq_getElem?_getD,List.getElem?_append_left (show i<l.length by omega)]
      rw [this]; exact l3 i h
     ·have hi:i=m:=by omega
      subst hi
      have:(l++[el]).getD i []=el:=by rw [← l1]; simp [List.getD_eq_getElem?_getD]
      rw [this]; exact e2
  obtain ⟨l,l1,l2,l3⟩:=build len0 (Nat.le_refl _)
  refine ⟨l,l2,⟨⟨some a,cap0,by rw [l1],by rw [l1]; exact hl,hc⟩,fun j u hj=>⟨a,rfl,?_⟩,fun b hb=>?_⟩,xaT ks l,fun h=>by cases h⟩
  ·have hjl:j<(rowV ks l).length:=(List.getElem?_eq_some_iff.1 hj).1
   rw [xaT] at hjl
   have hz:0<ks.length:=by
    rcases Nat.eq_zero_or_pos ks.length with h | h
    ·rw [h,Nat.mul_zero] at hjl; omega
    ·exact h
   have h1:j/ks.length<l.length:=(Nat.div_lt_iff_lt_mul hz).2 hjl
   have h2:j%ks.length<ks.length:=Nat.mod_lt _ hz
   have h3:j/ks.length*ks.length+j%ks.length=j:=by rw [Nat.mul_comm]; exact Nat.div_add_mod j ks.length
   have h4:=xlf ks l (j/ks.length) (j%ks.length) h2 h1
   rw [h3,hj] at h4
   have:=l3 (j/ks.length) (by omega) (j%ks.length) u h4.symm
   rwa [h3] at this
  ·simp only [blkO] at hb
   split at hb
   ·cases hb
   ·rename_i hcap
    cases hb
    have hn0:P.cellsOf e≠0:=by rw [← hlen]; exact fun h0=>hne (List.eq_nil_of_length_eq_zero h0)
    by_cases h0:0<len0
    ·have hg:=hget 0 h0
     rw [List.getElem?_eq_getElem (show 0<elems.length by omega),Option.bind_eq_some_iff] at hg
     obtain ⟨cs,hcs,_⟩:=hg
     have:=xjI hn0 hcs
     rwa [xgW] at this
    ·obtain ⟨hr1,hr2⟩:=hrest (hsp _)
     have hg:=hr2 0 (by omega)
     rw [List.getElem?_eq_getElem (show 0<rest.length by omega),Option.bind_eq_some_iff] at hg
     obtain ⟨cs,hcs,_⟩:=hg
     have:=xjI hn0 hcs
     rwa [xgW] at this
theorem xpF {fuel n:Nat} (hsp:∀ b,spare b=true) (cs:List Value):∀ (fs:List Field) (off:Nat) (l:List FK) (xs:List (DataW H×List MemPlace)),xmw P n fs off=some l→off+(l.map FK.size).sum=cs.length →
  fs.mapM (fun f=>DataW.trod enc P w base spare held fuel f.type ((cs.drop f.offset).take (P.cellsOf f.type)))=some xs→xtq w l (cs.drop off)
 | [],off,l,xs,h,hl,_=>by
  cases h
  have hl:off=cs.length:=by simpa using hl
  show cs.drop off=[]
  rw [hl,List.drop_length]
 | f::r,off,l,xs,h,hl,hm=>by
  unfold xmw at h
  split at h
  case isFalse=>cases h
  rename_i hoff
  rw [List.mapM_cons] at hm
  simp only [bind,Option.bind_eq_some_iff,pure,Option.some.injEq] at hm
  obtain ⟨x,hx,xs',hxs,_⟩:=hm
  split at h
  ·rename_i e hu
   split at h
   case h_2=>cases h
   rename_i ks hks
   split at h
   case isFalse=>cases h
   rename_i hc
   split at h
   case h_2=>cases h
   rename_i l' hl'
   cases h
   obtain ⟨v,h1,h2⟩:=xr8 hsp hu hks hc.1 hc.2.1 hx
   have ih:=xpF hsp cs r (off+1) l' xs' hl' (by simp [FK.size] at hl; omega) hxs
   refine ⟨v,cs.drop (off+1),?_,h2,ih⟩
   rw [hoff,hc.2.2] at h1
   have hlt:off<cs.length:=by simp [FK.size] at hl; omega
   rw [List.drop_eq_getElem_cons hlt] at h1 ⊢
   simp only [List.take_succ_cons,List.take_zero,List.cons.injEq,and_true] at h1
   rw [h1]
  ·split at h
   case h_2=>cases h
   rename_i ks hks
   split at h
   case isFalse=>cases h
   rename_i hlen
   split at h
   case h_2=>cases h
   rename_i l' hl'
   cases h
   have ih:=xpF hsp cs r (off+ks.length) l' xs' hl' (by simp [FK.size] at hl; omega) hxs
   have h1:=xnl _ _ _ _ _ _ hks hx
   rw [hoff,← hlen] at h1
   refine ⟨h1,?_⟩
   rw [List.drop_drop]
   exact ih
theorem xui {fuel n:Nat} {t e:TypeId} {gs:Array Field} {fs:List FK} {cs:List Value} {x:DataW H×List MemPlace} (hsp:∀ b,spare b=true) (hu:P.underlying t=some (.slice e)) (hg:P.underlying e=some (.struct gs)) (hks:xmw P n gs.toList 0=some fs) (hlen:(fs.map FK.size).sum=P.cellsOf e) (hne:P.cellsOf e≠0) (h:DataW.trod enc P w base spare held fuel t cs=some x):∃ v,cs=[v]∧xfh w (.nst e fs) v:=by
 have hz:(nksF fs).length=P.cellsOf e:=(xmh fs).trans hlen
 rcases DataW.trod_slice hu h with ⟨h1,_⟩ | ⟨a,len0,cap0,elems,rest,m,hm,h1,_,_,hl,hc,hel,hget,hrest,_⟩
 ·refine ⟨_,h1,[],[],⟨⟨⟨⟨none,0,rfl,Nat.le_refl _,Nat.zero_le _⟩,fun j u hj=>by simp at hj,fun b hb=>by cases hb⟩,by simp,fun h=>by cases h⟩,fun i j k hi=>by cases hi⟩,fun el hel=>by cases hel⟩
 ·refine ⟨_,h1,?_⟩
  have cells:∀ i,i<len0→∃ (el:List Int) (cs:List Value),xqU (nksF fs) el∧xl5 w (nksF fs) el cs∧∀ j u,cs[j]?=some u→w.cell? (a.add (i*(nksF fs).length+j))=some u:=by
   intro i hi
   have hg':=hget i hi
   have hi':i<elems.length:=by omega
   rw [List.getElem?_eq_getElem hi',Option.bind_eq_some_iff] at hg'
   obtain ⟨cs,hcs,htr⟩:=hg'
   have hcl:cs.length=P.cellsOf e:=by
    unfold World.cells? at hcs
    split at hcs
    ·simpa using mapM_some_length hcs
    ·cases hcs
   have hfit:xtq w fs cs:=by
    cases m with
    | zero=>cases htr
    | succ m =>
     unfold DataW.trod at htr
     rw [hg] at htr
     simp only [] at htr
     split at htr
     ·obtain ⟨xs,hmm,_⟩:=Option.map_eq_some_iff.1 htr
      have:=xpF hsp cs gs.toList 0 fs xs hks (by rw [Nat.zero_add,hlen,hcl]) hmm
      rwa [List.drop_zero] at this
     ·rename_i hno; exact absurd hcl hno
   obtain ⟨el,h2,h3⟩:=xs4 hfit
   refine ⟨el,cs,h2,h3,fun j u hj=>?_⟩
   unfold World.cells? at hcs
   split at hcs
   ·have hj':j<P.cellsOf e:=by
     have:=(List.getElem?_eq_some_iff.1 hj).1
     omega
    have:=mapM_some_get hcs j j (by simp [hj'])
    rw [← xjM,hz,this,hj]
   ·cases hcs
  have build:∀ m,m≤len0→∃ L:List (List Int×List Value),L.length=m∧(∀ y∈L,xqU (nksF fs) y.1∧xl5 w (nksF fs) y.1 y.2)∧∀ i,i<m→∀ j u,((L.map (·.2)).getD i [])[j]?=some u→w.cell? (a.add (i*(nksF fs).length+j))=some u:=by
   intro m
   induction m with
   | zero=>intro _; exact ⟨[],rfl,(fun _ h=>by cases h),fun i hi=>by omega⟩
   | succ m ih =>
    intro hm
    obtain ⟨L,l1,l2,l3⟩:=ih (by omega)
    obtain ⟨el,cs,e1,e2,e3⟩:=cells m (by omega)
    refine ⟨L++[(el,cs)],by simp [l1],fun y hy=>?_,fun i hi=>?_⟩
    ·rcases List.mem_append.1 hy with hy | hy
     ·exact l2 y hy
     ·rw [List.mem_singleton.1 hy]; exact ⟨e1,e2⟩
    ·by_cases h:i<m
     ·have:((L++[(el,cs)]).map (·.2)).getD i []=(L.map (·.2)).getD i []:=by simp [List.getD_eq_getElem?_getD,List.getElem?_append_left (show i<(L.map (·.2)).length by simpa [l1] using h)]
      rw [this]; exact l3 i h
     ·have hi:i=m:=by omega
      subst hi
      have:((L++[(el,cs)]).map (·.2)).getD i []=cs:=by rw [← l1]; simp [List.getD_eq_getElem?_getD]
      rw [this]; exact e3
  obtain ⟨L,l1,l2,l3⟩:=build len0 (Nat.le_refl _)
  have hLz:∀ x∈L.map (·.2),x.length=(nksF fs).length:=fun x hx=>by
   obtain ⟨y,hy,rfl⟩:=List.mem_map.1 hx
   exact (xr0 (l2 y hy).2).2
  have hvl:(L.map (·.2)).flatten.length=len0*(nksF fs).length:=by rw [xwv _ hLz,List.length_map,l1]
  have hz0:0<(nksF fs).length:=by omega
  refine ⟨L.map (·.1),(L.map (·.2)).flatten,⟨⟨⟨⟨some a,cap0,by rw [List.length_map,l1],by rw [List.length_map,l1]; exact hl,hc⟩,fun j u hj=>⟨a,rfl,?_⟩,fun b hb=>?_⟩,by rw [hvl,List.length_map,l1],fun h=>by cases h⟩,fun i j k hi hk=>?_⟩,fun el hel=>?_⟩
  ·have hjl:=(List.getElem?_eq_some_iff.1 hj).1
   rw [hvl] at hjl
   have h1:j/(nksF fs).length<len0:=(Nat.div_lt_iff_lt_mul hz0).2 hjl
   have h2:j%(nksF fs).length<(nksF fs).length:=Nat.mod_lt _ hz0
   have h3:j/(nksF fs).length*(nksF fs).length+j%(nksF fs).length=j:=by rw [Nat.mul_comm]; exact Nat.div_add_mod j _
   have h4:=xs3 _ hLz (j/(nksF fs).length) (j%(nksF fs).length) (by rw [List.length_map,l1]; exact h1) h2
   rw [h3,hj] at h4
   have:=l3 (j/(nksF fs).length) h1 (j%(nksF fs).length) u h4.symm
   rwa [h3] at this
  ·simp only [blkO] at hb
   split at hb
   ·cases hb
   ·rename_i hcap
    cases hb
    by_cases h0:0<len0
    ·have hg:=hget 0 h0
     rw [List.getElem?_eq_getElem (show 0<elems.length by omega),Option.bind_eq_some_iff] at hg
     obtain ⟨cs,hcs,_⟩:=hg
     have:=xjI hne hcs
     rwa [xgW] at this
    ·obtain ⟨hr1,hr2⟩:=hrest (hsp _)
     have hg:=hr2 0 (by omega)
     rw [List.getElem?_eq_getElem (show 0<rest.length by omega),Option.bind_eq_some_iff] at hg
     obtain ⟨cs,hcs,_⟩:=hg
     have:=xjI hne hcs
     rwa [xgW] at this
  ·have hi':i<L.length:=by simpa using hi
   have hj:j<(nksF fs).length:=(List.getElem?_eq_some_iff.1 hk).1
   rw [xs3 _ hLz i j (by simpa using hi') hj]
   have e1:(L.map (·.2)).getD i []=L[i].2:=by simp [List.getD_eq_getElem?_getD,List.getElem?_eq_getElem hi']
   have e2:(L.map (·.1)).getD i []=L[i].1:=by simp [List.getD_eq_getElem?_getD,List.getElem?_eq_getElem hi']
   rw [e1,e2]
   exact xr1 (l2 _ (List.getElem_mem hi')).2 j k hk
  ·obtain ⟨y,hy,rfl⟩:=List.mem_map.1 hel
   exact (l2 y hy).1
theorem xAo {n:Nat} {t:TypeId} {k:VK} {r:Reach} {b0:Nat} {v:Value} {d:DataW H} {p:List MemPlace} (hsp:∀ b,spare b=true) (hk:xsn P n t=some k) (hv:Value.okWide P w r b0 t v) (h:DataW.Trod enc P w base spare held t v d p):xfh w k v:=by
 obtain ⟨fuel,hf⟩:=h
 unfold xsn at hk
 cases hu:P.underlying t with
 | none=>rw [hu] at hk; cases hk
 | some dd =>
  rw [hu] at hk
  cases dd with
  | bool =>
   cases hk
   cases fuel with
   | zero=>cases hf
   | succ fuel =>
    obtain ⟨b,hcs,_⟩:=DataW.trod_bool hu hf
    obtain ⟨x,hx⟩:∃ x,v=.bool x:=okWide_bool hu hv
    exact ⟨⟨x,hx⟩,trivial⟩
  | int k =>
   cases hk
   cases fuel with
   | zero=>cases hf
   | succ fuel =>
    obtain ⟨m,hcs,_,hwf⟩:=DataW.trod_int hu hf
    obtain ⟨x,rfl⟩:∃ x,v=.int k x:=okWide_int hu hv
    simp [Value.cells] at hcs
    subst hcs
    exact ⟨⟨x,rfl,hwf⟩,trivial⟩
  | struct fs =>
   simp only [] at hk
   obtain ⟨cs,rfl,hcs⟩:=okWide_struct hu hv
   cases hks:xlM P n t with
   | none =>
    rw [hks] at hk
    simp only [] at hk
    split at hk
    case h_2=>cases hk
    rename_i l hl
    split at hk
    case isFalse=>cases hk
    rename_i hsum
    cases hk
    refine ⟨cs.toList,by simp,?_⟩
    have hf:DataW.trod enc P w base spare held fuel t cs.toList=some (d,p):=by simpa [Value.cells] using hf
    cases fuel with
    | zero=>cases hf
    | succ fuel =>
     unfold DataW.trod at hf
     rw [hu] at hf
     simp only [] at hf
     split at hf
     ·cases hm:fs.toList.mapM (fun f=>DataW.trod enc P w base spare held fuel f.type ((cs.toList.drop f.offset).take (P.cellsOf f.type))) with
      | none=>rw [hm] at hf; cases hf
      | some xs =>
       have:=xpF hsp cs.toList fs.toList 0 l xs hl (by rw [Nat.zero_add,hsum]; simpa using hcs.symm) hm
       rwa [List.drop_zero] at this
     ·cases hf
   | some ks =>
    rw [hks] at hk
    cases hk
    exact ⟨cs.toList,by simp,xnl fuel n t ks _ _ hks (by simpa [Value.cells] using hf)⟩
  | slice e =>
   simp only [] at hk
   cases hks:xlM P n e with
   | none =>
    rw [hks] at hk
    simp only [] at hk
    split at hk
    case h_2=>cases hk
    rename_i gs hg
    split at hk
    case h_2=>cases hk
    rename_i l hl
    split at hk
    case isFalse=>cases hk
    rename_i hc
    cases hk
    obtain ⟨v',h1,h2⟩:=xui hsp hu hg hl hc.1 hc.2 hf
    obtain ⟨a0,len0,cap0,rfl⟩:=okWide_slice hu hv
    have h1:[Value.slice a0 len0 cap0]=[v']:=h1
    cases h1
    exact h2
   | some ks =>
    rw [hks] at hk
    simp only [] at hk
    split at hk
    ·rename_i hc
     cases hk
     obtain ⟨v',h1,h2⟩:=xr8 hsp hu hks hc.1 hc.2 hf
     obtain ⟨a0,len0,cap0,rfl⟩:=okWide_slice hu hv
     have h1:[Value.slice a0 len0 cap0]=[v']:=h1
     cases h1
     exact h2
    ·cases hk
  | _=>cases hk
theorem xww {n:Nat} {r:Reach} {b0:Nat} (hsp:∀ b,spare b=true):∀ (ts:List TypeId) (vs:List Value) (ds:List (DataW H)) (ps:List MemPlace) (ks:List VK),ts.mapM (xsn P n)=some ks →
  (∀ (j:Nat) t v,ts[j]?=some t→vs[j]?=some v→Value.okWide P w r b0 t v)→DataW.TrodAll enc P w base spare held ts vs ds ps→xgi w ks vs
 | [],[],[],_,ks,h,_,_=>by simp at h; subst h; trivial
 | t::ts,v::vs,d::ds,ps,ks,h,hv,ha=>by
  rw [List.mapM_cons] at h
  simp only [bind,Option.bind_eq_some_iff,pure,Option.some.injEq] at h
  obtain ⟨k,hk,ks',hks,rfl⟩:=h
  obtain ⟨p,q,h1,h2,_⟩:=ha
  exact ⟨xAo hsp hk (hv 0 t v rfl rfl) h1,xww hsp ts vs ds q ks' hks (fun j t v ht hv'=>hv (j+1) t v (by simpa using ht) (by simpa using hv')) h2⟩
 | [],[],_::_,_,_,_,_,h=>h.elim
 | [],_::_,_,_,_,_,_,h=>h.elim
 | _::_,[],_,_,_,_,_,h=>h.elim
 | _::_,_::_,[],_,_,_,_,h=>h.elim
theorem xmF (hl:laidOutB P=true) {W W':World} (hb:Below W.heap.size W W'):∀ (ts:List TypeId) (vs:List Value) (ds:List (DataW H)) (ps:List MemPlace),(ts.all fun t=>P.readableRec t&&decide (t<P.types.size))=true →
  (∀ x∈ps,x.block<W.heap.size)→DataW.TrodAll enc P W 0 (fun _=>true) true ts vs ds ps→DataW.TrodAll enc P W' 0 (fun b=>decide (b<W.heap.size)) true ts vs ds ps
 | [],[],[],_,_,_,h=>h
 | t::ts,v::vs,d::ds,ps,ht,hp,h=>by
  obtain ⟨p,q,h1,h2,rfl⟩:=h
  rw [List.all_cons,Bool.and_eq_true,Bool.and_eq_true] at ht
  exact ⟨p,q,Below.trod hl ht.1.1 (of_decide_eq_true ht.1.2) h1 hb (fun x hx=>hp x (List.mem_append_left _ hx)),xmF hl hb ts vs ds q ht.2 (fun x hx=>hp x (List.mem_append_right _ hx)) h2,rfl⟩
 | [],[],_::_,_,_,_,h=>h.elim
 | [],_::_,_,_,_,_,h=>h.elim
 | _::_,[],_,_,_,_,h=>h.elim
 | _::_,_::_,[],_,_,_,h=>h.elim
theorem xrM {W:World}:∀ (ts:List TypeId) (vs:List Value) (ds:List (DataW H)) (ps:List MemPlace),DataW.TrodAll enc P W 0 (fun _=>true) true ts vs ds ps→∀ x∈ps,x.block<W.heap.size
 | [],[],[],ps,h,x,hx=>by have h:ps=[]:=h; rw [h] at hx; cases hx
 | t::ts,v::vs,d::ds,ps,h,x,hx=>by
  obtain ⟨p,q,⟨m,hm⟩,h2,rfl⟩:=h
  rcases List.mem_append.1 hx with hx | hx
  ·exact DataW.trod_lt m _ _ _ hm x hx
  ·exact xrM ts vs ds q h2 x hx
 | [],[],_::_,_,h,_,_=>h.elim
 | [],_::_,_,_,h,_,_=>h.elim
 | _::_,[],_,_,h,_,_=>h.elim
 | _::_,_::_,[],_,h,_,_=>h.elim
end
theorem xt6 {C:Checked} {f:FuncId} {fn:Func} {spec:ChangeSpec} {conds:List PathCond} {T:TypeId} {k:Nat} {H:Type} {enc:TypeId×Value→H}
  (hl:laidOutB C.prog=true) (hts:(fn.params.toList.all fun t=>C.prog.readableRec t&&decide (t<C.prog.types.size))=true) (hk:fn.params.toList.length=k) (hres:fn.resultTypes=#[T]) (hT:C.prog.underlying T=some .bool)
  (hvars:spec.vars=[]) (hspec:∀ (H:Type) (ds:List (DataW H)),ds.length=k→spec.fn H ds={ results:=[.lit (.bool true)],args:=ds })
  (hwalk:∀ (W:World) (base:Nat) (args:Array Value) (ds:List (DataW H)) (p:List MemPlace),(∀ (j:Nat) t v,fn.params.toList[j]?=some t→args.toList[j]?=some v→Value.okWide C.prog W .any base t v) →
   DataW.TrodAll enc C.prog W 0 (fun _=>true) true fn.params.toList args.toList ds p→Calls C.prog f args W fun e w'=>e=.returned (.bool true)∧Below W.heap.size W w') :
  ∀ (W:World) (base:Nat) (args:Array Value) (ds gs:List (DataW H)) (before:List MemPlace),
   (∀ (j:Nat) t v,fn.params[j]?=some t→args[j]?=some v→Value.okWide C.prog W .any base t v) →
   DataW.Whole enc C.prog fn.params.toList spec.vars false W args.toList ds gs before →
   conds.all (PathCond.test C.prog ⟨fn.params.toList,ds,spec.plain.varTypes C.prog,gs⟩)=true →
   ({}:Assume).holds C.prog (lone (Frame.enter C.prog f args .normal) [] W) →
   Calls C.prog f args W fun e W'=>∃ v,e=.returned v∧spec.post enc C.prog fn false true false false W args v W':=by
 intro W base args ds gs before hval hW _ _
 have hW':=hW
 rw [hvars] at hW
 obtain ⟨p,q,hA,hV,rfl,hfz,hnd⟩:=hW
 obtain ⟨rfl,rfl⟩:=trodVars_none hV
 have hlen:∀ (ts:List TypeId) (vs:List Value) (ds:List (DataW H)) (p:List MemPlace),DataW.TrodAll enc C.prog W 0 (fun _=>true) true ts vs ds p→ds.length=ts.length:=by
  intro ts
  induction ts with
  | nil=>intro vs ds p h; cases vs<;>cases ds<;>first | rfl | exact h.elim
  | cons t ts ih =>
   intro vs ds p h
   cases vs with
   | nil=>exact h.elim
   | cons v vs =>
    cases ds with
    | nil=>exact h.elim
    | cons d ds =>
     obtain ⟨_,_,_,h2,_⟩:=h
     simp [ih vs ds _ h2]
 refine (hwalk W base args ds p (fun j t v ht hv=>hval j t v (by simpa using ht) (by simpa using hv)) hA).mono fun e W' ⟨he,bel⟩=>?_
 subst he
 have e1:spec.fn H (ds++[])={ results:=[.lit (.bool true)],args:=ds }:=by rw [List.append_nil]; exact hspec H ds (by rw [hlen _ _ _ _ hA,hk])
 refine ⟨_,rfl,ds,[],_,[],p,[],hW',?_,?_,?_,bel.frame _,fun h=>by cases h⟩
 ·rw [e1,hres]
  exact trodAll_mk1 (shut_bool hT _)
 ·rw [e1]
  exact xmF hl bel _ _ _ _ hts (xrM _ _ _ _ hA) hA
 ·rw [hvars,e1]
  rfl
theorem xyI {C:Checked} {f:FuncId} {fn:Func} {spec:ChangeSpec} {conds:List PathCond} {T:TypeId} {k:Nat} {H:Type} {enc:TypeId×Value→H} {ks:List VK}
  (hl:laidOutB C.prog=true) (hts:(fn.params.toList.all fun t=>C.prog.readableRec t&&decide (t<C.prog.types.size))=true) (hk:fn.params.toList.length=k) (hres:fn.resultTypes=#[T]) (hT:C.prog.underlying T=some .bool)
  (hvars:spec.vars=[]) (hspec:∀ (H:Type) (ds:List (DataW H)),ds.length=k→spec.fn H ds={ results:=[.lit (.bool true)],args:=ds })
  (hks:fn.params.toList.mapM (xsn C.prog 9)=some ks)
  (hwalk:∀ (W:World) (args:List Value),xgi W ks args→Calls C.prog f args.toArray W fun e w'=>e=.returned (.bool true)∧Below W.heap.size W w') :
  ∀ (W:World) (base:Nat) (args:Array Value) (ds gs:List (DataW H)) (before:List MemPlace),
   (∀ (j:Nat) t v,fn.params[j]?=some t→args[j]?=some v→Value.okWide C.prog W .any base t v) →
   DataW.Whole enc C.prog fn.params.toList spec.vars false W args.toList ds gs before →
   conds.all (PathCond.test C.prog ⟨fn.params.toList,ds,spec.plain.varTypes C.prog,gs⟩)=true →
   ({}:Assume).holds C.prog (lone (Frame.enter C.prog f args .normal) [] W) →
   Calls C.prog f args W fun e W'=>∃ v,e=.returned v∧spec.post enc C.prog fn false true false false W args v W' :=
 xt6 hl hts hk hres hT hvars hspec fun W _ args _ _ hval hA=>by
  have:=hwalk W args.toList (xww (fun _=>rfl) _ _ _ _ _ hks hval hA)
  simpa using this
theorem xnm {k:IntKind} {v:Value} {W:World} (h:xfh W (.one (.int k)) v):∃ n,v=.int k n∧(Lit.int k n).wf=true:=h.1
theorem xy5 {cs:List Value} {W:World} (h:xtq W [] cs):cs=[]:=h
theorem xwx {e:TypeId} {ks:List CK} {r:List FK} {cs:List Value} {W:World} (h:xtq W (.sl e ks::r) cs):∃ v cs',cs=v::cs'∧xfh W (.sl e ks) v∧xtq W r cs':=h
theorem xzd {vs:List Value} {W:World} (h:xgi W [] vs):vs=[]:=by
 cases vs with
 | nil=>rfl
 | cons=>exact h.elim
theorem xhH {k:VK} {ks:List VK} {vs:List Value} {W:World} (h:xgi W (k::ks) vs):∃ v vs',vs=v::vs'∧xfh W k v∧xgi W ks vs':=by
 cases vs with
 | nil=>exact h.elim
 | cons v vs=>exact ⟨v,vs,rfl,h.1,h.2⟩
theorem xzc {k0:VK} {vs:List Value} {W:World} (h:xgi W [k0] vs):∃ v0,vs=[v0]∧xfh W k0 v0:=by
 obtain ⟨v,vs',rfl,h0,h⟩:=xhH h
 obtain rfl:=xzd h
 exact ⟨v,rfl,h0⟩
theorem xzb {k0 k1:VK} {vs:List Value} {W:World} (h:xgi W [k0,k1] vs):∃ v0 v1,vs=[v0,v1]∧xfh W k0 v0∧xfh W k1 v1:=by
 obtain ⟨v,vs',rfl,h0,h⟩:=xhH h
 obtain ⟨u0,rfl,g0⟩:=xzc h
 exact ⟨v,u0,rfl,h0,g0⟩
theorem xza {k0 k1 k2:VK} {vs:List Value} {W:World} (h:xgi W [k0,k1,k2] vs):∃ v0 v1 v2,vs=[v0,v1,v2]∧xfh W k0 v0∧xfh W k1 v1∧xfh W k2 v2:=by
 obtain ⟨v,vs',rfl,h0,h⟩:=xhH h
 obtain ⟨u0,u1,rfl,g0,g1⟩:=xzb h
 exact ⟨v,u0,u1,rfl,h0,g0,g1⟩
theorem xy9 {k0 k1 k2 k3:VK} {vs:List Value} {W:World} (h:xgi W [k0,k1,k2,k3] vs):∃ v0 v1 v2 v3,vs=[v0,v1,v2,v3]∧xfh W k0 v0∧xfh W k1 v1∧xfh W k2 v2∧xfh W k3 v3:=by
 obtain ⟨v,vs',rfl,h0,h⟩:=xhH h
 obtain ⟨u0,u1,u2,rfl,g0,g1,g2⟩:=xza h
 exact ⟨v,u0,u1,u2,rfl,h0,g0,g1,g2⟩
theorem xy8 {k0 k1 k2 k3 k4:VK} {vs:List Value} {W:World} (h:xgi W [k0,k1,k2,k3,k4] vs):∃ v0 v1 v2 v3 v4,vs=[v0,v1,v2,v3,v4]∧xfh W k0 v0∧xfh W k1 v1∧xfh W k2 v2∧xfh W k3 v3∧xfh W k4 v4:=by
 obtain ⟨v,vs',rfl,h0,h⟩:=xhH h
 obtain ⟨u0,u1,u2,u3,rfl,g0,g1,g2,g3⟩:=xy9 h
 exact ⟨v,u0,u1,u2,u3,rfl,h0,g0,g1,g2,g3⟩
theorem xy7 {k0 k1 k2 k3 k4 k5:VK} {vs:List Value} {W:World} (h:xgi W [k0,k1,k2,k3,k4,k5] vs):∃ v0 v1 v2 v3 v4 v5,vs=[v0,v1,v2,v3,v4,v5]∧xfh W k0 v0∧xfh W k1 v1∧xfh W k2 v2∧xfh W k3 v3∧xfh W k4 v4∧xfh W k5 v5:=by
 obtain ⟨v,vs',rfl,h0,h⟩:=xhH h
 obtain ⟨u0,u1,u2,u3,u4,rfl,g0,g1,g2,g3,g4⟩:=xy8 h
 exact ⟨v,u0,u1,u2,u3,u4,rfl,h0,g0,g1,g2,g3,g4⟩
theorem xy6 {k0 k1 k2 k3 k4 k5 k6:VK} {vs:List Value} {W:World} (h:xgi W [k0,k1,k2,k3,k4,k5,k6] vs):∃ v0 v1 v2 v3 v4 v5 v6,vs=[v0,v1,v2,v3,v4,v5,v6]∧xfh W k0 v0∧xfh W k1 v1∧xfh W k2 v2∧xfh W k3 v3∧xfh W k4 v4∧xfh W k5 v5∧xfh W k6 v6:=by
 obtain ⟨v,vs',rfl,h0,h⟩:=xhH h
 obtain ⟨u0,u1,u2,u3,u4,u5,rfl,g0,g1,g2,g3,g4,g5⟩:=xy7 h
 exact ⟨v,u0,u1,u2,u3,u4,u5,rfl,h0,g0,g1,g2,g3,g4,g5⟩
theorem xBI {P:Program} {Γ:Con} (hΓ:xbh P Γ) {f:FuncId} {args:List AV} {objs:List Obj} {x:Eff} (h:Γ f args objs=some x) (hr:x.rm=[]) (hv:∀ E,x.v.den E=.bool true) (hp:x.holds) {E:Env} {w:World} (hpre:xuM E w objs) :
  Calls P f (AV.denL E args).toArray w fun e w'=>e=.returned (.bool true)∧Below w.heap.size w w':=by
 obtain ⟨_,_,hc⟩:=(hΓ f args objs x h).1 hr
 exact (hc hp E w hpre).mono fun e w' ⟨E',he,hg⟩=>⟨by rw [he,hv],hg.below.toBelow⟩
def xzg (vs:List Value):Env:=fun k=>vs.getD k (.slice none 0 0)
theorem xxq {w:World} (vs:List Value) (bs:List Body) (hl:vs.length=bs.length)
  (h:∀ (k:Nat) v b,vs[k]?=some v→bs[k]?=some b→v.oneCell'=true∧xa6 b=true∧∀ (E:Env),E k=v→xa0 E w k false b) :
  xuM (xzg vs) w (bs.zipIdx.map fun y=>⟨y.2,0,false,y.1⟩):=by
 refine ⟨fun k=>?_,fun o ho=>?_,fun o ho o' ho' hk=>?_⟩
 ·unfold xzg
  rw [List.getD_eq_getElem?_getD]
  cases hv:vs[k]? with
  | none=>rfl
  | some v =>
   have hk:k<bs.length:=by have:=(List.getElem?_eq_some_iff.1 hv).1; omega
   exact (h k v bs[k] hv (List.getElem?_eq_getElem hk)).1
 ·obtain ⟨⟨b,k⟩,hm,rfl⟩:=List.mem_map.1 ho
  have hr:=(List.mk_mem_zipIdx_iff_getElem? (l:=bs) (x:=b) (i:=k)).1 hm
  have hk:k<bs.length:=(List.getElem?_eq_some_iff.1 hr).1
  have hv:vs[k]?=some vs[k]:=List.getElem?_eq_getElem (by omega)
  obtain ⟨_,h2,h3⟩:=h k _ b hv hr
  exact ⟨h3 _ (by unfold xzg; rw [List.getD_eq_getElem?_getD,hv]; rfl),h2,by simpa using hk⟩
 ·obtain ⟨⟨x,k⟩,hm,rfl⟩:=List.mem_map.1 ho
  obtain ⟨⟨x',k'⟩,hm',rfl⟩:=List.mem_map.1 ho'
  simp only [] at hk
  subst hk
  have h1:=(List.mk_mem_zipIdx_iff_getElem? (l:=bs) (x:=x) (i:=k)).1 hm
  have h2:=(List.mk_mem_zipIdx_iff_getElem? (l:=bs) (x:=x') (i:=k)).1 hm'
  rw [h1] at h2
  cases h2
  rfl
def Con.none:Con:=fun _ _ _=>Option.none
theorem xxr (P:Program):xbh P Con.none:=fun _ _ _ _ h=>by cases h
end Go.Sy
set_option linter.unusedVariables false
namespace Go.Sy
open Go.RowKit Go.Proofs Go.Sort
section
variable {P:Program} {Γ:Con} {w:World}
def xx7 (cl:Option FuncId):List AV→Bool
 | []=>cl.isNone
 | [.fn (.func g) [] []]=>(match cl with | some g'=>Nat.beq g g' | none=>false)
 | [.val (.func (.func g) ⟨[]⟩ ⟨[]⟩)]=>(match cl with | some g'=>Nat.beq g g' | none=>false)
 | _=>false
def xBw:Option FuncId→List Value
 | none=>[]
 | some g=>[.func (.func g) #[] #[]]
theorem xw3 {cl:Option FuncId} {rest:List AV} (h:xx7 cl rest=true) (E:Env):AV.denL E rest=xBw cl:=by
 unfold xx7 at h
 split at h
 ·cases cl with
  | none=>rfl
  | some g=>cases h
 ·split at h
  ·rw [Nat.eq_of_beq_eq_true h]; rfl
  ·cases h
 ·split at h
  ·rw [Nat.eq_of_beq_eq_true h]; rfl
  ·cases h
 ·cases h
def conR (Γ:Con) (F:FuncId) (cl:Option FuncId) (e:TypeId) (ks:List CK) (pr:List (List Int)→Option Prop) (g:List (List Int)→List (List Int)) (v:List (List Int)→AV):Con:=fun f args objs =>
 match Nat.beq f F,args,objs with
 | true,.sl 0::rest,[⟨0,0,true,.row e' ks' l⟩] =>
  if xx7 cl rest&&Nat.beq e' e&&decide (ks'=ks) then some ⟨pr l,[0],0,[⟨0,0,true,.row e ks (g l)⟩],v l⟩ else Γ f args objs
 | _,_,_=>Γ f args objs
def xAz (P:Program) (F:FuncId) (cl:Option FuncId) (e:TypeId) (ks:List CK) (pr:List (List Int)→Option Prop) (g:List (List Int)→List (List Int)) (v:List (List Int)→AV):Prop :=
 ∀ (l:List (List Int)) (rv:Value) (w:World),(∀ p,pr l=some p→p)→rv.oneCell'=true→xaY w true e ks.length rv l.length (rowV ks l) →
  Calls P F (rv::xBw cl).toArray w fun ex w'=>ex=.returned ((v l).den fun _=>rv)∧xaY w' true e ks.length rv (g l).length (rowV ks (g l))∧Chg w w' (blkO rv).toList
theorem xos (hΓ:xbh P Γ) {F:FuncId} {cl:Option FuncId} {e:TypeId} {ks:List CK} {pr:List (List Int)→Option Prop} {g:List (List Int)→List (List Int)} {v:List (List Int)→AV} (hv:∀ l,∀ k∈AV.keys (v l),k=0) (hf:xdE P F) (h:xAz P F cl e ks pr g v):xbh P (conR Γ F cl e ks pr g v):=by
 intro f args objs x hx
 unfold conR at hx
 split at hx
 ·rename_i rest e' ks' l hb
  split at hx
  ·rename_i hc
   simp only [Bool.and_eq_true] at hc
   obtain ⟨⟨h1,h2⟩,h3⟩:=hc
   have h2:=Nat.eq_of_beq_eq_true h2
   have h3:=of_decide_eq_true h3
   subst h2 h3
   have hb:=Nat.eq_of_beq_eq_true hb
   subst hb
   cases hx
   refine ⟨fun hn=>absurd hn (by simp),fun _=>⟨_,_,_,l,g l,⟨rfl,rfl,rfl,hv l,hf,fun hp E w hE hr=>?_⟩⟩⟩
   have:=h l (E 0) w (fun p hp'=>by
    have hp:Eff.holds ⟨pr l,[0],0,[⟨0,0,true,.row _ _ (g l)⟩],v l⟩:=hp
    unfold Eff.holds at hp
    simp only [hp'] at hp
    exact hp) (hE 0) hr
   have e1:(AV.denL E (.sl 0::_)).toArray=(E 0::xBw cl).toArray:=congrArg List.toArray (congrArg (E 0::·) (xw3 h1 E))
   rw [e1]
   have e2:(v l).den E=(v l).den fun _=>E 0:=xcy (p:=fun k=>k=0) (fun k hk=>by rw [hk]) _ ((xaW _).2 (hv l))
   rw [e2]
   exact this
  ·exact hΓ _ _ _ _ hx
 ·exact hΓ _ _ _ _ hx
variable {e:TypeId} {ks:List CK} {l:List (List Int)} {v:Value} {α:Type} [Inhabited α]
theorem xkW {d:Array α} {enc:α→Value} {vs:List Value} (hd:d.toList.map enc=vs) {j:Nat} (hj:j<d.size):vs[j]?=some (enc d[j]!):=by
 rw [← hd,List.getElem?_map,getElem!_pos d j hj]
 simp [hj]
theorem xv6 (enc:α→Value) (d:Array α) (cur:Array Value) (h:d.size≤cur.size):(putCells enc 0 d cur).toList.take d.size=d.toList.map enc:=by
 apply List.ext_getElem?
 intro j
 rw [List.getElem?_take]
 split
 ·rename_i hj
  rw [xkW rfl hj]
  simp [putCells,hj,show j<cur.size by omega]
 ·rename_i hj
  rw [List.getElem?_eq_none (by simp; omega)]
theorem xqq (h:xaY w true e ks.length v l.length (rowV ks l)):(∃ a,v=.slice a 0 0∧l=[]) ∨
  ∃ b cap,cap≠0∧v=.slice (some ⟨b,0,none⟩) l.length cap∧blkO v=some b∧b<w.heap.size∧l.length≤maxLen∧l.length≤cap ∧
   (∀ (β:Type) (_:Inhabited β) (enc:β→Value) (d:Array β),d.toList.map enc=rowV ks l→Holds enc w b 0 d) ∧
   ∀ (β:Type) (_:Inhabited β) (enc:β→Value) (d:Array β) (l':List (List Int)) (m:Nat) (os:Array Go.Obj),l'.length=l.length→(rowV ks l').length=l'.length*ks.length→d.toList.map enc=rowV ks l' →
    xaY (grow (Go.Sort.putRow enc (Sort.ahead w m) b 0 d) os) true e ks.length v l'.length (rowV ks l')∧Chg w (grow (Go.Sort.putRow enc (Sort.ahead w m) b 0 d) os) [b]:=by
 rcases h.own rfl with ⟨a,h1,h2⟩ | ⟨b,cap,cur,h1,h2,h3,h4,h5,h6⟩
 ·exact .inl ⟨a,by rw [h1],List.length_eq_zero_iff.1 h2⟩
 ·by_cases hc:cap=0
  ·subst hc
   have:l.length=0:=by omega
   exact .inl ⟨_,by rw [h1,this],List.length_eq_zero_iff.1 this⟩
  ·have hb:blkO v=some b:=by rw [h1]; simp [blkO,hc]
   have hlt:=h.reads.blk b hb
   have hle:l.length*ks.length≤cur.size:=by rw [h5]; exact Nat.mul_le_mul_right _ h3
   refine .inr ⟨b,cap,hc,h1,hb,hlt,Nat.le_trans h3 h4,h3,fun β _ enc d hd j hj=>?_,fun β _ enc d l' m os hl hlen hd=>?_⟩
   ·have hsz:d.size=(rowV ks l).length:=by rw [← hd]; simp
    have hjc:j<cur.size:=by rw [hsz,h.len] at hj; omega
    have:=xkW hd hj
    rw [← h6,List.getElem?_take] at this
    split at this
    ·refine ⟨?_,?_⟩
     ·simp only [World.cell?,Nat.zero_add,h2]
      simpa using this
     ·simp only [World.frozen?,Nat.zero_add,h2]
      simp
    ·cases this
   ·have hsz:d.size=l'.length*ks.length:=by rw [← hlen,← hd]; simp
    have hw:(grow (Go.Sort.putRow enc (Sort.ahead w m) b 0 d) os).heap[b]?=some (.cells (putCells enc 0 d cur) e (0,0)):=by
     have e1:(Go.Sort.putRow enc (Sort.ahead w m) b 0 d).heap[b]?=some (.cells (putCells enc 0 d cur) e (0,0)):=by
      simp [Go.Sort.putRow,mapBlock,Sort.ahead,Array.getElem?_modify,h2,onCells]
     have e2:b<(Go.Sort.putRow enc (Sort.ahead w m) b 0 d).heap.size:=by simpa [Go.Sort.putRow,mapBlock,Sort.ahead] using hlt
     show ((Go.Sort.putRow enc (Sort.ahead w m) b 0 d).heap++os)[b]?=_
     rw [Array.getElem?_append_left e2]
     exact e1
    refine ⟨xcC (.inr ⟨b,cap,_,by rw [h1,hl],hw,by rw [hl]; exact h3,h4,by simp [putCells,h5],?_⟩) hlen,?_⟩
    ·rw [← hsz,← hd]
     exact xv6 enc d cur (by rw [hsz,hl]; exact hle)
    ·refine ⟨Nat.le_add_right _ _,rfl,rfl,rfl,by simp [grow,putRow,mapBlock,Sort.ahead],fun k hk hn=>?_⟩
     have hne:b≠k:=fun h=>hn (by simp [h])
     show ((Go.Sort.putRow enc (Sort.ahead w m) b 0 d).heap++os)[k]?=_
     rw [Array.getElem?_append_left (by simpa [Go.Sort.putRow,mapBlock,Sort.ahead] using hk)]
     simp [Go.Sort.putRow,mapBlock,Sort.ahead,Array.getElem?_modify,hne]
theorem xuh (ks:List CK) (l:List (List Int)):(flatK (elV ks 0) ks.length l.toArray).toList.map id=rowV ks l:=by
 rw [List.map_id]
 apply List.ext_getElem?
 intro t
 by_cases ht:t<l.length*ks.length
 ·have h0:0<ks.length:=by
   rcases Nat.eq_zero_or_pos ks.length with h | h
   ·rw [h] at ht; omega
   ·exact h
  have hq:t/ks.length<l.length:=(Nat.div_lt_iff_lt_mul h0).2 ht
  have hm:t%ks.length<ks.length:=Nat.mod_lt _ h0
  have e1:(flatK (elV ks 0) ks.length l.toArray).toList[t]?=some (elV ks 0 l[t/ks.length])[t%ks.length]! := by
   have:=get_flatK (elV ks 0) ks.length l.toArray t (by simpa using ht)
   rw [getElem!_pos _ t (by simpa using ht)] at this
   rw [Array.getElem?_toList,Array.getElem?_eq_getElem (by simpa using ht),this]
   congr 2
   simp [getElem!_pos l.toArray (t/ks.length) (by simpa using hq)]
  rw [e1]
  clear e1
  have key:∀ (l:List (List Int)) (q:Nat) (hq:q<l.length) (c:Nat),c<ks.length→(rowV ks l)[q*ks.length+c]?=some (elV ks 0 l[q])[c]! := by
   intro l
   induction l with
   | nil=>intro q hq; simp at hq
   | cons x l ih =>
    intro q hq c hc
    have e:rowV ks (x::l)=elV ks 0 x++rowV ks l:=rfl
    rw [e]
    cases q with
    | zero =>
     rw [Nat.zero_mul,Nat.zero_add,List.getElem?_append_left (by rw [xbD]; exact hc)]
     rw [List.getElem?_eq_getElem (by rw [xbD]; exact hc),getElem!_pos _ _ (by simpa [xbD] using hc)]
     rfl
    | succ q =>
     rw [List.getElem?_append_right (by rw [xbD,Nat.add_mul]; omega),xbD,show (q+1)*ks.length+c-ks.length=q*ks.length+c by rw [Nat.add_mul]; omega]
     exact ih q (by simpa using hq) c hc
  have:=key l (t/ks.length) hq (t%ks.length) hm
  rw [Nat.div_add_mod'] at this
  exact this.symm
 ·rw [List.getElem?_eq_none (by simpa using ht),List.getElem?_eq_none (by rw [xaT]; omega)]
end
end Go.Sy
set_option linter.unusedVariables false
namespace Go.Sy
open Go.RowKit
section
variable {P:Program} {Γ:Con} {Ξ:xo4}
end
end Go.Sy
namespace Go.Sy
theorem xuc {step:List U→Option (Nat×List U)}:∀ {n m:Nat} {xs:List U} {r r':Nat×List U},xhy step n xs=some r→xhy step m xs=some r'→r=r'
 | 0,_,_,_,_,h,_=>by cases h
 | _+1,0,_,_,_,_,h=>by cases h
 | n+1,m+1,xs,r,r',h,h'=>by
  unfold xhy at h h'
  cases hs:step xs with
  | none=>rw [hs] at h; cases h
  | some y =>
   obtain ⟨k,ys⟩:=y
   rw [hs] at h h'
   cases k with
   | zero=>exact xuc h h'
   | succ k=>cases h; cases h'; rfl
theorem xml {step:List U→Option (Nat×List U)} {n:Nat} {xs:List U} {r:Nat×List U} (h:xhy step n xs=some r):xax step xs∧xat step xs=r:=by
 have hok:xax step xs:=⟨n,r,h⟩
 obtain ⟨m,hm⟩:=xoP hok
 exact ⟨hok,xuc hm h⟩
theorem xiY {step:List U→Option (Nat×List U)} {n:Nat} {xs ys:List U} {r:Nat×List U} (hs:step xs=some (0,ys)) (h:xhy step n ys=some r):xhy step (n+1) xs=some r:=by
 unfold xhy; rw [hs]; exact h
theorem xjv {step:List U→Option (Nat×List U)} {xs ys:List U} {m:Nat} (hs:step xs=some (m+1,ys)):xhy step 1 xs=some (m+1,ys):=by
 unfold xhy; rw [hs]
theorem xaa {α:Type} {p:Prop} {o:Option α} (hp:p):xac p o=o:=xxi hp o
end Go.Sy
namespace Go.Sy
theorem xfv {x:Int} (h : -9223372036854775808≤x∧x≤9223372036854775807):IntKind.i64.wrap x=x:=IntWalk.i64_in x h
theorem xpL {i:Nat} (h:i<4611686018427387904):IntKind.i64.wrap ((i:Int)+1)=((i+1:Nat):Int):=by
 rw [xfv (by omega)]; rfl
theorem xaw {i:Nat} {l:List (List Int)} (h:i<l.length):inR (i:Int) l:=by unfold inR; omega
theorem dlt {α:Type} {i n:Nat} (h:i<n) {inst:Decidable ((i:Int)<(n:Int))} (x y:α):(bif @decide ((i:Int)<(n:Int)) inst then x else y)=x:=by rw [decide_eq_true (by omega)]; rfl
theorem dnlt {α:Type} (n:Nat) {inst:Decidable ((n:Int)<(n:Int))} (x y:α):(bif @decide ((n:Int)<(n:Int)) inst then x else y)=y:=by rw [decide_eq_false (by omega)]; rfl
theorem gi_z (n:Int) (r:List U):gi (.i n::r) 0=n:=by cases r<;>rfl
theorem gi_1 (a:U) (r:List U):gi (a::r) 1=gi r 0:=by cases r<;>rfl
theorem gi_2 (a b:U) (r:List U):gi (a::b::r) 2=gi r 0:=by cases r<;>rfl
theorem gi_3 (a b c:U) (r:List U):gi (a::b::c::r) 3=gi r 0:=by cases r<;>rfl
theorem gi_4 (a b c d:U) (r:List U):gi (a::b::c::d::r) 4=gi r 0:=by cases r<;>rfl
theorem gb_z (n:Bool) (r:List U):gb (.b n::r) 0=n:=by cases r<;>rfl
theorem gb_1 (a:U) (r:List U):gb (a::r) 1=gb r 0:=by cases r<;>rfl
theorem gr_z (n:List (List Int)) (r:List U):gr (.r n::r) 0=n:=by cases r<;>rfl
theorem gr_1 (a:U) (r:List U):gr (a::r) 1=gr r 0:=by cases r<;>rfl
theorem gr_2 (a b:U) (r:List U):gr (a::b::r) 2=gr r 0:=by cases r<;>rfl
theorem gr_3 (a b c:U) (r:List U):gr (a::b::c::r) 3=gr r 0:=by cases r<;>rfl
theorem xgz {step:List U→Option (Nat×List U)} (n:Nat) (p:Nat→Bool) (mk out:Nat→List U) (m m':Nat) (fin:List U)
  (hs:∀ i,i<n→step (mk i)=bif p i then some (m+1,out i) else some (0,mk (i+1))) (he:step (mk n)=some (m'+1,fin)) :
  xax step (mk 0)∧((∃ i,i<n∧p i=true∧(∀ j,j<i→p j=false)∧xat step (mk 0)=(m+1,out i))∨((∀ j,j<n→p j=false)∧xat step (mk 0)=(m'+1,fin))):=by
 have key:∀ k i,k+i=n→(∃ i',i≤i'∧i'<n∧p i'=true∧(∀ j,i≤j→j<i'→p j=false)∧xhy step (k+1) (mk i)=some (m+1,out i'))∨((∀ j,i≤j→j<n→p j=false)∧xhy step (k+1) (mk i)=some (m'+1,fin)):=by
  intro k
  induction k with
  | zero =>
   intro i hi
   obtain rfl:i=n:=by omega
   exact Or.inr ⟨fun j _ _=>by omega,xjv he⟩
  | succ k ih =>
   intro i hi
   have h:=hs i (by omega)
   cases hp:p i with
   | true =>
    rw [hp] at h
    refine Or.inl ⟨i,Nat.le_refl _,by omega,hp,fun j _ _=>by omega,?_⟩
    unfold xhy; rw [h]; rfl
   | false =>
    rw [hp] at h
    rcases ih (i+1) (by omega) with ⟨i',h1,h2,h3,h4,h5⟩ | ⟨h4,h5⟩
    ·refine Or.inl ⟨i',by omega,h2,h3,fun j hj hj'=>?_,xiY h h5⟩
     by_cases e:j=i
     ·rw [e]; exact hp
     ·exact h4 j (by omega) hj'
    ·refine Or.inr ⟨fun j hj hj'=>?_,xiY h h5⟩
     by_cases e:j=i
     ·rw [e]; exact hp
     ·exact h4 j (by omega) hj'
 rcases key n 0 rfl with ⟨i,_,h2,h3,h4,h5⟩ | ⟨h4,h5⟩
 ·obtain ⟨h6,h7⟩:=xml h5
  exact ⟨h6,Or.inl ⟨i,h2,h3,fun j hj=>h4 j (Nat.zero_le _) hj,h7⟩⟩
 ·obtain ⟨h6,h7⟩:=xml h5
  exact ⟨h6,Or.inr ⟨fun j hj=>h4 j (Nat.zero_le _) hj,h7⟩⟩
def upto {σ:Type} (f:Nat→σ→σ):Nat→σ→σ
 | 0,s=>s
 | n+1,s=>f n (upto f n s)
theorem xm3 {σ:Type} {step:List U→Option (Nat×List U)} (n:Nat) (mk:Nat→σ→List U) (f:Nat→σ→σ) (I:Nat→σ→Prop) (m:Nat) (fin:σ→List U)
  (hI:∀ i s,i<n→I i s→I (i+1) (f i s)) (hs:∀ i s,i<n→I i s→step (mk i s)=some (0,mk (i+1) (f i s))) (he:∀ s,I n s→step (mk n s)=some (m+1,fin s)) {s:σ} (h0:I 0 s) :
  xax step (mk 0 s)∧xat step (mk 0 s)=(m+1,fin (upto f n s))∧I n (upto f n s):=by
 have hIn:∀ i,i≤n→I i (upto f i s):=by
  intro i
  induction i with
  | zero=>intro _; exact h0
  | succ i ih=>intro h; exact hI i _ (by omega) (ih (by omega))
 have key:∀ k i,k+i=n→xhy step (k+1) (mk i (upto f i s))=some (m+1,fin (upto f n s)):=by
  intro k
  induction k with
  | zero =>
   intro i hi
   obtain rfl:i=n:=by omega
   exact xjv (he _ (hIn _ (Nat.le_refl _)))
  | succ k ih =>
   intro i hi
   exact xiY (hs i _ (by omega) (hIn i (by omega))) (ih (i+1) (by omega))
 obtain ⟨h6,h7⟩:=xml (key n 0 rfl)
 exact ⟨h6,h7,hIn n (Nat.le_refl _)⟩
theorem xd1 {step:List U→Option (Nat×List U)} (n:Nat) (Inv:Nat→List U→Prop) (Post:Nat×List U→Prop)
  (hs:∀ i xs,i<n→Inv i xs→(∃ ys,step xs=some (0,ys)∧Inv (i+1) ys)∨∃ m ys,step xs=some (m+1,ys)∧Post (m+1,ys))
  (he:∀ xs,Inv n xs→∃ m ys,step xs=some (m+1,ys)∧Post (m+1,ys)) {xs:List U} (h0:Inv 0 xs):xax step xs∧Post (xat step xs):=by
 have key:∀ k i xs,k+i=n→Inv i xs→∃ r,xhy step (k+1) xs=some r∧Post r:=by
  intro k
  induction k with
  | zero =>
   intro i xs hi h
   obtain rfl:i=n:=by omega
   obtain ⟨m,ys,h1,h2⟩:=he _ h
   exact ⟨_,xjv h1,h2⟩
  | succ k ih =>
   intro i xs hi h
   rcases hs i xs (by omega) h with ⟨ys,h1,h2⟩ | ⟨m,ys,h1,h2⟩
   ·obtain ⟨r,h3,h4⟩:=ih (i+1) ys (by omega) h2
    exact ⟨r,xiY h1 h3,h4⟩
   ·refine ⟨(m+1,ys),?_,h2⟩
    unfold xhy; rw [h1]
 obtain ⟨r,h1,h2⟩:=key n 0 xs rfl h0
 obtain ⟨h3,h4⟩:=xml h1
 rw [h4]; exact ⟨h3,h2⟩
end Go.Sy
set_option linter.unusedVariables false
namespace Go.Sy
section
variable {α:Type} {le:α→α→Bool}
def insB (le:α→α→Bool) (x:α):List α→List α
 | []=>[x]
 | y::r=>if le x y then x::y::r else y::insB le x r
def xfQ (le:α→α→Bool):List α→List α
 | []=>[]
 | x::r=>insB le x (xfQ le r)
theorem xqE (x:α):∀ l:List α,(insB le x l).Perm (x::l)
 | []=>.refl _
 | y::r=>by
  unfold insB
  split
  ·exact .refl _
  ·exact ((xqE x r).cons y).trans (.swap x y r)
theorem xhg:∀ l:List α,(xfQ le l).Perm l
 | []=>.refl _
 | x::r=>(xqE x _).trans ((xhg r).cons x)
theorem xqD (ht:∀ a b,le a b=true∨le b a=true) (htr:∀ a b c,le a b=true→le b c=true→le a c=true) (x:α):∀ l:List α,l.Pairwise (fun a b=>le a b=true)→(insB le x l).Pairwise (fun a b=>le a b=true)
 | [],_=>by simp [insB]
 | y::r,h=>by
  unfold insB
  have h1:=List.pairwise_cons.1 h
  split
  ·rename_i hxy
   refine List.pairwise_cons.2 ⟨fun z hz=>?_,h⟩
   rcases List.mem_cons.1 hz with rfl | hz
   ·exact hxy
   ·exact htr _ _ _ hxy (h1.1 z hz)
  ·rename_i hxy
   refine List.pairwise_cons.2 ⟨fun z hz=>?_,xqD ht htr x r h1.2⟩
   rcases List.mem_cons.1 ((xqE x r).mem_iff.1 hz) with rfl | hz
   ·exact (ht y z).resolve_right hxy
   ·exact h1.1 z hz
theorem xfL (ht:∀ a b,le a b=true∨le b a=true) (htr:∀ a b c,le a b=true→le b c=true→le a c=true):∀ l:List α,(xfQ le l).Pairwise (fun a b=>le a b=true)
 | []=>List.Pairwise.nil
 | x::r=>xqD ht htr x _ (xfL ht htr r)
theorem xkJ (ht:∀ a b,le a b=true∨le b a=true) (htr:∀ a b c,le a b=true→le b c=true→le a c=true) {l l':List α} (ha:∀ a∈l,∀ b∈l,le a b=true→le b a=true→a=b)
  (hp:l'.Perm l) (hs:l'.Pairwise (fun a b=>le a b=true)):l'=xfQ le l :=
 List.Perm.eq_of_pairwise (le:=fun a b=>le a b=true) (fun a b h1 h2 h3 h4=>ha a (hp.mem_iff.1 h1) b ((xhg l).mem_iff.1 h2) h3 h4) hs (xfL ht htr l) (hp.trans (xhg l).symm)
theorem xeR (l:List α):(xfQ le l).length=l.length:=(xhg l).length_eq
theorem xm7 {l:List α} {x:α}:x∈xfQ le l↔x∈l:=(xhg l).mem_iff
end
def nums (l:List (List Int)):List Int:=l.map fun r=>r.getD 0 0
def xcu (zs:List Int):List (List Int):=zs.map fun z=>[z]
def leI (x y:Int):Bool:=decide (x≤y)
theorem xm6 (x y:Int):leI x y=true∨leI y x=true:=by simp [leI]; omega
theorem xm5 (x y z:Int) (h:leI x y=true) (k:leI y z=true):leI x z=true:=by simp [leI] at *; omega
theorem xhu (zs:List Int):nums (xcu zs)=zs:=by
 unfold nums xcu
 rw [List.map_map]
 exact (List.map_congr_left fun z _=>rfl).trans (List.map_id _)
def xbr (l:List (List Int)):List (List Int):=xcu (xfQ leI (nums l))
def leL:List Nat→List Int→List Int→Bool
 | [],_,_=>true
 | k::ks,a,b=>if a.getD k 0=b.getD k 0 then leL ks a b else decide (a.getD k 0<b.getD k 0)
theorem xeQ:∀ (ks:List Nat) (a b:List Int),leL ks a b=true∨leL ks b a=true
 | [],_,_=>.inl rfl
 | k::ks,a,b=>by
  unfold leL
  by_cases h:a.getD k 0=b.getD k 0
  ·rw [if_pos h,if_pos h.symm]; exact xeQ ks a b
  ·rw [if_neg h,if_neg (Ne.symm h)]; simp only [decide_eq_true_eq]; omega
theorem xeP:∀ (ks:List Nat) (a b c:List Int),leL ks a b=true→leL ks b c=true→leL ks a c=true
 | [],_,_,_,_,_=>rfl
 | k::ks,a,b,c,h,h'=>by
  unfold leL at *
  by_cases e1:a.getD k 0=b.getD k 0
  ·by_cases e2:b.getD k 0=c.getD k 0
   ·rw [if_pos e1] at h; rw [if_pos e2] at h'; rw [if_pos (e1.trans e2)]; exact xeP ks a b c h h'
   ·rw [if_neg e2] at h'; rw [e1,if_neg e2]; exact h'
  ·rw [if_neg e1] at h
   simp only [decide_eq_true_eq] at h
   by_cases e2:b.getD k 0=c.getD k 0
   ·rw [if_neg (by omega)]; simp only [decide_eq_true_eq]; omega
   ·rw [if_neg e2] at h'
    simp only [decide_eq_true_eq] at h'
    rw [if_neg (by omega)]; simp only [decide_eq_true_eq]; omega
theorem xpz:∀ (ks:List Nat) (a b:List Int),leL ks a b=true→leL ks b a=true→∀ k∈ks,a.getD k 0=b.getD k 0
 | [],_,_,_,_,_,hk=>by cases hk
 | k::ks,a,b,h,h',k',hk=>by
  unfold leL at *
  by_cases e1:a.getD k 0=b.getD k 0
  ·rw [if_pos e1] at h; rw [if_pos e1.symm] at h'
   rcases List.mem_cons.1 hk with rfl | hk
   ·exact e1
   ·exact xpz ks a b h h' k' hk
  ·rw [if_neg e1] at h; rw [if_neg (Ne.symm e1)] at h'
   simp only [decide_eq_true_eq] at h h'
   omega
def norm (n:Nat) (r:List Int):List Int:=(List.range n).map fun j=>r.getD j 0
theorem xsN (n:Nat) (r:List Int) {j:Nat} (h:j<n):(norm n r).getD j 0=r.getD j 0:=by
 simp [norm,List.getD_eq_getElem?_getD,h]
theorem xBE {n:Nat} {r:List Int} (h:r.length=n):norm n r=r:=by
 apply List.ext_getElem?
 intro j
 by_cases hj:j<n
 ·simp [norm,hj,List.getD_eq_getElem?_getD,List.getElem?_eq_getElem (show j<r.length by omega)]
 ·rw [List.getElem?_eq_none (by simp [norm]; omega),List.getElem?_eq_none (by omega)]
theorem xz7 {n:Nat} {a b:List Int} (h:∀ j,j<n→a.getD j 0=b.getD j 0):norm n a=norm n b :=
 List.map_congr_left fun j hj=>h j (List.mem_range.1 hj)
theorem xwB:∀ (ks:List CK) (m n:Nat) (r:List Int),m+ks.length≤n→elV ks m (norm n r)=elV ks m r
 | [],_,_,_,_=>rfl
 | k::ks,m,n,r,h=>by
  simp only [List.length_cons] at h
  unfold elV
  rw [xsN n r (by omega),xwB ks (m+1) n r (by omega)]
theorem xx4 (ks:List CK) (l:List (List Int)):rowV ks (l.map (norm ks.length))=rowV ks l:=by
 unfold rowV
 rw [List.flatMap_map]
 congr 1
 funext r
 exact xwB ks 0 ks.length r (by omega)
def xaQ (n:Nat) (keys:List Nat) (l:List (List Int)):List (List Int):=xfQ (leL keys) (l.map (norm n))
theorem xz8 {n:Nat} {l:List (List Int)} (h:∀ r∈l,r.length=n):l.map (norm n)=l:=by
 conv=>rhs; rw [← List.map_id l]
 exact List.map_congr_left fun r hr=>xBE (h r hr)
def dd:Option Int→List Int→List Int
 | _,[]=>[]
 | p,x::r=>if p=some x then dd (some x) r else x::dd (some x) r
theorem xzl (x:Int):∀ (l:List Int) (p:Option Int),dd p (l++[x])=dd p l++(if l.getLast?.or p=some x then [] else [x])
 | [],p=>by by_cases h:p=some x<;>simp [dd,h]
 | y::r,p=>by
  have ih:=xzl x r (some y)
  have e:(y::r).getLast?.or p=r.getLast?.or (some y):=by
   cases r with
   | nil=>rfl
   | cons a b =>
    rw [List.getLast?_cons_cons]
    cases h:(a::b).getLast? with
    | none=>simp at h
    | some z=>rfl
  rw [List.cons_append,e]
  unfold dd
  split
  ·exact ih
  ·rw [ih,List.cons_append]
theorem xnt:∀ (l:List Int) (p:Option Int),(dd p l).length≤l.length
 | [],_=>Nat.le_refl _
 | x::r,p=>by
  unfold dd
  have:=xnt r (some x)
  split<;>simp<;>omega
def xdv (l:List (List Int)):List (List Int):=xcu (dd none (nums l)++List.replicate ((nums l).length-(dd none (nums l)).length) 0)
def xeZ (l:List (List Int)):Int:=((dd none (nums l)).length:Int)
end Go.Sy
set_option linter.unusedVariables false
namespace Go.Sy
section
variable {α:Type} (k:α→Int)
variable {k}
end
end Go.Sy
set_option linter.unusedVariables false
namespace Go.Sy
section
variable {α:Type}
variable (d:α)
variable {k:α→Int}
end
end Go.Sy
namespace Go.Proofs
open Go.Shelf
def Tryz.lays189_ren:Go.Shelf.Ren:=⟨fun | 189=>88 | 125=>148 | 257=>147 | 128=>203 | 129=>204 | 294=>194 | 295=>195 | 296=>196 | 297=>197 | 298=>198 | 299=>199 | 216=>200 | 300=>201 | 301=>202 | 328=>235 | 329=>236 | 330=>237 | 331=>238 | 332=>239 | 215=>153 | 343=>260 | n=>n,fun | 28=>48 | 3=>3 | 46=>270 | 0=>0 | 51=>317 | 53=>172 | 4=>4 | 183=>310 | 182=>309 | 131=>314 | 5=>5 | 9=>9 | 218=>346 | 222=>350 | 228=>366 | 229=>293 | n=>n,fun | n=>n⟩
theorem Tryz.lays189:Go.Proofs.Lays.n189 Tryz.prog Tryz.lays189_ren:={
 mixed:=by kernel_rfl
 f125:=Tryz.func148.trans (congrArg some (by kernel_rfl))
 f128:=Tryz.func203.trans (congrArg some (by kernel_rfl))
 f129:=Tryz.func204.trans (congrArg some (by kernel_rfl))
 f189:=Tryz.func88.trans (congrArg some (by kernel_rfl))
 f215:=Tryz.func153.trans (congrArg some (by kernel_rfl))
 f216:=Tryz.func200.trans (congrArg some (by kernel_rfl))
 f257:=Tryz.func147.trans (congrArg some (by kernel_rfl))
 f294:=Tryz.func194.trans (congrArg some (by kernel_rfl))
 f295:=Tryz.func195.trans (congrArg some (by kernel_rfl))
 f296:=Tryz.func196.trans (congrArg some (by kernel_rfl))
 f297:=Tryz.func197.trans (congrArg some (by kernel_rfl))
 f298:=Tryz.func198.trans (congrArg some (by kernel_rfl))
 f299:=Tryz.func199.trans (congrArg some (by kernel_rfl))
 f300:=Tryz.func201.trans (congrArg some (by kernel_rfl))
 f301:=Tryz.func202.trans (congrArg some (by kernel_rfl))
 f328:=Tryz.func235.trans (congrArg some (by kernel_rfl))
 f329:=Tryz.func236.trans (congrArg some (by kernel_rfl))
 f330:=Tryz.func237.trans (congrArg some (by kernel_rfl))
 f331:=Tryz.func238.trans (congrArg some (by kernel_rfl))
 f332:=Tryz.func239.trans (congrArg some (by kernel_rfl))
 f343:=Tryz.func260.trans (congrArg some (by kernel_rfl))
 t0:=Tryz.underlying0
 a0:=Tryz.isAgg0
 z0:=Tryz.sizeOf0
 v0:=Tryz.zeroValue0
 t3:=Tryz.underlying3
 a3:=Tryz.isAgg3
 z3:=Tryz.sizeOf3
 v3:=Tryz.zeroValue3
 t4:=Tryz.underlying4
 a4:=Tryz.isAgg4
 z4:=Tryz.sizeOf4
 v4:=Tryz.zeroValue4
 t5:=Tryz.underlying5
 a5:=Tryz.isAgg5
 z5:=Tryz.sizeOf5
 v5:=Tryz.zeroValue5
 t9:=Tryz.underlying9
 a9:=Tryz.isAgg9
 z9:=Tryz.sizeOf9
 v9:=Tryz.zeroValue9
 t28:=Tryz.underlying48
 a28:=Tryz.isAgg48
 z28:=Tryz.sizeOf48
 v28:=Tryz.zeroValue48
 t46:=Tryz.underlying270
 a46:=Tryz.isAgg270
 z46:=Tryz.sizeOf270
 v46:=Tryz.zeroValue270
 t51:=Tryz.underlying317
 a51:=Tryz.isAgg317
 z51:=Tryz.sizeOf317
 v51:=Tryz.zeroValue317
 t53:=Tryz.underlying172
 a53:=Tryz.isAgg172
 z53:=Tryz.sizeOf172
 v53:=Tryz.zeroValue172
 t131:=Tryz.underlying314
 a131:=Tryz.isAgg314
 z131:=Tryz.sizeOf314
 v131:=Tryz.zeroValue314
 t182:=Tryz.underlying309
 a182:=Tryz.isAgg309
 z182:=Tryz.sizeOf309
 v182:=Tryz.zeroValue309
 t183:=Tryz.underlying310
 a183:=Tryz.isAgg310
 z183:=Tryz.sizeOf310
 v183:=Tryz.zeroValue310
 t218:=Tryz.underlying346
 a218:=Tryz.isAgg346
 z218:=Tryz.sizeOf346
 v218:=Tryz.zeroValue346
 t222:=Tryz.underlying350
 a222:=Tryz.isAgg350
 z222:=Tryz.sizeOf350
 v222:=Tryz.zeroValue350
 t228:=Tryz.underlying366
 a228:=Tryz.isAgg366
 z228:=Tryz.sizeOf366
 v228:=Tryz.zeroValue366
 t229:=Tryz.underlying293
 a229:=Tryz.isAgg293
 z229:=Tryz.sizeOf293
 v229:=Tryz.zeroValue293 }
def Tryz.laysNm220_ren:Go.Shelf.Ren:=⟨fun | 20=>89 | n=>n,fun | 22=>48 | 3=>3 | 4=>4 | 0=>0 | n=>n,fun | n=>n⟩
theorem Tryz.laysNm220:Go.Proofs.Lays2.n20 Tryz.prog Tryz.laysNm220_ren:={
 mixed:=by kernel_rfl
 f20:=Tryz.func89.trans (congrArg some (by kernel_rfl))
 t0:=Tryz.underlying0
 a0:=Tryz.isAgg0
 z0:=Tryz.sizeOf0
 v0:=Tryz.zeroValue0
 t3:=Tryz.underlying3
 a3:=Tryz.isAgg3
 z3:=Tryz.sizeOf3
 v3:=Tryz.zeroValue3
 t4:=Tryz.underlying4
 a4:=Tryz.isAgg4
 z4:=Tryz.sizeOf4
 v4:=Tryz.zeroValue4
 t22:=Tryz.underlying48
 a22:=Tryz.isAgg48
 z22:=Tryz.sizeOf48
 v22:=Tryz.zeroValue48
 i3:=by kernel_rfl }
def Tryz.sortOm_ren:Go.Shelf.Ren:=⟨fun | 6=>151 | 15=>148 | 14=>213 | 28=>203 | 29=>204 | 20=>243 | 21=>244 | 22=>245 | 23=>246 | 24=>247 | 25=>248 | 26=>249 | 27=>250 | 46=>262 | 47=>236 | 48=>237 | 49=>263 | 50=>264 | 57=>268 | n=>n,fun | 22=>60 | 24=>96 | 25=>128 | 3=>3 | 39=>270 | 0=>0 | 53=>317 | 55=>172 | 4=>4 | 46=>310 | 45=>309 | 50=>314 | 5=>5 | 9=>9 | 66=>346 | 70=>350 | 76=>366 | 77=>293 | n=>n,fun | n=>n⟩
theorem Tryz.sortOm:Go.Proofs.SlLaysF0.n6 Tryz.prog Tryz.sortOm_ren:={
 mixed:=by kernel_rfl
 f6:=⟨Tryz.f151.name,by decide,Tryz.func151.trans (congrArg some (by kernel_rfl))⟩
 f14:=⟨Tryz.f213.name,by decide,Tryz.func213.trans (congrArg some (by kernel_rfl))⟩
 f15:=Tryz.func148.trans (congrArg some (by kernel_rfl))
 f20:=⟨Tryz.f243.name,by decide,Tryz.func243.trans (congrArg some (by kernel_rfl))⟩
 f21:=⟨Tryz.f244.name,by decide,Tryz.func244.trans (congrArg some (by kernel_rfl))⟩
 f22:=⟨Tryz.f245.name,by decide,Tryz.func245.trans (congrArg some (by kernel_rfl))⟩
 f23:=⟨Tryz.f246.name,by decide,Tryz.func246.trans (congrArg some (by kernel_rfl))⟩
 f24:=⟨Tryz.f247.name,by decide,Tryz.func247.trans (congrArg some (by kernel_rfl))⟩
 f25:=⟨Tryz.f248.name,by decide,Tryz.func248.trans (congrArg some (by kernel_rfl))⟩
 f26:=⟨Tryz.f249.name,by decide,Tryz.func249.trans (congrArg some (by kernel_rfl))⟩
 f27:=⟨Tryz.f250.name,by decide,Tryz.func250.trans (congrArg some (by kernel_rfl))⟩
 f28:=Tryz.func203.trans (congrArg some (by kernel_rfl))
 f29:=Tryz.func204.trans (congrArg some (by kernel_rfl))
 f46:=⟨Tryz.f262.name,by decide,Tryz.func262.trans (congrArg some (by kernel_rfl))⟩
 f47:=Tryz.func236.trans (congrArg some (by kernel_rfl))
 f48:=Tryz.func237.trans (congrArg some (by kernel_rfl))
 f49:=⟨Tryz.f263.name,by decide,Tryz.func263.trans (congrArg some (by kernel_rfl))⟩
 f50:=⟨Tryz.f264.name,by decide,Tryz.func264.trans (congrArg some (by kernel_rfl))⟩
 f57:=⟨Tryz.f268.name,by decide,Tryz.func268.trans (congrArg some (by kernel_rfl))⟩
 t0:=Tryz.underlying0
 a0:=Tryz.isAgg0
 z0:=Tryz.sizeOf0
 v0:=Tryz.zeroValue0
 t3:=Tryz.underlying3
 a3:=Tryz.isAgg3
 z3:=Tryz.sizeOf3
 v3:=Tryz.zeroValue3
 t4:=Tryz.underlying4
 a4:=Tryz.isAgg4
 z4:=Tryz.sizeOf4
 v4:=Tryz.zeroValue4
 t5:=Tryz.underlying5
 a5:=Tryz.isAgg5
 z5:=Tryz.sizeOf5
 v5:=Tryz.zeroValue5
 t9:=Tryz.underlying9
 a9:=Tryz.isAgg9
 z9:=Tryz.sizeOf9
 v9:=Tryz.zeroValue9
 t22:=Tryz.underlying60
 a22:=Tryz.isAgg60
 z22:=Tryz.sizeOf60
 v22:=Tryz.zeroValue60
 t25:=Tryz.underlying128
 a25:=Tryz.isAgg128
 z25:=Tryz.sizeOf128
 v25:=Tryz.zeroValue128
 t39:=Tryz.underlying270
 a39:=Tryz.isAgg270
 z39:=Tryz.sizeOf270
 v39:=Tryz.zeroValue270
 t45:=Tryz.underlying309
 a45:=Tryz.isAgg309
 z45:=Tryz.sizeOf309
 v45:=Tryz.zeroValue309
 t46:=Tryz.underlying310
 a46:=Tryz.isAgg310
 z46:=Tryz.sizeOf310
 v46:=Tryz.zeroValue310
 t50:=Tryz.underlying314
 a50:=Tryz.isAgg314
 z50:=Tryz.sizeOf314
 v50:=Tryz.zeroValue314
 t53:=Tryz.underlying317
 a53:=Tryz.isAgg317
 z53:=Tryz.sizeOf317
 v53:=Tryz.zeroValue317
 t55:=Tryz.underlying172
 a55:=Tryz.isAgg172
 z55:=Tryz.sizeOf172
 v55:=Tryz.zeroValue172
 t66:=Tryz.underlying346
 a66:=Tryz.isAgg346
 z66:=Tryz.sizeOf346
 v66:=Tryz.zeroValue346
 t70:=Tryz.underlying350
 a70:=Tryz.isAgg350
 z70:=Tryz.sizeOf350
 v70:=Tryz.zeroValue350
 t76:=Tryz.underlying366
 a76:=Tryz.isAgg366
 z76:=Tryz.sizeOf366
 v76:=Tryz.zeroValue366
 t77:=Tryz.underlying293
 a77:=Tryz.isAgg293
 z77:=Tryz.sizeOf293
 v77:=Tryz.zeroValue293 }
def Tryz.sortGp_ren:Go.Shelf.Ren:=⟨fun | 6=>93 | 15=>148 | 14=>150 | 28=>203 | 29=>204 | 20=>205 | 21=>206 | 22=>207 | 23=>208 | 24=>209 | 25=>210 | 26=>211 | 27=>212 | 46=>240 | 47=>236 | 48=>237 | 49=>241 | 50=>242 | 57=>261 | n=>n,fun | 22=>198 | 24=>201 | 25=>204 | 3=>3 | 39=>270 | 0=>0 | 53=>317 | 55=>172 | 4=>4 | 46=>310 | 45=>309 | 50=>314 | 5=>5 | 9=>9 | 66=>346 | 70=>350 | 76=>366 | 77=>293 | n=>n,fun | n=>n⟩
theorem Tryz.sortGp:Go.Proofs.SlLaysF0.n6 Tryz.prog Tryz.sortGp_ren:={
 mixed:=by kernel_rfl
 f6:=⟨Tryz.f93.name,by decide,Tryz.func93.trans (congrArg some (by kernel_rfl))⟩
 f14:=⟨Tryz.f150.name,by decide,Tryz.func150.trans (congrArg some (by kernel_rfl))⟩
 f15:=Tryz.func148.trans (congrArg some (by kernel_rfl))
 f20:=⟨Tryz.f205.name,by decide,Tryz.func205.trans (congrArg some (by kernel_rfl))⟩
 f21:=⟨Tryz.f206.name,by decide,Tryz.func206.trans (congrArg some (by kernel_rfl))⟩
 f22:=⟨Tryz.f207.name,by decide,Tryz.func207.trans (congrArg some (by kernel_rfl))⟩
 f23:=⟨Tryz.f208.name,by decide,Tryz.func208.trans (congrArg some (by kernel_rfl))⟩
 f24:=⟨Tryz.f209.name,by decide,Tryz.func209.trans (congrArg some (by kernel_rfl))⟩
 f25:=⟨Tryz.f210.name,by decide,Tryz.func210.trans (congrArg some (by kernel_rfl))⟩
 f26:=⟨Tryz.f211.name,by decide,Tryz.func211.trans (congrArg some (by kernel_rfl))⟩
 f27:=⟨Tryz.f212.name,by decide,Tryz.func212.trans (congrArg some (by kernel_rfl))⟩
 f28:=Tryz.func203.trans (congrArg some (by kernel_rfl))
 f29:=Tryz.func204.trans (congrArg some (by kernel_rfl))
 f46:=⟨Tryz.f240.name,by decide,Tryz.func240.trans (congrArg some (by kernel_rfl))⟩
 f47:=Tryz.func236.trans (congrArg some (by kernel_rfl))
 f48:=Tryz.func237.trans (congrArg some (by kernel_rfl))
 f49:=⟨Tryz.f241.name,by decide,Tryz.func241.trans (congrArg some (by kernel_rfl))⟩
 f50:=⟨Tryz.f242.name,by decide,Tryz.func242.trans (congrArg some (by kernel_rfl))⟩
 f57:=⟨Tryz.f261.name,by decide,Tryz.func261.trans (congrArg some (by kernel_rfl))⟩
 t0:=Tryz.underlying0
 a0:=Tryz.isAgg0
 z0:=Tryz.sizeOf0
 v0:=Tryz.zeroValue0
 t3:=Tryz.underlying3
 a3:=Tryz.isAgg3
 z3:=Tryz.sizeOf3
 v3:=Tryz.zeroValue3
 t4:=Tryz.underlying4
 a4:=Tryz.isAgg4
 z4:=Tryz.sizeOf4
 v4:=Tryz.zeroValue4
 t5:=Tryz.underlying5
 a5:=Tryz.isAgg5
 z5:=Tryz.sizeOf5
 v5:=Tryz.zeroValue5
 t9:=Tryz.underlying9
 a9:=Tryz.isAgg9
 z9:=Tryz.sizeOf9
 v9:=Tryz.zeroValue9
 t22:=Tryz.underlying198
 a22:=Tryz.isAgg198
 z22:=Tryz.sizeOf198
 v22:=Tryz.zeroValue198
 t25:=Tryz.underlying204
 a25:=Tryz.isAgg204
 z25:=Tryz.sizeOf204
 v25:=Tryz.zeroValue204
 t39:=Tryz.underlying270
 a39:=Tryz.isAgg270
 z39:=Tryz.sizeOf270
 v39:=Tryz.zeroValue270
 t45:=Tryz.underlying309
 a45:=Tryz.isAgg309
 z45:=Tryz.sizeOf309
 v45:=Tryz.zeroValue309
 t46:=Tryz.underlying310
 a46:=Tryz.isAgg310
 z46:=Tryz.sizeOf310
 v46:=Tryz.zeroValue310
 t50:=Tryz.underlying314
 a50:=Tryz.isAgg314
 z50:=Tryz.sizeOf314
 v50:=Tryz.zeroValue314
 t53:=Tryz.underlying317
 a53:=Tryz.isAgg317
 z53:=Tryz.sizeOf317
 v53:=Tryz.zeroValue317
 t55:=Tryz.underlying172
 a55:=Tryz.isAgg172
 z55:=Tryz.sizeOf172
 v55:=Tryz.zeroValue172
 t66:=Tryz.underlying346
 a66:=Tryz.isAgg346
 z66:=Tryz.sizeOf346
 v66:=Tryz.zeroValue346
 t70:=Tryz.underlying350
 a70:=Tryz.isAgg350
 z70:=Tryz.sizeOf350
 v70:=Tryz.zeroValue350
 t76:=Tryz.underlying366
 a76:=Tryz.isAgg366
 z76:=Tryz.sizeOf366
 v76:=Tryz.zeroValue366
 t77:=Tryz.underlying293
 a77:=Tryz.isAgg293
 z77:=Tryz.sizeOf293
 v77:=Tryz.zeroValue293 }
end Go.Proofs
set_option maxRecDepth 100000
set_option linter.unusedVariables false
namespace Go.Proofs.YthfjhbbpdhjklaaGreat
open Go Go.Sy
noncomputable def xjZ (un:Int):Int :=
 bif un==(2:Int) then (2:Int) else bif un==(4:Int) then bif un==(4:Int) then (3:Int) else (0:Int) else bif un==(5:Int) then (3:Int) else (0:Int)
noncomputable def xjY (un:Int):Int :=
 bif un==(3:Int) then (2:Int) else bif un==(4:Int) then bif un==(4:Int) then (3:Int) else (0:Int) else bif un==(5:Int) then (3:Int) else (0:Int)
noncomputable def xbY (un:Int):Int :=
 bif un==(1:Int) then (1:Int) else bif un==(2:Int) then (xjZ un) else (xjY un)
noncomputable def xaz (t:Int):Bool :=
 decide (t≥(0:Int))&&decide (t≤(10000000:Int))
noncomputable def xfq (n:Int):Bool :=
 decide (n≥(1:Int))&&decide (n≤(10000:Int))
noncomputable def xbP (t un n:Int):Bool :=
 bif xbY un==(0:Int) then false else bif xbY un==(3:Int) then xaz t&&n==(0:Int) else xaz t&&xfq n
noncomputable def xbs (owner un:Int):Bool :=
 (owner==(0:Int))==(xbY un==(1:Int))
noncomputable def xk6 (uk:List (List Int)) (y0:List U):Int :=
 (IntKind.u64.wrap (bXor IntKind.u64 (gi y0 0) (IntKind.u64.wrap ((uk.getD (gi y0 1).toNat []).getD 0 (0:Int)))*(11507291218515648293:Int))).fdiv
 ((2:Int) ^ min (Int.toNat (32:Int)) IntKind.u64.bits)
noncomputable def xfn (uk:List (List Int)):List U :=
 [.i (IntKind.u64.wrap ((11400714819323198485:Int)+IntKind.u64.wrap (↑uk.length:Int))),.i ((0:Int))]
noncomputable def xcV (uk:List (List Int)) (y0:List U):Option (Nat×List U) :=
 (bif decide (gi y0 1<(↑uk.length:Int)) then xac (inR (gi y0 1) uk) (xac (inR (gi y0 1) uk) (xac ((0:Int)≤(32:Int)) (some (0,[.i (bXor IntKind.u64 (IntKind.u64.wrap (bXor IntKind.u64 (gi y0 0) (IntKind.u64.wrap ((uk.getD (gi y0 1).toNat []).getD 0 (0:Int)))*(11507291218515648293:Int)))
 ((xk6 uk y0))),.i (IntKind.i64.wrap (gi y0 1+(1:Int)))])))) else some (2,[.i (gi y0 0),.i (gi y0 1)]))
noncomputable def xk7 (uk:List (List Int)):Nat×List U:=xat (xcV uk) (xfn uk)
noncomputable def xfs (uk:List (List Int)):Int :=
 gi (xk7 uk).snd 0
def xed (uk:List (List Int)):Prop :=
 ((xax (xcV uk) (xfn uk)))
noncomputable def xbW (owner last x_Time x_Kind x_Item x_Sum:Int):Int :=
 xfs [[owner],[IntKind.i64.wrap last],[x_Time],[x_Kind],[x_Item]]
def xbF (owner last x_Time x_Kind x_Item x_Sum:Int):Prop :=
 (xed [[owner],[IntKind.i64.wrap last],[x_Time],[x_Kind],[x_Item]])
noncomputable def xj0 (ue:Int) (uf:List (List Int)) (y0:List U):Int :=
 xbW ue (gi y0 2) ((uf.getD (gi y0 4).toNat []).getD 0 (0:Int)) ((uf.getD (gi y0 4).toNat []).getD 1 (0:Int))
 ((uf.getD (gi y0 4).toNat []).getD 2 (0:Int)) ((uf.getD (gi y0 4).toNat []).getD 3 (0:Int))
noncomputable def xeU (ue:Int) (uf:List (List Int)):List U :=
 [.b (false),.b (false),.i ((0:Int)),.i ((0:Int)),.i ((0:Int))]
noncomputable def xbL (ue:Int) (uf:List (List Int)) (y0:List U):Option (Nat×List U) :=
 (bif decide (gi y0 4<(↑uf.length:Int)) then xac (inR (gi y0 4) uf) (xac (inR (gi y0 4) uf) (xac (((!xbP ((uf.getD (gi y0 4).toNat []).getD 0 (0:Int)) ((uf.getD (gi y0 4).toNat []).getD 1 (0:Int))
     ((uf.getD (gi y0 4).toNat []).getD 2 (0:Int)) ||
   !xbs ue ((uf.getD (gi y0 4).toNat []).getD 1 (0:Int)) ||
  decide ((uf.getD (gi y0 4).toNat []).getD 0 (0:Int)<gi y0 3)) =
 false)→(xbF ue (gi y0 2) ((uf.getD (gi y0 4).toNat []).getD 0 (0:Int)) ((uf.getD (gi y0 4).toNat []).getD 1 (0:Int))
 ((uf.getD (gi y0 4).toNat []).getD 2 (0:Int)) ((uf.getD (gi y0 4).toNat []).getD 3 (0:Int)))) ((bif !xbP ((uf.getD (gi y0 4).toNat []).getD 0 (0:Int)) ((uf.getD (gi y0 4).toNat []).getD 1 (0:Int))
     ((uf.getD (gi y0 4).toNat []).getD 2 (0:Int)) ||
   !xbs ue ((uf.getD (gi y0 4).toNat []).getD 1 (0:Int)) ||
  decide ((uf.getD (gi y0 4).toNat []).getD 0 (0:Int)<gi y0 3) ||
 (uf.getD (gi y0 4).toNat []).getD 3 (0:Int) !=(xj0 ue uf y0) then some (1,[]) else (bif xbY ((uf.getD (gi y0 4).toNat []).getD 1 (0:Int))==(3:Int) then (bif gb y0 1==((uf.getD (gi y0 4).toNat []).getD 1 (0:Int)==(4:Int)) then some (2,[]) else some (0,[.b (gb y0 0),.b (!gb y0 1),.i ((uf.getD (gi y0 4).toNat []).getD 3 (0:Int)),.i ((uf.getD (gi y0 4).toNat []).getD 0 (0:Int)),.i (IntKind.i64.wrap (gi y0 4+(1:Int)))])) else some (0,[.b (gb y0 0),.b (gb y0 1),.i ((uf.getD (gi y0 4).toNat []).getD 3 (0:Int)),.i ((uf.getD (gi y0 4).toNat []).getD 0 (0:Int)),.i (IntKind.i64.wrap (gi y0 4+(1:Int)))])))))) else some (5,[.b (gb y0 0),.b (gb y0 1),.i (gi y0 2),.i (gi y0 3),.i (gi y0 4)]))
noncomputable def xg0 (ue:Int) (uf:List (List Int)):Nat×List U:=xat (xbL ue uf) (xeU ue uf)
noncomputable def xag (ue:Int) (uf:List (List Int)):Bool :=
 bif decide (ue<(0:Int))||decide (ue>(8:Int))||decide ((↑uf.length:Int)>(200:Int)) then false
else bif (xg0 ue uf).fst.beq 1 then false else bif (xg0 ue uf).fst.beq 2 then false else true
def xaK (ue:Int) (uf:List (List Int)):Prop :=
 (((decide (ue<(0:Int))||decide (ue>(8:Int))||decide ((↑uf.length:Int)>(200:Int)))=false)→((xax (xbL ue uf) (xeU ue uf))))
noncomputable def xf6 (ue t:Int) (uf:List (List Int)):List U :=
 [.i ((0:Int)),.b (true)]
noncomputable def xdt (ue t:Int) (uf:List (List Int)) (y0:List U):Option (Nat×List U) :=
 (bif decide (gi y0 0<(↑uf.length:Int)) then xac (inR (gi y0 0) uf) (xac (inR (gi y0 0) uf) ((bif decide ((uf.getD (gi y0 0).toNat []).getD 0 (0:Int)>t)==false then (bif xbY ((uf.getD (gi y0 0).toNat []).getD 1 (0:Int))==(3:Int) then some (0,[.i (IntKind.i64.wrap (gi y0 0+(1:Int))),.b ((uf.getD (gi y0 0).toNat []).getD 1 (0:Int)==(5:Int))]) else some (0,[.i (IntKind.i64.wrap (gi y0 0+(1:Int))),.b (gb y0 1)])) else some (3,[.b (gb y0 1)])))) else some (4,[.i (gi y0 0),.b (gb y0 1)]))
noncomputable def xg9 (ue t:Int) (uf:List (List Int)):Nat×List U:=xat (xdt ue t uf) (xf6 ue t uf)
noncomputable def xaF (ue t:Int) (uf:List (List Int)):Bool :=
 bif (xg9 ue t uf).fst.beq 3 then gb (xg9 ue t uf).snd 0 else gb (xg9 ue t uf).snd 1
def xcx (ue t:Int) (uf:List (List Int)):Prop :=
 ((xax (xdt ue t uf) (xf6 ue t uf)))
noncomputable def xkO (ue:Int) (uf:List (List Int)):Int :=
 bif decide ((↑uf.length:Int)>(0:Int)) then (uf.getD (IntKind.i64.wrap ((↑uf.length:Int)-(1:Int))).toNat []).getD 0 (0:Int) else (-1:Int)
noncomputable def xa4 (ue:Int) (uf:List (List Int)):Int :=
 (xkO ue uf)
noncomputable def xkN (ue:Int) (uf:List (List Int)):Int :=
 bif decide ((↑uf.length:Int)>(0:Int)) then (uf.getD (IntKind.i64.wrap ((↑uf.length:Int)-(1:Int))).toNat []).getD 3 (0:Int) else (0:Int)
noncomputable def xa3 (ue:Int) (uf:List (List Int)):Int :=
 (xkN ue uf)
def xbI (ue:Int) (uf:List (List Int)):Prop :=
 ((decide ((↑uf.length:Int)>(0:Int))=true)→((inR (IntKind.i64.wrap ((↑uf.length:Int)-(1:Int))) uf)∧((inR (IntKind.i64.wrap ((↑uf.length:Int)-(1:Int))) uf)∧((inR (IntKind.i64.wrap ((↑uf.length:Int)-(1:Int))) uf)∧((inR (IntKind.i64.wrap ((↑uf.length:Int)-(1:Int))) uf)∧((inR (IntKind.i64.wrap ((↑uf.length:Int)-(1:Int))) uf)∧(inR (IntKind.i64.wrap ((↑uf.length:Int)-(1:Int))) uf)))))))
noncomputable def xg3 (ua n t:Int) (ub:List (List Int)):List U :=
 [.i ((0:Int)),.i ((0:Int))]
noncomputable def xcT (ua n t:Int) (ub:List (List Int)) (y0:List U):Option (Nat×List U) :=
 (bif decide (gi y0 1<(↑ub.length:Int)) then xac (inR (gi y0 1) ub) (xac (inR (gi y0 1) ub) ((bif (ub.getD (gi y0 1).toNat []).getD 2 (0:Int)==n&&(decide (t<(0:Int))||(ub.getD (gi y0 1).toNat []).getD 0 (0:Int)==t) then some (1,[.i (gi y0 1)]) else some (0,[.i (gi y0 0),.i (IntKind.i64.wrap (gi y0 1+(1:Int)))])))) else some (3,[.i (gi y0 0),.i (gi y0 1)]))
noncomputable def xkL (ua n t:Int) (ub:List (List Int)):Nat×List U:=xat (xcT ua n t ub) (xg3 ua n t ub)
noncomputable def xaG (ua n t:Int) (ub:List (List Int)):Bool :=
 decide ((bif (xkL ua n t ub).fst.beq 1 then gi (xkL ua n t ub).snd 0 else (-1:Int))≥(0:Int))
def xb7 (ua n t:Int) (ub:List (List Int)):Prop :=
 ((xax (xcT ua n t ub) (xg3 ua n t ub)))
noncomputable def xd2 (uk:List (List Int)):List U :=
 [.i ((0:Int)),.i ((0:Int))]
noncomputable def xbZ (uk:List (List Int)) (y0:List U):Option (Nat×List U) :=
 (bif decide (gi y0 1<(↑uk.length:Int)) then xac (inR (gi y0 1) uk) (xac (inR (gi y0 1) uk) ((bif !xaz ((uk.getD (gi y0 1).toNat []).getD 2 (0:Int))||!xfq ((uk.getD (gi y0 1).toNat []).getD 1 (0:Int)) ||
  decide ((uk.getD (gi y0 1).toNat []).getD 0 (0:Int)<(1:Int)) ||
 decide ((uk.getD (gi y0 1).toNat []).getD 0 (0:Int)>(8:Int)) then some (1,[.i (gi y0 1)]) else some (0,[.i (gi y0 0),.i (IntKind.i64.wrap (gi y0 1+(1:Int)))])))) else some (3,[.i (gi y0 0),.i (gi y0 1)]))
noncomputable def xf7 (uk:List (List Int)):Nat×List U:=xat (xbZ uk) (xd2 uk)
noncomputable def xay (uk:List (List Int)):Bool :=
 decide ((↑uk.length:Int)≤(200:Int))&&!decide ((bif (xf7 uk).fst.beq 1 then gi (xf7 uk).snd 0 else (-1:Int))≥(0:Int))
def xbx (uk:List (List Int)):Prop :=
 ((decide ((↑uk.length:Int)≤(200:Int))=true)→((xax (xbZ uk) (xd2 uk))))
end Go.Proofs.YthfjhbbpdhjklaaGreat
set_option maxRecDepth 100000
set_option linter.unusedVariables false
namespace Go.Proofs.YthfjhbbpdhjklaaGreat
open Go Go.Sy
noncomputable def K0:Con:=Con.none
theorem xD9:xbh Tryz.prog K0:=xxr _
theorem xn7 (un:Int):xas Tryz.prog 0 (xaZ Tryz.prog K0 xcO 9 81 [.int .i64 un] ⟨[],0⟩)=some ⟨none,[],0,[],.int .i64 (xbY un)⟩:=by kernel_rfl
noncomputable def xi2:List U→Option Eff
 | [.i un]=>some ⟨none,[],0,[],.int .i64 (xbY un)⟩
 | _=>Option.none
noncomputable def K1:Con:=ext Tryz.prog K0 81 [.int .i64 0] [] xi2
theorem xD8:xbh Tryz.prog K1:=xav xaA xD9 (n:=9) rfl rfl fun us x h=>by
 unfold xi2 at h
 split at h
 ·cases h; exact ⟨none,xn7 _,fun _=>trivial⟩
 ·cases h
theorem xpj (t:Int):xas Tryz.prog 0 (xaZ Tryz.prog K1 xcO 9 30 [.int .i64 t] ⟨[],0⟩)=some ⟨none,[],0,[],.bool (xaz t)⟩:=by kernel_rfl
noncomputable def xjS:List U→Option Eff
 | [.i t]=>some ⟨none,[],0,[],.bool (xaz t)⟩
 | _=>Option.none
noncomputable def K2:Con:=ext Tryz.prog K1 30 [.int .i64 0] [] xjS
theorem xD7:xbh Tryz.prog K2:=xav xaA xD8 (n:=9) rfl rfl fun us x h=>by
 unfold xjS at h
 split at h
 ·cases h; exact ⟨none,xpj _,fun _=>trivial⟩
 ·cases h
theorem xpn (n:Int):xas Tryz.prog 0 (xaZ Tryz.prog K2 xcO 9 84 [.int .i64 n] ⟨[],0⟩)=some ⟨none,[],0,[],.bool (xfq n)⟩:=by kernel_rfl
noncomputable def xjX:List U→Option Eff
 | [.i n]=>some ⟨none,[],0,[],.bool (xfq n)⟩
 | _=>Option.none
noncomputable def K3:Con:=ext Tryz.prog K2 84 [.int .i64 0] [] xjX
theorem xD6:xbh Tryz.prog K3:=xav xaA xD7 (n:=9) rfl rfl fun us x h=>by
 unfold xjX at h
 split at h
 ·cases h; exact ⟨none,xpn _,fun _=>trivial⟩
 ·cases h
theorem xpl (t un n:Int):xas Tryz.prog 0 (xaZ Tryz.prog K3 xcO 9 69 [.int .i64 t,.int .i64 un,.int .i64 n] ⟨[],0⟩)=some ⟨none,[],0,[],.bool (xbP t un n)⟩:=by kernel_rfl
noncomputable def xjV:List U→Option Eff
 | [.i t,.i un,.i n]=>some ⟨none,[],0,[],.bool (xbP t un n)⟩
 | _=>Option.none
noncomputable def K4:Con:=ext Tryz.prog K3 69 [.int .i64 0,.int .i64 0,.int .i64 0] [] xjV
theorem xD5:xbh Tryz.prog K4:=xav xaA xD6 (n:=9) rfl rfl fun us x h=>by
 unfold xjV at h
 split at h
 ·cases h; exact ⟨none,xpl _ _ _,fun _=>trivial⟩
 ·cases h
theorem xqG (owner un:Int):xas Tryz.prog 0 (xaZ Tryz.prog K4 xcO 9 70 [.int .i64 owner,.int .i64 un] ⟨[],0⟩)=some ⟨none,[],0,[],.bool (xbs owner un)⟩:=by kernel_rfl
noncomputable def xkM:List U→Option Eff
 | [.i owner,.i un]=>some ⟨none,[],0,[],.bool (xbs owner un)⟩
 | _=>Option.none
noncomputable def K5:Con:=ext Tryz.prog K4 70 [.int .i64 0,.int .i64 0] [] xkM
theorem xD4:xbh Tryz.prog K5:=xav xaA xD5 (n:=9) rfl rfl fun us x h=>by
 unfold xkM at h
 split at h
 ·cases h; exact ⟨none,xqG _ _,fun _=>trivial⟩
 ·cases h
theorem xpu (uk:List (List Int)):xas Tryz.prog 1 (xaZ Tryz.prog K5 xcO 9 136 [.sl 0] ⟨[⟨0,1,false,.row 3 [.int .i64] uk⟩],1⟩)=some ⟨some (xed uk),[],0,[],.int .u64 (xfs uk)⟩:=by kernel_rfl
noncomputable def xj8:List U→Option Eff
 | [.r uk]=>some ⟨some (xed uk),[],0,[],.int .u64 (xfs uk)⟩
 | _=>Option.none
noncomputable def K6:Con:=ext Tryz.prog K5 136 [.sl 0] [⟨0,0,false,.row 3 [.int .i64] []⟩] xj8
theorem xD3:xbh Tryz.prog K6:=xav xaA xD4 (n:=9) rfl rfl fun us x h=>by
 unfold xj8 at h
 split at h
 ·cases h; exact ⟨some (xed _),xpu _,fun h=>h⟩
 ·cases h
theorem xqF (owner last x_Time x_Kind x_Item x_Sum:Int):xas Tryz.prog 0 (xaZ Tryz.prog K6 xcO 9 71 [.int .i64 owner,.int .u64 last,.agg [.int .i64 x_Time,.int .i64 x_Kind,.int .i64 x_Item,.int .u64 x_Sum]] ⟨[],0⟩)=some ⟨some (xbF owner last x_Time x_Kind x_Item x_Sum),[],0,[],.int .u64 (xbW owner last x_Time x_Kind x_Item x_Sum)⟩:=by kernel_rfl
noncomputable def xkK:List U→Option Eff
 | [.i owner,.i last,.i x_Time,.i x_Kind,.i x_Item,.i x_Sum]=>some ⟨some (xbF owner last x_Time x_Kind x_Item x_Sum),[],0,[],.int .u64 (xbW owner last x_Time x_Kind x_Item x_Sum)⟩
 | _=>Option.none
noncomputable def K7:Con:=ext Tryz.prog K6 71 [.int .i64 0,.int .u64 0,.agg [.int .i64 0,.int .i64 0,.int .i64 0,.int .u64 0]] [] xkK
theorem xD2:xbh Tryz.prog K7:=xav xaA xD3 (n:=9) rfl rfl fun us x h=>by
 unfold xkK at h
 split at h
 ·cases h; exact ⟨some (xbF _ _ _ _ _ _),xqF _ _ _ _ _ _,fun h=>h⟩
 ·cases h
theorem xoa (ue:Int) (uf:List (List Int)):xas Tryz.prog 1 (xaZ Tryz.prog K7 xcO 9 28 [.agg [.int .i64 ue,.sl 0]] ⟨[⟨0,1,false,.row 178 [.int .i64,.int .i64,.int .i64,.int .u64] uf⟩],1⟩)=some ⟨some (xaK ue uf),[],0,[],.bool (xag ue uf)⟩:=by kernel_rfl
noncomputable def xja:List U→Option Eff
 | [.i ue,.r uf]=>some ⟨some (xaK ue uf),[],0,[],.bool (xag ue uf)⟩
 | _=>Option.none
noncomputable def K8:Con:=ext Tryz.prog K7 28 [.agg [.int .i64 0,.sl 0]] [⟨0,0,false,.row 178 [.int .i64,.int .i64,.int .i64,.int .u64] []⟩] xja
theorem xD1:xbh Tryz.prog K8:=xav xaA xD2 (n:=9) rfl rfl fun us x h=>by
 unfold xja at h
 split at h
 ·cases h; exact ⟨some (xaK _ _),xoa _ _,fun h=>h⟩
 ·cases h
theorem xrA (ue t:Int) (uf:List (List Int)):xas Tryz.prog 1 (xaZ Tryz.prog K8 xcO 9 32 [.agg [.int .i64 ue,.sl 0],.int .i64 t] ⟨[⟨0,1,false,.row 178 [.int .i64,.int .i64,.int .i64,.int .u64] uf⟩],1⟩)=some ⟨some (xcx ue t uf),[],0,[],.bool (xaF ue t uf)⟩:=by kernel_rfl
noncomputable def xlN:List U→Option Eff
 | [.i ue,.i t,.r uf]=>some ⟨some (xcx ue t uf),[],0,[],.bool (xaF ue t uf)⟩
 | _=>Option.none
noncomputable def K9:Con:=ext Tryz.prog K8 32 [.agg [.int .i64 0,.sl 0],.int .i64 0] [⟨0,0,false,.row 178 [.int .i64,.int .i64,.int .i64,.int .u64] []⟩] xlN
theorem xD0:xbh Tryz.prog K9:=xav xaA xD1 (n:=9) rfl rfl fun us x h=>by
 unfold xlN at h
 split at h
 ·cases h; exact ⟨some (xcx _ _ _),xrA _ _ _,fun h=>h⟩
 ·cases h
theorem xpm (ue:Int) (uf:List (List Int)):xas Tryz.prog 1 (xaZ Tryz.prog K9 xcO 9 68 [.agg [.int .i64 ue,.sl 0]] ⟨[⟨0,1,false,.row 178 [.int .i64,.int .i64,.int .i64,.int .u64] uf⟩],1⟩)=some ⟨some (xbI ue uf),[],0,[],.tup [.int .i64 (xa4 ue uf),.int .u64 (xa3 ue uf)]⟩:=by kernel_rfl
noncomputable def xjW:List U→Option Eff
 | [.i ue,.r uf]=>some ⟨some (xbI ue uf),[],0,[],.tup [.int .i64 (xa4 ue uf),.int .u64 (xa3 ue uf)]⟩
 | _=>Option.none
noncomputable def K10:Con:=ext Tryz.prog K9 68 [.agg [.int .i64 0,.sl 0]] [⟨0,0,false,.row 178 [.int .i64,.int .i64,.int .i64,.int .u64] []⟩] xjW
theorem xDH:xbh Tryz.prog K10:=xav xaA xD0 (n:=9) rfl rfl fun us x h=>by
 unfold xjW at h
 split at h
 ·cases h; exact ⟨some (xbI _ _),xpm _ _,fun h=>h⟩
 ·cases h
theorem xpk (ua n t:Int) (ub:List (List Int)):xas Tryz.prog 1 (xaZ Tryz.prog K10 xcO 9 31 [.agg [.int .i64 ua,.sl 0],.int .i64 n,.int .i64 t] ⟨[⟨0,1,false,.row 178 [.int .i64,.int .i64,.int .i64,.int .u64] ub⟩],1⟩)=some ⟨some (xb7 ua n t ub),[],0,[],.bool (xaG ua n t ub)⟩:=by kernel_rfl
noncomputable def xjU:List U→Option Eff
 | [.i ua,.i n,.i t,.r ub]=>some ⟨some (xb7 ua n t ub),[],0,[],.bool (xaG ua n t ub)⟩
 | _=>Option.none
noncomputable def K11:Con:=ext Tryz.prog K10 31 [.agg [.int .i64 0,.sl 0],.int .i64 0,.int .i64 0] [⟨0,0,false,.row 178 [.int .i64,.int .i64,.int .i64,.int .u64] []⟩] xjU
theorem xDG:xbh Tryz.prog K11:=xav xaA xDH (n:=9) rfl rfl fun us x h=>by
 unfold xjU at h
 split at h
 ·cases h; exact ⟨some (xb7 _ _ _ _),xpk _ _ _ _,fun h=>h⟩
 ·cases h
theorem xmo (uk:List (List Int)):xas Tryz.prog 1 (xaZ Tryz.prog K11 xcO 9 29 [.sl 0] ⟨[⟨0,1,false,.row 53 [.int .i64,.int .i64,.int .i64] uk⟩],1⟩)=some ⟨some (xbx uk),[],0,[],.bool (xay uk)⟩:=by kernel_rfl
noncomputable def xhB:List U→Option Eff
 | [.r uk]=>some ⟨some (xbx uk),[],0,[],.bool (xay uk)⟩
 | _=>Option.none
noncomputable def K12:Con:=ext Tryz.prog K11 29 [.sl 0] [⟨0,0,false,.row 53 [.int .i64,.int .i64,.int .i64] []⟩] xhB
theorem xDF:xbh Tryz.prog K12:=xav xaA xDG (n:=9) rfl rfl fun us x h=>by
 unfold xhB at h
 split at h
 ·cases h; exact ⟨some (xbx _),xmo _,fun h=>h⟩
 ·cases h
end Go.Proofs.YthfjhbbpdhjklaaGreat
set_option maxRecDepth 100000
set_option linter.unusedVariables false
namespace Go.Proofs.YthfjhbbpdhjklaaGreat
open Go Go.Sy
noncomputable def xif (x y:Int):Int :=
 bif x !=x then bif y !=y then (0:Int) else (-1:Int) else bif y !=y then (1:Int) else bif decide (x<y) then (-1:Int) else bif decide (x>y) then (1:Int) else (0:Int)
noncomputable def xak (x y:Int):Int :=
 (xif x y)
noncomputable def xgf (vals:List (List Int)):List U :=
 [.i ((0:Int)),.i ((0:Int))]
noncomputable def xdw (vals:List (List Int)) (y0:List U):Option (Nat×List U) :=
 (bif decide (gi y0 1<(↑vals.length:Int)) then xac (inR (gi y0 1) vals) (xac (inR (gi y0 1) vals) ((bif (vals.getD (gi y0 1).toNat []).getD 0 (0:Int) !=(0:Int) then some (1,[.i ((vals.getD (gi y0 1).toNat []).getD 0 (0:Int))]) else some (0,[.i (gi y0 0),.i (IntKind.i64.wrap (gi y0 1+(1:Int)))])))) else some (3,[.i (gi y0 0),.i (gi y0 1)]))
noncomputable def xjH (vals:List (List Int)):Nat×List U:=xat (xdw vals) (xgf vals)
noncomputable def xfN (vals:List (List Int)):Int :=
 bif (xjH vals).fst.beq 1 then gi (xjH vals).snd 0 else (0:Int)
def xek (vals:List (List Int)):Prop :=
 ((xax (xdw vals) (xgf vals)))
noncomputable def xeT (a_Ship a_Item b_Ship b_Item:Int):Int :=
 xfN [[xak a_Ship b_Ship],[xak a_Item b_Item]]
def xc2 (a_Ship a_Item b_Ship b_Item:Int):Prop :=
 (xek [[xak a_Ship b_Ship],[xak a_Item b_Item]])
noncomputable def xc3 (a_Kind a_Ship a_Item b_Kind b_Ship b_Item:Int):Int :=
 xfN [[xak a_Kind b_Kind],[xak a_Ship b_Ship],[xak a_Item b_Item]]
def xbJ (a_Kind a_Ship a_Item b_Kind b_Ship b_Item:Int):Prop :=
 (xek [[xak a_Kind b_Kind],[xak a_Ship b_Ship],[xak a_Item b_Item]])
noncomputable def xgb (g_Gap_Ship g_Gap_Item:Int) (g_sent g_on:Bool) (h_Gap_Ship h_Gap_Item:Int) (h_sent h_on:Bool):Bool :=
 !(g_Gap_Ship==h_Gap_Ship&&(g_Gap_Item==h_Gap_Item&&true))&&!(g_sent&&h_sent&&g_Gap_Item==h_Gap_Item)&&!(g_on&&h_on&&g_Gap_Ship==h_Gap_Ship)
noncomputable def xgA (g_Gap_Ship g_Gap_Item:Int) (g_sent g_on:Bool) (o_Kind o_Ship o_Item:Int):Bool :=
 bif o_Kind==(1:Int)&&(o_Ship==(0:Int)&&(o_Item==g_Gap_Item&&true)) then g_sent
else bif o_Kind==(2:Int)&&(o_Ship==g_Gap_Ship&&(o_Item==(0:Int)&&true)) then g_on else o_Kind==(3:Int)&&(o_Ship==g_Gap_Ship&&(o_Item==g_Gap_Item&&true))
end Go.Proofs.YthfjhbbpdhjklaaGreat
set_option maxRecDepth 100000
set_option linter.unusedVariables false
namespace Go.Proofs.YthfjhbbpdhjklaaGreat
open Go Go.Sy
theorem xmy (x y:Int):xas Tryz.prog 0 (xaZ Tryz.prog K12 xcO 9 96 [.int .i64 x,.int .i64 y] ⟨[],0⟩)=some ⟨none,[],0,[],.int .i64 (xak x y)⟩:=by kernel_rfl
noncomputable def xhO:List U→Option Eff
 | [.i x,.i y]=>some ⟨none,[],0,[],.int .i64 (xak x y)⟩
 | _=>Option.none
noncomputable def K13:Con:=ext Tryz.prog K12 96 [.int .i64 0,.int .i64 0] [] xhO
theorem xDE:xbh Tryz.prog K13:=xav xaA xDF (n:=9) rfl rfl fun us x h=>by
 unfold xhO at h
 split at h
 ·cases h; exact ⟨none,xmy _ _,fun _=>trivial⟩
 ·cases h
theorem xrH (vals:List (List Int)):xas Tryz.prog 1 (xaZ Tryz.prog K13 xcO 9 98 [.sl 0] ⟨[⟨0,1,false,.row 3 [.int .i64] vals⟩],1⟩)=some ⟨some (xek vals),[],0,[],.int .i64 (xfN vals)⟩:=by kernel_rfl
noncomputable def xl3:List U→Option Eff
 | [.r vals]=>some ⟨some (xek vals),[],0,[],.int .i64 (xfN vals)⟩
 | _=>Option.none
noncomputable def K14:Con:=ext Tryz.prog K13 98 [.sl 0] [⟨0,0,false,.row 3 [.int .i64] []⟩] xl3
theorem xDD:xbh Tryz.prog K14:=xav xaA xDE (n:=9) rfl rfl fun us x h=>by
 unfold xl3 at h
 split at h
 ·cases h; exact ⟨some (xek _),xrH _,fun h=>h⟩
 ·cases h
theorem xn6 (a_Ship a_Item b_Ship b_Item:Int):xas Tryz.prog 0 (xaZ Tryz.prog K14 xcO 9 41 [.agg [.int .i64 a_Ship,.int .i64 a_Item],.agg [.int .i64 b_Ship,.int .i64 b_Item]] ⟨[],0⟩)=some ⟨some (xc2 a_Ship a_Item b_Ship b_Item),[],0,[],.int .i64 (xeT a_Ship a_Item b_Ship b_Item)⟩:=by kernel_rfl
noncomputable def xi0:List U→Option Eff
 | [.i a_Ship,.i a_Item,.i b_Ship,.i b_Item]=>some ⟨some (xc2 a_Ship a_Item b_Ship b_Item),[],0,[],.int .i64 (xeT a_Ship a_Item b_Ship b_Item)⟩
 | _=>Option.none
noncomputable def K15:Con:=ext Tryz.prog K14 41 [.agg [.int .i64 0,.int .i64 0],.agg [.int .i64 0,.int .i64 0]] [] xi0
theorem xDC:xbh Tryz.prog K15:=xav xaA xDD (n:=9) rfl rfl fun us x h=>by
 unfold xi0 at h
 split at h
 ·cases h; exact ⟨some (xc2 _ _ _ _),xn6 _ _ _ _,fun h=>h⟩
 ·cases h
theorem xmn (a_Kind a_Ship a_Item b_Kind b_Ship b_Item:Int):xas Tryz.prog 0 (xaZ Tryz.prog K15 xcO 9 39 [.agg [.int .i64 a_Kind,.int .i64 a_Ship,.int .i64 a_Item],.agg [.int .i64 b_Kind,.int .i64 b_Ship,.int .i64 b_Item]] ⟨[],0⟩)=some ⟨some (xbJ a_Kind a_Ship a_Item b_Kind b_Ship b_Item),[],0,[],.int .i64 (xc3 a_Kind a_Ship a_Item b_Kind b_Ship b_Item)⟩:=by kernel_rfl
noncomputable def xhA:List U→Option Eff
 | [.i a_Kind,.i a_Ship,.i a_Item,.i b_Kind,.i b_Ship,.i b_Item]=>some ⟨some (xbJ a_Kind a_Ship a_Item b_Kind b_Ship b_Item),[],0,[],.int .i64 (xc3 a_Kind a_Ship a_Item b_Kind b_Ship b_Item)⟩
 | _=>Option.none
noncomputable def K16:Con:=ext Tryz.prog K15 39 [.agg [.int .i64 0,.int .i64 0,.int .i64 0],.agg [.int .i64 0,.int .i64 0,.int .i64 0]] [] xhA
theorem xDB:xbh Tryz.prog K16:=xav xaA xDC (n:=9) rfl rfl fun us x h=>by
 unfold xhA at h
 split at h
 ·cases h; exact ⟨some (xbJ _ _ _ _ _ _),xmn _ _ _ _ _ _,fun h=>h⟩
 ·cases h
theorem xn8 (g_Gap_Ship g_Gap_Item:Int) (g_sent g_on:Bool) (h_Gap_Ship h_Gap_Item:Int) (h_sent h_on:Bool):xas Tryz.prog 0 (xaZ Tryz.prog K16 xcO 9 47 [.agg [.int .i64 g_Gap_Ship,.int .i64 g_Gap_Item,.bool g_sent,.bool g_on],.agg [.int .i64 h_Gap_Ship,.int .i64 h_Gap_Item,.bool h_sent,.bool h_on]] ⟨[],0⟩)=some ⟨none,[],0,[],.bool (xgb g_Gap_Ship g_Gap_Item g_sent g_on h_Gap_Ship h_Gap_Item h_sent h_on)⟩:=by kernel_rfl
noncomputable def xi3:List U→Option Eff
 | [.i g_Gap_Ship,.i g_Gap_Item,.b g_sent,.b g_on,.i h_Gap_Ship,.i h_Gap_Item,.b h_sent,.b h_on]=>some ⟨none,[],0,[],.bool (xgb g_Gap_Ship g_Gap_Item g_sent g_on h_Gap_Ship h_Gap_Item h_sent h_on)⟩
 | _=>Option.none
noncomputable def K17:Con:=ext Tryz.prog K16 47 [.agg [.int .i64 0,.int .i64 0,.bool false,.bool false],.agg [.int .i64 0,.int .i64 0,.bool false,.bool false]] [] xi3
theorem xDA:xbh Tryz.prog K17:=xav xaA xDB (n:=9) rfl rfl fun us x h=>by
 unfold xi3 at h
 split at h
 ·cases h; exact ⟨none,xn8 _ _ _ _ _ _ _ _,fun _=>trivial⟩
 ·cases h
theorem xmm (g_Gap_Ship g_Gap_Item:Int) (g_sent g_on:Bool) (o_Kind o_Ship o_Item:Int):xas Tryz.prog 0 (xaZ Tryz.prog K17 xcO 9 43 [.agg [.int .i64 g_Gap_Ship,.int .i64 g_Gap_Item,.bool g_sent,.bool g_on],.agg [.int .i64 o_Kind,.int .i64 o_Ship,.int .i64 o_Item]] ⟨[],0⟩)=some ⟨none,[],0,[],.bool (xgA g_Gap_Ship g_Gap_Item g_sent g_on o_Kind o_Ship o_Item)⟩:=by kernel_rfl
noncomputable def xhz:List U→Option Eff
 | [.i g_Gap_Ship,.i g_Gap_Item,.b g_sent,.b g_on,.i o_Kind,.i o_Ship,.i o_Item]=>some ⟨none,[],0,[],.bool (xgA g_Gap_Ship g_Gap_Item g_sent g_on o_Kind o_Ship o_Item)⟩
 | _=>Option.none
noncomputable def K18:Con:=ext Tryz.prog K17 43 [.agg [.int .i64 0,.int .i64 0,.bool false,.bool false],.agg [.int .i64 0,.int .i64 0,.int .i64 0]] [] xhz
theorem xBf:xbh Tryz.prog K18:=xav xaA xDA (n:=9) rfl rfl fun us x h=>by
 unfold xhz at h
 split at h
 ·cases h; exact ⟨none,xmm _ _ _ _ _ _ _,fun _=>trivial⟩
 ·cases h
end Go.Proofs.YthfjhbbpdhjklaaGreat
set_option linter.unusedVariables false
namespace Go.Proofs.YthfjhbbpdhjklaaGreat
open Go Go.Sy Go.Proofs Go.RowKit Go.Sort
theorem cmpC (a b:Int):xak a b=if a<b then -1 else if b<a then 1 else 0:=by
 unfold xak xif
 simp only [bne_self_eq_false,cond_false]
 by_cases h:a<b
 ·simp [h]
 ·by_cases h2:b<a
  ·simp [h,h2]
  ·simp [h,h2]
def orL:List Int→Int
 | []=>0
 | a::r=>if a=0 then orL r else a
theorem xwa:∀ {l:List Int},(∀ x∈l,x=0)→orL l=0
 | [],_=>rfl
 | a::r,h=>by unfold orL; rw [if_pos (h a (by simp))]; exact xwa fun x hx=>h x (by simp [hx])
theorem xAQ:∀ {l:List Int} {i:Nat},i<l.length→(∀ j,j<i→l.getD j 0=0)→l.getD i 0≠0→orL l=l.getD i 0
 | [],i,h,_,_=>by cases h
 | a::r,0,_,_,h=>by
  have h:a≠0:=h
  unfold orL; rw [if_neg h]; rfl
 | a::r,i+1,h,h1,h2=>by
  have h0:a=0:=h1 0 (by omega)
  unfold orL
  rw [if_pos h0]
  exact xAQ (by simpa using h) (fun j hj=>h1 (j+1) (by omega)) h2
theorem xCk {v:List (List Int)} (hv:v.length<4611686018427387904):xek v∧xfN v=orL (v.map fun r=>r.getD 0 0):=by
 have eg:∀ i,(v.map fun r=>r.getD 0 0).getD i 0=(v.getD i []).getD 0 0:=fun i=>by
  simp only [List.getD_eq_getElem?_getD,List.getElem?_map]
  cases v[i]?<;>rfl
 have key:=xgz (step:=xdw v) v.length (fun i=>(v.getD i []).getD 0 0 !=0) (fun i=>[.i 0,.i i]) (fun i=>[.i ((v.getD i []).getD 0 0)]) 0 2 [.i 0,.i v.length]
  (fun i hi=>by
   unfold xdw
   simp only [gi_1,gi_z,dlt hi,xaa (xaw hi),xpL (show i<4611686018427387904 by omega),Int.toNat_natCast])
  (by
   unfold xdw
   simp only [gi_1,gi_z,dnlt])
 obtain ⟨h1,h2⟩:=key
 refine ⟨h1,?_⟩
 unfold xfN xjH
 have hi:xgf v=[.i 0,.i ((0:Nat):Int)]:=rfl
 rw [hi]
 rcases h2 with ⟨i,hi,hp,hb,he⟩ | ⟨hb,he⟩
 ·rw [he]
  rw [xAQ (i:=i) (by simpa using hi) (fun j hj=>by rw [eg]; simpa using hb j hj) (by rw [eg]; simpa using hp),eg]
  rfl
 ·rw [he,xwa]
  ·rfl
  ·intro x hx
   obtain ⟨r,hr,rfl⟩:=List.mem_map.1 hx
   obtain ⟨j,hj,rfl⟩:=List.getElem_of_mem hr
   have:=hb j hj
   have ej:v.getD j []=v[j]:=by rw [List.getD_eq_getElem?_getD,List.getElem?_eq_getElem hj]; rfl
   rw [ej] at this
   simpa using this
theorem xpx (a b c d:Int):xc2 a b c d∧xeT a b c d=orL [xak a c,xak b d]:=xCk (by simp)
theorem xhk (a b c d e f:Int):xbJ a b c d e f∧xc3 a b c d e f=orL [xak a d,xak b e,xak c f]:=xCk (by simp)
noncomputable def cfO (x y:List Int):Int:=xc3 (x.getD 0 0) (x.getD 1 0) (x.getD 2 0) (y.getD 0 0) (y.getD 1 0) (y.getD 2 0)
theorem xvA (x y:List Int):decide (cfO x y<0)=!leL [0,1,2] y x:=by
 unfold cfO
 rw [(xhk _ _ _ _ _ _).2]
 simp only [cmpC,orL,leL]
 generalize x.getD 0 0=a
 generalize x.getD 1 0=b
 generalize x.getD 2 0=c
 generalize y.getD 0 0=d
 generalize y.getD 1 0=e
 generalize y.getD 2 0=f
 rcases Int.lt_trichotomy a d with h | h | h
 ·simp [h,show ¬ d=a by omega,show ¬ d<a by omega]
 ·subst h
  rcases Int.lt_trichotomy b e with h | h | h
  ·simp [h,show ¬ e=b by omega,show ¬ e<b by omega]
  ·subst h
   rcases Int.lt_trichotomy c f with h | h | h
   ·simp [h,show ¬ f=c by omega,show ¬ f<c by omega]
   ·subst h; simp
   ·simp [h,show ¬ f=c by omega,show ¬ c<f by omega]
  ·simp [h,show ¬ e=b by omega,show ¬ b<e by omega]
 ·simp [h,show ¬ d=a by omega,show ¬ a<d by omega]
theorem swoO:SWO (ltOf cfO):=by
 have lt_le:∀ x y,ltOf cfO x y=!leL [0,1,2] y x:=xvA
 have le_ne:∀ {a b:List Int},leL [0,1,2] a b=false→leL [0,1,2] b a=true:=fun {a b} h=>(xeQ _ a b).resolve_left (by simp [h])
 refine ⟨fun x=>?_,fun x y z h k'=>?_,fun x y z h k'=>?_⟩
 ·rw [lt_le]
  have:=xeQ [0,1,2] x x
  simp_all
 ·rw [lt_le] at *
  simp only [Bool.not_eq_true'] at *
  cases hz:leL [0,1,2] z x with
  | false=>rfl
  | true =>
   have:=xeP _ _ _ _ hz (le_ne h)
   rw [k'] at this
   cases this
 ·rw [lt_le] at *
  simp only [Bool.not_eq_false'] at *
  exact xeP _ _ _ _ k' h
theorem xu7 (zs:List Int):(zs.mergeSort fun x y=>decide (x≤y))=xfQ leI zs :=
 xkJ xm6 xm5 (fun a _ b _ h k=>by simp [leI] at *; omega) (List.mergeSort_perm _ _) (List.pairwise_mergeSort (fun a b c h k=>xm5 a b c h k) (fun a b=>by have:=xm6 a b; simpa [leI] using this) zs)
theorem xle (l:List (List Int)):(nums l).map (Value.int .i64)=rowV [.int .i64] l:=by
 induction l with
 | nil=>rfl
 | cons r l ih =>
  show Value.int .i64 (r.getD 0 0)::(nums l).map (Value.int .i64)=elV [.int .i64] 0 r++rowV [.int .i64] l
  rw [ih]; rfl
theorem xwU:xAz Tryz.prog 88 none 3 [.int .i64] (fun l=>some (l.length<4611686018427387904)) xbr (fun _=>.tup []):=by
 intro l v w hp _ hr
 have hlt:l.length<4611686018427387904:=hp _ rfl
 rcases xqq hr with ⟨a,rfl,rfl⟩ | ⟨b,cap,hcap,rfl,hb,hbw,hmax,hle,hold,hput⟩
 ·refine (Any.slices_Sort_int_none Tryz.lays189 a 0 w).mono ?_
  rintro e w' ⟨rfl,rfl⟩
  exact ⟨rfl,(hr:xaY _ true 3 [CK.int IntKind.i64].length _ (xbr []).length _),Chg.refl _ _⟩
 ·have h:=Any.slices_Sort_int Tryz.lays189 b 0 cap (nums l) w (hold Int _ (Value.int .i64) (nums l).toArray (by simpa using xle l)) hbw (by simpa [nums] using hlt)
  have el:(nums l).length=l.length:=by simp [nums]
  rw [el] at h
  refine h.mono ?_
  rintro e w' ⟨rfl,n,os,rfl⟩
  rw [xu7]
  have:=hput Int inferInstance (Value.int .i64) (xfQ leI (nums l)).toArray (xbr l) n os (by simp [xbr,xcu,nums,xeR]) (xaT _ _) (by
   rw [← xle (xbr l)]
   unfold xbr
   rw [xhu])
  rw [hb]
  exact ⟨rfl,this.1,this.2⟩
theorem xxw (zs:List Int):Lib.compact zs=dd none zs:=by
 have key:∀ m,m≤zs.length→Lib.compactUpTo zs.toArray m=dd none (zs.take m):=by
  intro m
  induction m with
  | zero=>intro _; simp [Lib.compactUpTo,dd]
  | succ m ih =>
   intro hm
   have hm':m<zs.length:=hm
   rw [Lib.compactUpTo_succ,ih (by omega),List.take_succ_eq_append_getElem hm',xzl]
   congr 1
   have e1:zs.toArray[m]! = zs[m]:=by simp [getElem!_pos zs.toArray m (by simpa using hm')]
   cases m with
   | zero=>simp [Lib.keeps,hm']
   | succ k =>
    have hk:k<zs.length:=by omega
    have e2:zs.toArray[k]! = zs[k]:=by simp [getElem!_pos zs.toArray k (by simpa using hk)]
    have e3:(zs.take (k+1)).getLast?=some zs[k]:=by
     rw [List.take_succ_eq_append_getElem hk,List.getLast?_concat]
    rw [e3,Option.some_or]
    simp only [Lib.keeps,e1,Nat.add_sub_cancel,e2]
    by_cases h:zs[k]=zs[k+1]
    ·simp [h]
    ·simp [h,Ne.symm h]
 have:=key zs.length (Nat.le_refl _)
 rwa [List.take_length] at this
theorem xth:xAz Tryz.prog 89 none 3 [.int .i64] (fun _=>none) xdv (fun l=>.vw 0 1 none (xeZ l)):=by
 intro l v w _ _ hr
 rcases xqq hr with ⟨a,rfl,rfl⟩ | ⟨b,cap,hcap,rfl,hb,hbw,hmax,hle,hold,hput⟩
 ·refine (Any.slices_Compact_int_empty Tryz.laysNm220 a 0 w).mono ?_
  rintro e w' ⟨rfl,rfl⟩
  have e1:xdv []=[]:=by simp [xdv,nums,xcu,dd]
  refine ⟨?_,by rw [e1]; exact hr,Chg.refl _ _⟩
  simp [AV.den,xea,sliced,xeZ,nums,dd,loN]
 ·have el:(nums l).length=l.length:=by simp [nums]
  have h:=Any.slices_Compact_int Tryz.laysNm220 b 0 cap (nums l) w (hold Int _ (Value.int .i64) (nums l).toArray (by simpa using xle l)) (by unfold maxLen at hmax; omega) (by omega)
  rw [el,xxw] at h
  refine h.mono ?_
  rintro e w' ⟨rfl,q,rfl⟩
  have hl:=xnt (nums l) none
  have:=hput Int inferInstance (Value.int .i64) (dd none (nums l)++List.replicate (l.length-(dd none (nums l)).length) 0).toArray (xdv l) q #[] (by simp [xdv,xcu,el]; omega) (xaT _ _) (by
   rw [← xle (xdv l)]
   unfold xdv
   rw [xhu,el])
  rw [grow_empty] at this
  rw [hb]
  refine ⟨?_,this.1,this.2⟩
  have e5:((⟨b,0,none⟩:Addr).add 0)=⟨b,0,none⟩:=rfl
  simp [AV.den,xea,sliced,xeZ,loN,e5]
theorem xwJ {W w':World} (h:Blw W.heap.size W w'):∃ q os',w'=grow (W.drewN q) os':=by
 refine ⟨w'.drawn-W.drawn,w'.heap.extract W.heap.size w'.heap.size,?_⟩
 have hd:=h.drawn
 have hheap:w'.heap=W.heap++w'.heap.extract W.heap.size w'.heap.size:=by
  apply Array.ext_getElem?
  intro k
  by_cases hk:k<W.heap.size
  ·rw [Array.getElem?_append_left hk]; exact h.block k hk
  ·rw [Array.getElem?_append_right (by omega),Array.getElem?_extract]
   have hs:=h.size
   by_cases hk2:k<w'.heap.size
   ·rw [if_pos (by omega)]
    congr 1
    omega
   ·rw [if_neg (by omega),Array.getElem?_eq_none (by omega)]
 have h1:=h.os
 have h2:=h.tape
 have h3:=h.output
 obtain ⟨heap',tape',drawn',os',output'⟩:=w'
 obtain ⟨heap,tape,drawn,os,output⟩:=W
 simp only [] at *
 subst h1 h2 h3
 show (⟨heap',_,drawn',_,_⟩:World)=⟨heap++_,_,drawn+(drawn'-drawn),_,_⟩
 rw [← hheap,show drawn+(drawn'-drawn)=drawn' by omega]
 rfl
def ksO:List CK:=[.int .i64,.int .i64,.int .i64]
theorem xtg (x y:List Int) (W:World):Calls Tryz.prog 39 #[.agg (elV ksO 0 x).toArray,.agg (elV ksO 0 y).toArray] W fun e w' =>
  e=.returned (.int .i64 (cfO x y))∧∃ q os',w'=grow (W.drewN q) os':=by
 have hD:K18 39 [.agg [.int .i64 (x.getD 0 0),.int .i64 (x.getD 1 0),.int .i64 (x.getD 2 0)],.agg [.int .i64 (y.getD 0 0),.int .i64 (y.getD 1 0),.int .i64 (y.getD 2 0)]] []=some ⟨some (xbJ (x.getD 0 0) (x.getD 1 0) (x.getD 2 0) (y.getD 0 0) (y.getD 1 0) (y.getD 2 0)),[],0,[],.int .i64 (cfO x y)⟩:=rfl
 obtain ⟨_,_,hc⟩:=(xBf _ _ _ _ hD).1 rfl
 refine (hc (xhk _ _ _ _ _ _).1 (fun _=>.slice none 0 0) W ⟨fun _=>rfl,fun o ho=>(by cases ho),fun o ho=>(by cases ho)⟩).mono ?_
 rintro e w' ⟨E',rfl,hg⟩
 exact ⟨rfl,xwJ hg.below⟩
theorem xwV {l:List (List Int)} {d':Array (List Int)} (hp:PermIn 0 l.length (l.map (norm 3)).toArray d') (hs:SortedIn (ltOf cfO) 0 l.length d'):d'.toList=xaQ 3 [0,1,2] l:=by
 obtain ⟨h1,_,h3⟩:=hp
 have hsz:d'.size=l.length:=by simpa using h1
 have e1:(d'.extract 0 l.length).toList=d'.toList:=by rw [← hsz]; simp
 have e2:(((l.map (norm 3)).toArray).extract 0 l.length).toList=l.map (norm 3):=by
  rw [Array.toList_extract]
  exact List.take_of_length_le (by simp)
 rw [e1,e2] at h3
 unfold xaQ
 refine xkJ (xeQ _) (xeP _) (fun a ha b hb h h'=>?_) h3 ?_
 ·have hkk:=xpz _ _ _ h h'
  obtain ⟨a',_,rfl⟩:=List.mem_map.1 ha
  obtain ⟨b',_,rfl⟩:=List.mem_map.1 hb
  apply xz7
  intro j hj
  have h012:j=0∨j=1∨j=2:=by omega
  have:=hkk j (by simpa using h012)
  rwa [xsN 3 a' hj,xsN 3 b' hj] at this
 ·rw [List.pairwise_iff_getElem]
  intro i j hi hj hij
  have hi':i<d'.size:=by simpa using hi
  have hj':j<d'.size:=by simpa using hj
  have:=hs i j (Nat.zero_le _) hij (by omega)
  rw [show ltOf cfO _ _=_ from xvA _ _,getElem!_pos d' j hj',getElem!_pos d' i hi'] at this
  simpa using this
theorem xuQ:xAz Tryz.prog 151 (some 39) 96 ksO (fun l=>some (l.length<4611686018427387904)) (xaQ 3 [0,1,2]) (fun _=>.tup []):=by
 intro l v w hp _ hr
 have hlt:l.length<4611686018427387904:=hp _ rfl
 rcases xqq hr with ⟨a,rfl,rfl⟩ | ⟨b,cap,hcap,rfl,hb,hbw,hmax,hle,hold,hput⟩
 ·refine (AnyF.slices_SortFunc_none Tryz.sortOm a 0 _ w).mono ?_
  rintro e w' ⟨rfl,rfl⟩
  exact ⟨rfl,hr,Chg.refl _ _⟩
 ·have eg:∀ args w,(callFunc 39 args).run Tryz.prog w=.ok (.enter 39 args) w:=enters_of Tryz.func39 (by kernel_rfl) rfl
  have hrowV:rowV ksO (l.map (norm 3))=rowV ksO l:=xx4 ksO l
  have hH:HoldsK (elV ksO 0) 3 w b 0 (l.map (norm 3)).toArray:=hold Value inferInstance id _ ((xuh ksO (l.map (norm 3))).trans hrowV)
  have h:=AnyQ.slices_SortFunc Tryz.sortOm 3 Tryz.isAgg96 Tryz.sizeOf96 (elV ksO 0) (fun x=>xbD _ _ _) (fun x u hu=>xta _ _ _ u hu) cfO swoO 39 #[] b 0 cap (l.map (norm 3)).toArray w eg (fun _ _ _ _ x y=>xtg x y _) hH hbw (by simpa using hlt)
  have es:(l.map (norm 3)).toArray.size=l.length:=by simp
  rw [es] at h
  refine h.mono ?_
  rintro e w' ⟨rfl,d',n,os,g1,g2,rfl⟩
  have hd:=xwV g1 g2
  have e3:d'=(xaQ 3 [0,1,2] l).toArray:=by rw [← hd]
  have:=hput Value inferInstance id (flatK (elV ksO 0) 3 (xaQ 3 [0,1,2] l).toArray) (xaQ 3 [0,1,2] l) n os (by simp [xaQ,xeR]) (xaT _ _) (xuh ksO _)
  rw [hb,e3]
  exact ⟨rfl,this.1,this.2⟩
noncomputable def K19:Con:=conR K18 88 none 3 [.int .i64] (fun l=>some (l.length<4611686018427387904)) xbr (fun _=>.tup [])
theorem xDz:xbh Tryz.prog K19:=xos xBf (fun _ k hk=>by cases hk) ⟨_,Tryz.func88,by decide,rfl⟩ xwU
noncomputable def K20:Con:=conR K19 89 none 3 [.int .i64] (fun _=>none) xdv (fun l=>.vw 0 1 none (xeZ l))
theorem xDy:xbh Tryz.prog K20:=xos xDz (fun l k hk=>by simpa [AV.keys] using hk) ⟨_,Tryz.func89,by decide,rfl⟩ xth
noncomputable def K21:Con:=conR K20 151 (some 39) 96 ksO (fun l=>some (l.length<4611686018427387904)) (xaQ 3 [0,1,2]) (fun _=>.tup [])
theorem xDx:xbh Tryz.prog K21:=xos xDy (fun _ k hk=>by cases hk) ⟨_,Tryz.func151,by decide,rfl⟩ xuQ
end Go.Proofs.YthfjhbbpdhjklaaGreat
set_option maxRecDepth 100000
set_option linter.unusedVariables false
namespace Go.Proofs.YthfjhbbpdhjklaaGreat
open Go Go.Sy
noncomputable def xeS (ue t:Int) (uf:List (List Int)):List U :=
 [.i ((0:Int)),.r ([])]
noncomputable def xcE (ue t:Int) (uf:List (List Int)) (y0:List U):Option (Nat×List U) :=
 (bif decide (gi y0 0<(↑uf.length:Int)) then xac (inR (gi y0 0) uf) (xac (inR (gi y0 0) uf) ((bif decide ((uf.getD (gi y0 0).toNat []).getD 0 (0:Int)>t)==false then (bif (uf.getD (gi y0 0).toNat []).getD 1 (0:Int)==(3:Int) then xac (xa5 8 ((gr y0 1).length+[[(uf.getD (gi y0 0).toNat []).getD 2 (0:Int)]].length)) (some (0,[.i (IntKind.i64.wrap (gi y0 0+(1:Int))),.r (gr y0 1++[[(uf.getD (gi y0 0).toNat []).getD 2 (0:Int)]])])) else some (0,[.i (IntKind.i64.wrap (gi y0 0+(1:Int))),.r (gr y0 1)])) else some (3,[.r (gr y0 1)])))) else some (4,[.i (gi y0 0),.r (gr y0 1)]))
noncomputable def xaE (ue t:Int) (uf:List (List Int)):Nat×List U:=xat (xcE ue t uf) (xeS ue t uf)
noncomputable def xjT (ue t:Int) (uf:List (List Int)):List (List Int) :=
 bif (xaE ue t uf).fst.beq 3 then List.take (xeZ (xbr (gr (xaE ue t uf).snd 0))).toNat (xdv (xbr (gr (xaE ue t uf).snd 0)))
else List.take (xeZ (xbr (gr (xaE ue t uf).snd 1))).toNat (xdv (xbr (gr (xaE ue t uf).snd 1)))
noncomputable def xcF (ue t:Int) (uf:List (List Int)):List (List Int) :=
 (xjT ue t uf)
def xbK (ue t:Int) (uf:List (List Int)):Prop :=
 (((xax (xcE ue t uf) (xeS ue t uf)))∧((((xaE ue t uf).fst.beq 3=true)→(((gr (xaE ue t uf).snd 0).length<4611686018427387904)∧(((0:Int)≤xeZ (xbr (gr (xaE ue t uf).snd 0)))∧(xeZ (xbr (gr (xaE ue t uf).snd 0))≤(↑(xdv (xbr (gr (xaE ue t uf).snd 0))).length:Int)))))∧(((xaE ue t uf).fst.beq 3=false)→(((gr (xaE ue t uf).snd 1).length<4611686018427387904)∧(((0:Int)≤xeZ (xbr (gr (xaE ue t uf).snd 1)))∧(xeZ (xbr (gr (xaE ue t uf).snd 1))≤(↑(xdv (xbr (gr (xaE ue t uf).snd 1))).length:Int)))))))
noncomputable def xhD (ue t:Int) (uf:List (List Int)):List (List Int) :=
 bif !xag ue uf||!xaz t then [] else xcF ue t uf
noncomputable def xhC (ue t:Int) (uf:List (List Int)):Int :=
 bif !xag ue uf||!xaz t then (1:Int) else (0:Int)
def xgC (ue t:Int) (uf:List (List Int)):Prop :=
 ((xaK ue uf)∧(((!xag ue uf||!xaz t)=false)→(xbK ue t uf)))
noncomputable def xeV (ua uc t:Int) (ub ud uk:List (List Int)):List U :=
 [.i ((0:Int)),.r ([])]
noncomputable def xcG (ua uc t:Int) (ub ud uk:List (List Int)) (y0:List U):Option (Nat×List U) :=
 (bif decide (gi y0 0<(↑uk.length:Int)) then xac (inR (gi y0 0) uk) (xac (inR (gi y0 0) uk) (xac ((((uk.getD (gi y0 0).toNat []).getD 0 (0:Int)==uc&&decide ((uk.getD (gi y0 0).toNat []).getD 2 (0:Int)≤t))=true)→(xb7 ua ((uk.getD (gi y0 0).toNat []).getD 1 (0:Int)) ((uk.getD (gi y0 0).toNat []).getD 2 (0:Int)) ub)) (xac ((((uk.getD (gi y0 0).toNat []).getD 0 (0:Int)==uc&&decide ((uk.getD (gi y0 0).toNat []).getD 2 (0:Int)≤t) &&
  xaG ua ((uk.getD (gi y0 0).toNat []).getD 1 (0:Int)) ((uk.getD (gi y0 0).toNat []).getD 2 (0:Int)) ub) =
 true)→(xcx uc ((uk.getD (gi y0 0).toNat []).getD 2 (0:Int)) ud)) ((bif (uk.getD (gi y0 0).toNat []).getD 0 (0:Int)==uc&&decide ((uk.getD (gi y0 0).toNat []).getD 2 (0:Int)≤t) &&
  xaG ua ((uk.getD (gi y0 0).toNat []).getD 1 (0:Int)) ((uk.getD (gi y0 0).toNat []).getD 2 (0:Int)) ub &&
 xaF uc ((uk.getD (gi y0 0).toNat []).getD 2 (0:Int)) ud then xac (xa5 8 ((gr y0 1).length+[[(uk.getD (gi y0 0).toNat []).getD 1 (0:Int)]].length)) (some (0,[.i (IntKind.i64.wrap (gi y0 0+(1:Int))),.r (gr y0 1++[[(uk.getD (gi y0 0).toNat []).getD 1 (0:Int)]])])) else some (0,[.i (IntKind.i64.wrap (gi y0 0+(1:Int))),.r (gr y0 1)])))))) else some (3,[.i (gi y0 0),.r (gr y0 1)]))
noncomputable def xb9 (ua uc t:Int) (ub ud uk:List (List Int)):Nat×List U:=xat (xcG ua uc t ub ud uk) (xeV ua uc t ub ud uk)
noncomputable def xj2 (ua uc t:Int) (ub ud uk:List (List Int)):List (List Int) :=
 bif !xag ua ub||!xag uc ud||!xay uk||!xaz t||ua !=(0:Int)||uc==(0:Int) then []
else List.take (xeZ (xbr (gr (xb9 ua uc t ub ud uk).snd 1))).toNat (xdv (xbr (gr (xb9 ua uc t ub ud uk).snd 1)))
noncomputable def xeX (ua uc t:Int) (ub ud uk:List (List Int)):List (List Int) :=
 (xj2 ua uc t ub ud uk)
noncomputable def xeW (ua uc t:Int) (ub ud uk:List (List Int)):Int :=
 bif !xag ua ub||!xag uc ud||!xay uk||!xaz t||ua !=(0:Int)||uc==(0:Int) then
 (1:Int)
else (0:Int)
def xc4 (ua uc t:Int) (ub ud uk:List (List Int)):Prop :=
 ((xaK ua ub)∧((((!xag ua ub)=false)→(xaK uc ud))∧((((!xag ua ub||!xag uc ud)=false)→(xbx uk))∧(((!xag ua ub||!xag uc ud||!xay uk||!xaz t||ua !=(0:Int)||uc==(0:Int))=false)→(((xax (xcG ua uc t ub ud uk) (xeV ua uc t ub ud uk)))∧(((gr (xb9 ua uc t ub ud uk).snd 1).length<4611686018427387904)∧(((0:Int)≤xeZ (xbr (gr (xb9 ua uc t ub ud uk).snd 1)))∧(xeZ (xbr (gr (xb9 ua uc t ub ud uk).snd 1))≤(↑(xdv (xbr (gr (xb9 ua uc t ub ud uk).snd 1))).length:Int)))))))))
noncomputable def xlX (ue t un n:Int) (uf:List (List Int)):List (List Int) :=
 bif un==(4:Int)&&!xaF ue (10000000:Int) uf then [] else []++uf++[[t,un,n,xbW ue (xa3 ue uf) t un n (0:Int)]]
noncomputable def xlW (ue t un n:Int) (uf:List (List Int)):List (List Int) :=
 bif un==(5:Int)&&xaF ue (10000000:Int) uf then [] else []++uf++[[t,un,n,xbW ue (xa3 ue uf) t un n (0:Int)]]
noncomputable def xiu (ue t un n:Int) (uf:List (List Int)):List (List Int) :=
 bif decide ((↑uf.length:Int)≥(200:Int)) then []
else bif decide (t<xa4 ue uf) then [] else bif un==(4:Int)&&!xaF ue (10000000:Int) uf then (xlX ue t un n uf) else (xlW ue t un n uf)
noncomputable def xfg (ue t un n:Int) (uf:List (List Int)):List (List Int) :=
 bif !xag ue uf then bif !xag ue uf then [] else bif !xbs ue un then [] else (xiu ue t un n uf)
else bif !xbP t un n then [] else bif !xbs ue un then [] else (xiu ue t un n uf)
noncomputable def xit (ue t un n:Int) (uf:List (List Int)):Int :=
 bif un==(4:Int)&&!xaF ue (10000000:Int) uf then bif un==(4:Int)&&!xaF ue (10000000:Int) uf then (0:Int) else ue
else bif un==(5:Int)&&xaF ue (10000000:Int) uf then (0:Int) else ue
noncomputable def xlV (ue t un n:Int) (uf:List (List Int)):Int :=
 bif !xag ue uf then (0:Int)
else
 bif !xbs ue un then (0:Int)
 else bif decide ((↑uf.length:Int)≥(200:Int)) then (0:Int) else bif decide (t<xa4 ue uf) then (0:Int) else (xit ue t un n uf)
noncomputable def xlU (ue t un n:Int) (uf:List (List Int)):Int :=
 bif !xbP t un n then (0:Int)
else
 bif !xbs ue un then (0:Int)
 else bif decide ((↑uf.length:Int)≥(200:Int)) then (0:Int) else bif decide (t<xa4 ue uf) then (0:Int) else (xit ue t un n uf)
noncomputable def xff (ue t un n:Int) (uf:List (List Int)):Int :=
 bif !xag ue uf then (xlV ue t un n uf) else (xlU ue t un n uf)
noncomputable def xis (ue t un n:Int) (uf:List (List Int)):Int :=
 bif un==(4:Int)&&!xaF ue (10000000:Int) uf then bif un==(4:Int)&&!xaF ue (10000000:Int) uf then (6:Int) else (0:Int)
else bif un==(5:Int)&&xaF ue (10000000:Int) uf then (6:Int) else (0:Int)
noncomputable def xlT (ue t un n:Int) (uf:List (List Int)):Int :=
 bif !xag ue uf then (1:Int)
else
 bif !xbs ue un then (12:Int)
 else bif decide ((↑uf.length:Int)≥(200:Int)) then (2:Int) else bif decide (t<xa4 ue uf) then (13:Int) else (xis ue t un n uf)
noncomputable def xlS (ue t un n:Int) (uf:List (List Int)):Int :=
 bif !xbP t un n then (1:Int)
else
 bif !xbs ue un then (12:Int)
 else bif decide ((↑uf.length:Int)≥(200:Int)) then (2:Int) else bif decide (t<xa4 ue uf) then (13:Int) else (xis ue t un n uf)
noncomputable def xfe (ue t un n:Int) (uf:List (List Int)):Int :=
 bif !xag ue uf then (xlT ue t un n uf) else (xlS ue t un n uf)
def xdR (ue t un n:Int) (uf:List (List Int)):Prop :=
 ((xbI ue uf)∧((xcx ue (10000000:Int) uf)∧((xaK ue uf)∧((((!xag ue uf)=true)→(((!xag ue uf)=false)→(((!xbs ue un)=false)→((decide ((↑uf.length:Int)≥(200:Int))=false)→((decide (t<xa4 ue uf)=false)→((((un==(4:Int)&&!xaF ue (10000000:Int) uf)=true)→(((un==(4:Int)&&!xaF ue (10000000:Int) uf)=false)→((xbF ue (xa3 ue uf) t un n (0:Int))∧((((uf=[])→((True)∧(([]++uf=[])∧(True))))∧(xa5 32 (0+uf.length)))∧(xa5 32 (([]++uf).length+[[t,un,n,xbW ue (xa3 ue uf) t un n (0:Int)]].length))))))∧(((un==(4:Int)&&!xaF ue (10000000:Int) uf)=false)→(((un==(5:Int)&&xaF ue (10000000:Int) uf)=false)→((xbF ue (xa3 ue uf) t un n (0:Int))∧((((uf=[])→((True)∧(([]++uf=[])∧(True))))∧(xa5 32 (0+uf.length)))∧(xa5 32 (([]++uf).length+[[t,un,n,xbW ue (xa3 ue uf) t un n (0:Int)]].length))))))))))))∧(((!xag ue uf)=false)→(((!xbP t un n)=false)→(((!xbs ue un)=false)→((decide ((↑uf.length:Int)≥(200:Int))=false)→((decide (t<xa4 ue uf)=false)→((((un==(4:Int)&&!xaF ue (10000000:Int) uf)=true)→(((un==(4:Int)&&!xaF ue (10000000:Int) uf)=false)→((xbF ue (xa3 ue uf) t un n (0:Int))∧((((uf=[])→((True)∧(([]++uf=[])∧(True))))∧(xa5 32 (0+uf.length)))∧(xa5 32 (([]++uf).length+[[t,un,n,xbW ue (xa3 ue uf) t un n (0:Int)]].length))))))∧(((un==(4:Int)&&!xaF ue (10000000:Int) uf)=false)→(((un==(5:Int)&&xaF ue (10000000:Int) uf)=false)→((xbF ue (xa3 ue uf) t un n (0:Int))∧((((uf=[])→((True)∧(([]++uf=[])∧(True))))∧(xa5 32 (0+uf.length)))∧(xa5 32 (([]++uf).length+[[t,un,n,xbW ue (xa3 ue uf) t un n (0:Int)]].length))))))))))))))))
end Go.Proofs.YthfjhbbpdhjklaaGreat
set_option maxRecDepth 100000
set_option linter.unusedVariables false
namespace Go.Proofs.YthfjhbbpdhjklaaGreat
open Go Go.Sy
theorem xn5 (ue t:Int) (uf:List (List Int)):xas Tryz.prog 1 (xaZ Tryz.prog K21 xcO 9 92 [.agg [.int .i64 ue,.sl 0],.int .i64 t] ⟨[⟨0,1,false,.row 178 [.int .i64,.int .i64,.int .i64,.int .u64] uf⟩],1⟩)=some ⟨some (xbK ue t uf),[],1,[⟨1,1,true,.row 3 [.int .i64] (xcF ue t uf)⟩],.sl 1⟩:=by kernel_rfl
noncomputable def xiZ:List U→Option Eff
 | [.i ue,.i t,.r uf]=>some ⟨some (xbK ue t uf),[],1,[⟨1,1,true,.row 3 [.int .i64] (xcF ue t uf)⟩],.sl 1⟩
 | _=>Option.none
noncomputable def K22:Con:=ext Tryz.prog K21 92 [.agg [.int .i64 0,.sl 0],.int .i64 0] [⟨0,0,false,.row 178 [.int .i64,.int .i64,.int .i64,.int .u64] []⟩] xiZ
theorem xDw:xbh Tryz.prog K22:=xav xaA xDx (n:=9) rfl rfl fun us x h=>by
 unfold xiZ at h
 split at h
 ·cases h; exact ⟨some (xbK _ _ _),xn5 _ _ _,fun h=>h⟩
 ·cases h
noncomputable def K23:Con:=K22
theorem xDv:xbh Tryz.prog K23:=xDw
theorem xob (ua uc t:Int) (ub ud uk:List (List Int)):xas Tryz.prog 3 (xaZ Tryz.prog K23 xcO 9 9 [.agg [.int .i64 ua,.sl 0],.agg [.int .i64 uc,.sl 1],.sl 2,.int .i64 t] ⟨[⟨0,3,false,.row 178 [.int .i64,.int .i64,.int .i64,.int .u64] ub⟩,⟨1,3,false,.row 178 [.int .i64,.int .i64,.int .i64,.int .u64] ud⟩,⟨2,3,false,.row 53 [.int .i64,.int .i64,.int .i64] uk⟩],3⟩)=some ⟨some (xc4 ua uc t ub ud uk),[],1,[⟨3,3,true,.row 3 [.int .i64] (xeX ua uc t ub ud uk)⟩],.tup [.sl 3,.int .i64 (xeW ua uc t ub ud uk)]⟩:=by kernel_rfl
noncomputable def xjb:List U→Option Eff
 | [.i ua,.i uc,.i t,.r ub,.r ud,.r uk]=>some ⟨some (xc4 ua uc t ub ud uk),[],1,[⟨3,3,true,.row 3 [.int .i64] (xeX ua uc t ub ud uk)⟩],.tup [.sl 3,.int .i64 (xeW ua uc t ub ud uk)]⟩
 | _=>Option.none
noncomputable def K24:Con:=ext Tryz.prog K23 9 [.agg [.int .i64 0,.sl 0],.agg [.int .i64 0,.sl 1],.sl 2,.int .i64 0] [⟨0,0,false,.row 178 [.int .i64,.int .i64,.int .i64,.int .u64] []⟩,⟨1,0,false,.row 178 [.int .i64,.int .i64,.int .i64,.int .u64] []⟩,⟨2,0,false,.row 53 [.int .i64,.int .i64,.int .i64] []⟩] xjb
theorem xDu:xbh Tryz.prog K24:=xav xaA xDv (n:=9) rfl rfl fun us x h=>by
 unfold xjb at h
 split at h
 ·cases h; exact ⟨some (xc4 _ _ _ _ _ _),xob _ _ _ _ _ _,fun h=>h⟩
 ·cases h
noncomputable def K25:Con:=K24
theorem xDt:xbh Tryz.prog K25:=xDu
theorem xqH (ue t un n:Int) (uf:List (List Int)):xas Tryz.prog 1 (xaZ Tryz.prog K25 xcO 9 22 [.agg [.int .i64 ue,.sl 0],.int .i64 t,.int .i64 un,.int .i64 n] ⟨[⟨0,1,false,.row 178 [.int .i64,.int .i64,.int .i64,.int .u64] uf⟩],1⟩)=some ⟨some (xdR ue t un n uf),[],1,[⟨1,1,true,.row 178 [.int .i64,.int .i64,.int .i64,.int .u64] (xfg ue t un n uf)⟩],.tup [.agg [.int .i64 (xff ue t un n uf),.sl 1],.int .i64 (xfe ue t un n uf)]⟩:=by kernel_rfl
noncomputable def xkV:List U→Option Eff
 | [.i ue,.i t,.i un,.i n,.r uf]=>some ⟨some (xdR ue t un n uf),[],1,[⟨1,1,true,.row 178 [.int .i64,.int .i64,.int .i64,.int .u64] (xfg ue t un n uf)⟩],.tup [.agg [.int .i64 (xff ue t un n uf),.sl 1],.int .i64 (xfe ue t un n uf)]⟩
 | _=>Option.none
noncomputable def K26:Con:=ext Tryz.prog K25 22 [.agg [.int .i64 0,.sl 0],.int .i64 0,.int .i64 0,.int .i64 0] [⟨0,0,false,.row 178 [.int .i64,.int .i64,.int .i64,.int .u64] []⟩] xkV
theorem xDs:xbh Tryz.prog K26:=xav xaA xDt (n:=9) rfl rfl fun us x h=>by
 unfold xkV at h
 split at h
 ·cases h; exact ⟨some (xdR _ _ _ _ _),xqH _ _ _ _ _,fun h=>h⟩
 ·cases h
end Go.Proofs.YthfjhbbpdhjklaaGreat
