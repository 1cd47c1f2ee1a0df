/- Several texts in one (wip/pack.py): XSyH XSyRc XSyRx XSyLq XSySo XShelf XInq1D XInq1 XInq2D XInq2 XInqO XInq3D XInq3 XInq4D XInq4 XInq5D XInq5. -/
import Derived.ProofKit
import Derived.OpenShut
import Derived.ReadAgain
import Derived.Carry
import Derived.JoinedTies
import Derived.Shelf.GgSortFunc.InsertionK
import Derived.Shelf.Small.Bits
import Derived.Shelf.Sort.Plain
import Derived.Shelf.Slices.In.SortNone
import Derived.Shelf.SlSortCmp.WholeK
import Derived.Shelf.Slices.CompactI
import Derived.Ground.Names2Prog
import Derived.Ground.SlsfProg
import Derived.Test.YtikhnofbbcmpeaaGreatProg
import Derived.Test.YtikhnofbbcmpeaaGreatRows
import Derived.Shelf.SlSortCmp.NoneTotal
import Derived.Test.YtikhnofbbcmpeaaGreatQIMR02
import Derived.Test.YtikhnofbbcmpeaaGreatQIMR04
set_option linter.unusedVariables false
namespace Go.Sy
open Go.ChangeShapes Go.WideShapes Go.ChangeAt Go.RowKit
def xnF:List CK→List Value→Prop
 | [],[]=>True
 | .int k::ks,v::vs=>(∃ n,v=.int k n∧(Lit.int k n).wf=true)∧xnF ks vs
 | .bool::ks,v::vs=>(∃ b,v=.bool b)∧xnF ks vs
 | _,_=>False
theorem xm1:∀ {ks ks':List CK} {l l':List Value},xnF ks l→xnF ks' l'→xnF (ks++ks') (l++l')
 | [],_,[],_,_,h=>h
 | .int _::_,_,_::_,_,h,h'=>⟨h.1,xm1 h.2 h'⟩
 | .bool::_,_,_::_,_,h,h'=>⟨h.1,xm1 h.2 h'⟩
 | [],_,_::_,_,h,_=>h.elim
 | .int _::_,_,[],_,h,_=>h.elim
 | .bool::_,_,[],_,h,_=>h.elim
section
variable (P:Program)
def xn1:Nat→TypeId→Option (List CK)
 | 0,_=>none
 | n+1,t=>match P.underlying t with
  | some .bool=>some [.bool]
  | some (.int k)=>some [.int k]
  | some (.struct fs)=>match xxJ P (xn1 n) fs.toList 0 with
   | some ks=>if ks.length=P.cellsOf t then some ks else none
   | none=>none
  | _=>none
inductive FK where
 | cells (ks:List CK)
 | sl (e:TypeId) (ks:List CK)
inductive VK where
 | one (k:CK)
 | agg (ks:List CK)
 | sl (e:TypeId) (ks:List CK)
 | mix (fs:List FK)
 | nst (e:TypeId) (fs:List FK)
def xoN (n:Nat):List Field→Nat→Option (List FK)
 | [],_=>some []
 | f::r,off=>if f.offset=off then (match P.underlying f.type with
   | some (.slice e)=>match xn1 P n e with
    | some ks=>if ks.length=P.cellsOf e∧ks≠[]∧P.cellsOf f.type=1 then (match xoN n r (off+1) with | some l=>some (.sl e ks::l) | none=>none) else none
    | none=>none
   | _=>match xn1 P n f.type with
    | some ks=>if ks.length=P.cellsOf f.type then (match xoN n r (off+ks.length) with | some l=>some (.cells ks::l) | none=>none) else none
    | none=>none) else none
def FK.size:FK→Nat
 | .cells ks=>ks.length
 | .sl _ _=>1
def xvC (n:Nat) (t:TypeId):Option VK :=
 match P.underlying t with
 | some .bool=>some (.one .bool)
 | some (.int k)=>some (.one (.int k))
 | some (.struct fs)=>match xn1 P n t with
  | some ks=>some (.agg ks)
  | none=>match xoN P n fs.toList 0 with
   | some l=>if (l.map FK.size).sum=P.cellsOf t then some (.mix l) else none
   | none=>none
 | some (.slice e)=>match xn1 P n e with
  | some ks=>if ks.length=P.cellsOf e∧ks≠[] then some (.sl e ks) else none
  | none=>match P.underlying e with
   | some (.struct fs)=>match xoN P n fs.toList 0 with
    | some l=>if (l.map FK.size).sum=P.cellsOf e∧P.cellsOf e≠0 then some (.nst e l) else none
    | none=>none
   | _=>none
 | _=>none
end
def nksF:List FK→List NK
 | []=>[]
 | .cells ks::r=>ks.map .c++nksF r
 | .sl e ks::r=>.s e ks::nksF r
theorem xoA:∀ l:List FK,(nksF l).length=(l.map FK.size).sum
 | []=>rfl
 | .cells ks::r=>by simp [nksF,FK.size,xoA r]
 | .sl e ks::r=>by simp [nksF,FK.size,xoA r]; omega
def elOk:List CK→List Int→Prop
 | [],[]=>True
 | .int k::ks,n::ns=>(Lit.int k n).wf=true∧elOk ks ns
 | .bool::ks,n::ns=>(n=0∨n=1)∧elOk ks ns
 | _,_=>False
theorem xtO:∀ {ks:List CK} {ns:List Int},elOk ks ns→ns.length=ks.length
 | [],[],_=>rfl
 | .int k::ks,n::ns,h=>by simp [xtO h.2]
 | .bool::ks,n::ns,h=>by simp [xtO h.2]
 | [],_::_,h=>h.elim
 | .int _::_,[],h=>h.elim
 | .bool::_,[],h=>h.elim
theorem xsI:∀ {ks:List CK} {cs:List Value} (pre:List Int),xnF ks cs→∃ ns,elOk ks ns∧cs=elV ks pre.length (pre++ns)
 | [],[],pre,_=>⟨[],trivial,rfl⟩
 | .int k::ks,v::vs,pre,h=>by
  obtain ⟨⟨n,rfl,hw⟩,h2⟩:=h
  obtain ⟨ns,h3,h4⟩:=xsI (pre++[n]) h2
  refine ⟨n::ns,⟨hw,h3⟩,?_⟩
  rw [h4]
  simp [elV,CK.val]
 | .bool::ks,v::vs,pre,h=>by
  obtain ⟨⟨b,rfl⟩,h2⟩:=h
  obtain ⟨ns,h3,h4⟩:=xsI (pre++[bif b then 1 else 0]) h2
  refine ⟨(bif b then 1 else 0)::ns,⟨by cases b<;>simp,h3⟩,?_⟩
  rw [h4]
  cases b<;>simp [elV,CK.val]
 | [],_::_,_,h=>h.elim
 | .int _::_,[],_,h=>h.elim
 | .bool::_,[],_,h=>h.elim
def xH8 (W:World) (e:TypeId) (ks:List CK) (v:Value):Prop:=∃ l:List (List Int),(∀ el∈l,elOk ks el)∧xa6 W false e ks.length v l.length (rowV ks l)
def xuh (W:World):List FK→List Value→Prop
 | [],cs=>cs=[]
 | .cells ks::r,cs=>xnF ks (cs.take ks.length)∧xuh W r (cs.drop ks.length)
 | .sl e ks::r,cs=>∃ v cs',cs=v::cs'∧xH8 W e ks v∧xuh W r cs'
def xtP:List NK→List Int→Prop
 | [],[]=>True
 | .c (.int k)::ks,n::ns=>(Lit.int k n).wf=true∧xtP ks ns
 | .c .bool::ks,n::ns=>(n=0∨n=1)∧xtP ks ns
 | .s _ ks'::ks,n::ns=>(∃ l:List (List Int),n=encL l∧∀ el∈l,elOk ks' el)∧xtP ks ns
 | _,_=>False
def xbM (W:World):VK→Value→Prop
 | .one k,v=>xnF [k] [v]
 | .agg ks,v=>∃ cs,v=.agg cs.toArray∧xnF ks cs
 | .sl e ks,v=>∃ l:List (List Int),(∀ el∈l,elOk ks el)∧xa6 W false e ks.length v l.length (rowV ks l)
 | .mix fs,v=>∃ cs,v=.agg cs.toArray∧xuh W fs cs
 | .nst e fs,v=>∃ l vs,xhN W false e (nksF fs) v l vs∧∀ el∈l,xtP (nksF fs) el
def xol (w:World):List NK→List Int→List Value→Prop
 | [],[],[]=>True
 | k::ks,n::ns,v::vs=>xhi w k n v∧xol w ks ns vs
 | _,_,_=>False
theorem xpz {w:World}:∀ {k1 k2:List NK} {n1 n2:List Int} {v1 v2:List Value},xol w k1 n1 v1→xol w k2 n2 v2→xol w (k1++k2) (n1++n2) (v1++v2)
 | [],_,[],_,[],_,_,h=>h
 | _::_,_,_::_,_,_::_,_,h,h'=>⟨h.1,xpz h.2 h'⟩
 | [],_,[],_,_::_,_,h,_=>h.elim
 | [],_,_::_,_,_,_,h,_=>h.elim
 | _::_,_,[],_,_,_,h,_=>h.elim
 | _::_,_,_::_,_,[],_,h,_=>h.elim
theorem xjO:∀ {k1 k2:List NK} {n1 n2:List Int},xtP k1 n1→xtP k2 n2→xtP (k1++k2) (n1++n2)
 | [],_,[],_,_,h=>h
 | .c (.int k)::_,_,_::_,_,h,h'=>⟨h.1,xjO h.2 h'⟩
 | .c .bool::_,_,_::_,_,h,h'=>⟨h.1,xjO h.2 h'⟩
 | .s _ _::_,_,_::_,_,h,h'=>⟨h.1,xjO h.2 h'⟩
 | [],_,_::_,_,h,_=>h.elim
 | .c (.int k)::_,_,[],_,h,_=>h.elim
 | .c .bool::_,_,[],_,h,_=>h.elim
 | .s _ _::_,_,[],_,h,_=>h.elim
theorem xy7:∀ {ks:List CK} {ns:List Int},elOk ks ns→xtP (ks.map .c) ns
 | [],[],_=>trivial
 | .int k::ks,n::ns,h=>⟨h.1,xy7 h.2⟩
 | .bool::ks,n::ns,h=>⟨h.1,xy7 h.2⟩
 | [],_::_,h=>h.elim
 | .int _::_,[],h=>h.elim
 | .bool::_,[],h=>h.elim
theorem xzS {w:World}:∀ {ks:List CK} {ns:List Int} (pre:List Int),elOk ks ns→xol w (ks.map .c) ns (elV ks pre.length (pre++ns))
 | [],[],_,_=>trivial
 | k::ks,n::ns,pre,h=>by
  have h2:elOk ks ns:=by cases k<;>exact h.2
  have ih:=xzS (w:=w) (pre++[n]) h2
  rw [List.append_assoc] at ih
  simp only [List.length_append,List.length_cons,List.length_nil,Nat.zero_add,List.singleton_append] at ih
  refine ⟨?_,ih⟩
  show k.val _=k.val n
  simp
 | [],_::_,_,h=>h.elim
 | .int _::_,[],_,h=>h.elim
 | .bool::_,[],_,h=>h.elim
theorem xww {W:World}:∀ {fs:List FK} {cs:List Value},xuh W fs cs→∃ ns,xtP (nksF fs) ns∧xol W (nksF fs) ns cs
 | [],cs,h=>by
  have h:cs=[]:=h
  subst h; exact ⟨[],trivial,trivial⟩
 | .cells ks::r,cs,h=>by
  obtain ⟨n1,h1,h2⟩:=xsI [] h.1
  obtain ⟨n2,h3,h4⟩:=xww h.2
  refine ⟨n1++n2,xjO (xy7 h1) h3,?_⟩
  rw [← List.take_append_drop ks.length cs,h2]
  exact xpz (xzS [] h1) h4
 | .sl e ks::r,cs,h=>by
  obtain ⟨v,cs',rfl,⟨l,hl,hr⟩,h2⟩:=h
  obtain ⟨ns,h3,h4⟩:=xww h2
  refine ⟨encL l::ns,⟨⟨l,rfl,hl⟩,h3⟩,⟨?_,?_⟩,h4⟩
  ·obtain ⟨a,c,h1,_⟩:=hr.reads.is
   rw [h1]; rfl
  ·rw [xg7]; exact hr
theorem xvc {w:World}:∀ {ks:List NK} {ns:List Int} {vs:List Value},xol w ks ns vs→ns.length=ks.length∧vs.length=ks.length
 | [],[],[],_=>⟨rfl,rfl⟩
 | k::ks,n::ns,v::vs,h=>by obtain ⟨a,b⟩:=xvc h.2; simp [a,b]
 | [],[],_::_,h=>h.elim
 | [],_::_,_,h=>h.elim
 | _::_,[],_,h=>h.elim
 | _::_,_::_,[],h=>h.elim
theorem xvd {w:World}:∀ {ks:List NK} {ns:List Int} {vs:List Value},xol w ks ns vs→∀ (j:Nat) (k:NK),ks[j]?=some k→∃ u,vs[j]?=some u∧xhi w k (ns.getD j 0) u
 | [],[],[],_,j,k,hk=>by simp at hk
 | k0::ks,n::ns,v::vs,h,0,k,hk=>by
  simp only [List.getElem?_cons_zero,Option.some.injEq] at hk
  subst hk
  exact ⟨v,rfl,h.1⟩
 | k0::ks,n::ns,v::vs,h,j+1,k,hk=>xvd h.2 j k (by simpa using hk)
 | [],[],_::_,h,_,_,_=>h.elim
 | [],_::_,_,h,_,_,_=>h.elim
 | _::_,[],_,h,_,_,_=>h.elim
 | _::_,_::_,[],h,_,_,_=>h.elim
theorem xwv {α:Type} {z:Nat}:∀ (L:List (List α)),(∀ x∈L,x.length=z)→∀ i j,i<L.length→j<z→L.flatten[i*z+j]?=(L.getD i [])[j]?
 | [],_,i,j,hi,_=>by cases hi
 | x::L,h,0,j,_,hj=>by
  rw [List.flatten_cons,Nat.zero_mul,Nat.zero_add,List.getElem?_append_left (by rw [h x (by simp)]; exact hj)]; rfl
 | x::L,h,i+1,j,hi,hj=>by
  have hx:=h x (by simp)
  rw [List.flatten_cons,List.getElem?_append_right (by rw [hx,Nat.succ_mul]; omega),hx,show (i+1)*z+j-z=i*z+j by rw [Nat.succ_mul]; omega]
  exact xwv L (fun y hy=>h y (by simp [hy])) i j (by simpa using hi) hj
theorem xAd {α:Type} {z:Nat}:∀ (L:List (List α)),(∀ x∈L,x.length=z)→L.flatten.length=L.length*z
 | [],_=>by simp
 | x::L,h=>by rw [List.flatten_cons,List.length_append,h x (by simp),xAd L (fun y hy=>h y (by simp [hy])),List.length_cons,Nat.succ_mul]; omega
def xf3 (W:World):List VK→List Value→Prop
 | [],[]=>True
 | k::ks,v::vs=>xbM W k v∧xf3 W ks vs
 | _,_=>False
section
variable {P:Program} {H:Type} {enc:TypeId×Value→H} {w:World} {base:Nat} {spare:Nat→Bool} {held:Bool}
theorem xtK {fuel:Nat} {rec_:TypeId→Option (List CK)} (hrec:∀ t ks cs x,rec_ t=some ks→DataW.trod enc P w base spare held fuel t cs=some x→xnF ks cs) (cs:List Value) :
  ∀ (fs:List Field) (off:Nat) (ks:List CK) (xs:List (DataW H×List MemPlace)),xxJ P rec_ fs off=some ks →
   fs.mapM (fun f=>DataW.trod enc P w base spare held fuel f.type ((cs.drop f.offset).take (P.cellsOf f.type)))=some xs→xnF ks ((cs.drop off).take ks.length)
 | [],off,ks,xs,h,_=>by cases h; simp [xnF]
 | f::r,off,ks,xs,h,hm=>by
  unfold xxJ at h
  split at h
  ·rename_i hoff
   split at h
   ·rename_i k1 hk1
    split at h
    ·rename_i hlen
     split at h
     ·rename_i k2 hk2
      cases h
      rw [List.mapM_cons] at hm
      simp only [bind,Option.bind_eq_some_iff,pure,Option.some.injEq] at hm
      obtain ⟨x,hx,xs',hxs,_⟩:=hm
      have h1:=hrec _ _ _ _ hk1 hx
      have h2:=xtK hrec cs r _ k2 xs' hk2 hxs
      have:=xm1 h1 h2
      rw [hoff,← hlen] at this
      rw [List.length_append,List.take_add,List.drop_drop]
      exact this
     ·cases h
    ·cases h
   ·cases h
  ·cases h
theorem xpX:∀ (fuel n:Nat) (t:TypeId) (ks:List CK) (cs:List Value) (x:DataW H×List MemPlace),xn1 P n t=some ks→DataW.trod enc P w base spare held fuel t cs=some x→xnF ks cs
 | 0,_,_,_,_,_,_,h=>by cases h
 | fuel+1,0,t,ks,cs,x,h,_=>by cases h
 | fuel+1,n+1,t,ks,cs,x,h,hx=>by
  unfold xn1 at h
  cases hu:P.underlying t with
  | none=>rw [hu] at h; cases h
  | some d =>
   rw [hu] at h
   cases d with
   | bool =>
    cases h
    obtain ⟨b,hcs,_⟩:=DataW.trod_bool hu hx
    rw [hcs]
    exact ⟨⟨b,rfl⟩,trivial⟩
   | int k =>
    cases h
    obtain ⟨m,hcs,_,hwf⟩:=DataW.trod_int hu hx
    rw [hcs]
    exact ⟨⟨m,rfl,hwf⟩,trivial⟩
   | struct fs =>
    simp only [] at h
    split at h
    ·rename_i ks' hks
     split at h
     ·rename_i hlen
      cases h
      unfold DataW.trod at hx
      rw [hu] at hx
      simp only [] at hx
      split at hx
      ·rename_i hl
       cases hm:fs.toList.mapM (fun f=>DataW.trod enc P w base spare held fuel f.type ((cs.drop f.offset).take (P.cellsOf f.type))) with
       | none=>rw [hm] at hx; cases hx
       | some xs =>
        have:=xtK (fun t ks cs x h1 h2=>xpX fuel n t ks cs x h1 h2) cs fs.toList 0 ks xs hks hm
        rw [List.drop_zero,hlen,← hl,List.take_length] at this
        exact this
      ·cases hx
     ·cases h
    ·cases h
   | _=>cases h
theorem xlp {base n:Nat} {a:Addr} {cs:List Value} (hn:n≠0) (h:w.cells? base a n=some cs):a.block<w.heap.size:=by
 unfold World.cells? at h
 split at h
 ·obtain ⟨m,rfl⟩:∃ m,n=m+1:=⟨n-1,by omega⟩
  have h2:w.cell? (a.add 0)=cs[0]?:=mapM_some_get h 0 0 (by simp)
  have h3:0<cs.length:=by
   have:cs.length=m+1:=by simpa using mapM_some_length h
   omega
  rw [List.getElem?_eq_getElem h3] at h2
  unfold World.cell? at h2
  rw [xis] at h2
  cases hb:w.heap[a.block]? with
  | none=>rw [hb] at h2; cases h2
  | some o=>exact (Array.getElem?_eq_some_iff.1 hb).1
 ·cases h
theorem xvl {fuel n:Nat} {t e:TypeId} {ks:List CK} {cs:List Value} {x:DataW H×List MemPlace} (hsp:∀ b,spare b=true) (hu:P.underlying t=some (.slice e)) (hks:xn1 P n e=some ks) (hlen:ks.length=P.cellsOf e) (hne:ks≠[]) (h:DataW.trod enc P w base spare held fuel t cs=some x):∃ v,cs=[v]∧xH8 w e ks v:=by
 rcases DataW.trod_slice hu h with ⟨h1,_⟩ | ⟨a,len0,cap0,elems,rest,m,hm,h1,_,_,hl,hc,hel,hget,hrest,_⟩
 ·refine ⟨_,h1,?_⟩
  refine ⟨[],(fun _ h=>by cases h),⟨⟨none,0,rfl,Nat.le_refl _,Nat.zero_le _⟩,fun j u hj=>by simp [rowV] at hj,fun b hb=>by cases hb⟩,by simp [rowV],fun h=>by cases h⟩
 ·refine ⟨_,h1,?_⟩
  have cells:∀ i,i<len0→∃ el,elOk ks el∧∀ j u,(elV ks 0 el)[j]?=some u→w.cell? (a.add (i*ks.length+j))=some u:=by
   intro i hi
   have hg:=hget i hi
   have hi':i<elems.length:=by omega
   rw [List.getElem?_eq_getElem hi',Option.bind_eq_some_iff] at hg
   obtain ⟨cs,hcs,htr⟩:=hg
   have hfit:=xpX m n e ks cs _ hks htr
   obtain ⟨el,h2,h3⟩:=xsI [] hfit
   simp only [List.length_nil,List.nil_append] at h3
   refine ⟨el,h2,fun j u hj=>?_⟩
   rw [← h3] at hj
   unfold World.cells? at hcs
   split at hcs
   ·have hj':j<P.cellsOf e:=by
     have:=(List.getElem?_eq_some_iff.1 hj).1
     have hl2:cs.length=P.cellsOf e:=by simpa using mapM_some_length hcs
     omega
    have:=mapM_some_get hcs j j (by simp [hj'])
    rw [← xls,hlen,this,hj]
   ·cases hcs
  have build:∀ m,m≤len0→∃ l:List (List Int),l.length=m∧(∀ el∈l,elOk ks el)∧∀ i,i<m→∀ j u,(elV ks 0 (l.getD i []))[j]?=some u→w.cell? (a.add (i*ks.length+j))=some u:=by
   intro m
   induction m with
   | zero=>intro _; exact ⟨[],rfl,(fun _ h=>by cases h),fun i hi=>by omega⟩
   | succ m ih =>
    intro hm
    obtain ⟨l,l1,l2,l3⟩:=ih (by omega)
    obtain ⟨el,e1,e2⟩:=cells m (by omega)
    refine ⟨l++[el],by simp [l1],fun x hx=>?_,fun i hi=>?_⟩
    ·rcases List.mem_append.1 hx with hx | hx
     ·exact l2 x hx
     ·rw [List.mem_singleton.1 hx]; exact e1
    ·by_cases h:i<m
     ·have:(l++[el]).getD i []=l.getD i []:=by simp [List.getD_eq_getElem?_getD,List.getElem?_append_left (show i<l.length by omega)]
      rw [this]; exact l3 i h
     ·have hi:i=m:=by omega
      subst hi
      have:(l++[el]).getD i []=el:=by rw [← l1]; simp [List.getD_eq_getElem?_getD]
      rw [this]; exact e2
  obtain ⟨l,l1,l2,l3⟩:=build len0 (Nat.le_refl _)
  refine ⟨l,l2,⟨⟨some a,cap0,by rw [l1],by rw [l1]; exact hl,hc⟩,fun j u hj=>⟨a,rfl,?_⟩,fun b hb=>?_⟩,xa4 ks l,fun h=>by cases h⟩
  ·have hjl:j<(rowV ks l).length:=(List.getElem?_eq_some_iff.1 hj).1
   rw [xa4] at hjl
   have hz:0<ks.length:=by
    rcases Nat.eq_zero_or_pos ks.length with h | h
    ·rw [h,Nat.mul_zero] at hjl; omega
    ·exact h
   have h1:j/ks.length<l.length:=(Nat.div_lt_iff_lt_mul hz).2 hjl
   have h2:j%ks.length<ks.length:=Nat.mod_lt _ hz
   have h3:j/ks.length*ks.length+j%ks.length=j:=by rw [Nat.mul_comm]; exact Nat.div_add_mod j ks.length
   have h4:=xnm ks l (j/ks.length) (j%ks.length) h2 h1
   rw [h3,hj] at h4
   have:=l3 (j/ks.length) (by omega) (j%ks.length) u h4.symm
   rwa [h3] at this
  ·simp only [blkO] at hb
   split at hb
   ·cases hb
   ·rename_i hcap
    cases hb
    have hn0:P.cellsOf e≠0:=by rw [← hlen]; exact fun h0=>hne (List.eq_nil_of_length_eq_zero h0)
    by_cases h0:0<len0
    ·have hg:=hget 0 h0
     rw [List.getElem?_eq_getElem (show 0<elems.length by omega),Option.bind_eq_some_iff] at hg
     obtain ⟨cs,hcs,_⟩:=hg
     have:=xlp hn0 hcs
     rwa [xis] at this
    ·obtain ⟨hr1,hr2⟩:=hrest (hsp _)
     have hg:=hr2 0 (by omega)
     rw [List.getElem?_eq_getElem (show 0<rest.length by omega),Option.bind_eq_some_iff] at hg
     obtain ⟨cs,hcs,_⟩:=hg
     have:=xlp hn0 hcs
     rwa [xis] at this
theorem xsH {fuel n:Nat} (hsp:∀ b,spare b=true) (cs:List Value):∀ (fs:List Field) (off:Nat) (l:List FK) (xs:List (DataW H×List MemPlace)),xoN P n fs off=some l→off+(l.map FK.size).sum=cs.length →
  fs.mapM (fun f=>DataW.trod enc P w base spare held fuel f.type ((cs.drop f.offset).take (P.cellsOf f.type)))=some xs→xuh w l (cs.drop off)
 | [],off,l,xs,h,hl,_=>by
  cases h
  have hl:off=cs.length:=by simpa using hl
  show cs.drop off=[]
  rw [hl,List.drop_length]
 | f::r,off,l,xs,h,hl,hm=>by
  unfold xoN at h
  split at h
  case isFalse=>cases h
  rename_i hoff
  rw [List.mapM_cons] at hm
  simp only [bind,Option.bind_eq_some_iff,pure,Option.some.injEq] at hm
  obtain ⟨x,hx,xs',hxs,_⟩:=hm
  split at h
  ·rename_i e hu
   split at h
   case h_2=>cases h
   rename_i ks hks
   split at h
   case isFalse=>cases h
   rename_i hc
   split at h
   case h_2=>cases h
   rename_i l' hl'
   cases h
   obtain ⟨v,h1,h2⟩:=xvl hsp hu hks hc.1 hc.2.1 hx
   have ih:=xsH hsp cs r (off+1) l' xs' hl' (by simp [FK.size] at hl; omega) hxs
   refine ⟨v,cs.drop (off+1),?_,h2,ih⟩
   rw [hoff,hc.2.2] at h1
   have hlt:off<cs.length:=by simp [FK.size] at hl; omega
   rw [List.drop_eq_getElem_cons hlt] at h1 ⊢
   simp only [List.take_succ_cons,List.take_zero,List.cons.injEq,and_true] at h1
   rw [h1]
  ·split at h
   case h_2=>cases h
   rename_i ks hks
   split at h
   case isFalse=>cases h
   rename_i hlen
   split at h
   case h_2=>cases h
   rename_i l' hl'
   cases h
   have ih:=xsH hsp cs r (off+ks.length) l' xs' hl' (by simp [FK.size] at hl; omega) hxs
   have h1:=xpX _ _ _ _ _ _ hks hx
   rw [hoff,← hlen] at h1
   refine ⟨h1,?_⟩
   rw [List.drop_drop]
   exact ih
theorem xxU {fuel n:Nat} {t e:TypeId} {gs:Array Field} {fs:List FK} {cs:List Value} {x:DataW H×List MemPlace} (hsp:∀ b,spare b=true) (hu:P.underlying t=some (.slice e)) (hg:P.underlying e=some (.struct gs)) (hks:xoN P n gs.toList 0=some fs) (hlen:(fs.map FK.size).sum=P.cellsOf e) (hne:P.cellsOf e≠0) (h:DataW.trod enc P w base spare held fuel t cs=some x):∃ v,cs=[v]∧xbM w (.nst e fs) v:=by
 have hz:(nksF fs).length=P.cellsOf e:=(xoA fs).trans hlen
 rcases DataW.trod_slice hu h with ⟨h1,_⟩ | ⟨a,len0,cap0,elems,rest,m,hm,h1,_,_,hl,hc,hel,hget,hrest,_⟩
 ·refine ⟨_,h1,[],[],⟨⟨⟨⟨none,0,rfl,Nat.le_refl _,Nat.zero_le _⟩,fun j u hj=>by simp at hj,fun b hb=>by cases hb⟩,by simp,fun h=>by cases h⟩,fun i j k hi=>by cases hi⟩,fun el hel=>by cases hel⟩
 ·refine ⟨_,h1,?_⟩
  have cells:∀ i,i<len0→∃ (el:List Int) (cs:List Value),xtP (nksF fs) el∧xol w (nksF fs) el cs∧∀ j u,cs[j]?=some u→w.cell? (a.add (i*(nksF fs).length+j))=some u:=by
   intro i hi
   have hg':=hget i hi
   have hi':i<elems.length:=by omega
   rw [List.getElem?_eq_getElem hi',Option.bind_eq_some_iff] at hg'
   obtain ⟨cs,hcs,htr⟩:=hg'
   have hcl:cs.length=P.cellsOf e:=by
    unfold World.cells? at hcs
    split at hcs
    ·simpa using mapM_some_length hcs
    ·cases hcs
   have hfit:xuh w fs cs:=by
    cases m with
    | zero=>cases htr
    | succ m =>
     unfold DataW.trod at htr
     rw [hg] at htr
     simp only [] at htr
     split at htr
     ·obtain ⟨xs,hmm,_⟩:=Option.map_eq_some_iff.1 htr
      have:=xsH hsp cs gs.toList 0 fs xs hks (by rw [Nat.zero_add,hlen,hcl]) hmm
      rwa [List.drop_zero] at this
     ·rename_i hno; exact absurd hcl hno
   obtain ⟨el,h2,h3⟩:=xww hfit
   refine ⟨el,cs,h2,h3,fun j u hj=>?_⟩
   unfold World.cells? at hcs
   split at hcs
   ·have hj':j<P.cellsOf e:=by
     have:=(List.getElem?_eq_some_iff.1 hj).1
     omega
    have:=mapM_some_get hcs j j (by simp [hj'])
    rw [← xls,hz,this,hj]
   ·cases hcs
  have build:∀ m,m≤len0→∃ L:List (List Int×List Value),L.length=m∧(∀ y∈L,xtP (nksF fs) y.1∧xol w (nksF fs) y.1 y.2)∧∀ i,i<m→∀ j u,((L.map (·.2)).getD i [])[j]?=some u→w.cell? (a.add (i*(nksF fs).length+j))=some u:=by
   intro m
   induction m with
   | zero=>intro _; exact ⟨[],rfl,(fun _ h=>by cases h),fun i hi=>by omega⟩
   | succ m ih =>
    intro hm
    obtain ⟨L,l1,l2,l3⟩:=ih (by omega)
    obtain ⟨el,cs,e1,e2,e3⟩:=cells m (by omega)
    refine ⟨L++[(el,cs)],by simp [l1],fun y hy=>?_,fun i hi=>?_⟩
    ·rcases List.mem_append.1 hy with hy | hy
     ·exact l2 y hy
     ·rw [List.mem_singleton.1 hy]; exact ⟨e1,e2⟩
    ·by_cases h:i<m
     ·have:((L++[(el,cs)]).map (·.2)).getD i []=(L.map (·.2)).getD i []:=by simp [List.getD_eq_getElem?_getD,List.getElem?_append_left (show i<(L.map (·.2)).length by simpa [l1] using h)]
      rw [this]; exact l3 i h
     ·have hi:i=m:=by omega
      subst hi
      have:((L++[(el,cs)]).map (·.2)).getD i []=cs:=by rw [← l1]; simp [List.getD_eq_getElem?_getD]
      rw [this]; exact e3
  obtain ⟨L,l1,l2,l3⟩:=build len0 (Nat.le_refl _)
  have hLz:∀ x∈L.map (·.2),x.length=(nksF fs).length:=fun x hx=>by
   obtain ⟨y,hy,rfl⟩:=List.mem_map.1 hx
   exact (xvc (l2 y hy).2).2
  have hvl:(L.map (·.2)).flatten.length=len0*(nksF fs).length:=by rw [xAd _ hLz,List.length_map,l1]
  have hz0:0<(nksF fs).length:=by omega
  refine ⟨L.map (·.1),(L.map (·.2)).flatten,⟨⟨⟨⟨some a,cap0,by rw [List.length_map,l1],by rw [List.length_map,l1]; exact hl,hc⟩,fun j u hj=>⟨a,rfl,?_⟩,fun b hb=>?_⟩,by rw [hvl,List.length_map,l1],fun h=>by cases h⟩,fun i j k hi hk=>?_⟩,fun el hel=>?_⟩
  ·have hjl:=(List.getElem?_eq_some_iff.1 hj).1
   rw [hvl] at hjl
   have h1:j/(nksF fs).length<len0:=(Nat.div_lt_iff_lt_mul hz0).2 hjl
   have h2:j%(nksF fs).length<(nksF fs).length:=Nat.mod_lt _ hz0
   have h3:j/(nksF fs).length*(nksF fs).length+j%(nksF fs).length=j:=by rw [Nat.mul_comm]; exact Nat.div_add_mod j _
   have h4:=xwv _ hLz (j/(nksF fs).length) (j%(nksF fs).length) (by rw [List.length_map,l1]; exact h1) h2
   rw [h3,hj] at h4
   have:=l3 (j/(nksF fs).length) h1 (j%(nksF fs).length) u h4.symm
   rwa [h3] at this
  ·simp only [blkO] at hb
   split at hb
   ·cases hb
   ·rename_i hcap
    cases hb
    by_cases h0:0<len0
    ·have hg:=hget 0 h0
     rw [List.getElem?_eq_getElem (show 0<elems.length by omega),Option.bind_eq_some_iff] at hg
     obtain ⟨cs,hcs,_⟩:=hg
     have:=xlp hne hcs
     rwa [xis] at this
    ·obtain ⟨hr1,hr2⟩:=hrest (hsp _)
     have hg:=hr2 0 (by omega)
     rw [List.getElem?_eq_getElem (show 0<rest.length by omega),Option.bind_eq_some_iff] at hg
     obtain ⟨cs,hcs,_⟩:=hg
     have:=xlp hne hcs
     rwa [xis] at this
  ·have hi':i<L.length:=by simpa using hi
   have hj:j<(nksF fs).length:=(List.getElem?_eq_some_iff.1 hk).1
   rw [xwv _ hLz i j (by simpa using hi') hj]
   have e1:(L.map (·.2)).getD i []=L[i].2:=by simp [List.getD_eq_getElem?_getD,List.getElem?_eq_getElem hi']
   have e2:(L.map (·.1)).getD i []=L[i].1:=by simp [List.getD_eq_getElem?_getD,List.getElem?_eq_getElem hi']
   rw [e1,e2]
   exact xvd (l2 _ (List.getElem_mem hi')).2 j k hk
  ·obtain ⟨y,hy,rfl⟩:=List.mem_map.1 hel
   exact (l2 y hy).1
theorem xEk {n:Nat} {t:TypeId} {k:VK} {r:Reach} {b0:Nat} {v:Value} {d:DataW H} {p:List MemPlace} (hsp:∀ b,spare b=true) (hk:xvC P n t=some k) (hv:Value.okWide P w r b0 t v) (h:DataW.Trod enc P w base spare held t v d p):xbM w k v:=by
 obtain ⟨fuel,hf⟩:=h
 unfold xvC at hk
 cases hu:P.underlying t with
 | none=>rw [hu] at hk; cases hk
 | some dd =>
  rw [hu] at hk
  cases dd with
  | bool =>
   cases hk
   cases fuel with
   | zero=>cases hf
   | succ fuel =>
    obtain ⟨b,hcs,_⟩:=DataW.trod_bool hu hf
    obtain ⟨x,hx⟩:∃ x,v=.bool x:=okWide_bool hu hv
    exact ⟨⟨x,hx⟩,trivial⟩
  | int k =>
   cases hk
   cases fuel with
   | zero=>cases hf
   | succ fuel =>
    obtain ⟨m,hcs,_,hwf⟩:=DataW.trod_int hu hf
    obtain ⟨x,rfl⟩:∃ x,v=.int k x:=okWide_int hu hv
    simp [Value.cells] at hcs
    subst hcs
    exact ⟨⟨x,rfl,hwf⟩,trivial⟩
  | struct fs =>
   simp only [] at hk
   obtain ⟨cs,rfl,hcs⟩:=okWide_struct hu hv
   cases hks:xn1 P n t with
   | none =>
    rw [hks] at hk
    simp only [] at hk
    split at hk
    case h_2=>cases hk
    rename_i l hl
    split at hk
    case isFalse=>cases hk
    rename_i hsum
    cases hk
    refine ⟨cs.toList,by simp,?_⟩
    have hf:DataW.trod enc P w base spare held fuel t cs.toList=some (d,p):=by simpa [Value.cells] using hf
    cases fuel with
    | zero=>cases hf
    | succ fuel =>
     unfold DataW.trod at hf
     rw [hu] at hf
     simp only [] at hf
     split at hf
     ·cases hm:fs.toList.mapM (fun f=>DataW.trod enc P w base spare held fuel f.type ((cs.toList.drop f.offset).take (P.cellsOf f.type))) with
      | none=>rw [hm] at hf; cases hf
      | some xs =>
       have:=xsH hsp cs.toList fs.toList 0 l xs hl (by rw [Nat.zero_add,hsum]; simpa using hcs.symm) hm
       rwa [List.drop_zero] at this
     ·cases hf
   | some ks =>
    rw [hks] at hk
    cases hk
    exact ⟨cs.toList,by simp,xpX fuel n t ks _ _ hks (by simpa [Value.cells] using hf)⟩
  | slice e =>
   simp only [] at hk
   cases hks:xn1 P n e with
   | none =>
    rw [hks] at hk
    simp only [] at hk
    split at hk
    case h_2=>cases hk
    rename_i gs hg
    split at hk
    case h_2=>cases hk
    rename_i l hl
    split at hk
    case isFalse=>cases hk
    rename_i hc
    cases hk
    obtain ⟨v',h1,h2⟩:=xxU hsp hu hg hl hc.1 hc.2 hf
    obtain ⟨a0,len0,cap0,rfl⟩:=okWide_slice hu hv
    have h1:[Value.slice a0 len0 cap0]=[v']:=h1
    cases h1
    exact h2
   | some ks =>
    rw [hks] at hk
    simp only [] at hk
    split at hk
    ·rename_i hc
     cases hk
     obtain ⟨v',h1,h2⟩:=xvl hsp hu hks hc.1 hc.2 hf
     obtain ⟨a0,len0,cap0,rfl⟩:=okWide_slice hu hv
     have h1:[Value.slice a0 len0 cap0]=[v']:=h1
     cases h1
     exact h2
    ·cases hk
  | _=>cases hk
theorem xAe {n:Nat} {r:Reach} {b0:Nat} (hsp:∀ b,spare b=true):∀ (ts:List TypeId) (vs:List Value) (ds:List (DataW H)) (ps:List MemPlace) (ks:List VK),ts.mapM (xvC P n)=some ks →
  (∀ (j:Nat) t v,ts[j]?=some t→vs[j]?=some v→Value.okWide P w r b0 t v)→DataW.TrodAll enc P w base spare held ts vs ds ps→xf3 w ks vs
 | [],[],[],_,ks,h,_,_=>by simp at h; subst h; trivial
 | t::ts,v::vs,d::ds,ps,ks,h,hv,ha=>by
  rw [List.mapM_cons] at h
  simp only [bind,Option.bind_eq_some_iff,pure,Option.some.injEq] at h
  obtain ⟨k,hk,ks',hks,rfl⟩:=h
  obtain ⟨p,q,h1,h2,_⟩:=ha
  exact ⟨xEk hsp hk (hv 0 t v rfl rfl) h1,xAe hsp ts vs ds q ks' hks (fun j t v ht hv'=>hv (j+1) t v (by simpa using ht) (by simpa using hv')) h2⟩
 | [],[],_::_,_,_,_,_,h=>h.elim
 | [],_::_,_,_,_,_,_,h=>h.elim
 | _::_,[],_,_,_,_,_,h=>h.elim
 | _::_,_::_,[],_,_,_,_,h=>h.elim
theorem xoZ (hl:laidOutB P=true) {W W':World} (hb:Below W.heap.size W W'):∀ (ts:List TypeId) (vs:List Value) (ds:List (DataW H)) (ps:List MemPlace),(ts.all fun t=>P.readableRec t&&decide (t<P.types.size))=true →
  (∀ x∈ps,x.block<W.heap.size)→DataW.TrodAll enc P W 0 (fun _=>true) true ts vs ds ps→DataW.TrodAll enc P W' 0 (fun b=>decide (b<W.heap.size)) true ts vs ds ps
 | [],[],[],_,_,_,h=>h
 | t::ts,v::vs,d::ds,ps,ht,hp,h=>by
  obtain ⟨p,q,h1,h2,rfl⟩:=h
  rw [List.all_cons,Bool.and_eq_true,Bool.and_eq_true] at ht
  exact ⟨p,q,Below.trod hl ht.1.1 (of_decide_eq_true ht.1.2) h1 hb (fun x hx=>hp x (List.mem_append_left _ hx)),xoZ hl hb ts vs ds q ht.2 (fun x hx=>hp x (List.mem_append_right _ hx)) h2,rfl⟩
 | [],[],_::_,_,_,_,h=>h.elim
 | [],_::_,_,_,_,_,h=>h.elim
 | _::_,[],_,_,_,_,h=>h.elim
 | _::_,_::_,[],_,_,_,h=>h.elim
theorem xuX {W:World}:∀ (ts:List TypeId) (vs:List Value) (ds:List (DataW H)) (ps:List MemPlace),DataW.TrodAll enc P W 0 (fun _=>true) true ts vs ds ps→∀ x∈ps,x.block<W.heap.size
 | [],[],[],ps,h,x,hx=>by have h:ps=[]:=h; rw [h] at hx; cases hx
 | t::ts,v::vs,d::ds,ps,h,x,hx=>by
  obtain ⟨p,q,⟨m,hm⟩,h2,rfl⟩:=h
  rcases List.mem_append.1 hx with hx | hx
  ·exact DataW.trod_lt m _ _ _ hm x hx
  ·exact xuX ts vs ds q h2 x hx
 | [],[],_::_,_,h,_,_=>h.elim
 | [],_::_,_,_,h,_,_=>h.elim
 | _::_,[],_,_,h,_,_=>h.elim
 | _::_,_::_,[],_,h,_,_=>h.elim
end
theorem xxG {C:Checked} {f:FuncId} {fn:Func} {spec:ChangeSpec} {conds:List PathCond} {T:TypeId} {k:Nat} {H:Type} {enc:TypeId×Value→H}
  (hl:laidOutB C.prog=true) (hts:(fn.params.toList.all fun t=>C.prog.readableRec t&&decide (t<C.prog.types.size))=true) (hk:fn.params.toList.length=k) (hres:fn.resultTypes=#[T]) (hT:C.prog.underlying T=some .bool)
  (hvars:spec.vars=[]) (hspec:∀ (H:Type) (ds:List (DataW H)),ds.length=k→spec.fn H ds={ results:=[.lit (.bool true)],args:=ds })
  (hwalk:∀ (W:World) (base:Nat) (args:Array Value) (ds:List (DataW H)) (p:List MemPlace),(∀ (j:Nat) t v,fn.params.toList[j]?=some t→args.toList[j]?=some v→Value.okWide C.prog W .any base t v) →
   DataW.TrodAll enc C.prog W 0 (fun _=>true) true fn.params.toList args.toList ds p→Calls C.prog f args W fun e w'=>e=.returned (.bool true)∧Below W.heap.size W w') :
  ∀ (W:World) (base:Nat) (args:Array Value) (ds gs:List (DataW H)) (before:List MemPlace),
   (∀ (j:Nat) t v,fn.params[j]?=some t→args[j]?=some v→Value.okWide C.prog W .any base t v) →
   DataW.Whole enc C.prog fn.params.toList spec.vars false W args.toList ds gs before →
   conds.all (PathCond.test C.prog ⟨fn.params.toList,ds,spec.plain.varTypes C.prog,gs⟩)=true →
   ({}:Assume).holds C.prog (lone (Frame.enter C.prog f args .normal) [] W) →
   Calls C.prog f args W fun e W'=>∃ v,e=.returned v∧spec.post enc C.prog fn false true false false W args v W':=by
 intro W base args ds gs before hval hW _ _
 have hW':=hW
 rw [hvars] at hW
 obtain ⟨p,q,hA,hV,rfl,hfz,hnd⟩:=hW
 obtain ⟨rfl,rfl⟩:=trodVars_none hV
 have hlen:∀ (ts:List TypeId) (vs:List Value) (ds:List (DataW H)) (p:List MemPlace),DataW.TrodAll enc C.prog W 0 (fun _=>true) true ts vs ds p→ds.length=ts.length:=by
  intro ts
  induction ts with
  | nil=>intro vs ds p h; cases vs<;>cases ds<;>first | rfl | exact h.elim
  | cons t ts ih =>
   intro vs ds p h
   cases vs with
   | nil=>exact h.elim
   | cons v vs =>
    cases ds with
    | nil=>exact h.elim
    | cons d ds =>
     obtain ⟨_,_,_,h2,_⟩:=h
     simp [ih vs ds _ h2]
 refine (hwalk W base args ds p (fun j t v ht hv=>hval j t v (by simpa using ht) (by simpa using hv)) hA).mono fun e W' ⟨he,bel⟩=>?_
 subst he
 have e1:spec.fn H (ds++[])={ results:=[.lit (.bool true)],args:=ds }:=by rw [List.append_nil]; exact hspec H ds (by rw [hlen _ _ _ _ hA,hk])
 refine ⟨_,rfl,ds,[],_,[],p,[],hW',?_,?_,?_,bel.frame _,fun h=>by cases h⟩
 ·rw [e1,hres]
  exact trodAll_mk1 (shut_bool hT _)
 ·rw [e1]
  exact xoZ hl bel _ _ _ _ hts (xuX _ _ _ _ hA) hA
 ·rw [hvars,e1]
  rfl
theorem xCy {C:Checked} {f:FuncId} {fn:Func} {spec:ChangeSpec} {conds:List PathCond} {T:TypeId} {k:Nat} {H:Type} {enc:TypeId×Value→H} {ks:List VK}
  (hl:laidOutB C.prog=true) (hts:(fn.params.toList.all fun t=>C.prog.readableRec t&&decide (t<C.prog.types.size))=true) (hk:fn.params.toList.length=k) (hres:fn.resultTypes=#[T]) (hT:C.prog.underlying T=some .bool)
  (hvars:spec.vars=[]) (hspec:∀ (H:Type) (ds:List (DataW H)),ds.length=k→spec.fn H ds={ results:=[.lit (.bool true)],args:=ds })
  (hks:fn.params.toList.mapM (xvC C.prog 9)=some ks)
  (hwalk:∀ (W:World) (args:List Value),xf3 W ks args→Calls C.prog f args.toArray W fun e w'=>e=.returned (.bool true)∧Below W.heap.size W w') :
  ∀ (W:World) (base:Nat) (args:Array Value) (ds gs:List (DataW H)) (before:List MemPlace),
   (∀ (j:Nat) t v,fn.params[j]?=some t→args[j]?=some v→Value.okWide C.prog W .any base t v) →
   DataW.Whole enc C.prog fn.params.toList spec.vars false W args.toList ds gs before →
   conds.all (PathCond.test C.prog ⟨fn.params.toList,ds,spec.plain.varTypes C.prog,gs⟩)=true →
   ({}:Assume).holds C.prog (lone (Frame.enter C.prog f args .normal) [] W) →
   Calls C.prog f args W fun e W'=>∃ v,e=.returned v∧spec.post enc C.prog fn false true false false W args v W' :=
 xxG hl hts hk hres hT hvars hspec fun W _ args _ _ hval hA=>by
  have:=hwalk W args.toList (xAe (fun _=>rfl) _ _ _ _ _ hks hval hA)
  simpa using this
theorem xpZ {k:IntKind} {ks:List CK} {cs:List Value} (h:xnF (.int k::ks) cs):∃ n cs',cs=.int k n::cs'∧(Lit.int k n).wf=true∧xnF ks cs':=by
 cases cs with
 | nil=>exact h.elim
 | cons v vs=>obtain ⟨⟨n,rfl,hw⟩,h'⟩:=h; exact ⟨n,vs,rfl,hw,h'⟩
theorem xC2 {cs:List Value} (h:xnF [] cs):cs=[]:=by
 cases cs with
 | nil=>rfl
 | cons=>exact h.elim
theorem xpY {k:IntKind} {v:Value} {W:World} (h:xbM W (.one (.int k)) v):∃ n,v=.int k n∧(Lit.int k n).wf=true:=h.1
theorem xxV {cs:List Value} {W:World} (h:xuh W [] cs):cs=[]:=h
theorem xAf {e:TypeId} {ks:List CK} {r:List FK} {cs:List Value} {W:World} (h:xuh W (.sl e ks::r) cs):∃ v cs',cs=v::cs'∧xbM W (.sl e ks) v∧xuh W r cs':=h
theorem xxW {k:IntKind} {r:List FK} {cs:List Value} {W:World} (h:xuh W (.cells [.int k]::r) cs):∃ n cs',cs=.int k n::cs'∧(Lit.int k n).wf=true∧xuh W r cs':=by
 obtain ⟨h1,h2⟩:=h
 cases cs with
 | nil=>exact h1.elim
 | cons v cs=>obtain ⟨⟨n,rfl,hw⟩,_⟩:=h1; exact ⟨n,cs,rfl,hw,h2⟩
theorem xDc {vs:List Value} {W:World} (h:xf3 W [] vs):vs=[]:=by
 cases vs with
 | nil=>rfl
 | cons=>exact h.elim
theorem xgq {k:VK} {ks:List VK} {vs:List Value} {W:World} (h:xf3 W (k::ks) vs):∃ v vs',vs=v::vs'∧xbM W k v∧xf3 W ks vs':=by
 cases vs with
 | nil=>exact h.elim
 | cons v vs=>exact ⟨v,vs,rfl,h.1,h.2⟩
theorem xDb {k0:VK} {vs:List Value} {W:World} (h:xf3 W [k0] vs):∃ v0,vs=[v0]∧xbM W k0 v0:=by
 obtain ⟨v,vs',rfl,h0,h⟩:=xgq h
 obtain rfl:=xDc h
 exact ⟨v,rfl,h0⟩
theorem xDa {k0 k1:VK} {vs:List Value} {W:World} (h:xf3 W [k0,k1] vs):∃ v0 v1,vs=[v0,v1]∧xbM W k0 v0∧xbM W k1 v1:=by
 obtain ⟨v,vs',rfl,h0,h⟩:=xgq h
 obtain ⟨u0,rfl,g0⟩:=xDb h
 exact ⟨v,u0,rfl,h0,g0⟩
theorem xC9 {k0 k1 k2:VK} {vs:List Value} {W:World} (h:xf3 W [k0,k1,k2] vs):∃ v0 v1 v2,vs=[v0,v1,v2]∧xbM W k0 v0∧xbM W k1 v1∧xbM W k2 v2:=by
 obtain ⟨v,vs',rfl,h0,h⟩:=xgq h
 obtain ⟨u0,u1,rfl,g0,g1⟩:=xDa h
 exact ⟨v,u0,u1,rfl,h0,g0,g1⟩
theorem xC8 {k0 k1 k2 k3:VK} {vs:List Value} {W:World} (h:xf3 W [k0,k1,k2,k3] vs):∃ v0 v1 v2 v3,vs=[v0,v1,v2,v3]∧xbM W k0 v0∧xbM W k1 v1∧xbM W k2 v2∧xbM W k3 v3:=by
 obtain ⟨v,vs',rfl,h0,h⟩:=xgq h
 obtain ⟨u0,u1,u2,rfl,g0,g1,g2⟩:=xC9 h
 exact ⟨v,u0,u1,u2,rfl,h0,g0,g1,g2⟩
theorem xC7 {k0 k1 k2 k3 k4:VK} {vs:List Value} {W:World} (h:xf3 W [k0,k1,k2,k3,k4] vs):∃ v0 v1 v2 v3 v4,vs=[v0,v1,v2,v3,v4]∧xbM W k0 v0∧xbM W k1 v1∧xbM W k2 v2∧xbM W k3 v3∧xbM W k4 v4:=by
 obtain ⟨v,vs',rfl,h0,h⟩:=xgq h
 obtain ⟨u0,u1,u2,u3,rfl,g0,g1,g2,g3⟩:=xC8 h
 exact ⟨v,u0,u1,u2,u3,rfl,h0,g0,g1,g2,g3⟩
theorem xC6 {k0 k1 k2 k3 k4 k5:VK} {vs:List Value} {W:World} (h:xf3 W [k0,k1,k2,k3,k4,k5] vs):∃ v0 v1 v2 v3 v4 v5,vs=[v0,v1,v2,v3,v4,v5]∧xbM W k0 v0∧xbM W k1 v1∧xbM W k2 v2∧xbM W k3 v3∧xbM W k4 v4∧xbM W k5 v5:=by
 obtain ⟨v,vs',rfl,h0,h⟩:=xgq h
 obtain ⟨u0,u1,u2,u3,u4,rfl,g0,g1,g2,g3,g4⟩:=xC7 h
 exact ⟨v,u0,u1,u2,u3,u4,rfl,h0,g0,g1,g2,g3,g4⟩
theorem xC5 {k0 k1 k2 k3 k4 k5 k6:VK} {vs:List Value} {W:World} (h:xf3 W [k0,k1,k2,k3,k4,k5,k6] vs):∃ v0 v1 v2 v3 v4 v5 v6,vs=[v0,v1,v2,v3,v4,v5,v6]∧xbM W k0 v0∧xbM W k1 v1∧xbM W k2 v2∧xbM W k3 v3∧xbM W k4 v4∧xbM W k5 v5∧xbM W k6 v6:=by
 obtain ⟨v,vs',rfl,h0,h⟩:=xgq h
 obtain ⟨u0,u1,u2,u3,u4,u5,rfl,g0,g1,g2,g3,g4,g5⟩:=xC6 h
 exact ⟨v,u0,u1,u2,u3,u4,u5,rfl,h0,g0,g1,g2,g3,g4,g5⟩
theorem xC4 {k0 k1 k2 k3 k4 k5 k6 k7:VK} {vs:List Value} {W:World} (h:xf3 W [k0,k1,k2,k3,k4,k5,k6,k7] vs):∃ v0 v1 v2 v3 v4 v5 v6 v7,vs=[v0,v1,v2,v3,v4,v5,v6,v7]∧xbM W k0 v0∧xbM W k1 v1∧xbM W k2 v2∧xbM W k3 v3∧xbM W k4 v4∧xbM W k5 v5∧xbM W k6 v6∧xbM W k7 v7:=by
 obtain ⟨v,vs',rfl,h0,h⟩:=xgq h
 obtain ⟨u0,u1,u2,u3,u4,u5,u6,rfl,g0,g1,g2,g3,g4,g5,g6⟩:=xC5 h
 exact ⟨v,u0,u1,u2,u3,u4,u5,u6,rfl,h0,g0,g1,g2,g3,g4,g5,g6⟩
theorem xC3 {k0 k1 k2 k3 k4 k5 k6 k7 k8:VK} {vs:List Value} {W:World} (h:xf3 W [k0,k1,k2,k3,k4,k5,k6,k7,k8] vs):∃ v0 v1 v2 v3 v4 v5 v6 v7 v8,vs=[v0,v1,v2,v3,v4,v5,v6,v7,v8]∧xbM W k0 v0∧xbM W k1 v1∧xbM W k2 v2∧xbM W k3 v3∧xbM W k4 v4∧xbM W k5 v5∧xbM W k6 v6∧xbM W k7 v7∧xbM W k8 v8:=by
 obtain ⟨v,vs',rfl,h0,h⟩:=xgq h
 obtain ⟨u0,u1,u2,u3,u4,u5,u6,u7,rfl,g0,g1,g2,g3,g4,g5,g6,g7⟩:=xC4 h
 exact ⟨v,u0,u1,u2,u3,u4,u5,u6,u7,rfl,h0,g0,g1,g2,g3,g4,g5,g6,g7⟩
theorem xFD {P:Program} {Γ:Con} (hΓ:xaT P Γ) {f:FuncId} {args:List AV} {objs:List Obj} {x:Eff} (h:Γ f args objs=some x) (hr:x.rm=[]) (hv:∀ E,x.v.den E=.bool true) (hp:x.holds) {E:Env} {w:World} (hpre:xyo E w objs) :
  Calls P f (AV.denL E args).toArray w fun e w'=>e=.returned (.bool true)∧Below w.heap.size w w':=by
 obtain ⟨_,_,hc⟩:=(hΓ f args objs x h).1 hr
 exact (hc hp E w hpre).mono fun e w' ⟨E',he,hg⟩=>⟨by rw [he,hv],hg.below.toBelow⟩
def xDi (vs:List Value):Env:=fun k=>vs.getD k (.slice none 0 0)
theorem xBk {w:World} (vs:List Value) (bs:List Body) (hl:vs.length=bs.length)
  (h:∀ (k:Nat) v b,vs[k]?=some v→bs[k]?=some b→v.oneCell'=true∧xbc b=true∧∀ (E:Env),E k=v→xa9 E w k false b) :
  xyo (xDi vs) w (bs.zipIdx.map fun y=>⟨y.2,0,false,y.1⟩):=by
 refine ⟨fun k=>?_,fun o ho=>?_,fun o ho o' ho' hk=>?_⟩
 ·unfold xDi
  rw [List.getD_eq_getElem?_getD]
  cases hv:vs[k]? with
  | none=>rfl
  | some v =>
   have hk:k<bs.length:=by have:=(List.getElem?_eq_some_iff.1 hv).1; omega
   exact (h k v bs[k] hv (List.getElem?_eq_getElem hk)).1
 ·obtain ⟨⟨b,k⟩,hm,rfl⟩:=List.mem_map.1 ho
  have hr:=(List.mk_mem_zipIdx_iff_getElem? (l:=bs) (x:=b) (i:=k)).1 hm
  have hk:k<bs.length:=(List.getElem?_eq_some_iff.1 hr).1
  have hv:vs[k]?=some vs[k]:=List.getElem?_eq_getElem (by omega)
  obtain ⟨_,h2,h3⟩:=h k _ b hv hr
  exact ⟨h3 _ (by unfold xDi; rw [List.getD_eq_getElem?_getD,hv]; rfl),h2,by simpa using hk⟩
 ·obtain ⟨⟨x,k⟩,hm,rfl⟩:=List.mem_map.1 ho
  obtain ⟨⟨x',k'⟩,hm',rfl⟩:=List.mem_map.1 ho'
  simp only [] at hk
  subst hk
  have h1:=(List.mk_mem_zipIdx_iff_getElem? (l:=bs) (x:=x) (i:=k)).1 hm
  have h2:=(List.mk_mem_zipIdx_iff_getElem? (l:=bs) (x:=x') (i:=k)).1 hm'
  rw [h1] at h2
  cases h2
  rfl
def Con.none:Con:=fun _ _ _=>Option.none
theorem xBl (P:Program):xaT P Con.none:=fun _ _ _ _ h=>by cases h
end Go.Sy
set_option linter.unusedVariables false
namespace Go.Sy
open Go.RowKit Go.Proofs Go.Sort
section
variable {P:Program} {Γ:Con} {w:World}
def xBS (cl:Option FuncId):List AV→Bool
 | []=>cl.isNone
 | [.fn (.func g) [] []]=>(match cl with | some g'=>Nat.beq g g' | none=>false)
 | [.val (.func (.func g) ⟨[]⟩ ⟨[]⟩)]=>(match cl with | some g'=>Nat.beq g g' | none=>false)
 | _=>false
def xFn:Option FuncId→List Value
 | none=>[]
 | some g=>[.func (.func g) #[] #[]]
theorem xAS {cl:Option FuncId} {rest:List AV} (h:xBS cl rest=true) (E:Env):AV.denL E rest=xFn cl:=by
 unfold xBS at h
 split at h
 ·cases cl with
  | none=>rfl
  | some g=>cases h
 ·split at h
  ·rw [Nat.eq_of_beq_eq_true h]; rfl
  ·cases h
 ·split at h
  ·rw [Nat.eq_of_beq_eq_true h]; rfl
  ·cases h
 ·cases h
def conR (Γ:Con) (F:FuncId) (cl:Option FuncId) (e:TypeId) (ks:List CK) (pr:List (List Int)→Option Prop) (g:List (List Int)→List (List Int)) (v:List (List Int)→AV):Con:=fun f args objs =>
 match Nat.beq f F,args,objs with
 | true,.sl 0::rest,[⟨0,0,true,.row e' ks' l⟩] =>
  if xBS cl rest&&Nat.beq e' e&&decide (ks'=ks) then some ⟨pr l,[0],0,[⟨0,0,true,.row e ks (g l)⟩],v l⟩ else Γ f args objs
 | _,_,_=>Γ f args objs
def xEu (P:Program) (F:FuncId) (cl:Option FuncId) (e:TypeId) (ks:List CK) (pr:List (List Int)→Option Prop) (g:List (List Int)→List (List Int)) (v:List (List Int)→AV):Prop :=
 ∀ (l:List (List Int)) (rv:Value) (w:World),(∀ p,pr l=some p→p)→rv.oneCell'=true→xa6 w true e ks.length rv l.length (rowV ks l) →
  Calls P F (rv::xFn cl).toArray w fun ex w'=>ex=.returned ((v l).den fun _=>rv)∧xa6 w' true e ks.length rv (g l).length (rowV ks (g l))∧Chg w w' (blkO rv).toList
theorem xrc (hΓ:xaT P Γ) {F:FuncId} {cl:Option FuncId} {e:TypeId} {ks:List CK} {pr:List (List Int)→Option Prop} {g:List (List Int)→List (List Int)} {v:List (List Int)→AV} (hv:∀ l,∀ k∈AV.keys (v l),k=0) (hf:xer P F) (h:xEu P F cl e ks pr g v):xaT P (conR Γ F cl e ks pr g v):=by
 intro f args objs x hx
 unfold conR at hx
 split at hx
 ·rename_i rest e' ks' l hb
  split at hx
  ·rename_i hc
   simp only [Bool.and_eq_true] at hc
   obtain ⟨⟨h1,h2⟩,h3⟩:=hc
   have h2:=Nat.eq_of_beq_eq_true h2
   have h3:=of_decide_eq_true h3
   subst h2 h3
   have hb:=Nat.eq_of_beq_eq_true hb
   subst hb
   cases hx
   refine ⟨fun hn=>absurd hn (by simp),fun _=>⟨_,_,_,l,g l,⟨rfl,rfl,rfl,hv l,hf,fun hp E w hE hr=>?_⟩⟩⟩
   have:=h l (E 0) w (fun p hp'=>by
    have hp:Eff.holds ⟨pr l,[0],0,[⟨0,0,true,.row _ _ (g l)⟩],v l⟩:=hp
    unfold Eff.holds at hp
    simp only [hp'] at hp
    exact hp) (hE 0) hr
   have e1:(AV.denL E (.sl 0::_)).toArray=(E 0::xFn cl).toArray:=congrArg List.toArray (congrArg (E 0::·) (xAS h1 E))
   rw [e1]
   have e2:(v l).den E=(v l).den fun _=>E 0:=xdo (p:=fun k=>k=0) (fun k hk=>by rw [hk]) _ ((xa2 _).2 (hv l))
   rw [e2]
   exact this
  ·exact hΓ _ _ _ _ hx
 ·exact hΓ _ _ _ _ hx
variable {e:TypeId} {ks:List CK} {l:List (List Int)} {v:Value} {α:Type} [Inhabited α]
theorem xmY {d:Array α} {enc:α→Value} {vs:List Value} (hd:d.toList.map enc=vs) {j:Nat} (hj:j<d.size):vs[j]?=some (enc d[j]!):=by
 rw [← hd,List.getElem?_map,getElem!_pos d j hj]
 simp [hj]
theorem xzH (enc:α→Value) (d:Array α) (cur:Array Value) (h:d.size≤cur.size):(putCells enc 0 d cur).toList.take d.size=d.toList.map enc:=by
 apply List.ext_getElem?
 intro j
 rw [List.getElem?_take]
 split
 ·rename_i hj
  rw [xmY rfl hj]
  simp [putCells,hj,show j<cur.size by omega]
 ·rename_i hj
  rw [List.getElem?_eq_none (by simp; omega)]
theorem xtm (h:xa6 w true e ks.length v l.length (rowV ks l)):(∃ a,v=.slice a 0 0∧l=[]) ∨
  ∃ b cap,cap≠0∧v=.slice (some ⟨b,0,none⟩) l.length cap∧blkO v=some b∧b<w.heap.size∧l.length≤maxLen∧l.length≤cap ∧
   (∀ (β:Type) (_:Inhabited β) (enc:β→Value) (d:Array β),d.toList.map enc=rowV ks l→Holds enc w b 0 d) ∧
   ∀ (β:Type) (_:Inhabited β) (enc:β→Value) (d:Array β) (l':List (List Int)) (m:Nat) (os:Array Go.Obj),l'.length=l.length→(rowV ks l').length=l'.length*ks.length→d.toList.map enc=rowV ks l' →
    xa6 (grow (Go.Sort.putRow enc (Sort.ahead w m) b 0 d) os) true e ks.length v l'.length (rowV ks l')∧Chg w (grow (Go.Sort.putRow enc (Sort.ahead w m) b 0 d) os) [b]:=by
 rcases h.own rfl with ⟨a,h1,h2⟩ | ⟨b,cap,cur,h1,h2,h3,h4,h5,h6⟩
 ·exact .inl ⟨a,by rw [h1],List.length_eq_zero_iff.1 h2⟩
 ·by_cases hc:cap=0
  ·subst hc
   have:l.length=0:=by omega
   exact .inl ⟨_,by rw [h1,this],List.length_eq_zero_iff.1 this⟩
  ·have hb:blkO v=some b:=by rw [h1]; simp [blkO,hc]
   have hlt:=h.reads.blk b hb
   have hle:l.length*ks.length≤cur.size:=by rw [h5]; exact Nat.mul_le_mul_right _ h3
   refine .inr ⟨b,cap,hc,h1,hb,hlt,Nat.le_trans h3 h4,h3,fun β _ enc d hd j hj=>?_,fun β _ enc d l' m os hl hlen hd=>?_⟩
   ·have hsz:d.size=(rowV ks l).length:=by rw [← hd]; simp
    have hjc:j<cur.size:=by rw [hsz,h.len] at hj; omega
    have:=xmY hd hj
    rw [← h6,List.getElem?_take] at this
    split at this
    ·refine ⟨?_,?_⟩
     ·simp only [World.cell?,Nat.zero_add,h2]
      simpa using this
     ·simp only [World.frozen?,Nat.zero_add,h2]
      simp
    ·cases this
   ·have hsz:d.size=l'.length*ks.length:=by rw [← hlen,← hd]; simp
    have hw:(grow (Go.Sort.putRow enc (Sort.ahead w m) b 0 d) os).heap[b]?=some (.cells (putCells enc 0 d cur) e (0,0)):=by
     have e1:(Go.Sort.putRow enc (Sort.ahead w m) b 0 d).heap[b]?=some (.cells (putCells enc 0 d cur) e (0,0)):=by
      simp [Go.Sort.putRow,mapBlock,Sort.ahead,Array.getElem?_modify,h2,onCells]
     have e2:b<(Go.Sort.putRow enc (Sort.ahead w m) b 0 d).heap.size:=by simpa [Go.Sort.putRow,mapBlock,Sort.ahead] using hlt
     show ((Go.Sort.putRow enc (Sort.ahead w m) b 0 d).heap++os)[b]?=_
     rw [Array.getElem?_append_left e2]
     exact e1
    refine ⟨xcO (.inr ⟨b,cap,_,by rw [h1,hl],hw,by rw [hl]; exact h3,h4,by simp [putCells,h5],?_⟩) hlen,?_⟩
    ·rw [← hsz,← hd]
     exact xzH enc d cur (by rw [hsz,hl]; exact hle)
    ·refine ⟨Nat.le_add_right _ _,rfl,rfl,rfl,by simp [grow,putRow,mapBlock,Sort.ahead],fun k hk hn=>?_⟩
     have hne:b≠k:=fun h=>hn (by simp [h])
     show ((Go.Sort.putRow enc (Sort.ahead w m) b 0 d).heap++os)[k]?=_
     rw [Array.getElem?_append_left (by simpa [Go.Sort.putRow,mapBlock,Sort.ahead] using hk)]
     simp [Go.Sort.putRow,mapBlock,Sort.ahead,Array.getElem?_modify,hne]
theorem xxT (ks:List CK) (l:List (List Int)):(flatK (elV ks 0) ks.length l.toArray).toList.map id=rowV ks l:=by
 rw [List.map_id]
 apply List.ext_getElem?
 intro t
 by_cases ht:t<l.length*ks.length
 ·have h0:0<ks.length:=by
   rcases Nat.eq_zero_or_pos ks.length with h | h
   ·rw [h] at ht; omega
   ·exact h
  have hq:t/ks.length<l.length:=(Nat.div_lt_iff_lt_mul h0).2 ht
  have hm:t%ks.length<ks.length:=Nat.mod_lt _ h0
  have e1:(flatK (elV ks 0) ks.length l.toArray).toList[t]?=some (elV ks 0 l[t/ks.length])[t%ks.length]! := by
   have:=get_flatK (elV ks 0) ks.length l.toArray t (by simpa using ht)
   rw [getElem!_pos _ t (by simpa using ht)] at this
   rw [Array.getElem?_toList,Array.getElem?_eq_getElem (by simpa using ht),this]
   congr 2
   simp [getElem!_pos l.toArray (t/ks.length) (by simpa using hq)]
  rw [e1]
  clear e1
  have key:∀ (l:List (List Int)) (q:Nat) (hq:q<l.length) (c:Nat),c<ks.length→(rowV ks l)[q*ks.length+c]?=some (elV ks 0 l[q])[c]! := by
   intro l
   induction l with
   | nil=>intro q hq; simp at hq
   | cons x l ih =>
    intro q hq c hc
    have e:rowV ks (x::l)=elV ks 0 x++rowV ks l:=rfl
    rw [e]
    cases q with
    | zero =>
     rw [Nat.zero_mul,Nat.zero_add,List.getElem?_append_left (by rw [xb3]; exact hc)]
     rw [List.getElem?_eq_getElem (by rw [xb3]; exact hc),getElem!_pos _ _ (by simpa [xb3] using hc)]
     rfl
    | succ q =>
     rw [List.getElem?_append_right (by rw [xb3,Nat.add_mul]; omega),xb3,show (q+1)*ks.length+c-ks.length=q*ks.length+c by rw [Nat.add_mul]; omega]
     exact ih q (by simpa using hq) c hc
  have:=key l (t/ks.length) hq (t%ks.length) hm
  rw [Nat.div_add_mod'] at this
  exact this.symm
 ·rw [List.getElem?_eq_none (by simpa using ht),List.getElem?_eq_none (by rw [xa4]; omega)]
end
end Go.Sy
set_option linter.unusedVariables false
namespace Go.Sy
open Go.RowKit
section
variable {P:Program} {Γ:Con} {Ξ:xr1}
end
end Go.Sy
namespace Go.Sy
theorem xxN {step:List U→Option (Nat×List U)}:∀ {n m:Nat} {xs:List U} {r r':Nat×List U},xiK step n xs=some r→xiK step m xs=some r'→r=r'
 | 0,_,_,_,_,h,_=>by cases h
 | _+1,0,_,_,_,_,h=>by cases h
 | n+1,m+1,xs,r,r',h,h'=>by
  unfold xiK at h h'
  cases hs:step xs with
  | none=>rw [hs] at h; cases h
  | some y =>
   obtain ⟨k,ys⟩:=y
   rw [hs] at h h'
   cases k with
   | zero=>exact xxN h h'
   | succ k=>cases h; cases h'; rfl
theorem xmF {step:List U→Option (Nat×List U)} {n:Nat} {xs:List U} {r:Nat×List U} (h:xiK step n xs=some r):xav step xs∧xaf step xs=r:=by
 have hok:xav step xs:=⟨n,r,h⟩
 obtain ⟨m,hm⟩:=xrK hok
 exact ⟨hok,xxN hm h⟩
theorem xjc {step:List U→Option (Nat×List U)} {n:Nat} {xs ys:List U} {r:Nat×List U} (hs:step xs=some (0,ys)) (h:xiK step n ys=some r):xiK step (n+1) xs=some r:=by
 unfold xiK; rw [hs]; exact h
theorem xjD {step:List U→Option (Nat×List U)} {xs ys:List U} {m:Nat} (hs:step xs=some (m+1,ys)):xiK step 1 xs=some (m+1,ys):=by
 unfold xiK; rw [hs]
theorem xaa {α:Type} {p:Prop} {o:Option α} (hp:p):xab p o=o:=xBa hp o
end Go.Sy
namespace Go.Sy
theorem xcJ {x:Int} (h : -9223372036854775808≤x∧x≤9223372036854775807):IntKind.i64.wrap x=x:=IntWalk.i64_in x h
theorem xsQ {i:Nat} (h:i<4611686018427387904):IntKind.i64.wrap ((i:Int)+1)=((i+1:Nat):Int):=by
 rw [xcJ (by omega)]; rfl
theorem xan {i:Nat} {l:List (List Int)} (h:i<l.length):inR (i:Int) l:=by unfold inR; omega
theorem dlt {α:Type} {i n:Nat} (h:i<n) {inst:Decidable ((i:Int)<(n:Int))} (x y:α):(bif @decide ((i:Int)<(n:Int)) inst then x else y)=x:=by rw [decide_eq_true (by omega)]; rfl
theorem dnlt {α:Type} (n:Nat) {inst:Decidable ((n:Int)<(n:Int))} (x y:α):(bif @decide ((n:Int)<(n:Int)) inst then x else y)=y:=by rw [decide_eq_false (by omega)]; rfl
theorem gi_z (n:Int) (r:List U):gi (.i n::r) 0=n:=by cases r<;>rfl
theorem gi_1 (a:U) (r:List U):gi (a::r) 1=gi r 0:=by cases r<;>rfl
theorem gi_2 (a b:U) (r:List U):gi (a::b::r) 2=gi r 0:=by cases r<;>rfl
theorem gi_3 (a b c:U) (r:List U):gi (a::b::c::r) 3=gi r 0:=by cases r<;>rfl
theorem gi_4 (a b c d:U) (r:List U):gi (a::b::c::d::r) 4=gi r 0:=by cases r<;>rfl
theorem gb_z (n:Bool) (r:List U):gb (.b n::r) 0=n:=by cases r<;>rfl
theorem gb_1 (a:U) (r:List U):gb (a::r) 1=gb r 0:=by cases r<;>rfl
theorem gr_z (n:List (List Int)) (r:List U):gr (.r n::r) 0=n:=by cases r<;>rfl
theorem gr_1 (a:U) (r:List U):gr (a::r) 1=gr r 0:=by cases r<;>rfl
theorem gr_2 (a b:U) (r:List U):gr (a::b::r) 2=gr r 0:=by cases r<;>rfl
theorem gr_3 (a b c:U) (r:List U):gr (a::b::c::r) 3=gr r 0:=by cases r<;>rfl
theorem xcy {step:List U→Option (Nat×List U)} (n:Nat) (p:Nat→Bool) (mk out:Nat→List U) (m m':Nat) (fin:List U)
  (hs:∀ i,i<n→step (mk i)=bif p i then some (m+1,out i) else some (0,mk (i+1))) (he:step (mk n)=some (m'+1,fin)) :
  xav step (mk 0)∧((∃ i,i<n∧p i=true∧(∀ j,j<i→p j=false)∧xaf step (mk 0)=(m+1,out i))∨((∀ j,j<n→p j=false)∧xaf step (mk 0)=(m'+1,fin))):=by
 have key:∀ k i,k+i=n→(∃ i',i≤i'∧i'<n∧p i'=true∧(∀ j,i≤j→j<i'→p j=false)∧xiK step (k+1) (mk i)=some (m+1,out i'))∨((∀ j,i≤j→j<n→p j=false)∧xiK step (k+1) (mk i)=some (m'+1,fin)):=by
  intro k
  induction k with
  | zero =>
   intro i hi
   obtain rfl:i=n:=by omega
   exact Or.inr ⟨fun j _ _=>by omega,xjD he⟩
  | succ k ih =>
   intro i hi
   have h:=hs i (by omega)
   cases hp:p i with
   | true =>
    rw [hp] at h
    refine Or.inl ⟨i,Nat.le_refl _,by omega,hp,fun j _ _=>by omega,?_⟩
    unfold xiK; rw [h]; rfl
   | false =>
    rw [hp] at h
    rcases ih (i+1) (by omega) with ⟨i',h1,h2,h3,h4,h5⟩ | ⟨h4,h5⟩
    ·refine Or.inl ⟨i',by omega,h2,h3,fun j hj hj'=>?_,xjc h h5⟩
     by_cases e:j=i
     ·rw [e]; exact hp
     ·exact h4 j (by omega) hj'
    ·refine Or.inr ⟨fun j hj hj'=>?_,xjc h h5⟩
     by_cases e:j=i
     ·rw [e]; exact hp
     ·exact h4 j (by omega) hj'
 rcases key n 0 rfl with ⟨i,_,h2,h3,h4,h5⟩ | ⟨h4,h5⟩
 ·obtain ⟨h6,h7⟩:=xmF h5
  exact ⟨h6,Or.inl ⟨i,h2,h3,fun j hj=>h4 j (Nat.zero_le _) hj,h7⟩⟩
 ·obtain ⟨h6,h7⟩:=xmF h5
  exact ⟨h6,Or.inr ⟨fun j hj=>h4 j (Nat.zero_le _) hj,h7⟩⟩
def upto {σ:Type} (f:Nat→σ→σ):Nat→σ→σ
 | 0,s=>s
 | n+1,s=>f n (upto f n s)
theorem xmG {σ:Type} {step:List U→Option (Nat×List U)} (n:Nat) (mk:Nat→σ→List U) (f:Nat→σ→σ) (I:Nat→σ→Prop) (m:Nat) (fin:σ→List U)
  (hI:∀ i s,i<n→I i s→I (i+1) (f i s)) (hs:∀ i s,i<n→I i s→step (mk i s)=some (0,mk (i+1) (f i s))) (he:∀ s,I n s→step (mk n s)=some (m+1,fin s)) {s:σ} (h0:I 0 s) :
  xav step (mk 0 s)∧xaf step (mk 0 s)=(m+1,fin (upto f n s))∧I n (upto f n s):=by
 have hIn:∀ i,i≤n→I i (upto f i s):=by
  intro i
  induction i with
  | zero=>intro _; exact h0
  | succ i ih=>intro h; exact hI i _ (by omega) (ih (by omega))
 have key:∀ k i,k+i=n→xiK step (k+1) (mk i (upto f i s))=some (m+1,fin (upto f n s)):=by
  intro k
  induction k with
  | zero =>
   intro i hi
   obtain rfl:i=n:=by omega
   exact xjD (he _ (hIn _ (Nat.le_refl _)))
  | succ k ih =>
   intro i hi
   exact xjc (hs i _ (by omega) (hIn i (by omega))) (ih (i+1) (by omega))
 obtain ⟨h6,h7⟩:=xmF (key n 0 rfl)
 exact ⟨h6,h7,hIn n (Nat.le_refl _)⟩
theorem xEa {step:List U→Option (Nat×List U)} (n:Nat) (Inv:Nat→List U→Prop) (Post:Nat×List U→Prop)
  (hs:∀ i xs,i<n→Inv i xs→(∃ ys,step xs=some (0,ys)∧Inv (i+1) ys)∨∃ m ys,step xs=some (m+1,ys)∧Post (m+1,ys))
  (he:∀ xs,Inv n xs→∃ m ys,step xs=some (m+1,ys)∧Post (m+1,ys)) {xs:List U} (h0:Inv 0 xs):xav step xs∧Post (xaf step xs):=by
 have key:∀ k i xs,k+i=n→Inv i xs→∃ r,xiK step (k+1) xs=some r∧Post r:=by
  intro k
  induction k with
  | zero =>
   intro i xs hi h
   obtain rfl:i=n:=by omega
   obtain ⟨m,ys,h1,h2⟩:=he _ h
   exact ⟨_,xjD h1,h2⟩
  | succ k ih =>
   intro i xs hi h
   rcases hs i xs (by omega) h with ⟨ys,h1,h2⟩ | ⟨m,ys,h1,h2⟩
   ·obtain ⟨r,h3,h4⟩:=ih (i+1) ys (by omega) h2
    exact ⟨r,xjc h1 h3,h4⟩
   ·refine ⟨(m+1,ys),?_,h2⟩
    unfold xiK; rw [h1]
 obtain ⟨r,h1,h2⟩:=key n 0 xs rfl h0
 obtain ⟨h3,h4⟩:=xmF h1
 rw [h4]; exact ⟨h3,h2⟩
end Go.Sy
set_option linter.unusedVariables false
namespace Go.Sy
section
variable {α:Type} {le:α→α→Bool}
def insB (le:α→α→Bool) (x:α):List α→List α
 | []=>[x]
 | y::r=>if le x y then x::y::r else y::insB le x r
def xhh (le:α→α→Bool):List α→List α
 | []=>[]
 | x::r=>insB le x (xhh le r)
theorem xtA (x:α):∀ l:List α,(insB le x l).Perm (x::l)
 | []=>.refl _
 | y::r=>by
  unfold insB
  split
  ·exact .refl _
  ·exact ((xtA x r).cons y).trans (.swap x y r)
theorem xiS:∀ l:List α,(xhh le l).Perm l
 | []=>.refl _
 | x::r=>(xtA x _).trans ((xiS r).cons x)
theorem xtz (ht:∀ a b,le a b=true∨le b a=true) (htr:∀ a b c,le a b=true→le b c=true→le a c=true) (x:α):∀ l:List α,l.Pairwise (fun a b=>le a b=true)→(insB le x l).Pairwise (fun a b=>le a b=true)
 | [],_=>by simp [insB]
 | y::r,h=>by
  unfold insB
  have h1:=List.pairwise_cons.1 h
  split
  ·rename_i hxy
   refine List.pairwise_cons.2 ⟨fun z hz=>?_,h⟩
   rcases List.mem_cons.1 hz with rfl | hz
   ·exact hxy
   ·exact htr _ _ _ hxy (h1.1 z hz)
  ·rename_i hxy
   refine List.pairwise_cons.2 ⟨fun z hz=>?_,xtz ht htr x r h1.2⟩
   rcases List.mem_cons.1 ((xtA x r).mem_iff.1 hz) with rfl | hz
   ·exact (ht y z).resolve_right hxy
   ·exact h1.1 z hz
theorem xhc (ht:∀ a b,le a b=true∨le b a=true) (htr:∀ a b c,le a b=true→le b c=true→le a c=true):∀ l:List α,(xhh le l).Pairwise (fun a b=>le a b=true)
 | []=>List.Pairwise.nil
 | x::r=>xtz ht htr x _ (xhc ht htr r)
theorem xmL (ht:∀ a b,le a b=true∨le b a=true) (htr:∀ a b c,le a b=true→le b c=true→le a c=true) {l l':List α} (ha:∀ a∈l,∀ b∈l,le a b=true→le b a=true→a=b)
  (hp:l'.Perm l) (hs:l'.Pairwise (fun a b=>le a b=true)):l'=xhh le l :=
 List.Perm.eq_of_pairwise (le:=fun a b=>le a b=true) (fun a b h1 h2 h3 h4=>ha a (hp.mem_iff.1 h1) b ((xiS l).mem_iff.1 h2) h3 h4) hs (xhc ht htr l) (hp.trans (xiS l).symm)
theorem xgk (l:List α):(xhh le l).length=l.length:=(xiS l).length_eq
theorem xpI {l:List α} {x:α}:x∈xhh le l↔x∈l:=(xiS l).mem_iff
end
def nums (l:List (List Int)):List Int:=l.map fun r=>r.getD 0 0
def xaD (zs:List Int):List (List Int):=zs.map fun z=>[z]
def leI (x y:Int):Bool:=decide (x≤y)
theorem xpF (x y:Int):leI x y=true∨leI y x=true:=by simp [leI]; omega
theorem xpE (x y z:Int) (h:leI x y=true) (k:leI y z=true):leI x z=true:=by simp [leI] at *; omega
theorem xi9 (zs:List Int):nums (xaD zs)=zs:=by
 unfold nums xaD
 rw [List.map_map]
 exact (List.map_congr_left fun z _=>rfl).trans (List.map_id _)
def xbD (l:List (List Int)):List (List Int):=xaD (xhh leI (nums l))
def leL:List Nat→List Int→List Int→Bool
 | [],_,_=>true
 | k::ks,a,b=>if a.getD k 0=b.getD k 0 then leL ks a b else decide (a.getD k 0<b.getD k 0)
theorem xgj:∀ (ks:List Nat) (a b:List Int),leL ks a b=true∨leL ks b a=true
 | [],_,_=>.inl rfl
 | k::ks,a,b=>by
  unfold leL
  by_cases h:a.getD k 0=b.getD k 0
  ·rw [if_pos h,if_pos h.symm]; exact xgj ks a b
  ·rw [if_neg h,if_neg (Ne.symm h)]; simp only [decide_eq_true_eq]; omega
theorem xgi:∀ (ks:List Nat) (a b c:List Int),leL ks a b=true→leL ks b c=true→leL ks a c=true
 | [],_,_,_,_,_=>rfl
 | k::ks,a,b,c,h,h'=>by
  unfold leL at *
  by_cases e1:a.getD k 0=b.getD k 0
  ·by_cases e2:b.getD k 0=c.getD k 0
   ·rw [if_pos e1] at h; rw [if_pos e2] at h'; rw [if_pos (e1.trans e2)]; exact xgi ks a b c h h'
   ·rw [if_neg e2] at h'; rw [e1,if_neg e2]; exact h'
  ·rw [if_neg e1] at h
   simp only [decide_eq_true_eq] at h
   by_cases e2:b.getD k 0=c.getD k 0
   ·rw [if_neg (by omega)]; simp only [decide_eq_true_eq]; omega
   ·rw [if_neg e2] at h'
    simp only [decide_eq_true_eq] at h'
    rw [if_neg (by omega)]; simp only [decide_eq_true_eq]; omega
theorem xsB:∀ (ks:List Nat) (a b:List Int),leL ks a b=true→leL ks b a=true→∀ k∈ks,a.getD k 0=b.getD k 0
 | [],_,_,_,_,_,hk=>by cases hk
 | k::ks,a,b,h,h',k',hk=>by
  unfold leL at *
  by_cases e1:a.getD k 0=b.getD k 0
  ·rw [if_pos e1] at h; rw [if_pos e1.symm] at h'
   rcases List.mem_cons.1 hk with rfl | hk
   ·exact e1
   ·exact xsB ks a b h h' k' hk
  ·rw [if_neg e1] at h; rw [if_neg (Ne.symm e1)] at h'
   simp only [decide_eq_true_eq] at h h'
   omega
def norm (n:Nat) (r:List Int):List Int:=(List.range n).map fun j=>r.getD j 0
theorem xwd (n:Nat) (r:List Int) {j:Nat} (h:j<n):(norm n r).getD j 0=r.getD j 0:=by
 simp [norm,List.getD_eq_getElem?_getD,h]
theorem xFy {n:Nat} {r:List Int} (h:r.length=n):norm n r=r:=by
 apply List.ext_getElem?
 intro j
 by_cases hj:j<n
 ·simp [norm,hj,List.getD_eq_getElem?_getD,List.getElem?_eq_getElem (show j<r.length by omega)]
 ·rw [List.getElem?_eq_none (by simp [norm]; omega),List.getElem?_eq_none (by omega)]
theorem xD7 {n:Nat} {a b:List Int} (h:∀ j,j<n→a.getD j 0=b.getD j 0):norm n a=norm n b :=
 List.map_congr_left fun j hj=>h j (List.mem_range.1 hj)
theorem xAi:∀ (ks:List CK) (m n:Nat) (r:List Int),m+ks.length≤n→elV ks m (norm n r)=elV ks m r
 | [],_,_,_,_=>rfl
 | k::ks,m,n,r,h=>by
  simp only [List.length_cons] at h
  unfold elV
  rw [xwd n r (by omega),xAi ks (m+1) n r (by omega)]
theorem xBQ (ks:List CK) (l:List (List Int)):rowV ks (l.map (norm ks.length))=rowV ks l:=by
 unfold rowV
 rw [List.flatMap_map]
 congr 1
 funext r
 exact xAi ks 0 ks.length r (by omega)
def xa1 (n:Nat) (keys:List Nat) (l:List (List Int)):List (List Int):=xhh (leL keys) (l.map (norm n))
theorem xD9 {n:Nat} {l:List (List Int)} (h:∀ r∈l,r.length=n):l.map (norm n)=l:=by
 conv=>rhs; rw [← List.map_id l]
 exact List.map_congr_left fun r hr=>xFy (h r hr)
def dd:Option Int→List Int→List Int
 | _,[]=>[]
 | p,x::r=>if p=some x then dd (some x) r else x::dd (some x) r
theorem xDn (x:Int):∀ (l:List Int) (p:Option Int),dd p (l++[x])=dd p l++(if l.getLast?.or p=some x then [] else [x])
 | [],p=>by by_cases h:p=some x<;>simp [dd,h]
 | y::r,p=>by
  have ih:=xDn x r (some y)
  have e:(y::r).getLast?.or p=r.getLast?.or (some y):=by
   cases r with
   | nil=>rfl
   | cons a b =>
    rw [List.getLast?_cons_cons]
    cases h:(a::b).getLast? with
    | none=>simp at h
    | some z=>rfl
  rw [List.cons_append,e]
  unfold dd
  split
  ·exact ih
  ·rw [ih,List.cons_append]
theorem xp5:∀ (l:List Int) (p:Option Int),(dd p l).length≤l.length
 | [],_=>Nat.le_refl _
 | x::r,p=>by
  unfold dd
  have:=xp5 r (some x)
  split<;>simp<;>omega
def xeI (l:List (List Int)):List (List Int):=xaD (dd none (nums l)++List.replicate ((nums l).length-(dd none (nums l)).length) 0)
def xgs (l:List (List Int)):Int:=((dd none (nums l)).length:Int)
end Go.Sy
set_option linter.unusedVariables false
namespace Go.Sy
section
variable {α:Type} (k:α→Int)
variable {k}
end
end Go.Sy
set_option linter.unusedVariables false
namespace Go.Sy
section
variable {α:Type}
variable (d:α)
variable {k:α→Int}
end
end Go.Sy
namespace Go.Proofs
open Go.Shelf
def Tryz.lays189_ren:Go.Shelf.Ren:=⟨fun | 189=>93 | 125=>116 | 257=>115 | 128=>132 | 129=>133 | 294=>123 | 295=>124 | 296=>125 | 297=>126 | 298=>127 | 299=>128 | 216=>129 | 300=>130 | 301=>131 | 328=>143 | 329=>144 | 330=>145 | 331=>146 | 332=>147 | 215=>121 | 343=>159 | n=>n,fun | 28=>34 | 3=>3 | 46=>128 | 0=>0 | 51=>174 | 53=>25 | 4=>4 | 183=>167 | 182=>166 | 131=>171 | 5=>5 | 9=>9 | 218=>182 | 222=>186 | 228=>195 | 229=>196 | n=>n,fun | n=>n⟩
theorem Tryz.lays189:Go.Proofs.Lays.n189 Tryz.prog Tryz.lays189_ren:={
 mixed:=by kernel_rfl
 f125:=Tryz.func116.trans (congrArg some (by kernel_rfl))
 f128:=Tryz.func132.trans (congrArg some (by kernel_rfl))
 f129:=Tryz.func133.trans (congrArg some (by kernel_rfl))
 f189:=Tryz.func93.trans (congrArg some (by kernel_rfl))
 f215:=Tryz.func121.trans (congrArg some (by kernel_rfl))
 f216:=Tryz.func129.trans (congrArg some (by kernel_rfl))
 f257:=Tryz.func115.trans (congrArg some (by kernel_rfl))
 f294:=Tryz.func123.trans (congrArg some (by kernel_rfl))
 f295:=Tryz.func124.trans (congrArg some (by kernel_rfl))
 f296:=Tryz.func125.trans (congrArg some (by kernel_rfl))
 f297:=Tryz.func126.trans (congrArg some (by kernel_rfl))
 f298:=Tryz.func127.trans (congrArg some (by kernel_rfl))
 f299:=Tryz.func128.trans (congrArg some (by kernel_rfl))
 f300:=Tryz.func130.trans (congrArg some (by kernel_rfl))
 f301:=Tryz.func131.trans (congrArg some (by kernel_rfl))
 f328:=Tryz.func143.trans (congrArg some (by kernel_rfl))
 f329:=Tryz.func144.trans (congrArg some (by kernel_rfl))
 f330:=Tryz.func145.trans (congrArg some (by kernel_rfl))
 f331:=Tryz.func146.trans (congrArg some (by kernel_rfl))
 f332:=Tryz.func147.trans (congrArg some (by kernel_rfl))
 f343:=Tryz.func159.trans (congrArg some (by kernel_rfl))
 t0:=Tryz.underlying0
 a0:=Tryz.isAgg0
 z0:=Tryz.sizeOf0
 v0:=Tryz.zeroValue0
 t3:=Tryz.underlying3
 a3:=Tryz.isAgg3
 z3:=Tryz.sizeOf3
 v3:=Tryz.zeroValue3
 t4:=Tryz.underlying4
 a4:=Tryz.isAgg4
 z4:=Tryz.sizeOf4
 v4:=Tryz.zeroValue4
 t5:=Tryz.underlying5
 a5:=Tryz.isAgg5
 z5:=Tryz.sizeOf5
 v5:=Tryz.zeroValue5
 t9:=Tryz.underlying9
 a9:=Tryz.isAgg9
 z9:=Tryz.sizeOf9
 v9:=Tryz.zeroValue9
 t28:=Tryz.underlying34
 a28:=Tryz.isAgg34
 z28:=Tryz.sizeOf34
 v28:=Tryz.zeroValue34
 t46:=Tryz.underlying128
 a46:=Tryz.isAgg128
 z46:=Tryz.sizeOf128
 v46:=Tryz.zeroValue128
 t51:=Tryz.underlying174
 a51:=Tryz.isAgg174
 z51:=Tryz.sizeOf174
 v51:=Tryz.zeroValue174
 t53:=Tryz.underlying25
 a53:=Tryz.isAgg25
 z53:=Tryz.sizeOf25
 v53:=Tryz.zeroValue25
 t131:=Tryz.underlying171
 a131:=Tryz.isAgg171
 z131:=Tryz.sizeOf171
 v131:=Tryz.zeroValue171
 t182:=Tryz.underlying166
 a182:=Tryz.isAgg166
 z182:=Tryz.sizeOf166
 v182:=Tryz.zeroValue166
 t183:=Tryz.underlying167
 a183:=Tryz.isAgg167
 z183:=Tryz.sizeOf167
 v183:=Tryz.zeroValue167
 t218:=Tryz.underlying182
 a218:=Tryz.isAgg182
 z218:=Tryz.sizeOf182
 v218:=Tryz.zeroValue182
 t222:=Tryz.underlying186
 a222:=Tryz.isAgg186
 z222:=Tryz.sizeOf186
 v222:=Tryz.zeroValue186
 t228:=Tryz.underlying195
 a228:=Tryz.isAgg195
 z228:=Tryz.sizeOf195
 v228:=Tryz.zeroValue195
 t229:=Tryz.underlying196
 a229:=Tryz.isAgg196
 z229:=Tryz.sizeOf196
 v229:=Tryz.zeroValue196 }
def Tryz.laysNm220_ren:Go.Shelf.Ren:=⟨fun | 20=>94 | n=>n,fun | 22=>34 | 3=>3 | 4=>4 | 0=>0 | n=>n,fun | n=>n⟩
theorem Tryz.laysNm220:Go.Proofs.Lays2.n20 Tryz.prog Tryz.laysNm220_ren:={
 mixed:=by kernel_rfl
 f20:=Tryz.func94.trans (congrArg some (by kernel_rfl))
 t0:=Tryz.underlying0
 a0:=Tryz.isAgg0
 z0:=Tryz.sizeOf0
 v0:=Tryz.zeroValue0
 t3:=Tryz.underlying3
 a3:=Tryz.isAgg3
 z3:=Tryz.sizeOf3
 v3:=Tryz.zeroValue3
 t4:=Tryz.underlying4
 a4:=Tryz.isAgg4
 z4:=Tryz.sizeOf4
 v4:=Tryz.zeroValue4
 t22:=Tryz.underlying34
 a22:=Tryz.isAgg34
 z22:=Tryz.sizeOf34
 v22:=Tryz.zeroValue34
 i3:=by kernel_rfl }
def Tryz.sortOm_ren:Go.Shelf.Ren:=⟨fun | 6=>119 | 15=>116 | 14=>142 | 28=>132 | 29=>133 | 20=>151 | 21=>152 | 22=>153 | 23=>154 | 24=>155 | 25=>156 | 26=>157 | 27=>158 | 46=>161 | 47=>144 | 48=>145 | 49=>162 | 50=>163 | 57=>164 | n=>n,fun | 22=>54 | 24=>80 | 25=>109 | 3=>3 | 39=>128 | 0=>0 | 53=>174 | 55=>25 | 4=>4 | 46=>167 | 45=>166 | 50=>171 | 5=>5 | 9=>9 | 66=>182 | 70=>186 | 76=>195 | 77=>196 | n=>n,fun | n=>n⟩
theorem Tryz.sortOm:Go.Proofs.SlLaysF0.n6 Tryz.prog Tryz.sortOm_ren:={
 mixed:=by kernel_rfl
 f6:=⟨Tryz.f119.name,by decide,Tryz.func119.trans (congrArg some (by kernel_rfl))⟩
 f14:=⟨Tryz.f142.name,by decide,Tryz.func142.trans (congrArg some (by kernel_rfl))⟩
 f15:=Tryz.func116.trans (congrArg some (by kernel_rfl))
 f20:=⟨Tryz.f151.name,by decide,Tryz.func151.trans (congrArg some (by kernel_rfl))⟩
 f21:=⟨Tryz.f152.name,by decide,Tryz.func152.trans (congrArg some (by kernel_rfl))⟩
 f22:=⟨Tryz.f153.name,by decide,Tryz.func153.trans (congrArg some (by kernel_rfl))⟩
 f23:=⟨Tryz.f154.name,by decide,Tryz.func154.trans (congrArg some (by kernel_rfl))⟩
 f24:=⟨Tryz.f155.name,by decide,Tryz.func155.trans (congrArg some (by kernel_rfl))⟩
 f25:=⟨Tryz.f156.name,by decide,Tryz.func156.trans (congrArg some (by kernel_rfl))⟩
 f26:=⟨Tryz.f157.name,by decide,Tryz.func157.trans (congrArg some (by kernel_rfl))⟩
 f27:=⟨Tryz.f158.name,by decide,Tryz.func158.trans (congrArg some (by kernel_rfl))⟩
 f28:=Tryz.func132.trans (congrArg some (by kernel_rfl))
 f29:=Tryz.func133.trans (congrArg some (by kernel_rfl))
 f46:=⟨Tryz.f161.name,by decide,Tryz.func161.trans (congrArg some (by kernel_rfl))⟩
 f47:=Tryz.func144.trans (congrArg some (by kernel_rfl))
 f48:=Tryz.func145.trans (congrArg some (by kernel_rfl))
 f49:=⟨Tryz.f162.name,by decide,Tryz.func162.trans (congrArg some (by kernel_rfl))⟩
 f50:=⟨Tryz.f163.name,by decide,Tryz.func163.trans (congrArg some (by kernel_rfl))⟩
 f57:=⟨Tryz.f164.name,by decide,Tryz.func164.trans (congrArg some (by kernel_rfl))⟩
 t0:=Tryz.underlying0
 a0:=Tryz.isAgg0
 z0:=Tryz.sizeOf0
 v0:=Tryz.zeroValue0
 t3:=Tryz.underlying3
 a3:=Tryz.isAgg3
 z3:=Tryz.sizeOf3
 v3:=Tryz.zeroValue3
 t4:=Tryz.underlying4
 a4:=Tryz.isAgg4
 z4:=Tryz.sizeOf4
 v4:=Tryz.zeroValue4
 t5:=Tryz.underlying5
 a5:=Tryz.isAgg5
 z5:=Tryz.sizeOf5
 v5:=Tryz.zeroValue5
 t9:=Tryz.underlying9
 a9:=Tryz.isAgg9
 z9:=Tryz.sizeOf9
 v9:=Tryz.zeroValue9
 t22:=Tryz.underlying54
 a22:=Tryz.isAgg54
 z22:=Tryz.sizeOf54
 v22:=Tryz.zeroValue54
 t25:=Tryz.underlying109
 a25:=Tryz.isAgg109
 z25:=Tryz.sizeOf109
 v25:=Tryz.zeroValue109
 t39:=Tryz.underlying128
 a39:=Tryz.isAgg128
 z39:=Tryz.sizeOf128
 v39:=Tryz.zeroValue128
 t45:=Tryz.underlying166
 a45:=Tryz.isAgg166
 z45:=Tryz.sizeOf166
 v45:=Tryz.zeroValue166
 t46:=Tryz.underlying167
 a46:=Tryz.isAgg167
 z46:=Tryz.sizeOf167
 v46:=Tryz.zeroValue167
 t50:=Tryz.underlying171
 a50:=Tryz.isAgg171
 z50:=Tryz.sizeOf171
 v50:=Tryz.zeroValue171
 t53:=Tryz.underlying174
 a53:=Tryz.isAgg174
 z53:=Tryz.sizeOf174
 v53:=Tryz.zeroValue174
 t55:=Tryz.underlying25
 a55:=Tryz.isAgg25
 z55:=Tryz.sizeOf25
 v55:=Tryz.zeroValue25
 t66:=Tryz.underlying182
 a66:=Tryz.isAgg182
 z66:=Tryz.sizeOf182
 v66:=Tryz.zeroValue182
 t70:=Tryz.underlying186
 a70:=Tryz.isAgg186
 z70:=Tryz.sizeOf186
 v70:=Tryz.zeroValue186
 t76:=Tryz.underlying195
 a76:=Tryz.isAgg195
 z76:=Tryz.sizeOf195
 v76:=Tryz.zeroValue195
 t77:=Tryz.underlying196
 a77:=Tryz.isAgg196
 z77:=Tryz.sizeOf196
 v77:=Tryz.zeroValue196 }
def Tryz.sortGp_ren:Go.Shelf.Ren:=⟨fun | 6=>97 | 15=>116 | 14=>118 | 28=>132 | 29=>133 | 20=>134 | 21=>135 | 22=>136 | 23=>137 | 24=>138 | 25=>139 | 26=>140 | 27=>141 | 46=>148 | 47=>144 | 48=>145 | 49=>149 | 50=>150 | 57=>160 | n=>n,fun | 22=>139 | 24=>140 | 25=>143 | 3=>3 | 39=>128 | 0=>0 | 53=>174 | 55=>25 | 4=>4 | 46=>167 | 45=>166 | 50=>171 | 5=>5 | 9=>9 | 66=>182 | 70=>186 | 76=>195 | 77=>196 | n=>n,fun | n=>n⟩
theorem Tryz.sortGp:Go.Proofs.SlLaysF0.n6 Tryz.prog Tryz.sortGp_ren:={
 mixed:=by kernel_rfl
 f6:=⟨Tryz.f97.name,by decide,Tryz.func97.trans (congrArg some (by kernel_rfl))⟩
 f14:=⟨Tryz.f118.name,by decide,Tryz.func118.trans (congrArg some (by kernel_rfl))⟩
 f15:=Tryz.func116.trans (congrArg some (by kernel_rfl))
 f20:=⟨Tryz.f134.name,by decide,Tryz.func134.trans (congrArg some (by kernel_rfl))⟩
 f21:=⟨Tryz.f135.name,by decide,Tryz.func135.trans (congrArg some (by kernel_rfl))⟩
 f22:=⟨Tryz.f136.name,by decide,Tryz.func136.trans (congrArg some (by kernel_rfl))⟩
 f23:=⟨Tryz.f137.name,by decide,Tryz.func137.trans (congrArg some (by kernel_rfl))⟩
 f24:=⟨Tryz.f138.name,by decide,Tryz.func138.trans (congrArg some (by kernel_rfl))⟩
 f25:=⟨Tryz.f139.name,by decide,Tryz.func139.trans (congrArg some (by kernel_rfl))⟩
 f26:=⟨Tryz.f140.name,by decide,Tryz.func140.trans (congrArg some (by kernel_rfl))⟩
 f27:=⟨Tryz.f141.name,by decide,Tryz.func141.trans (congrArg some (by kernel_rfl))⟩
 f28:=Tryz.func132.trans (congrArg some (by kernel_rfl))
 f29:=Tryz.func133.trans (congrArg some (by kernel_rfl))
 f46:=⟨Tryz.f148.name,by decide,Tryz.func148.trans (congrArg some (by kernel_rfl))⟩
 f47:=Tryz.func144.trans (congrArg some (by kernel_rfl))
 f48:=Tryz.func145.trans (congrArg some (by kernel_rfl))
 f49:=⟨Tryz.f149.name,by decide,Tryz.func149.trans (congrArg some (by kernel_rfl))⟩
 f50:=⟨Tryz.f150.name,by decide,Tryz.func150.trans (congrArg some (by kernel_rfl))⟩
 f57:=⟨Tryz.f160.name,by decide,Tryz.func160.trans (congrArg some (by kernel_rfl))⟩
 t0:=Tryz.underlying0
 a0:=Tryz.isAgg0
 z0:=Tryz.sizeOf0
 v0:=Tryz.zeroValue0
 t3:=Tryz.underlying3
 a3:=Tryz.isAgg3
 z3:=Tryz.sizeOf3
 v3:=Tryz.zeroValue3
 t4:=Tryz.underlying4
 a4:=Tryz.isAgg4
 z4:=Tryz.sizeOf4
 v4:=Tryz.zeroValue4
 t5:=Tryz.underlying5
 a5:=Tryz.isAgg5
 z5:=Tryz.sizeOf5
 v5:=Tryz.zeroValue5
 t9:=Tryz.underlying9
 a9:=Tryz.isAgg9
 z9:=Tryz.sizeOf9
 v9:=Tryz.zeroValue9
 t22:=Tryz.underlying139
 a22:=Tryz.isAgg139
 z22:=Tryz.sizeOf139
 v22:=Tryz.zeroValue139
 t25:=Tryz.underlying143
 a25:=Tryz.isAgg143
 z25:=Tryz.sizeOf143
 v25:=Tryz.zeroValue143
 t39:=Tryz.underlying128
 a39:=Tryz.isAgg128
 z39:=Tryz.sizeOf128
 v39:=Tryz.zeroValue128
 t45:=Tryz.underlying166
 a45:=Tryz.isAgg166
 z45:=Tryz.sizeOf166
 v45:=Tryz.zeroValue166
 t46:=Tryz.underlying167
 a46:=Tryz.isAgg167
 z46:=Tryz.sizeOf167
 v46:=Tryz.zeroValue167
 t50:=Tryz.underlying171
 a50:=Tryz.isAgg171
 z50:=Tryz.sizeOf171
 v50:=Tryz.zeroValue171
 t53:=Tryz.underlying174
 a53:=Tryz.isAgg174
 z53:=Tryz.sizeOf174
 v53:=Tryz.zeroValue174
 t55:=Tryz.underlying25
 a55:=Tryz.isAgg25
 z55:=Tryz.sizeOf25
 v55:=Tryz.zeroValue25
 t66:=Tryz.underlying182
 a66:=Tryz.isAgg182
 z66:=Tryz.sizeOf182
 v66:=Tryz.zeroValue182
 t70:=Tryz.underlying186
 a70:=Tryz.isAgg186
 z70:=Tryz.sizeOf186
 v70:=Tryz.zeroValue186
 t76:=Tryz.underlying195
 a76:=Tryz.isAgg195
 z76:=Tryz.sizeOf195
 v76:=Tryz.zeroValue195
 t77:=Tryz.underlying196
 a77:=Tryz.isAgg196
 z77:=Tryz.sizeOf196
 v77:=Tryz.zeroValue196 }
end Go.Proofs
set_option maxRecDepth 100000
set_option linter.unusedVariables false
namespace Go.Proofs.YtikhnofbbcmpeaaGreat
open Go Go.Sy
noncomputable def xlL (uu:Int):Int :=
 bif uu==(2:Int) then (2:Int) else bif uu==(4:Int) then bif uu==(4:Int) then (3:Int) else (0:Int) else bif uu==(5:Int) then (3:Int) else (0:Int)
noncomputable def xlK (uu:Int):Int :=
 bif uu==(3:Int) then (2:Int) else bif uu==(4:Int) then bif uu==(4:Int) then (3:Int) else (0:Int) else bif uu==(5:Int) then (3:Int) else (0:Int)
noncomputable def xcC (uu:Int):Int :=
 bif uu==(1:Int) then (1:Int) else bif uu==(2:Int) then (xlL uu) else (xlK uu)
noncomputable def xaB (t:Int):Bool :=
 decide (t≥(0:Int))&&decide (t≤(10000000:Int))
noncomputable def xgU (n:Int):Bool :=
 decide (n≥(1:Int))&&decide (n≤(10000:Int))
noncomputable def xcp (t uu n:Int):Bool :=
 bif xcC uu==(0:Int) then false else bif xcC uu==(3:Int) then xaB t&&n==(0:Int) else xaB t&&xgU n
noncomputable def xbH (owner uu:Int):Bool :=
 (owner==(0:Int))==(xcC uu==(1:Int))
noncomputable def xm8 (up:List (List Int)) (y0:List U):Int :=
 (IntKind.u64.wrap (bXor IntKind.u64 (gi y0 0) (IntKind.u64.wrap ((up.getD (gi y0 1).toNat []).getD 0 (0:Int)))*(11507291218515648293:Int))).fdiv
 ((2:Int) ^ min (Int.toNat (32:Int)) IntKind.u64.bits)
noncomputable def xgL (up:List (List Int)):List U :=
 [.i (IntKind.u64.wrap ((11400714819323198485:Int)+IntKind.u64.wrap (↑up.length:Int))),.i ((0:Int))]
noncomputable def xdR (up:List (List Int)) (y0:List U):Option (Nat×List U) :=
 (bif decide (gi y0 1<(↑up.length:Int)) then xab (inR (gi y0 1) up) (xab (inR (gi y0 1) up) (xab ((0:Int)≤(32:Int)) (some (0,[.i (bXor IntKind.u64 (IntKind.u64.wrap (bXor IntKind.u64 (gi y0 0) (IntKind.u64.wrap ((up.getD (gi y0 1).toNat []).getD 0 (0:Int)))*(11507291218515648293:Int)))
 ((xm8 up y0))),.i (IntKind.i64.wrap (gi y0 1+(1:Int)))])))) else some (2,[.i (gi y0 0),.i (gi y0 1)]))
noncomputable def xm9 (up:List (List Int)):Nat×List U:=xaf (xdR up) (xgL up)
noncomputable def xgW (up:List (List Int)):Int :=
 gi (xm9 up).snd 0
def xfC (up:List (List Int)):Prop :=
 ((xav (xdR up) (xgL up)))
noncomputable def xcA (owner last x_Time x_Kind x_Item x_Sum:Int):Int :=
 xgW [[owner],[IntKind.i64.wrap last],[x_Time],[x_Kind],[x_Item]]
def xb5 (owner last x_Time x_Kind x_Item x_Sum:Int):Prop :=
 (xfC [[owner],[IntKind.i64.wrap last],[x_Time],[x_Kind],[x_Item]])
noncomputable def xlM (ue:Int) (uf:List (List Int)) (y0:List U):Int :=
 xcA ue (gi y0 2) ((uf.getD (gi y0 4).toNat []).getD 0 (0:Int)) ((uf.getD (gi y0 4).toNat []).getD 1 (0:Int))
 ((uf.getD (gi y0 4).toNat []).getD 2 (0:Int)) ((uf.getD (gi y0 4).toNat []).getD 3 (0:Int))
noncomputable def xgn (ue:Int) (uf:List (List Int)):List U :=
 [.b (false),.b (false),.i ((0:Int)),.i ((0:Int)),.i ((0:Int))]
noncomputable def xcl (ue:Int) (uf:List (List Int)) (y0:List U):Option (Nat×List U) :=
 (bif decide (gi y0 4<(↑uf.length:Int)) then xab (inR (gi y0 4) uf) (xab (inR (gi y0 4) uf) (xab (((!xcp ((uf.getD (gi y0 4).toNat []).getD 0 (0:Int)) ((uf.getD (gi y0 4).toNat []).getD 1 (0:Int))
     ((uf.getD (gi y0 4).toNat []).getD 2 (0:Int)) ||
   !xbH ue ((uf.getD (gi y0 4).toNat []).getD 1 (0:Int)) ||
  decide ((uf.getD (gi y0 4).toNat []).getD 0 (0:Int)<gi y0 3)) =
 false)→(xb5 ue (gi y0 2) ((uf.getD (gi y0 4).toNat []).getD 0 (0:Int)) ((uf.getD (gi y0 4).toNat []).getD 1 (0:Int))
 ((uf.getD (gi y0 4).toNat []).getD 2 (0:Int)) ((uf.getD (gi y0 4).toNat []).getD 3 (0:Int)))) ((bif !xcp ((uf.getD (gi y0 4).toNat []).getD 0 (0:Int)) ((uf.getD (gi y0 4).toNat []).getD 1 (0:Int))
     ((uf.getD (gi y0 4).toNat []).getD 2 (0:Int)) ||
   !xbH ue ((uf.getD (gi y0 4).toNat []).getD 1 (0:Int)) ||
  decide ((uf.getD (gi y0 4).toNat []).getD 0 (0:Int)<gi y0 3) ||
 (uf.getD (gi y0 4).toNat []).getD 3 (0:Int) !=(xlM ue uf y0) then some (1,[]) else (bif xcC ((uf.getD (gi y0 4).toNat []).getD 1 (0:Int))==(3:Int) then (bif gb y0 1==((uf.getD (gi y0 4).toNat []).getD 1 (0:Int)==(4:Int)) then some (2,[]) else some (0,[.b (gb y0 0),.b (!gb y0 1),.i ((uf.getD (gi y0 4).toNat []).getD 3 (0:Int)),.i ((uf.getD (gi y0 4).toNat []).getD 0 (0:Int)),.i (IntKind.i64.wrap (gi y0 4+(1:Int)))])) else some (0,[.b (gb y0 0),.b (gb y0 1),.i ((uf.getD (gi y0 4).toNat []).getD 3 (0:Int)),.i ((uf.getD (gi y0 4).toNat []).getD 0 (0:Int)),.i (IntKind.i64.wrap (gi y0 4+(1:Int)))])))))) else some (5,[.b (gb y0 0),.b (gb y0 1),.i (gi y0 2),.i (gi y0 3),.i (gi y0 4)]))
noncomputable def xiw (ue:Int) (uf:List (List Int)):Nat×List U:=xaf (xcl ue uf) (xgn ue uf)
noncomputable def xac (ue:Int) (uf:List (List Int)):Bool :=
 bif decide (ue<(0:Int))||decide (ue>(8:Int))||decide ((↑uf.length:Int)>(200:Int)) then false
else bif (xiw ue uf).fst.beq 1 then false else bif (xiw ue uf).fst.beq 2 then false else true
def xaJ (ue:Int) (uf:List (List Int)):Prop :=
 (((decide (ue<(0:Int))||decide (ue>(8:Int))||decide ((↑uf.length:Int)>(200:Int)))=false)→((xav (xcl ue uf) (xgn ue uf))))
noncomputable def xhx (ue t:Int) (uf:List (List Int)):List U :=
 [.i ((0:Int)),.b (true)]
noncomputable def xeG (ue t:Int) (uf:List (List Int)) (y0:List U):Option (Nat×List U) :=
 (bif decide (gi y0 0<(↑uf.length:Int)) then xab (inR (gi y0 0) uf) (xab (inR (gi y0 0) uf) ((bif decide ((uf.getD (gi y0 0).toNat []).getD 0 (0:Int)>t)==false then (bif xcC ((uf.getD (gi y0 0).toNat []).getD 1 (0:Int))==(3:Int) then some (0,[.i (IntKind.i64.wrap (gi y0 0+(1:Int))),.b ((uf.getD (gi y0 0).toNat []).getD 1 (0:Int)==(5:Int))]) else some (0,[.i (IntKind.i64.wrap (gi y0 0+(1:Int))),.b (gb y0 1)])) else some (3,[.b (gb y0 1)])))) else some (4,[.i (gi y0 0),.b (gb y0 1)]))
noncomputable def xiL (ue t:Int) (uf:List (List Int)):Nat×List U:=xaf (xeG ue t uf) (xhx ue t uf)
noncomputable def xaN (ue t:Int) (uf:List (List Int)):Bool :=
 bif (xiL ue t uf).fst.beq 3 then gb (xiL ue t uf).snd 0 else gb (xiL ue t uf).snd 1
def xdm (ue t:Int) (uf:List (List Int)):Prop :=
 ((xav (xeG ue t uf) (xhx ue t uf)))
noncomputable def xmQ (ue:Int) (uf:List (List Int)):Int :=
 bif decide ((↑uf.length:Int)>(0:Int)) then (uf.getD (IntKind.i64.wrap ((↑uf.length:Int)-(1:Int))).toNat []).getD 0 (0:Int) else (-1:Int)
noncomputable def xbb (ue:Int) (uf:List (List Int)):Int :=
 (xmQ ue uf)
noncomputable def xmP (ue:Int) (uf:List (List Int)):Int :=
 bif decide ((↑uf.length:Int)>(0:Int)) then (uf.getD (IntKind.i64.wrap ((↑uf.length:Int)-(1:Int))).toNat []).getD 3 (0:Int) else (0:Int)
noncomputable def xba (ue:Int) (uf:List (List Int)):Int :=
 (xmP ue uf)
def xcb (ue:Int) (uf:List (List Int)):Prop :=
 ((decide ((↑uf.length:Int)>(0:Int))=true)→((inR (IntKind.i64.wrap ((↑uf.length:Int)-(1:Int))) uf)∧((inR (IntKind.i64.wrap ((↑uf.length:Int)-(1:Int))) uf)∧((inR (IntKind.i64.wrap ((↑uf.length:Int)-(1:Int))) uf)∧((inR (IntKind.i64.wrap ((↑uf.length:Int)-(1:Int))) uf)∧((inR (IntKind.i64.wrap ((↑uf.length:Int)-(1:Int))) uf)∧(inR (IntKind.i64.wrap ((↑uf.length:Int)-(1:Int))) uf)))))))
noncomputable def xiB (ua n t:Int) (ub:List (List Int)):List U :=
 [.i ((0:Int)),.i ((0:Int))]
noncomputable def xdP (ua n t:Int) (ub:List (List Int)) (y0:List U):Option (Nat×List U) :=
 (bif decide (gi y0 1<(↑ub.length:Int)) then xab (inR (gi y0 1) ub) (xab (inR (gi y0 1) ub) ((bif (ub.getD (gi y0 1).toNat []).getD 2 (0:Int)==n&&(decide (t<(0:Int))||(ub.getD (gi y0 1).toNat []).getD 0 (0:Int)==t) then some (1,[.i (gi y0 1)]) else some (0,[.i (gi y0 0),.i (IntKind.i64.wrap (gi y0 1+(1:Int)))])))) else some (3,[.i (gi y0 0),.i (gi y0 1)]))
noncomputable def xmN (ua n t:Int) (ub:List (List Int)):Nat×List U:=xaf (xdP ua n t ub) (xiB ua n t ub)
noncomputable def xaS (ua n t:Int) (ub:List (List Int)):Bool :=
 decide ((bif (xmN ua n t ub).fst.beq 1 then gi (xmN ua n t ub).snd 0 else (-1:Int))≥(0:Int))
def xcP (ua n t:Int) (ub:List (List Int)):Prop :=
 ((xav (xdP ua n t ub) (xiB ua n t ub)))
noncomputable def xfn (up:List (List Int)):List U :=
 [.i ((0:Int)),.i ((0:Int))]
noncomputable def xcD (up:List (List Int)) (y0:List U):Option (Nat×List U) :=
 (bif decide (gi y0 1<(↑up.length:Int)) then xab (inR (gi y0 1) up) (xab (inR (gi y0 1) up) ((bif !xaB ((up.getD (gi y0 1).toNat []).getD 2 (0:Int))||!xgU ((up.getD (gi y0 1).toNat []).getD 1 (0:Int)) ||
  decide ((up.getD (gi y0 1).toNat []).getD 0 (0:Int)<(1:Int)) ||
 decide ((up.getD (gi y0 1).toNat []).getD 0 (0:Int)>(8:Int)) then some (1,[.i (gi y0 1)]) else some (0,[.i (gi y0 0),.i (IntKind.i64.wrap (gi y0 1+(1:Int)))])))) else some (3,[.i (gi y0 0),.i (gi y0 1)]))
noncomputable def xhy (up:List (List Int)):Nat×List U:=xaf (xcD up) (xfn up)
noncomputable def xaH (up:List (List Int)):Bool :=
 decide ((↑up.length:Int)≤(200:Int))&&!decide ((bif (xhy up).fst.beq 1 then gi (xhy up).snd 0 else (-1:Int))≥(0:Int))
def xbQ (up:List (List Int)):Prop :=
 ((decide ((↑up.length:Int)≤(200:Int))=true)→((xav (xcD up) (xfn up))))
end Go.Proofs.YtikhnofbbcmpeaaGreat
set_option maxRecDepth 100000
set_option linter.unusedVariables false
namespace Go.Proofs.YtikhnofbbcmpeaaGreat
open Go Go.Sy
noncomputable def K0:Con:=Con.none
theorem xIu:xaT Tryz.prog K0:=xBl _
theorem xqP (uu:Int):xam Tryz.prog 0 (xaG Tryz.prog K0 xbt 9 47 [.int .i64 uu] ⟨[],0⟩)=some ⟨none,[],0,[],.int .i64 (xcC uu)⟩:=by kernel_rfl
noncomputable def xkG:List U→Option Eff
 | [.i uu]=>some ⟨none,[],0,[],.int .i64 (xcC uu)⟩
 | _=>Option.none
noncomputable def K1:Con:=ext Tryz.prog K0 47 [.int .i64 0] [] xkG
theorem xIt:xaT Tryz.prog K1:=xak xar xIu (n:=9) rfl rfl fun us x h=>by
 unfold xkG at h
 split at h
 ·cases h; exact ⟨none,xqP _,fun _=>trivial⟩
 ·cases h
theorem xsl (t:Int):xam Tryz.prog 0 (xaG Tryz.prog K1 xbt 9 50 [.int .i64 t] ⟨[],0⟩)=some ⟨none,[],0,[],.bool (xaB t)⟩:=by kernel_rfl
noncomputable def xlE:List U→Option Eff
 | [.i t]=>some ⟨none,[],0,[],.bool (xaB t)⟩
 | _=>Option.none
noncomputable def K2:Con:=ext Tryz.prog K1 50 [.int .i64 0] [] xlE
theorem xIs:xaT Tryz.prog K2:=xak xar xIt (n:=9) rfl rfl fun us x h=>by
 unfold xlE at h
 split at h
 ·cases h; exact ⟨none,xsl _,fun _=>trivial⟩
 ·cases h
theorem xsp (n:Int):xam Tryz.prog 0 (xaG Tryz.prog K2 xbt 9 87 [.int .i64 n] ⟨[],0⟩)=some ⟨none,[],0,[],.bool (xgU n)⟩:=by kernel_rfl
noncomputable def xlJ:List U→Option Eff
 | [.i n]=>some ⟨none,[],0,[],.bool (xgU n)⟩
 | _=>Option.none
noncomputable def K3:Con:=ext Tryz.prog K2 87 [.int .i64 0] [] xlJ
theorem xIr:xaT Tryz.prog K3:=xak xar xIs (n:=9) rfl rfl fun us x h=>by
 unfold xlJ at h
 split at h
 ·cases h; exact ⟨none,xsp _,fun _=>trivial⟩
 ·cases h
theorem xsn (t uu n:Int):xam Tryz.prog 0 (xaG Tryz.prog K3 xbt 9 44 [.int .i64 t,.int .i64 uu,.int .i64 n] ⟨[],0⟩)=some ⟨none,[],0,[],.bool (xcp t uu n)⟩:=by kernel_rfl
noncomputable def xlH:List U→Option Eff
 | [.i t,.i uu,.i n]=>some ⟨none,[],0,[],.bool (xcp t uu n)⟩
 | _=>Option.none
noncomputable def K4:Con:=ext Tryz.prog K3 44 [.int .i64 0,.int .i64 0,.int .i64 0] [] xlH
theorem xIq:xaT Tryz.prog K4:=xak xar xIr (n:=9) rfl rfl fun us x h=>by
 unfold xlH at h
 split at h
 ·cases h; exact ⟨none,xsn _ _ _,fun _=>trivial⟩
 ·cases h
theorem xtC (owner uu:Int):xam Tryz.prog 0 (xaG Tryz.prog K4 xbt 9 45 [.int .i64 owner,.int .i64 uu] ⟨[],0⟩)=some ⟨none,[],0,[],.bool (xbH owner uu)⟩:=by kernel_rfl
noncomputable def xmO:List U→Option Eff
 | [.i owner,.i uu]=>some ⟨none,[],0,[],.bool (xbH owner uu)⟩
 | _=>Option.none
noncomputable def K5:Con:=ext Tryz.prog K4 45 [.int .i64 0,.int .i64 0] [] xmO
theorem xIp:xaT Tryz.prog K5:=xak xar xIq (n:=9) rfl rfl fun us x h=>by
 unfold xmO at h
 split at h
 ·cases h; exact ⟨none,xtC _ _,fun _=>trivial⟩
 ·cases h
theorem xsw (up:List (List Int)):xam Tryz.prog 1 (xaG Tryz.prog K5 xbt 9 48 [.sl 0] ⟨[⟨0,1,false,.row 3 [.int .i64] up⟩],1⟩)=some ⟨some (xfC up),[],0,[],.int .u64 (xgW up)⟩:=by kernel_rfl
noncomputable def xlX:List U→Option Eff
 | [.r up]=>some ⟨some (xfC up),[],0,[],.int .u64 (xgW up)⟩
 | _=>Option.none
noncomputable def K6:Con:=ext Tryz.prog K5 48 [.sl 0] [⟨0,0,false,.row 3 [.int .i64] []⟩] xlX
theorem xIo:xaT Tryz.prog K6:=xak xar xIp (n:=9) rfl rfl fun us x h=>by
 unfold xlX at h
 split at h
 ·cases h; exact ⟨some (xfC _),xsw _,fun h=>h⟩
 ·cases h
theorem xtB (owner last x_Time x_Kind x_Item x_Sum:Int):xam Tryz.prog 0 (xaG Tryz.prog K6 xbt 9 46 [.int .i64 owner,.int .u64 last,.agg [.int .i64 x_Time,.int .i64 x_Kind,.int .i64 x_Item,.int .u64 x_Sum]] ⟨[],0⟩)=some ⟨some (xb5 owner last x_Time x_Kind x_Item x_Sum),[],0,[],.int .u64 (xcA owner last x_Time x_Kind x_Item x_Sum)⟩:=by kernel_rfl
noncomputable def xmM:List U→Option Eff
 | [.i owner,.i last,.i x_Time,.i x_Kind,.i x_Item,.i x_Sum]=>some ⟨some (xb5 owner last x_Time x_Kind x_Item x_Sum),[],0,[],.int .u64 (xcA owner last x_Time x_Kind x_Item x_Sum)⟩
 | _=>Option.none
noncomputable def K7:Con:=ext Tryz.prog K6 46 [.int .i64 0,.int .u64 0,.agg [.int .i64 0,.int .i64 0,.int .i64 0,.int .u64 0]] [] xmM
theorem xIn:xaT Tryz.prog K7:=xak xar xIo (n:=9) rfl rfl fun us x h=>by
 unfold xmM at h
 split at h
 ·cases h; exact ⟨some (xb5 _ _ _ _ _ _),xtB _ _ _ _ _ _,fun h=>h⟩
 ·cases h
theorem xqS (ue:Int) (uf:List (List Int)):xam Tryz.prog 1 (xaG Tryz.prog K7 xbt 9 13 [.agg [.int .i64 ue,.sl 0]] ⟨[⟨0,1,false,.row 29 [.int .i64,.int .i64,.int .i64,.int .u64] uf⟩],1⟩)=some ⟨some (xaJ ue uf),[],0,[],.bool (xac ue uf)⟩:=by kernel_rfl
noncomputable def xkO:List U→Option Eff
 | [.i ue,.r uf]=>some ⟨some (xaJ ue uf),[],0,[],.bool (xac ue uf)⟩
 | _=>Option.none
noncomputable def K8:Con:=ext Tryz.prog K7 13 [.agg [.int .i64 0,.sl 0]] [⟨0,0,false,.row 29 [.int .i64,.int .i64,.int .i64,.int .u64] []⟩] xkO
theorem xIm:xaT Tryz.prog K8:=xak xar xIn (n:=9) rfl rfl fun us x h=>by
 unfold xkO at h
 split at h
 ·cases h; exact ⟨some (xaJ _ _),xqS _ _,fun h=>h⟩
 ·cases h
theorem xuK (ue t:Int) (uf:List (List Int)):xam Tryz.prog 1 (xaG Tryz.prog K8 xbt 9 52 [.agg [.int .i64 ue,.sl 0],.int .i64 t] ⟨[⟨0,1,false,.row 29 [.int .i64,.int .i64,.int .i64,.int .u64] uf⟩],1⟩)=some ⟨some (xdm ue t uf),[],0,[],.bool (xaN ue t uf)⟩:=by kernel_rfl
noncomputable def xn2:List U→Option Eff
 | [.i ue,.i t,.r uf]=>some ⟨some (xdm ue t uf),[],0,[],.bool (xaN ue t uf)⟩
 | _=>Option.none
noncomputable def K9:Con:=ext Tryz.prog K8 52 [.agg [.int .i64 0,.sl 0],.int .i64 0] [⟨0,0,false,.row 29 [.int .i64,.int .i64,.int .i64,.int .u64] []⟩] xn2
theorem xIl:xaT Tryz.prog K9:=xak xar xIm (n:=9) rfl rfl fun us x h=>by
 unfold xn2 at h
 split at h
 ·cases h; exact ⟨some (xdm _ _ _),xuK _ _ _,fun h=>h⟩
 ·cases h
theorem xso (ue:Int) (uf:List (List Int)):xam Tryz.prog 1 (xaG Tryz.prog K9 xbt 9 73 [.agg [.int .i64 ue,.sl 0]] ⟨[⟨0,1,false,.row 29 [.int .i64,.int .i64,.int .i64,.int .u64] uf⟩],1⟩)=some ⟨some (xcb ue uf),[],0,[],.tup [.int .i64 (xbb ue uf),.int .u64 (xba ue uf)]⟩:=by kernel_rfl
noncomputable def xlI:List U→Option Eff
 | [.i ue,.r uf]=>some ⟨some (xcb ue uf),[],0,[],.tup [.int .i64 (xbb ue uf),.int .u64 (xba ue uf)]⟩
 | _=>Option.none
noncomputable def K10:Con:=ext Tryz.prog K9 73 [.agg [.int .i64 0,.sl 0]] [⟨0,0,false,.row 29 [.int .i64,.int .i64,.int .i64,.int .u64] []⟩] xlI
theorem xH7:xaT Tryz.prog K10:=xak xar xIl (n:=9) rfl rfl fun us x h=>by
 unfold xlI at h
 split at h
 ·cases h; exact ⟨some (xcb _ _),xso _ _,fun h=>h⟩
 ·cases h
theorem xsm (ua n t:Int) (ub:List (List Int)):xam Tryz.prog 1 (xaG Tryz.prog K10 xbt 9 51 [.agg [.int .i64 ua,.sl 0],.int .i64 n,.int .i64 t] ⟨[⟨0,1,false,.row 29 [.int .i64,.int .i64,.int .i64,.int .u64] ub⟩],1⟩)=some ⟨some (xcP ua n t ub),[],0,[],.bool (xaS ua n t ub)⟩:=by kernel_rfl
noncomputable def xlG:List U→Option Eff
 | [.i ua,.i n,.i t,.r ub]=>some ⟨some (xcP ua n t ub),[],0,[],.bool (xaS ua n t ub)⟩
 | _=>Option.none
noncomputable def K11:Con:=ext Tryz.prog K10 51 [.agg [.int .i64 0,.sl 0],.int .i64 0,.int .i64 0] [⟨0,0,false,.row 29 [.int .i64,.int .i64,.int .i64,.int .u64] []⟩] xlG
theorem xH6:xaT Tryz.prog K11:=xak xar xH7 (n:=9) rfl rfl fun us x h=>by
 unfold xlG at h
 split at h
 ·cases h; exact ⟨some (xcP _ _ _ _),xsm _ _ _ _,fun h=>h⟩
 ·cases h
theorem xoF (up:List (List Int)):xam Tryz.prog 1 (xaG Tryz.prog K11 xbt 9 49 [.sl 0] ⟨[⟨0,1,false,.row 41 [.int .i64,.int .i64,.int .i64] up⟩],1⟩)=some ⟨some (xbQ up),[],0,[],.bool (xaH up)⟩:=by kernel_rfl
noncomputable def xjg:List U→Option Eff
 | [.r up]=>some ⟨some (xbQ up),[],0,[],.bool (xaH up)⟩
 | _=>Option.none
noncomputable def K12:Con:=ext Tryz.prog K11 49 [.sl 0] [⟨0,0,false,.row 41 [.int .i64,.int .i64,.int .i64] []⟩] xjg
theorem xH5:xaT Tryz.prog K12:=xak xar xH6 (n:=9) rfl rfl fun us x h=>by
 unfold xjg at h
 split at h
 ·cases h; exact ⟨some (xbQ _),xoF _,fun h=>h⟩
 ·cases h
end Go.Proofs.YtikhnofbbcmpeaaGreat
set_option maxRecDepth 100000
set_option linter.unusedVariables false
namespace Go.Proofs.YtikhnofbbcmpeaaGreat
open Go Go.Sy
noncomputable def xjP (x y:Int):Int :=
 bif x !=x then bif y !=y then (0:Int) else (-1:Int) else bif y !=y then (1:Int) else bif decide (x<y) then (-1:Int) else bif decide (x>y) then (1:Int) else (0:Int)
noncomputable def xal (x y:Int):Int :=
 (xjP x y)
noncomputable def xhH (vals:List (List Int)):List U :=
 [.i ((0:Int)),.i ((0:Int))]
noncomputable def xeJ (vals:List (List Int)) (y0:List U):Option (Nat×List U) :=
 (bif decide (gi y0 1<(↑vals.length:Int)) then xab (inR (gi y0 1) vals) (xab (inR (gi y0 1) vals) ((bif (vals.getD (gi y0 1).toNat []).getD 0 (0:Int) !=(0:Int) then some (1,[.i ((vals.getD (gi y0 1).toNat []).getD 0 (0:Int))]) else some (0,[.i (gi y0 0),.i (IntKind.i64.wrap (gi y0 1+(1:Int)))])))) else some (3,[.i (gi y0 0),.i (gi y0 1)]))
noncomputable def xlo (vals:List (List Int)):Nat×List U:=xaf (xeJ vals) (xhH vals)
noncomputable def xhe (vals:List (List Int)):Int :=
 bif (xlo vals).fst.beq 1 then gi (xlo vals).snd 0 else (0:Int)
def xfK (vals:List (List Int)):Prop :=
 ((xav (xeJ vals) (xhH vals)))
noncomputable def xgm (a_Ship a_Item b_Ship b_Item:Int):Int :=
 xhe [[xal a_Ship b_Ship],[xal a_Item b_Item]]
def xeb (a_Ship a_Item b_Ship b_Item:Int):Prop :=
 (xfK [[xal a_Ship b_Ship],[xal a_Item b_Item]])
noncomputable def xec (a_Kind a_Ship a_Item b_Kind b_Ship b_Item:Int):Int :=
 xhe [[xal a_Kind b_Kind],[xal a_Ship b_Ship],[xal a_Item b_Item]]
def xch (a_Kind a_Ship a_Item b_Kind b_Ship b_Item:Int):Prop :=
 (xfK [[xal a_Kind b_Kind],[xal a_Ship b_Ship],[xal a_Item b_Item]])
noncomputable def xhC (g_Gap_Ship g_Gap_Item:Int) (g_sent g_on:Bool) (h_Gap_Ship h_Gap_Item:Int) (h_sent h_on:Bool):Bool :=
 !(g_Gap_Ship==h_Gap_Ship&&(g_Gap_Item==h_Gap_Item&&true))&&!(g_sent&&h_sent&&g_Gap_Item==h_Gap_Item)&&!(g_on&&h_on&&g_Gap_Ship==h_Gap_Ship)
noncomputable def xh3 (g_Gap_Ship g_Gap_Item:Int) (g_sent g_on:Bool) (o_Kind o_Ship o_Item:Int):Bool :=
 bif o_Kind==(1:Int)&&(o_Ship==(0:Int)&&(o_Item==g_Gap_Item&&true)) then g_sent
else bif o_Kind==(2:Int)&&(o_Ship==g_Gap_Ship&&(o_Item==(0:Int)&&true)) then g_on else o_Kind==(3:Int)&&(o_Ship==g_Gap_Ship&&(o_Item==g_Gap_Item&&true))
end Go.Proofs.YtikhnofbbcmpeaaGreat
set_option maxRecDepth 100000
set_option linter.unusedVariables false
namespace Go.Proofs.YtikhnofbbcmpeaaGreat
open Go Go.Sy
theorem xoQ (x y:Int):xam Tryz.prog 0 (xaG Tryz.prog K12 xbt 9 100 [.int .i64 x,.int .i64 y] ⟨[],0⟩)=some ⟨none,[],0,[],.int .i64 (xal x y)⟩:=by kernel_rfl
noncomputable def xjp:List U→Option Eff
 | [.i x,.i y]=>some ⟨none,[],0,[],.int .i64 (xal x y)⟩
 | _=>Option.none
noncomputable def K13:Con:=ext Tryz.prog K12 100 [.int .i64 0,.int .i64 0] [] xjp
theorem xH4:xaT Tryz.prog K13:=xak xar xH5 (n:=9) rfl rfl fun us x h=>by
 unfold xjp at h
 split at h
 ·cases h; exact ⟨none,xoQ _ _,fun _=>trivial⟩
 ·cases h
theorem xuR (vals:List (List Int)):xam Tryz.prog 1 (xaG Tryz.prog K13 xbt 9 102 [.sl 0] ⟨[⟨0,1,false,.row 3 [.int .i64] vals⟩],1⟩)=some ⟨some (xfK vals),[],0,[],.int .i64 (xhe vals)⟩:=by kernel_rfl
noncomputable def xoi:List U→Option Eff
 | [.r vals]=>some ⟨some (xfK vals),[],0,[],.int .i64 (xhe vals)⟩
 | _=>Option.none
noncomputable def K14:Con:=ext Tryz.prog K13 102 [.sl 0] [⟨0,0,false,.row 3 [.int .i64] []⟩] xoi
theorem xH3:xaT Tryz.prog K14:=xak xar xH4 (n:=9) rfl rfl fun us x h=>by
 unfold xoi at h
 split at h
 ·cases h; exact ⟨some (xfK _),xuR _,fun h=>h⟩
 ·cases h
theorem xqO (a_Ship a_Item b_Ship b_Item:Int):xam Tryz.prog 0 (xaG Tryz.prog K14 xbt 9 66 [.agg [.int .i64 a_Ship,.int .i64 a_Item],.agg [.int .i64 b_Ship,.int .i64 b_Item]] ⟨[],0⟩)=some ⟨some (xeb a_Ship a_Item b_Ship b_Item),[],0,[],.int .i64 (xgm a_Ship a_Item b_Ship b_Item)⟩:=by kernel_rfl
noncomputable def xkE:List U→Option Eff
 | [.i a_Ship,.i a_Item,.i b_Ship,.i b_Item]=>some ⟨some (xeb a_Ship a_Item b_Ship b_Item),[],0,[],.int .i64 (xgm a_Ship a_Item b_Ship b_Item)⟩
 | _=>Option.none
noncomputable def K15:Con:=ext Tryz.prog K14 66 [.agg [.int .i64 0,.int .i64 0],.agg [.int .i64 0,.int .i64 0]] [] xkE
theorem xH2:xaT Tryz.prog K15:=xak xar xH3 (n:=9) rfl rfl fun us x h=>by
 unfold xkE at h
 split at h
 ·cases h; exact ⟨some (xeb _ _ _ _),xqO _ _ _ _,fun h=>h⟩
 ·cases h
theorem xoE (a_Kind a_Ship a_Item b_Kind b_Ship b_Item:Int):xam Tryz.prog 0 (xaG Tryz.prog K15 xbt 9 64 [.agg [.int .i64 a_Kind,.int .i64 a_Ship,.int .i64 a_Item],.agg [.int .i64 b_Kind,.int .i64 b_Ship,.int .i64 b_Item]] ⟨[],0⟩)=some ⟨some (xch a_Kind a_Ship a_Item b_Kind b_Ship b_Item),[],0,[],.int .i64 (xec a_Kind a_Ship a_Item b_Kind b_Ship b_Item)⟩:=by kernel_rfl
noncomputable def xjf:List U→Option Eff
 | [.i a_Kind,.i a_Ship,.i a_Item,.i b_Kind,.i b_Ship,.i b_Item]=>some ⟨some (xch a_Kind a_Ship a_Item b_Kind b_Ship b_Item),[],0,[],.int .i64 (xec a_Kind a_Ship a_Item b_Kind b_Ship b_Item)⟩
 | _=>Option.none
noncomputable def K16:Con:=ext Tryz.prog K15 64 [.agg [.int .i64 0,.int .i64 0,.int .i64 0],.agg [.int .i64 0,.int .i64 0,.int .i64 0]] [] xjf
theorem xH1:xaT Tryz.prog K16:=xak xar xH2 (n:=9) rfl rfl fun us x h=>by
 unfold xjf at h
 split at h
 ·cases h; exact ⟨some (xch _ _ _ _ _ _),xoE _ _ _ _ _ _,fun h=>h⟩
 ·cases h
theorem xqQ (g_Gap_Ship g_Gap_Item:Int) (g_sent g_on:Bool) (h_Gap_Ship h_Gap_Item:Int) (h_sent h_on:Bool):xam Tryz.prog 0 (xaG Tryz.prog K16 xbt 9 72 [.agg [.int .i64 g_Gap_Ship,.int .i64 g_Gap_Item,.bool g_sent,.bool g_on],.agg [.int .i64 h_Gap_Ship,.int .i64 h_Gap_Item,.bool h_sent,.bool h_on]] ⟨[],0⟩)=some ⟨none,[],0,[],.bool (xhC g_Gap_Ship g_Gap_Item g_sent g_on h_Gap_Ship h_Gap_Item h_sent h_on)⟩:=by kernel_rfl
noncomputable def xkH:List U→Option Eff
 | [.i g_Gap_Ship,.i g_Gap_Item,.b g_sent,.b g_on,.i h_Gap_Ship,.i h_Gap_Item,.b h_sent,.b h_on]=>some ⟨none,[],0,[],.bool (xhC g_Gap_Ship g_Gap_Item g_sent g_on h_Gap_Ship h_Gap_Item h_sent h_on)⟩
 | _=>Option.none
noncomputable def K17:Con:=ext Tryz.prog K16 72 [.agg [.int .i64 0,.int .i64 0,.bool false,.bool false],.agg [.int .i64 0,.int .i64 0,.bool false,.bool false]] [] xkH
theorem xH0:xaT Tryz.prog K17:=xak xar xH1 (n:=9) rfl rfl fun us x h=>by
 unfold xkH at h
 split at h
 ·cases h; exact ⟨none,xqQ _ _ _ _ _ _ _ _,fun _=>trivial⟩
 ·cases h
theorem xoD (g_Gap_Ship g_Gap_Item:Int) (g_sent g_on:Bool) (o_Kind o_Ship o_Item:Int):xam Tryz.prog 0 (xaG Tryz.prog K17 xbt 9 68 [.agg [.int .i64 g_Gap_Ship,.int .i64 g_Gap_Item,.bool g_sent,.bool g_on],.agg [.int .i64 o_Kind,.int .i64 o_Ship,.int .i64 o_Item]] ⟨[],0⟩)=some ⟨none,[],0,[],.bool (xh3 g_Gap_Ship g_Gap_Item g_sent g_on o_Kind o_Ship o_Item)⟩:=by kernel_rfl
noncomputable def xje:List U→Option Eff
 | [.i g_Gap_Ship,.i g_Gap_Item,.b g_sent,.b g_on,.i o_Kind,.i o_Ship,.i o_Item]=>some ⟨none,[],0,[],.bool (xh3 g_Gap_Ship g_Gap_Item g_sent g_on o_Kind o_Ship o_Item)⟩
 | _=>Option.none
noncomputable def K18:Con:=ext Tryz.prog K17 68 [.agg [.int .i64 0,.int .i64 0,.bool false,.bool false],.agg [.int .i64 0,.int .i64 0,.int .i64 0]] [] xje
theorem xE8:xaT Tryz.prog K18:=xak xar xH0 (n:=9) rfl rfl fun us x h=>by
 unfold xje at h
 split at h
 ·cases h; exact ⟨none,xoD _ _ _ _ _ _ _,fun _=>trivial⟩
 ·cases h
end Go.Proofs.YtikhnofbbcmpeaaGreat
set_option linter.unusedVariables false
namespace Go.Proofs.YtikhnofbbcmpeaaGreat
open Go Go.Sy Go.Proofs Go.RowKit Go.Sort
theorem cmpC (a b:Int):xal a b=if a<b then -1 else if b<a then 1 else 0:=by
 unfold xal xjP
 simp only [bne_self_eq_false,cond_false]
 by_cases h:a<b
 ·simp [h]
 ·by_cases h2:b<a
  ·simp [h,h2]
  ·simp [h,h2]
def orL:List Int→Int
 | []=>0
 | a::r=>if a=0 then orL r else a
theorem xzM:∀ {l:List Int},(∀ x∈l,x=0)→orL l=0
 | [],_=>rfl
 | a::r,h=>by unfold orL; rw [if_pos (h a (by simp))]; exact xzM fun x hx=>h x (by simp [hx])
theorem xEK:∀ {l:List Int} {i:Nat},i<l.length→(∀ j,j<i→l.getD j 0=0)→l.getD i 0≠0→orL l=l.getD i 0
 | [],i,h,_,_=>by cases h
 | a::r,0,_,_,h=>by
  have h:a≠0:=h
  unfold orL; rw [if_neg h]; rfl
 | a::r,i+1,h,h1,h2=>by
  have h0:a=0:=h1 0 (by omega)
  unfold orL
  rw [if_pos h0]
  exact xEK (by simpa using h) (fun j hj=>h1 (j+1) (by omega)) h2
theorem xGj {v:List (List Int)} (hv:v.length<4611686018427387904):xfK v∧xhe v=orL (v.map fun r=>r.getD 0 0):=by
 have eg:∀ i,(v.map fun r=>r.getD 0 0).getD i 0=(v.getD i []).getD 0 0:=fun i=>by
  simp only [List.getD_eq_getElem?_getD,List.getElem?_map]
  cases v[i]?<;>rfl
 have key:=xcy (step:=xeJ v) v.length (fun i=>(v.getD i []).getD 0 0 !=0) (fun i=>[.i 0,.i i]) (fun i=>[.i ((v.getD i []).getD 0 0)]) 0 2 [.i 0,.i v.length]
  (fun i hi=>by
   unfold xeJ
   simp only [gi_1,gi_z,dlt hi,xaa (xan hi),xsQ (show i<4611686018427387904 by omega),Int.toNat_natCast])
  (by
   unfold xeJ
   simp only [gi_1,gi_z,dnlt])
 obtain ⟨h1,h2⟩:=key
 refine ⟨h1,?_⟩
 unfold xhe xlo
 have hi:xhH v=[.i 0,.i ((0:Nat):Int)]:=rfl
 rw [hi]
 rcases h2 with ⟨i,hi,hp,hb,he⟩ | ⟨hb,he⟩
 ·rw [he]
  rw [xEK (i:=i) (by simpa using hi) (fun j hj=>by rw [eg]; simpa using hb j hj) (by rw [eg]; simpa using hp),eg]
  rfl
 ·rw [he,xzM]
  ·rfl
  ·intro x hx
   obtain ⟨r,hr,rfl⟩:=List.mem_map.1 hx
   obtain ⟨j,hj,rfl⟩:=List.getElem_of_mem hr
   have:=hb j hj
   have ej:v.getD j []=v[j]:=by rw [List.getD_eq_getElem?_getD,List.getElem?_eq_getElem hj]; rfl
   rw [ej] at this
   simpa using this
theorem xsz (a b c d:Int):xeb a b c d∧xgm a b c d=orL [xal a c,xal b d]:=xGj (by simp)
theorem xiW (a b c d e f:Int):xch a b c d e f∧xec a b c d e f=orL [xal a d,xal b e,xal c f]:=xGj (by simp)
noncomputable def cfO (x y:List Int):Int:=xec (x.getD 0 0) (x.getD 1 0) (x.getD 2 0) (y.getD 0 0) (y.getD 1 0) (y.getD 2 0)
theorem xze (x y:List Int):decide (cfO x y<0)=!leL [0,1,2] y x:=by
 unfold cfO
 rw [(xiW _ _ _ _ _ _).2]
 simp only [cmpC,orL,leL]
 generalize x.getD 0 0=a
 generalize x.getD 1 0=b
 generalize x.getD 2 0=c
 generalize y.getD 0 0=d
 generalize y.getD 1 0=e
 generalize y.getD 2 0=f
 rcases Int.lt_trichotomy a d with h | h | h
 ·simp [h,show ¬ d=a by omega,show ¬ d<a by omega]
 ·subst h
  rcases Int.lt_trichotomy b e with h | h | h
  ·simp [h,show ¬ e=b by omega,show ¬ e<b by omega]
  ·subst h
   rcases Int.lt_trichotomy c f with h | h | h
   ·simp [h,show ¬ f=c by omega,show ¬ f<c by omega]
   ·subst h; simp
   ·simp [h,show ¬ f=c by omega,show ¬ c<f by omega]
  ·simp [h,show ¬ e=b by omega,show ¬ b<e by omega]
 ·simp [h,show ¬ d=a by omega,show ¬ a<d by omega]
theorem swoO:SWO (ltOf cfO):=by
 have lt_le:∀ x y,ltOf cfO x y=!leL [0,1,2] y x:=xze
 have le_ne:∀ {a b:List Int},leL [0,1,2] a b=false→leL [0,1,2] b a=true:=fun {a b} h=>(xgj _ a b).resolve_left (by simp [h])
 refine ⟨fun x=>?_,fun x y z h k'=>?_,fun x y z h k'=>?_⟩
 ·rw [lt_le]
  have:=xgj [0,1,2] x x
  simp_all
 ·rw [lt_le] at *
  simp only [Bool.not_eq_true'] at *
  cases hz:leL [0,1,2] z x with
  | false=>rfl
  | true =>
   have:=xgi _ _ _ _ hz (le_ne h)
   rw [k'] at this
   cases this
 ·rw [lt_le] at *
  simp only [Bool.not_eq_false'] at *
  exact xgi _ _ _ _ k' h
theorem xyM (zs:List Int):(zs.mergeSort fun x y=>decide (x≤y))=xhh leI zs :=
 xmL xpF xpE (fun a _ b _ h k=>by simp [leI] at *; omega) (List.mergeSort_perm _ _) (List.pairwise_mergeSort (fun a b c h k=>xpE a b c h k) (fun a b=>by have:=xpF a b; simpa [leI] using this) zs)
theorem xnl (l:List (List Int)):(nums l).map (Value.int .i64)=rowV [.int .i64] l:=by
 induction l with
 | nil=>rfl
 | cons r l ih =>
  show Value.int .i64 (r.getD 0 0)::(nums l).map (Value.int .i64)=elV [.int .i64] 0 r++rowV [.int .i64] l
  rw [ih]; rfl
theorem xAJ:xEu Tryz.prog 93 none 3 [.int .i64] (fun l=>some (l.length<4611686018427387904)) xbD (fun _=>.tup []):=by
 intro l v w hp _ hr
 have hlt:l.length<4611686018427387904:=hp _ rfl
 rcases xtm hr with ⟨a,rfl,rfl⟩ | ⟨b,cap,hcap,rfl,hb,hbw,hmax,hle,hold,hput⟩
 ·refine (Any.slices_Sort_int_none Tryz.lays189 a 0 w).mono ?_
  rintro e w' ⟨rfl,rfl⟩
  exact ⟨rfl,(hr:xa6 _ true 3 [CK.int IntKind.i64].length _ (xbD []).length _),Chg.refl _ _⟩
 ·have h:=Any.slices_Sort_int Tryz.lays189 b 0 cap (nums l) w (hold Int _ (Value.int .i64) (nums l).toArray (by simpa using xnl l)) hbw (by simpa [nums] using hlt)
  have el:(nums l).length=l.length:=by simp [nums]
  rw [el] at h
  refine h.mono ?_
  rintro e w' ⟨rfl,n,os,rfl⟩
  rw [xyM]
  have:=hput Int inferInstance (Value.int .i64) (xhh leI (nums l)).toArray (xbD l) n os (by simp [xbD,xaD,nums,xgk]) (xa4 _ _) (by
   rw [← xnl (xbD l)]
   unfold xbD
   rw [xi9])
  rw [hb]
  exact ⟨rfl,this.1,this.2⟩
theorem xBp (zs:List Int):Lib.compact zs=dd none zs:=by
 have key:∀ m,m≤zs.length→Lib.compactUpTo zs.toArray m=dd none (zs.take m):=by
  intro m
  induction m with
  | zero=>intro _; simp [Lib.compactUpTo,dd]
  | succ m ih =>
   intro hm
   have hm':m<zs.length:=hm
   rw [Lib.compactUpTo_succ,ih (by omega),List.take_succ_eq_append_getElem hm',xDn]
   congr 1
   have e1:zs.toArray[m]! = zs[m]:=by simp [getElem!_pos zs.toArray m (by simpa using hm')]
   cases m with
   | zero=>simp [Lib.keeps,hm']
   | succ k =>
    have hk:k<zs.length:=by omega
    have e2:zs.toArray[k]! = zs[k]:=by simp [getElem!_pos zs.toArray k (by simpa using hk)]
    have e3:(zs.take (k+1)).getLast?=some zs[k]:=by
     rw [List.take_succ_eq_append_getElem hk,List.getLast?_concat]
    rw [e3,Option.some_or]
    simp only [Lib.keeps,e1,Nat.add_sub_cancel,e2]
    by_cases h:zs[k]=zs[k+1]
    ·simp [h]
    ·simp [h,Ne.symm h]
 have:=key zs.length (Nat.le_refl _)
 rwa [List.take_length] at this
theorem xwK:xEu Tryz.prog 94 none 3 [.int .i64] (fun _=>none) xeI (fun l=>.vw 0 1 none (xgs l)):=by
 intro l v w _ _ hr
 rcases xtm hr with ⟨a,rfl,rfl⟩ | ⟨b,cap,hcap,rfl,hb,hbw,hmax,hle,hold,hput⟩
 ·refine (Any.slices_Compact_int_empty Tryz.laysNm220 a 0 w).mono ?_
  rintro e w' ⟨rfl,rfl⟩
  have e1:xeI []=[]:=by simp [xeI,nums,xaD,dd]
  refine ⟨?_,by rw [e1]; exact hr,Chg.refl _ _⟩
  simp [AV.den,xfy,sliced,xgs,nums,dd,loN]
 ·have el:(nums l).length=l.length:=by simp [nums]
  have h:=Any.slices_Compact_int Tryz.laysNm220 b 0 cap (nums l) w (hold Int _ (Value.int .i64) (nums l).toArray (by simpa using xnl l)) (by unfold maxLen at hmax; omega) (by omega)
  rw [el,xBp] at h
  refine h.mono ?_
  rintro e w' ⟨rfl,q,rfl⟩
  have hl:=xp5 (nums l) none
  have:=hput Int inferInstance (Value.int .i64) (dd none (nums l)++List.replicate (l.length-(dd none (nums l)).length) 0).toArray (xeI l) q #[] (by simp [xeI,xaD,el]; omega) (xa4 _ _) (by
   rw [← xnl (xeI l)]
   unfold xeI
   rw [xi9,el])
  rw [grow_empty] at this
  rw [hb]
  refine ⟨?_,this.1,this.2⟩
  have e5:((⟨b,0,none⟩:Addr).add 0)=⟨b,0,none⟩:=rfl
  simp [AV.den,xfy,sliced,xgs,loN,e5]
theorem xAp {W w':World} (h:Blw W.heap.size W w'):∃ q os',w'=grow (W.drewN q) os':=by
 refine ⟨w'.drawn-W.drawn,w'.heap.extract W.heap.size w'.heap.size,?_⟩
 have hd:=h.drawn
 have hheap:w'.heap=W.heap++w'.heap.extract W.heap.size w'.heap.size:=by
  apply Array.ext_getElem?
  intro k
  by_cases hk:k<W.heap.size
  ·rw [Array.getElem?_append_left hk]; exact h.block k hk
  ·rw [Array.getElem?_append_right (by omega),Array.getElem?_extract]
   have hs:=h.size
   by_cases hk2:k<w'.heap.size
   ·rw [if_pos (by omega)]
    congr 1
    omega
   ·rw [if_neg (by omega),Array.getElem?_eq_none (by omega)]
 have h1:=h.os
 have h2:=h.tape
 have h3:=h.output
 obtain ⟨heap',tape',drawn',os',output'⟩:=w'
 obtain ⟨heap,tape,drawn,os,output⟩:=W
 simp only [] at *
 subst h1 h2 h3
 show (⟨heap',_,drawn',_,_⟩:World)=⟨heap++_,_,drawn+(drawn'-drawn),_,_⟩
 rw [← hheap,show drawn+(drawn'-drawn)=drawn' by omega]
 rfl
def ksO:List CK:=[.int .i64,.int .i64,.int .i64]
theorem xwJ (x y:List Int) (W:World):Calls Tryz.prog 64 #[.agg (elV ksO 0 x).toArray,.agg (elV ksO 0 y).toArray] W fun e w' =>
  e=.returned (.int .i64 (cfO x y))∧∃ q os',w'=grow (W.drewN q) os':=by
 have hD:K18 64 [.agg [.int .i64 (x.getD 0 0),.int .i64 (x.getD 1 0),.int .i64 (x.getD 2 0)],.agg [.int .i64 (y.getD 0 0),.int .i64 (y.getD 1 0),.int .i64 (y.getD 2 0)]] []=some ⟨some (xch (x.getD 0 0) (x.getD 1 0) (x.getD 2 0) (y.getD 0 0) (y.getD 1 0) (y.getD 2 0)),[],0,[],.int .i64 (cfO x y)⟩:=rfl
 obtain ⟨_,_,hc⟩:=(xE8 _ _ _ _ hD).1 rfl
 refine (hc (xiW _ _ _ _ _ _).1 (fun _=>.slice none 0 0) W ⟨fun _=>rfl,fun o ho=>(by cases ho),fun o ho=>(by cases ho)⟩).mono ?_
 rintro e w' ⟨E',rfl,hg⟩
 exact ⟨rfl,xAp hg.below⟩
theorem xAK {l:List (List Int)} {d':Array (List Int)} (hp:PermIn 0 l.length (l.map (norm 3)).toArray d') (hs:SortedIn (ltOf cfO) 0 l.length d'):d'.toList=xa1 3 [0,1,2] l:=by
 obtain ⟨h1,_,h3⟩:=hp
 have hsz:d'.size=l.length:=by simpa using h1
 have e1:(d'.extract 0 l.length).toList=d'.toList:=by rw [← hsz]; simp
 have e2:(((l.map (norm 3)).toArray).extract 0 l.length).toList=l.map (norm 3):=by
  rw [Array.toList_extract]
  exact List.take_of_length_le (by simp)
 rw [e1,e2] at h3
 unfold xa1
 refine xmL (xgj _) (xgi _) (fun a ha b hb h h'=>?_) h3 ?_
 ·have hkk:=xsB _ _ _ h h'
  obtain ⟨a',_,rfl⟩:=List.mem_map.1 ha
  obtain ⟨b',_,rfl⟩:=List.mem_map.1 hb
  apply xD7
  intro j hj
  have h012:j=0∨j=1∨j=2:=by omega
  have:=hkk j (by simpa using h012)
  rwa [xwd 3 a' hj,xwd 3 b' hj] at this
 ·rw [List.pairwise_iff_getElem]
  intro i j hi hj hij
  have hi':i<d'.size:=by simpa using hi
  have hj':j<d'.size:=by simpa using hj
  have:=hs i j (Nat.zero_le _) hij (by omega)
  rw [show ltOf cfO _ _=_ from xze _ _,getElem!_pos d' j hj',getElem!_pos d' i hi'] at this
  simpa using this
theorem xys:xEu Tryz.prog 119 (some 64) 80 ksO (fun l=>some (l.length<4611686018427387904)) (xa1 3 [0,1,2]) (fun _=>.tup []):=by
 intro l v w hp _ hr
 have hlt:l.length<4611686018427387904:=hp _ rfl
 rcases xtm hr with ⟨a,rfl,rfl⟩ | ⟨b,cap,hcap,rfl,hb,hbw,hmax,hle,hold,hput⟩
 ·refine (AnyF.slices_SortFunc_none Tryz.sortOm a 0 _ w).mono ?_
  rintro e w' ⟨rfl,rfl⟩
  exact ⟨rfl,hr,Chg.refl _ _⟩
 ·have eg:∀ args w,(callFunc 64 args).run Tryz.prog w=.ok (.enter 64 args) w:=enters_of Tryz.func64 (by kernel_rfl) rfl
  have hrowV:rowV ksO (l.map (norm 3))=rowV ksO l:=xBQ ksO l
  have hH:HoldsK (elV ksO 0) 3 w b 0 (l.map (norm 3)).toArray:=hold Value inferInstance id _ ((xxT ksO (l.map (norm 3))).trans hrowV)
  have h:=AnyQ.slices_SortFunc Tryz.sortOm 3 Tryz.isAgg80 Tryz.sizeOf80 (elV ksO 0) (fun x=>xb3 _ _ _) (fun x u hu=>xwD _ _ _ u hu) cfO swoO 64 #[] b 0 cap (l.map (norm 3)).toArray w eg (fun _ _ _ _ x y=>xwJ x y _) hH hbw (by simpa using hlt)
  have es:(l.map (norm 3)).toArray.size=l.length:=by simp
  rw [es] at h
  refine h.mono ?_
  rintro e w' ⟨rfl,d',n,os,g1,g2,rfl⟩
  have hd:=xAK g1 g2
  have e3:d'=(xa1 3 [0,1,2] l).toArray:=by rw [← hd]
  have:=hput Value inferInstance id (flatK (elV ksO 0) 3 (xa1 3 [0,1,2] l).toArray) (xa1 3 [0,1,2] l) n os (by simp [xa1,xgk]) (xa4 _ _) (xxT ksO _)
  rw [hb,e3]
  exact ⟨rfl,this.1,this.2⟩
noncomputable def K19:Con:=conR K18 93 none 3 [.int .i64] (fun l=>some (l.length<4611686018427387904)) xbD (fun _=>.tup [])
theorem xHZ:xaT Tryz.prog K19:=xrc xE8 (fun _ k hk=>by cases hk) ⟨_,Tryz.func93,by decide,rfl⟩ xAJ
noncomputable def K20:Con:=conR K19 94 none 3 [.int .i64] (fun _=>none) xeI (fun l=>.vw 0 1 none (xgs l))
theorem xHY:xaT Tryz.prog K20:=xrc xHZ (fun l k hk=>by simpa [AV.keys] using hk) ⟨_,Tryz.func94,by decide,rfl⟩ xwK
noncomputable def K21:Con:=conR K20 119 (some 64) 80 ksO (fun l=>some (l.length<4611686018427387904)) (xa1 3 [0,1,2]) (fun _=>.tup [])
theorem xHX:xaT Tryz.prog K21:=xrc xHY (fun _ k hk=>by cases hk) ⟨_,Tryz.func119,by decide,rfl⟩ xys
end Go.Proofs.YtikhnofbbcmpeaaGreat
set_option maxRecDepth 100000
set_option linter.unusedVariables false
namespace Go.Proofs.YtikhnofbbcmpeaaGreat
open Go Go.Sy
noncomputable def xgl (ue t:Int) (uf:List (List Int)):List U :=
 [.i ((0:Int)),.r ([])]
noncomputable def xdt (ue t:Int) (uf:List (List Int)) (y0:List U):Option (Nat×List U) :=
 (bif decide (gi y0 0<(↑uf.length:Int)) then xab (inR (gi y0 0) uf) (xab (inR (gi y0 0) uf) ((bif decide ((uf.getD (gi y0 0).toNat []).getD 0 (0:Int)>t)==false then (bif (uf.getD (gi y0 0).toNat []).getD 1 (0:Int)==(3:Int) then xab (xa5 8 ((gr y0 1).length+[[(uf.getD (gi y0 0).toNat []).getD 2 (0:Int)]].length)) (some (0,[.i (IntKind.i64.wrap (gi y0 0+(1:Int))),.r (gr y0 1++[[(uf.getD (gi y0 0).toNat []).getD 2 (0:Int)]])])) else some (0,[.i (IntKind.i64.wrap (gi y0 0+(1:Int))),.r (gr y0 1)])) else some (3,[.r (gr y0 1)])))) else some (4,[.i (gi y0 0),.r (gr y0 1)]))
noncomputable def xaM (ue t:Int) (uf:List (List Int)):Nat×List U:=xaf (xdt ue t uf) (xgl ue t uf)
noncomputable def xlF (ue t:Int) (uf:List (List Int)):List (List Int) :=
 bif (xaM ue t uf).fst.beq 3 then List.take (xgs (xbD (gr (xaM ue t uf).snd 0))).toNat (xeI (xbD (gr (xaM ue t uf).snd 0)))
else List.take (xgs (xbD (gr (xaM ue t uf).snd 1))).toNat (xeI (xbD (gr (xaM ue t uf).snd 1)))
noncomputable def xdu (ue t:Int) (uf:List (List Int)):List (List Int) :=
 (xlF ue t uf)
def xck (ue t:Int) (uf:List (List Int)):Prop :=
 (((xav (xdt ue t uf) (xgl ue t uf)))∧((((xaM ue t uf).fst.beq 3=true)→(((gr (xaM ue t uf).snd 0).length<4611686018427387904)∧(((0:Int)≤xgs (xbD (gr (xaM ue t uf).snd 0)))∧(xgs (xbD (gr (xaM ue t uf).snd 0))≤(↑(xeI (xbD (gr (xaM ue t uf).snd 0))).length:Int)))))∧(((xaM ue t uf).fst.beq 3=false)→(((gr (xaM ue t uf).snd 1).length<4611686018427387904)∧(((0:Int)≤xgs (xbD (gr (xaM ue t uf).snd 1)))∧(xgs (xbD (gr (xaM ue t uf).snd 1))≤(↑(xeI (xbD (gr (xaM ue t uf).snd 1))).length:Int)))))))
noncomputable def xbm (ue t:Int) (uf:List (List Int)):List (List Int) :=
 bif !xac ue uf||!xaB t then [] else xdu ue t uf
noncomputable def xbR (ue t:Int) (uf:List (List Int)):Int :=
 bif !xac ue uf||!xaB t then (1:Int) else (0:Int)
def xcm (ue t:Int) (uf:List (List Int)):Prop :=
 ((xaJ ue uf)∧(((!xac ue uf||!xaB t)=false)→(xck ue t uf)))
noncomputable def xgo (ua uc t:Int) (ub ud up:List (List Int)):List U :=
 [.i ((0:Int)),.r ([])]
noncomputable def xdv (ua uc t:Int) (ub ud up:List (List Int)) (y0:List U):Option (Nat×List U) :=
 (bif decide (gi y0 0<(↑up.length:Int)) then xab (inR (gi y0 0) up) (xab (inR (gi y0 0) up) (xab ((((up.getD (gi y0 0).toNat []).getD 0 (0:Int)==uc&&decide ((up.getD (gi y0 0).toNat []).getD 2 (0:Int)≤t))=true)→(xcP ua ((up.getD (gi y0 0).toNat []).getD 1 (0:Int)) ((up.getD (gi y0 0).toNat []).getD 2 (0:Int)) ub)) (xab ((((up.getD (gi y0 0).toNat []).getD 0 (0:Int)==uc&&decide ((up.getD (gi y0 0).toNat []).getD 2 (0:Int)≤t) &&
  xaS ua ((up.getD (gi y0 0).toNat []).getD 1 (0:Int)) ((up.getD (gi y0 0).toNat []).getD 2 (0:Int)) ub) =
 true)→(xdm uc ((up.getD (gi y0 0).toNat []).getD 2 (0:Int)) ud)) ((bif (up.getD (gi y0 0).toNat []).getD 0 (0:Int)==uc&&decide ((up.getD (gi y0 0).toNat []).getD 2 (0:Int)≤t) &&
  xaS ua ((up.getD (gi y0 0).toNat []).getD 1 (0:Int)) ((up.getD (gi y0 0).toNat []).getD 2 (0:Int)) ub &&
 xaN uc ((up.getD (gi y0 0).toNat []).getD 2 (0:Int)) ud then xab (xa5 8 ((gr y0 1).length+[[(up.getD (gi y0 0).toNat []).getD 1 (0:Int)]].length)) (some (0,[.i (IntKind.i64.wrap (gi y0 0+(1:Int))),.r (gr y0 1++[[(up.getD (gi y0 0).toNat []).getD 1 (0:Int)]])])) else some (0,[.i (IntKind.i64.wrap (gi y0 0+(1:Int))),.r (gr y0 1)])))))) else some (3,[.i (gi y0 0),.r (gr y0 1)]))
noncomputable def xcT (ua uc t:Int) (ub ud up:List (List Int)):Nat×List U:=xaf (xdv ua uc t ub ud up) (xgo ua uc t ub ud up)
noncomputable def xlO (ua uc t:Int) (ub ud up:List (List Int)):List (List Int) :=
 bif !xac ua ub||!xac uc ud||!xaH up||!xaB t||ua !=(0:Int)||uc==(0:Int) then []
else List.take (xgs (xbD (gr (xcT ua uc t ub ud up).snd 1))).toNat (xeI (xbD (gr (xcT ua uc t ub ud up).snd 1)))
noncomputable def xbf (ua uc t:Int) (ub ud up:List (List Int)):List (List Int) :=
 (xlO ua uc t ub ud up)
noncomputable def xbn (ua uc t:Int) (ub ud up:List (List Int)):Int :=
 bif !xac ua ub||!xac uc ud||!xaH up||!xaB t||ua !=(0:Int)||uc==(0:Int) then
 (1:Int)
else (0:Int)
def xbv (ua uc t:Int) (ub ud up:List (List Int)):Prop :=
 ((xaJ ua ub)∧((((!xac ua ub)=false)→(xaJ uc ud))∧((((!xac ua ub||!xac uc ud)=false)→(xbQ up))∧(((!xac ua ub||!xac uc ud||!xaH up||!xaB t||ua !=(0:Int)||uc==(0:Int))=false)→(((xav (xdv ua uc t ub ud up) (xgo ua uc t ub ud up)))∧(((gr (xcT ua uc t ub ud up).snd 1).length<4611686018427387904)∧(((0:Int)≤xgs (xbD (gr (xcT ua uc t ub ud up).snd 1)))∧(xgs (xbD (gr (xcT ua uc t ub ud up).snd 1))≤(↑(xeI (xbD (gr (xcT ua uc t ub ud up).snd 1))).length:Int)))))))))
noncomputable def xbg (ue ug uh ui uj:Int) (uf:List (List Int)):Int :=
 (↑((xaF (↑uf.length:Int) none (some (imin ui (↑uf.length:Int)))).snd.snd.toNat -
    loN (xaF (↑uf.length:Int) none (some (imin ui (↑uf.length:Int)))).snd.fst) :
  Int) -
 (1:Int)
noncomputable def xfA (ue ug uh ui uj:Int) (uf:List (List Int)):Int :=
 ui -
 (↑((xaF (↑uf.length:Int) none (some (imin ui (↑uf.length:Int)))).snd.snd.toNat -
    loN (xaF (↑uf.length:Int) none (some (imin ui (↑uf.length:Int)))).snd.fst) :
  Int)
noncomputable def xgZ (ue ug uh ui uj:Int) (uf:List (List Int)):Int :=
 bif
  decide
   ((↑((xaF (↑uf.length:Int) none (some (imin ui (↑uf.length:Int)))).snd.snd.toNat -
       loN (xaF (↑uf.length:Int) none (some (imin ui (↑uf.length:Int)))).snd.fst) :
     Int) >
    (0:Int)) then
 (uf.getD (shI (xaF (↑uf.length:Int) none (some (imin ui (↑uf.length:Int)))).snd.fst (IntKind.i64.wrap ((xbg ue ug uh ui uj uf)))).toNat []).getD 3 (0:Int)
else (0:Int)
noncomputable def xgY (ue ug uh ui uj:Int) (uf:List (List Int)):Int :=
 bif
  decide
   ((↑((xaF (↑uf.length:Int) none (some (imin ui (↑uf.length:Int)))).snd.snd.toNat -
       loN (xaF (↑uf.length:Int) none (some (imin ui (↑uf.length:Int)))).snd.fst) :
     Int) >
    (0:Int)) then
 (uf.getD (shI (xaF (↑uf.length:Int) none (some (imin ui (↑uf.length:Int)))).snd.fst (IntKind.i64.wrap ((xbg ue ug uh ui uj uf)))).toNat []).getD 0 (0:Int)
else (-1:Int)
noncomputable def xlQ (ue ug uh ui uj:Int) (uf:List (List Int)):Int :=
 bif
  !xac ue uf||!xaB uh||ug !=ue||decide (ui<(0:Int))||decide (ui>(200:Int)) ||
   ui==(0:Int)&&uj !=(0:Int) then
 (0:Int)
else bif IntKind.i64.wrap ((xfA ue ug uh ui uj uf))==(0:Int)&&(xgZ ue ug uh ui uj uf) !=uj||decide ((xgY ue ug uh ui uj uf)>uh) then (0:Int) else IntKind.i64.wrap ((xfA ue ug uh ui uj uf))
noncomputable def xb8 (ue ug uh ui uj:Int) (uf:List (List Int)):Int :=
 (xlQ ue ug uh ui uj uf)
noncomputable def xlP (ue ug uh ui uj:Int) (uf:List (List Int)):Int :=
 bif
  !xac ue uf||!xaB uh||ug !=ue||decide (ui<(0:Int))||decide (ui>(200:Int)) ||
   ui==(0:Int)&&uj !=(0:Int) then
 (1:Int)
else bif IntKind.i64.wrap ((xfA ue ug uh ui uj uf))==(0:Int)&&(xgZ ue ug uh ui uj uf) !=uj||decide ((xgY ue ug uh ui uj uf)>uh) then (18:Int) else (0:Int)
noncomputable def xb7 (ue ug uh ui uj:Int) (uf:List (List Int)):Int :=
 (xlP ue ug uh ui uj uf)
def xed (ue ug uh ui uj:Int) (uf:List (List Int)):Prop :=
 ((xaJ ue uf)∧(((!xac ue uf||!xaB uh||ug !=ue||decide (ui<(0:Int))||decide (ui>(200:Int))||ui==(0:Int)&&uj !=(0:Int)) =
 false)→((((0:Int)≤imin ui (↑uf.length:Int))∧(imin ui (↑uf.length:Int)≤(↑uf.length:Int)))∧((decide
  ((↑((xaF (↑uf.length:Int) none (some (imin ui (↑uf.length:Int)))).snd.snd.toNat -
      loN (xaF (↑uf.length:Int) none (some (imin ui (↑uf.length:Int)))).snd.fst) :
    Int) >
   (0:Int)) =
 true)→((((0:Int)≤IntKind.i64.wrap ((xbg ue ug uh ui uj uf)))∧(((↑(loN (xaF (↑uf.length:Int) none (some (imin ui (↑uf.length:Int)))).snd.fst):Int)+IntKind.i64.wrap ((xbg ue ug uh ui uj uf)) <
 (xaF (↑uf.length:Int) none (some (imin ui (↑uf.length:Int)))).snd.snd)∧((xaF (↑uf.length:Int) none (some (imin ui (↑uf.length:Int)))).snd.snd≤(↑uf.length:Int))))∧((inR (shI (xaF (↑uf.length:Int) none (some (imin ui (↑uf.length:Int)))).snd.fst (IntKind.i64.wrap ((xbg ue ug uh ui uj uf)))) uf)∧((inR (shI (xaF (↑uf.length:Int) none (some (imin ui (↑uf.length:Int)))).snd.fst (IntKind.i64.wrap ((xbg ue ug uh ui uj uf)))) uf)∧((((0:Int)≤IntKind.i64.wrap ((xbg ue ug uh ui uj uf)))∧(((↑(loN (xaF (↑uf.length:Int) none (some (imin ui (↑uf.length:Int)))).snd.fst):Int)+IntKind.i64.wrap ((xbg ue ug uh ui uj uf)) <
 (xaF (↑uf.length:Int) none (some (imin ui (↑uf.length:Int)))).snd.snd)∧((xaF (↑uf.length:Int) none (some (imin ui (↑uf.length:Int)))).snd.snd≤(↑uf.length:Int))))∧((inR (shI (xaF (↑uf.length:Int) none (some (imin ui (↑uf.length:Int)))).snd.fst (IntKind.i64.wrap ((xbg ue ug uh ui uj uf)))) uf)∧(inR (shI (xaF (↑uf.length:Int) none (some (imin ui (↑uf.length:Int)))).snd.fst (IntKind.i64.wrap ((xbg ue ug uh ui uj uf)))) uf))))))))))
noncomputable def xoc (ue t uu n:Int) (uf:List (List Int)):List (List Int) :=
 bif uu==(4:Int)&&!xaN ue (10000000:Int) uf then [] else []++uf++[[t,uu,n,xcA ue (xba ue uf) t uu n (0:Int)]]
noncomputable def xob (ue t uu n:Int) (uf:List (List Int)):List (List Int) :=
 bif uu==(5:Int)&&xaN ue (10000000:Int) uf then [] else []++uf++[[t,uu,n,xcA ue (xba ue uf) t uu n (0:Int)]]
noncomputable def xj6 (ue t uu n:Int) (uf:List (List Int)):List (List Int) :=
 bif decide ((↑uf.length:Int)≥(200:Int)) then []
else bif decide (t<xbb ue uf) then [] else bif uu==(4:Int)&&!xaN ue (10000000:Int) uf then (xoc ue t uu n uf) else (xob ue t uu n uf)
noncomputable def xcd (ue t uu n:Int) (uf:List (List Int)):List (List Int) :=
 bif !xac ue uf then bif !xac ue uf then [] else bif !xbH ue uu then [] else (xj6 ue t uu n uf)
else bif !xcp t uu n then [] else bif !xbH ue uu then [] else (xj6 ue t uu n uf)
noncomputable def xj5 (ue t uu n:Int) (uf:List (List Int)):Int :=
 bif uu==(4:Int)&&!xaN ue (10000000:Int) uf then bif uu==(4:Int)&&!xaN ue (10000000:Int) uf then (0:Int) else ue
else bif uu==(5:Int)&&xaN ue (10000000:Int) uf then (0:Int) else ue
noncomputable def xoa (ue t uu n:Int) (uf:List (List Int)):Int :=
 bif !xac ue uf then (0:Int)
else
 bif !xbH ue uu then (0:Int)
 else bif decide ((↑uf.length:Int)≥(200:Int)) then (0:Int) else bif decide (t<xbb ue uf) then (0:Int) else (xj5 ue t uu n uf)
noncomputable def xn9 (ue t uu n:Int) (uf:List (List Int)):Int :=
 bif !xcp t uu n then (0:Int)
else
 bif !xbH ue uu then (0:Int)
 else bif decide ((↑uf.length:Int)≥(200:Int)) then (0:Int) else bif decide (t<xbb ue uf) then (0:Int) else (xj5 ue t uu n uf)
noncomputable def xcc (ue t uu n:Int) (uf:List (List Int)):Int :=
 bif !xac ue uf then (xoa ue t uu n uf) else (xn9 ue t uu n uf)
noncomputable def xj4 (ue t uu n:Int) (uf:List (List Int)):Int :=
 bif uu==(4:Int)&&!xaN ue (10000000:Int) uf then bif uu==(4:Int)&&!xaN ue (10000000:Int) uf then (6:Int) else (0:Int)
else bif uu==(5:Int)&&xaN ue (10000000:Int) uf then (6:Int) else (0:Int)
noncomputable def xn8 (ue t uu n:Int) (uf:List (List Int)):Int :=
 bif !xac ue uf then (1:Int)
else
 bif !xbH ue uu then (12:Int)
 else bif decide ((↑uf.length:Int)≥(200:Int)) then (2:Int) else bif decide (t<xbb ue uf) then (13:Int) else (xj4 ue t uu n uf)
noncomputable def xn7 (ue t uu n:Int) (uf:List (List Int)):Int :=
 bif !xcp t uu n then (1:Int)
else
 bif !xbH ue uu then (12:Int)
 else bif decide ((↑uf.length:Int)≥(200:Int)) then (2:Int) else bif decide (t<xbb ue uf) then (13:Int) else (xj4 ue t uu n uf)
noncomputable def xcI (ue t uu n:Int) (uf:List (List Int)):Int :=
 bif !xac ue uf then (xn8 ue t uu n uf) else (xn7 ue t uu n uf)
def xfc (ue t uu n:Int) (uf:List (List Int)):Prop :=
 ((xcb ue uf)∧((xdm ue (10000000:Int) uf)∧((xaJ ue uf)∧((((!xac ue uf)=true)→(((!xac ue uf)=false)→(((!xbH ue uu)=false)→((decide ((↑uf.length:Int)≥(200:Int))=false)→((decide (t<xbb ue uf)=false)→((((uu==(4:Int)&&!xaN ue (10000000:Int) uf)=true)→(((uu==(4:Int)&&!xaN ue (10000000:Int) uf)=false)→((xb5 ue (xba ue uf) t uu n (0:Int))∧((((uf=[])→((True)∧(([]++uf=[])∧(True))))∧(xa5 32 (0+uf.length)))∧(xa5 32 (([]++uf).length+[[t,uu,n,xcA ue (xba ue uf) t uu n (0:Int)]].length))))))∧(((uu==(4:Int)&&!xaN ue (10000000:Int) uf)=false)→(((uu==(5:Int)&&xaN ue (10000000:Int) uf)=false)→((xb5 ue (xba ue uf) t uu n (0:Int))∧((((uf=[])→((True)∧(([]++uf=[])∧(True))))∧(xa5 32 (0+uf.length)))∧(xa5 32 (([]++uf).length+[[t,uu,n,xcA ue (xba ue uf) t uu n (0:Int)]].length))))))))))))∧(((!xac ue uf)=false)→(((!xcp t uu n)=false)→(((!xbH ue uu)=false)→((decide ((↑uf.length:Int)≥(200:Int))=false)→((decide (t<xbb ue uf)=false)→((((uu==(4:Int)&&!xaN ue (10000000:Int) uf)=true)→(((uu==(4:Int)&&!xaN ue (10000000:Int) uf)=false)→((xb5 ue (xba ue uf) t uu n (0:Int))∧((((uf=[])→((True)∧(([]++uf=[])∧(True))))∧(xa5 32 (0+uf.length)))∧(xa5 32 (([]++uf).length+[[t,uu,n,xcA ue (xba ue uf) t uu n (0:Int)]].length))))))∧(((uu==(4:Int)&&!xaN ue (10000000:Int) uf)=false)→(((uu==(5:Int)&&xaN ue (10000000:Int) uf)=false)→((xb5 ue (xba ue uf) t uu n (0:Int))∧((((uf=[])→((True)∧(([]++uf=[])∧(True))))∧(xa5 32 (0+uf.length)))∧(xa5 32 (([]++uf).length+[[t,uu,n,xcA ue (xba ue uf) t uu n (0:Int)]].length))))))))))))))))
end Go.Proofs.YtikhnofbbcmpeaaGreat
set_option maxRecDepth 100000
set_option linter.unusedVariables false
namespace Go.Proofs.YtikhnofbbcmpeaaGreat
open Go Go.Sy
theorem xqN (ue t:Int) (uf:List (List Int)):xam Tryz.prog 1 (xaG Tryz.prog K21 xbt 9 54 [.agg [.int .i64 ue,.sl 0],.int .i64 t] ⟨[⟨0,1,false,.row 29 [.int .i64,.int .i64,.int .i64,.int .u64] uf⟩],1⟩)=some ⟨some (xck ue t uf),[],1,[⟨1,1,true,.row 3 [.int .i64] (xdu ue t uf)⟩],.sl 1⟩:=by kernel_rfl
noncomputable def xkD:List U→Option Eff
 | [.i ue,.i t,.r uf]=>some ⟨some (xck ue t uf),[],1,[⟨1,1,true,.row 3 [.int .i64] (xdu ue t uf)⟩],.sl 1⟩
 | _=>Option.none
noncomputable def K22:Con:=ext Tryz.prog K21 54 [.agg [.int .i64 0,.sl 0],.int .i64 0] [⟨0,0,false,.row 29 [.int .i64,.int .i64,.int .i64,.int .u64] []⟩] xkD
theorem xHW:xaT Tryz.prog K22:=xak xar xHX (n:=9) rfl rfl fun us x h=>by
 unfold xkD at h
 split at h
 ·cases h; exact ⟨some (xck _ _ _),xqN _ _ _,fun h=>h⟩
 ·cases h
theorem xqT (ue t:Int) (uf:List (List Int)):xam Tryz.prog 1 (xaG Tryz.prog K22 xbt 9 17 [.agg [.int .i64 ue,.sl 0],.int .i64 t] ⟨[⟨0,1,false,.row 29 [.int .i64,.int .i64,.int .i64,.int .u64] uf⟩],1⟩)=some ⟨some (xcm ue t uf),[],1,[⟨1,1,true,.row 3 [.int .i64] (xbm ue t uf)⟩],.tup [.sl 1,.int .i64 (xbR ue t uf)]⟩:=by kernel_rfl
noncomputable def xkP:List U→Option Eff
 | [.i ue,.i t,.r uf]=>some ⟨some (xcm ue t uf),[],1,[⟨1,1,true,.row 3 [.int .i64] (xbm ue t uf)⟩],.tup [.sl 1,.int .i64 (xbR ue t uf)]⟩
 | _=>Option.none
noncomputable def K23:Con:=ext Tryz.prog K22 17 [.agg [.int .i64 0,.sl 0],.int .i64 0] [⟨0,0,false,.row 29 [.int .i64,.int .i64,.int .i64,.int .u64] []⟩] xkP
theorem xHV:xaT Tryz.prog K23:=xak xar xHW (n:=9) rfl rfl fun us x h=>by
 unfold xkP at h
 split at h
 ·cases h; exact ⟨some (xcm _ _ _),xqT _ _ _,fun h=>h⟩
 ·cases h
theorem xqU (ua uc t:Int) (ub ud up:List (List Int)):xam Tryz.prog 3 (xaG Tryz.prog K23 xbt 9 16 [.agg [.int .i64 ua,.sl 0],.agg [.int .i64 uc,.sl 1],.sl 2,.int .i64 t] ⟨[⟨0,3,false,.row 29 [.int .i64,.int .i64,.int .i64,.int .u64] ub⟩,⟨1,3,false,.row 29 [.int .i64,.int .i64,.int .i64,.int .u64] ud⟩,⟨2,3,false,.row 41 [.int .i64,.int .i64,.int .i64] up⟩],3⟩)=some ⟨some (xbv ua uc t ub ud up),[],1,[⟨3,3,true,.row 3 [.int .i64] (xbf ua uc t ub ud up)⟩],.tup [.sl 3,.int .i64 (xbn ua uc t ub ud up)]⟩:=by kernel_rfl
noncomputable def xkQ:List U→Option Eff
 | [.i ua,.i uc,.i t,.r ub,.r ud,.r up]=>some ⟨some (xbv ua uc t ub ud up),[],1,[⟨3,3,true,.row 3 [.int .i64] (xbf ua uc t ub ud up)⟩],.tup [.sl 3,.int .i64 (xbn ua uc t ub ud up)]⟩
 | _=>Option.none
noncomputable def K24:Con:=ext Tryz.prog K23 16 [.agg [.int .i64 0,.sl 0],.agg [.int .i64 0,.sl 1],.sl 2,.int .i64 0] [⟨0,0,false,.row 29 [.int .i64,.int .i64,.int .i64,.int .u64] []⟩,⟨1,0,false,.row 29 [.int .i64,.int .i64,.int .i64,.int .u64] []⟩,⟨2,0,false,.row 41 [.int .i64,.int .i64,.int .i64] []⟩] xkQ
theorem xHU:xaT Tryz.prog K24:=xak xar xHV (n:=9) rfl rfl fun us x h=>by
 unfold xkQ at h
 split at h
 ·cases h; exact ⟨some (xbv _ _ _ _ _ _),xqU _ _ _ _ _ _,fun h=>h⟩
 ·cases h
theorem xqV (ue ug uh ui uj:Int) (uf:List (List Int)):xam Tryz.prog 1 (xaG Tryz.prog K24 xbt 9 34 [.agg [.int .i64 ue,.sl 0],.agg [.int .i64 ug,.int .i64 uh,.int .i64 ui,.int .u64 uj]] ⟨[⟨0,1,false,.row 29 [.int .i64,.int .i64,.int .i64,.int .u64] uf⟩],1⟩)=some ⟨some (xed ue ug uh ui uj uf),[],0,[],.tup [.int .i64 (xb8 ue ug uh ui uj uf),.int .i64 (xb7 ue ug uh ui uj uf)]⟩:=by kernel_rfl
noncomputable def xkR:List U→Option Eff
 | [.i ue,.i ug,.i uh,.i ui,.i uj,.r uf]=>some ⟨some (xed ue ug uh ui uj uf),[],0,[],.tup [.int .i64 (xb8 ue ug uh ui uj uf),.int .i64 (xb7 ue ug uh ui uj uf)]⟩
 | _=>Option.none
noncomputable def K25:Con:=ext Tryz.prog K24 34 [.agg [.int .i64 0,.sl 0],.agg [.int .i64 0,.int .i64 0,.int .i64 0,.int .u64 0]] [⟨0,0,false,.row 29 [.int .i64,.int .i64,.int .i64,.int .u64] []⟩] xkR
theorem xHT:xaT Tryz.prog K25:=xak xar xHU (n:=9) rfl rfl fun us x h=>by
 unfold xkR at h
 split at h
 ·cases h; exact ⟨some (xed _ _ _ _ _ _),xqV _ _ _ _ _ _,fun h=>h⟩
 ·cases h
theorem xtD (ue t uu n:Int) (uf:List (List Int)):xam Tryz.prog 1 (xaG Tryz.prog K25 xbt 9 29 [.agg [.int .i64 ue,.sl 0],.int .i64 t,.int .i64 uu,.int .i64 n] ⟨[⟨0,1,false,.row 29 [.int .i64,.int .i64,.int .i64,.int .u64] uf⟩],1⟩)=some ⟨some (xfc ue t uu n uf),[],1,[⟨1,1,true,.row 29 [.int .i64,.int .i64,.int .i64,.int .u64] (xcd ue t uu n uf)⟩],.tup [.agg [.int .i64 (xcc ue t uu n uf),.sl 1],.int .i64 (xcI ue t uu n uf)]⟩:=by kernel_rfl
noncomputable def xmX:List U→Option Eff
 | [.i ue,.i t,.i uu,.i n,.r uf]=>some ⟨some (xfc ue t uu n uf),[],1,[⟨1,1,true,.row 29 [.int .i64,.int .i64,.int .i64,.int .u64] (xcd ue t uu n uf)⟩],.tup [.agg [.int .i64 (xcc ue t uu n uf),.sl 1],.int .i64 (xcI ue t uu n uf)]⟩
 | _=>Option.none
noncomputable def K26:Con:=ext Tryz.prog K25 29 [.agg [.int .i64 0,.sl 0],.int .i64 0,.int .i64 0,.int .i64 0] [⟨0,0,false,.row 29 [.int .i64,.int .i64,.int .i64,.int .u64] []⟩] xmX
theorem xHS:xaT Tryz.prog K26:=xak xar xHT (n:=9) rfl rfl fun us x h=>by
 unfold xmX at h
 split at h
 ·cases h; exact ⟨some (xfc _ _ _ _ _),xtD _ _ _ _ _,fun h=>h⟩
 ·cases h
end Go.Proofs.YtikhnofbbcmpeaaGreat
set_option maxRecDepth 100000
set_option linter.unusedVariables false
namespace Go.Proofs.YtikhnofbbcmpeaaGreat
open Go Go.Sy
noncomputable def xhB (set:Int) (up:List (List Int)):List U :=
 [.i ((0:Int)),.r ([])]
noncomputable def xcH (set:Int) (up:List (List Int)) (y0:List U):Option (Nat×List U) :=
 (bif decide (gi y0 0<(9:Int)) then xab ((0:Int)≤gi y0 0) ((bif bAnd IntKind.i64 (set.fdiv ((2:Int) ^ min (gi y0 0).toNat IntKind.i64.bits)) (1:Int)==(1:Int) then xab (xa5 24 ((gr y0 1).length+[[(2:Int),gi y0 0,(0:Int)]].length)) (some (0,[.i (IntKind.i64.wrap (gi y0 0+(1:Int))),.r (gr y0 1++[[(2:Int),gi y0 0,(0:Int)]])])) else some (0,[.i (IntKind.i64.wrap (gi y0 0+(1:Int))),.r (gr y0 1)]))) else some (3,[.i (gi y0 0),.r (gr y0 1)]))
noncomputable def xlg (set:Int) (up:List (List Int)):Nat×List U:=xaf (xcH set up) (xhB set up)
noncomputable def xpP (set:Int) (up:List (List Int)) (y1:List U):List (List Int) :=
 gr y1 1++[[(3:Int),(up.getD (gi y1 0).toNat []).getD 0 (0:Int),(up.getD (gi y1 0).toNat []).getD 1 (0:Int)]]
noncomputable def xeH (set:Int) (up:List (List Int)):List U :=
 [.i ((0:Int)),.r (gr (xlg set up).snd 1)]
noncomputable def xdE (set:Int) (up:List (List Int)) (y1:List U):Option (Nat×List U) :=
 (bif decide (gi y1 0<(↑up.length:Int)) then xab (inR (gi y1 0) up) (xab (inR (gi y1 0) up) (xab ((((up.getD (gi y1 0).toNat []).getD 3 (0:Int) !=(0:Int))=true)→((0:Int)≤(up.getD (gi y1 0).toNat []).getD 0 (0:Int))) ((bif (up.getD (gi y1 0).toNat []).getD 3 (0:Int) !=(0:Int) &&
 bAnd IntKind.i64 (set.fdiv ((2:Int) ^ min ((up.getD (gi y1 0).toNat []).getD 0 (0:Int)).toNat IntKind.i64.bits)) (1:Int)==(1:Int) then some (0,[.i (IntKind.i64.wrap (gi y1 0+(1:Int))),.r (gr y1 1)]) else (bif (up.getD (gi y1 0).toNat []).getD 2 (0:Int) !=(0:Int) then xab (xa5 24 ((gr y1 1).length+[[(1:Int),(0:Int),(up.getD (gi y1 0).toNat []).getD 1 (0:Int)]].length)) (some (0,[.i (IntKind.i64.wrap (gi y1 0+(1:Int))),.r (gr y1 1++[[(1:Int),(0:Int),(up.getD (gi y1 0).toNat []).getD 1 (0:Int)]])])) else xab (xa5 24 ((gr y1 1).length+[[(3:Int),(up.getD (gi y1 0).toNat []).getD 0 (0:Int),(up.getD (gi y1 0).toNat []).getD 1 (0:Int)]].length)) (some (0,[.i (IntKind.i64.wrap (gi y1 0+(1:Int))),.r ((xpP set up y1))]))))))) else some (4,[.i (gi y1 0),.r (gr y1 1)]))
noncomputable def xat (set:Int) (up:List (List Int)):Nat×List U:=xaf (xdE set up) (xeH set up)
noncomputable def xpO (set:Int) (up:List (List Int)) (y2:List U):Int :=
 ((xa1 3 [0,1,2] (gr (xat set up).snd 1)).getD (IntKind.i64.wrap (gi y2 0-(1:Int))).toNat []).getD 0 (0:Int)
noncomputable def xpN (set:Int) (up:List (List Int)) (y2:List U):Int :=
 ((xa1 3 [0,1,2] (gr (xat set up).snd 1)).getD (IntKind.i64.wrap (gi y2 0-(1:Int))).toNat []).getD 1 (0:Int)
noncomputable def xpM (set:Int) (up:List (List Int)) (y2:List U):Int :=
 ((xa1 3 [0,1,2] (gr (xat set up).snd 1)).getD (IntKind.i64.wrap (gi y2 0-(1:Int))).toNat []).getD 2 (0:Int)
noncomputable def xlf (set:Int) (up:List (List Int)) (y2:List U):Int :=
 (↑((xaF (↑(xa1 3 [0,1,2] (gr (xat set up).snd 1)).length:Int) (some (gi y2 0)) none).snd.snd.toNat -
   loN (xaF (↑(xa1 3 [0,1,2] (gr (xat set up).snd 1)).length:Int) (some (gi y2 0)) none).snd.fst) :
 Int)
noncomputable def xiM (set:Int) (up:List (List Int)) (y2:List U):Int :=
 (↑(loN (xaF (↑(xa1 3 [0,1,2] (gr (xat set up).snd 1)).length:Int) (some (gi y2 0)) none).snd.fst):Int)
noncomputable def xdX (set:Int) (up:List (List Int)) (y2 y3:List U):Int :=
 shI (xaF (↑(xa1 3 [0,1,2] (gr (xat set up).snd 1)).length:Int) (some (gi y2 0)) none).snd.fst (gi y3 1)
noncomputable def xhz (set:Int) (up:List (List Int)) (y2 y3:List U):Int :=
 shI (xaF (↑(xa1 3 [0,1,2] (gr (xat set up).snd 1)).length:Int) (some (gi y2 0)) none).snd.fst
 (IntKind.i64.wrap (gi y3 1-(1:Int)))
noncomputable def xpL (set:Int) (up:List (List Int)) (y2 y3:List U):List Int :=
 [((gr y3 2).getD ((xdX set up y2 y3)).toNat []).getD 0 (0:Int),((gr y3 2).getD ((xdX set up y2 y3)).toNat []).getD 1 (0:Int),
 ((gr y3 2).getD ((xdX set up y2 y3)).toNat []).getD 2 (0:Int)]
noncomputable def xdD (set:Int) (up:List (List Int)) (y2:List U):List U :=
 [.i (gi y2 0),.i ((1:Int)),.r (xa1 3 [0,1,2] (gr (xat set up).snd 1))]
noncomputable def xcF (set:Int) (up:List (List Int)) (y2:List U) (y3:List U):Option (Nat×List U) :=
 (bif decide (gi y3 1<(xlf set up y2)) then xab (((0:Int)≤gi y3 1)∧(((xiM set up y2)+gi y3 1<(xaF (↑(xa1 3 [0,1,2] (gr (xat set up).snd 1)).length:Int) (some (gi y2 0)) none).snd.snd)∧((xaF (↑(xa1 3 [0,1,2] (gr (xat set up).snd 1)).length:Int) (some (gi y2 0)) none).snd.snd≤(↑(gr y3 2).length:Int)))) (xab (inR ((xdX set up y2 y3)) (gr y3 2)) (xab (((0:Int)≤IntKind.i64.wrap (gi y3 1-(1:Int)))∧(((xiM set up y2)+IntKind.i64.wrap (gi y3 1-(1:Int)) <
 (xaF (↑(xa1 3 [0,1,2] (gr (xat set up).snd 1)).length:Int) (some (gi y2 0)) none).snd.snd)∧((xaF (↑(xa1 3 [0,1,2] (gr (xat set up).snd 1)).length:Int) (some (gi y2 0)) none).snd.snd≤(↑(gr y3 2).length:Int)))) (xab (inR ((xhz set up y2 y3)) (gr y3 2)) ((bif !(((gr y3 2).getD ((xdX set up y2 y3)).toNat []).getD 0 (0:Int)==((gr y3 2).getD ((xhz set up y2 y3)).toNat []).getD 0 (0:Int) &&
  (((gr y3 2).getD ((xdX set up y2 y3)).toNat []).getD 1 (0:Int)==((gr y3 2).getD ((xhz set up y2 y3)).toNat []).getD 1 (0:Int) &&
   (((gr y3 2).getD ((xdX set up y2 y3)).toNat []).getD 2 (0:Int)==((gr y3 2).getD ((xhz set up y2 y3)).toNat []).getD 2 (0:Int)&&true))) then xab (((0:Int)≤gi y3 1)∧(((xiM set up y2)+gi y3 1<(xaF (↑(xa1 3 [0,1,2] (gr (xat set up).snd 1)).length:Int) (some (gi y2 0)) none).snd.snd)∧((xaF (↑(xa1 3 [0,1,2] (gr (xat set up).snd 1)).length:Int) (some (gi y2 0)) none).snd.snd≤(↑(gr y3 2).length:Int)))) (xab (inR ((xdX set up y2 y3)) (gr y3 2)) (xab (inR (gi y3 0) (gr y3 2)) (xab (inR (gi y3 0) (gr y3 2)) (some (0,[.i (IntKind.i64.wrap (gi y3 0+(1:Int))),.i (IntKind.i64.wrap (gi y3 1+(1:Int))),.r ((gr y3 2).set (gi y3 0).toNat (xr7 3 ((gr y3 2).getD (gi y3 0).toNat []) 0 ((xpL set up y2 y3))))]))))) else some (0,[.i (gi y3 0),.i (IntKind.i64.wrap (gi y3 1+(1:Int))),.r (gr y3 2)])))))) else some (3,[.i (gi y3 0),.i (gi y3 1),.r (gr y3 2)]))
noncomputable def xax (set:Int) (up:List (List Int)) (y2:List U):Nat×List U:=xaf (xcF set up y2) (xdD set up y2)
noncomputable def xcE (set:Int) (up:List (List Int)) (y2:List U):Int :=
 (some (xaF (↑(gr (xax set up y2).snd 2).length:Int) (some (gi (xax set up y2).snd 0)) none).snd.snd).getD (↑(gr (xax set up y2).snd 2).length:Int)
noncomputable def xn5 (set:Int) (up:List (List Int)) (y2:List U):List (List Int) :=
 List.replicate (((xcE set up y2)).toNat-loN (xaF (↑(gr (xax set up y2).snd 2).length:Int) (some (gi (xax set up y2).snd 0)) none).snd.fst)
 [(0:Int),(0:Int),(0:Int)]
noncomputable def xfJ (set:Int) (up:List (List Int)) (y2:List U):List (List Int) :=
 List.take (loN (xaF (↑(gr (xax set up y2).snd 2).length:Int) (some (gi (xax set up y2).snd 0)) none).snd.fst) (gr (xax set up y2).snd 2) ++
 (xn5 set up y2)
noncomputable def xj3 (set:Int) (up:List (List Int)) (y2:List U):Int :=
 (xaF (↑((xfJ set up y2)++List.drop ((xcE set up y2)).toNat (gr (xax set up y2).snd 2)).length:Int) none (some (gi (xax set up y2).snd 0))).snd.snd
noncomputable def xhA (set:Int) (up:List (List Int)):List U :=
 [.i ((1:Int))]
noncomputable def xcG (set:Int) (up:List (List Int)) (y2:List U):Option (Nat×List U) :=
 (bif decide (gi y2 0<(↑(xa1 3 [0,1,2] (gr (xat set up).snd 1)).length:Int)) then xab (inR (gi y2 0) (xa1 3 [0,1,2] (gr (xat set up).snd 1))) (xab (inR (gi y2 0) (xa1 3 [0,1,2] (gr (xat set up).snd 1))) (xab (inR (IntKind.i64.wrap (gi y2 0-(1:Int))) (xa1 3 [0,1,2] (gr (xat set up).snd 1))) (xab (inR (IntKind.i64.wrap (gi y2 0-(1:Int))) (xa1 3 [0,1,2] (gr (xat set up).snd 1))) ((bif ((xa1 3 [0,1,2] (gr (xat set up).snd 1)).getD (gi y2 0).toNat []).getD 0 (0:Int)==(xpO set up y2) &&
 (((xa1 3 [0,1,2] (gr (xat set up).snd 1)).getD (gi y2 0).toNat []).getD 1 (0:Int)==(xpN set up y2) &&
  (((xa1 3 [0,1,2] (gr (xat set up).snd 1)).getD (gi y2 0).toNat []).getD 2 (0:Int)==(xpM set up y2)&&true)) then xab (((0:Int)≤gi y2 0)∧(gi y2 0≤(↑(xa1 3 [0,1,2] (gr (xat set up).snd 1)).length:Int))) (xab ((xav (xcF set up y2) (xdD set up y2))) (xab (((0:Int)≤gi (xax set up y2).snd 0)∧(gi (xax set up y2).snd 0≤(↑(gr (xax set up y2).snd 2).length:Int))) (xab (((↑(loN (xaF (↑(gr (xax set up y2).snd 2).length:Int) (some (gi (xax set up y2).snd 0)) none).snd.fst):Int)≤(xcE set up y2))∧((xcE set up y2)≤(↑(gr (xax set up y2).snd 2).length:Int))) (xab (((0:Int)≤gi (xax set up y2).snd 0)∧(gi (xax set up y2).snd 0≤(↑((xfJ set up y2)++List.drop ((xcE set up y2)).toNat (gr (xax set up y2).snd 2)).length:Int))) (some (1,[.i ((xj3 set up y2)),.r ((xfJ set up y2)++List.drop ((xcE set up y2)).toNat (gr (xax set up y2).snd 2))])))))) else some (0,[.i (IntKind.i64.wrap (gi y2 0+(1:Int)))])))))) else some (3,[.i (gi y2 0)]))
noncomputable def xbI (set:Int) (up:List (List Int)):Nat×List U:=xaf (xcG set up) (xhA set up)
noncomputable def xn4 (set:Int) (up:List (List Int)):List (List Int) :=
 bif (xbI set up).fst.beq 1 then List.take (gi (xbI set up).snd 0).toNat (gr (xbI set up).snd 1)
else xa1 3 [0,1,2] (gr (xat set up).snd 1)
noncomputable def xn3 (set:Int) (up:List (List Int)):List (List Int) :=
 bif decide ((↑(xa1 3 [0,1,2] (gr (xat set up).snd 1)).length:Int)<(2:Int)) then
 xa1 3 [0,1,2] (gr (xat set up).snd 1)
else (xn4 set up)
noncomputable def xa0 (set:Int) (up:List (List Int)):List (List Int) :=
 (xn3 set up)
def xeS (set:Int) (up:List (List Int)):Prop :=
 (((xav (xcH set up) (xhB set up)))∧(((xav (xdE set up) (xeH set up)))∧(((gr (xat set up).snd 1).length<4611686018427387904)∧((decide ((↑(xa1 3 [0,1,2] (gr (xat set up).snd 1)).length:Int)<(2:Int))=false)→(((xav (xcG set up) (xhA set up)))∧(((xbI set up).fst.beq 1=true)→(((0:Int)≤gi (xbI set up).snd 0)∧(gi (xbI set up).snd 0≤(↑(gr (xbI set up).snd 1).length:Int)))))))))
noncomputable def xfQ (up:List (List Int)):List U :=
 [.i ((0:Int)),.i ((0:Int))]
noncomputable def xbB (up:List (List Int)) (y0:List U):Option (Nat×List U) :=
 (bif decide (gi y0 1<(↑up.length:Int)) then xab (inR (gi y0 1) up) (xab (inR (gi y0 1) up) ((bif (up.getD (gi y0 1).toNat []).getD 3 (0:Int) !=(0:Int) then xab ((0:Int)≤(up.getD (gi y0 1).toNat []).getD 0 (0:Int)) (some (0,[.i (bOr IntKind.i64 (gi y0 0) (bShl IntKind.i64 (1:Int) ((up.getD (gi y0 1).toNat []).getD 0 (0:Int)))),.i (IntKind.i64.wrap (gi y0 1+(1:Int)))])) else some (0,[.i (gi y0 0),.i (IntKind.i64.wrap (gi y0 1+(1:Int)))])))) else some (3,[.i (gi y0 0),.i (gi y0 1)]))
noncomputable def xfa (up:List (List Int)):Nat×List U:=xaf (xbB up) (xfQ up)
noncomputable def xh4 (up:List (List Int)) (y1 y2:List U):Int :=
 xec (((xa0 (gi y1 0) up).getD (gi y2 1).toNat []).getD 0 (0:Int))
 (((xa0 (gi y1 0) up).getD (gi y2 1).toNat []).getD 1 (0:Int)) (((xa0 (gi y1 0) up).getD (gi y2 1).toNat []).getD 2 (0:Int))
 (((gr y1 1).getD (gi y2 1).toNat []).getD 0 (0:Int)) (((gr y1 1).getD (gi y2 1).toNat []).getD 1 (0:Int))
 (((gr y1 1).getD (gi y2 1).toNat []).getD 2 (0:Int))
noncomputable def xcZ (up:List (List Int)) (y1:List U):List U :=
 [.i ((0:Int)),.i ((0:Int))]
noncomputable def xbA (up:List (List Int)) (y1:List U) (y2:List U):Option (Nat×List U) :=
 (bif decide (gi y2 1<(↑(xa0 (gi y1 0) up).length:Int)) then xab (inR (gi y2 1) (xa0 (gi y1 0) up)) (xab (inR (gi y2 1) (xa0 (gi y1 0) up)) ((bif decide (gi y2 1≥(↑(gr y1 1).length:Int)) then some (1,[]) else xab (inR (gi y2 1) (gr y1 1)) (xab (inR (gi y2 1) (gr y1 1)) (xab (xch (((xa0 (gi y1 0) up).getD (gi y2 1).toNat []).getD 0 (0:Int))
 (((xa0 (gi y1 0) up).getD (gi y2 1).toNat []).getD 1 (0:Int)) (((xa0 (gi y1 0) up).getD (gi y2 1).toNat []).getD 2 (0:Int))
 (((gr y1 1).getD (gi y2 1).toNat []).getD 0 (0:Int)) (((gr y1 1).getD (gi y2 1).toNat []).getD 1 (0:Int))
 (((gr y1 1).getD (gi y2 1).toNat []).getD 2 (0:Int))) ((bif (xh4 up y1 y2) !=(0:Int) then some (2,[.i ((xh4 up y1 y2))]) else some (0,[.i (gi y2 0),.i (IntKind.i64.wrap (gi y2 1+(1:Int)))])))))))) else some (4,[.i (gi y2 0),.i (gi y2 1)]))
noncomputable def xbu (up:List (List Int)) (y1:List U):Nat×List U:=xaf (xbA up y1) (xcZ up y1)
noncomputable def xe9 (up:List (List Int)) (y1:List U):Int :=
 bif decide ((↑(xa0 (gi y1 0) up).length:Int)<(↑(gr y1 1).length:Int)) then (-1:Int) else (0:Int)
noncomputable def xel (up:List (List Int)):List U :=
 [.i ((0:Int)),.r (xa0 (0:Int) up)]
noncomputable def xc0 (up:List (List Int)) (y1:List U):Option (Nat×List U) :=
 (bif decide (gi y1 0<IntKind.i64.wrap (gi (xfa up).snd 0+(1:Int))) then (bif bNot IntKind.i64 (gi y1 0) (gi (xfa up).snd 0) !=(0:Int) then some (0,[.i (IntKind.i64.wrap (gi y1 0+(1:Int))),.r (gr y1 1)]) else xab (xeS (gi y1 0) up) (xab ((decide (xal (↑(xa0 (gi y1 0) up).length:Int) (↑(gr y1 1).length:Int)<(0:Int))=false)→(((xal (↑(xa0 (gi y1 0) up).length:Int) (↑(gr y1 1).length:Int)==(0:Int))=true)→((xav (xbA up y1) (xcZ up y1))))) ((bif decide (xal (↑(xa0 (gi y1 0) up).length:Int) (↑(gr y1 1).length:Int)<(0:Int)) ||
 xal (↑(xa0 (gi y1 0) up).length:Int) (↑(gr y1 1).length:Int)==(0:Int) &&
  decide ((bif (xbu up y1).fst.beq 1 then (1:Int) else bif (xbu up y1).fst.beq 2 then gi (xbu up y1).snd 0 else (xe9 up y1))<(0:Int)) then some (0,[.i (IntKind.i64.wrap (gi y1 0+(1:Int))),.r (xa0 (gi y1 0) up)]) else some (0,[.i (IntKind.i64.wrap (gi y1 0+(1:Int))),.r (gr y1 1)]))))) else some (4,[.i (gi y1 0),.r (gr y1 1)]))
noncomputable def xkF (up:List (List Int)):Nat×List U:=xaf (xc0 up) (xel up)
noncomputable def xcQ (up:List (List Int)):List (List Int) :=
 gr (xkF up).snd 1
def xcB (up:List (List Int)):Prop :=
 (((xav (xbB up) (xfQ up)))∧((xeS (0:Int) up)∧((xav (xc0 up) (xel up)))))
end Go.Proofs.YtikhnofbbcmpeaaGreat
set_option maxRecDepth 100000
set_option linter.unusedVariables false
namespace Go.Proofs.YtikhnofbbcmpeaaGreat
open Go Go.Sy
theorem xuL (set:Int) (up:List (List Int)):xam Tryz.prog 1 (xaG Tryz.prog K26 xbt 9 99 [.sl 0,.int .i64 set] ⟨[⟨0,1,false,.row 99 [.int .i64,.int .i64,.bool,.bool] up⟩],1⟩)=some ⟨some (xeS set up),[],1,[⟨1,1,true,.row 80 [.int .i64,.int .i64,.int .i64] (xa0 set up)⟩],.sl 1⟩:=by kernel_rfl
noncomputable def xn6:List U→Option Eff
 | [.i set,.r up]=>some ⟨some (xeS set up),[],1,[⟨1,1,true,.row 80 [.int .i64,.int .i64,.int .i64] (xa0 set up)⟩],.sl 1⟩
 | _=>Option.none
noncomputable def K27:Con:=ext Tryz.prog K26 99 [.sl 0,.int .i64 0] [⟨0,0,false,.row 99 [.int .i64,.int .i64,.bool,.bool] []⟩] xn6
theorem xHR:xaT Tryz.prog K27:=xak xar xHS (n:=9) rfl rfl fun us x h=>by
 unfold xn6 at h
 split at h
 ·cases h; exact ⟨some (xeS _ _),xuL _ _,fun h=>h⟩
 ·cases h
theorem xpK (up:List (List Int)):xam Tryz.prog 1 (xaG Tryz.prog K27 xbt 9 57 [.sl 0] ⟨[⟨0,1,false,.row 99 [.int .i64,.int .i64,.bool,.bool] up⟩],1⟩)=some ⟨some (xcB up),[],1,[⟨1,1,true,.row 80 [.int .i64,.int .i64,.int .i64] (xcQ up)⟩],.sl 1⟩:=by kernel_rfl
noncomputable def xjE:List U→Option Eff
 | [.r up]=>some ⟨some (xcB up),[],1,[⟨1,1,true,.row 80 [.int .i64,.int .i64,.int .i64] (xcQ up)⟩],.sl 1⟩
 | _=>Option.none
noncomputable def K28:Con:=ext Tryz.prog K27 57 [.sl 0] [⟨0,0,false,.row 99 [.int .i64,.int .i64,.bool,.bool] []⟩] xjE
theorem xHQ:xaT Tryz.prog K28:=xak xar xHR (n:=9) rfl rfl fun us x h=>by
 unfold xjE at h
 split at h
 ·cases h; exact ⟨some (xcB _),xpK _,fun h=>h⟩
 ·cases h
end Go.Proofs.YtikhnofbbcmpeaaGreat
set_option maxRecDepth 100000
set_option linter.unusedVariables false
namespace Go.Proofs.YtikhnofbbcmpeaaGreat
open Go Go.Sy
noncomputable def xeZ (v:Int) (s:List (List Int)):List U :=
 [.i ((0:Int)),.i ((0:Int))]
noncomputable def xbi (v:Int) (s:List (List Int)) (y0:List U):Option (Nat×List U) :=
 (bif decide (gi y0 1<(↑s.length:Int)) then xab (inR (gi y0 1) s) (xab (inR (gi y0 1) s) ((bif v==(s.getD (gi y0 1).toNat []).getD 0 (0:Int) then some (1,[.i (gi y0 1)]) else some (0,[.i (gi y0 0),.i (IntKind.i64.wrap (gi y0 1+(1:Int)))])))) else some (3,[.i (gi y0 0),.i (gi y0 1)]))
noncomputable def xgE (v:Int) (s:List (List Int)):Nat×List U:=xaf (xbi v s) (xeZ v s)
noncomputable def xb4 (v:Int) (s:List (List Int)):Bool :=
 decide ((bif (xgE v s).fst.beq 1 then gi (xgE v s).snd 0 else (-1:Int))≥(0:Int))
def xbh (v:Int) (s:List (List Int)):Prop :=
 ((xav (xbi v s) (xeZ v s)))
end Go.Proofs.YtikhnofbbcmpeaaGreat
set_option maxRecDepth 100000
set_option linter.unusedVariables false
namespace Go.Proofs.YtikhnofbbcmpeaaGreat
open Go Go.Sy
theorem xiZ (v:Int) (s:List (List Int)):xam Tryz.prog 1 (xaG Tryz.prog K28 xbt 9 96 [.sl 0,.int .i64 v] ⟨[⟨0,1,false,.row 3 [.int .i64] s⟩],1⟩)=some ⟨some (xbh v s),[],0,[],.bool (xb4 v s)⟩:=by kernel_rfl
noncomputable def xf9:List U→Option Eff
 | [.i v,.r s]=>some ⟨some (xbh v s),[],0,[],.bool (xb4 v s)⟩
 | _=>Option.none
noncomputable def K29:Con:=ext Tryz.prog K28 96 [.sl 0,.int .i64 0] [⟨0,0,false,.row 3 [.int .i64] []⟩] xf9
theorem xgH:xaT Tryz.prog K29:=xak xar xHQ (n:=9) rfl rfl fun us x h=>by
 unfold xf9 at h
 split at h
 ·cases h; exact ⟨some (xbh _ _),xiZ _ _,fun h=>h⟩
 ·cases h
end Go.Proofs.YtikhnofbbcmpeaaGreat
