/- Several texts in one (wip/pack.py): XSySq XSyF XSyH XSyLq XSySo XSyFh XSyHw XSySr XSyHx XShelf XShelfE XTdS XTdLa XTdLbD XTdLb XTdLc. -/
import Derived.ProofKit
import Derived.OpenShut
import Derived.ReadAgain
import Derived.Carry
import Derived.JoinedTies
import Derived.Shelf.Small.Bits
import Derived.Shelf.Sort.Plain
import Derived.Shelf.Slices.In.SortNone
import Derived.Shelf.SlSortCmp.WholeK
import Derived.Shelf.Slices.CompactI
import Derived.Ground.Names2Prog
import Derived.Ground.SlsfProg
import Derived.Test.YthfjhbbpdhjklaaGreatProg
import Derived.Shelf.SlIterI.Nil
import Derived.Ground.GgzProg
import Derived.Test.YthfjhbbpdhjklaaGreatQTT04
set_option linter.unusedVariables false
namespace Go.Sy
open Go.RowKit
section
variable {P:Program} {yld:Nat→List AV→Heap→Tree (AV×Heap)} {q:SeqQ} {w0:World} {X X1 X2:List (Nat×Go.Obj)} {E0:Env} {n0:Nat} {j:Int} {w:World} {Qx:List (Nat×Go.Obj)→Exit→Act→World→Prop}
def RndZ (yld:Nat→List AV→Heap→Tree (AV×Heap)) (q:SeqQ) (w0:World) (E0:Env) (n0:Nat) (Qx:List (Nat×Go.Obj)→Exit→Act→World→Prop) (Z:List (Nat×Go.Obj)→Act→World→Prop) (X1:List (Nat×Go.Obj)) (a:Act) (w:World):Prop :=
 ∃ (c:Cfg) (E:Env),CfgOk X1 E w0 1 c a w∧(∀ k,k<n0→E k=E0 k)∧n0≤c.heap.next∧∀ X2,(xme yld q c).holds (xlI X2 w0 E 1 c (Exit.then (Z X2) (Qx X2)))
def xBa (yld:Nat→List AV→Heap→Tree (AV×Heap)) (q:SeqQ) (w0:World) (E0:Env) (n0:Nat) (Qx:List (Nat×Go.Obj)→Exit→Act→World→Prop) (X1:List (Nat×Go.Obj)) (a:Act) (w:World):Prop :=
 ∀ Z:List (Nat×Go.Obj)→Act→World→Prop,(∀ X1 a w,RndZ yld q w0 E0 n0 Qx Z X1 a w→Z X1 a w)→Z X1 a w
theorem xxj {Z Z':List (Nat×Go.Obj)→Act→World→Prop} (h:∀ X a w,Z X a w→Z' X a w) {a:Act} (hr:RndZ yld q w0 E0 n0 Qx Z X1 a w):RndZ yld q w0 E0 n0 Qx Z' X1 a w:=by
 obtain ⟨c,E,h1,h2,h3,h4⟩:=hr
 refine ⟨c,E,h1,h2,h3,fun X2=>xaV (fun x hx=>?_) (h4 X2)⟩
 intro E' a' w' g1 g2 g3 g4
 have:=hx E' a' w' g1 g2 g3 g4
 revert this
 cases x.1.toExit with
 | normal=>exact h _ _ _
 | _=>exact fun h=>h
theorem xvV {a:Act} (hr:RndZ yld q w0 E0 n0 Qx (xBa yld q w0 E0 n0 Qx) X1 a w):xBa yld q w0 E0 n0 Qx X1 a w:=fun Z hZ =>
 hZ _ _ _ (xxj (fun X a w h=>h Z hZ) hr)
theorem xoB {a:Act} (h:xBa yld q w0 E0 n0 Qx X1 a w):RndZ yld q w0 E0 n0 Qx (xBa yld q w0 E0 n0 Qx) X1 a w :=
 h (fun X a w=>RndZ yld q w0 E0 n0 Qx (xBa yld q w0 E0 n0 Qx) X a w) fun X a w hr=>xxj (fun X a w h=>xvV h) hr
def xjW (j:Int):Act:={ tmps:=#[.int .i64 j],defers:=[] }
def At (yld:Nat→List AV→Heap→Tree (AV×Heap)) (q:SeqQ) (w0:World) (E0:Env) (n0:Nat) (Qx:List (Nat×Go.Obj)→Exit→Act→World→Prop) (X1:List (Nat×Go.Obj)) (j:Int) (w:World):Prop:=xBa yld q w0 E0 n0 Qx X1 (xjW j) w
theorem xz9 {E:Env} {c:Cfg} (h:CfgOk X1 E w0 1 c (xjW j) w):xae X1 E w0 c.heap w∧xaX E c.heap.next 1 [] (xao c.tmps) (xjW j):=by
 obtain ⟨rs,h1,h2,h3,h4⟩:=h
 have:rs=[]:=by
  have h5:([]:List Deferred)=rs.map mark:=h3.defers
  cases rs with
  | nil=>rfl
  | cons r rs=>cases h5
 subst this
 exact ⟨h4,h3⟩
theorem xz8 {E:Env} {c:Cfg} (h:xae X1 E w0 c.heap w) (hs:xaX E c.heap.next 1 [] (xao c.tmps) (xjW j)):CfgOk X1 E w0 1 c (xjW j) w :=
 ⟨[],(fun r hr=>by cases hr),List.nodup_nil,hs,h⟩
theorem At.move {w2:World} (h:At yld q w0 E0 n0 Qx X1 j w) (hm:∀ E H,xae X1 E w0 H w→xae X2 E w0 H w2):At yld q w0 E0 n0 Qx X2 j w2:=by
 obtain ⟨c,E,h1,h2,h3,h4⟩:=xoB h
 obtain ⟨g1,g2⟩:=xz9 h1
 exact xvV ⟨c,E,xz8 (hm _ _ g1) g2,h2,h3,h4⟩
theorem xCD {E:Env} {c:Cfg} (hs:xaX E c.heap.next 1 [] (xao c.tmps) (xjW j)) {j':Int} (h:(c.tmps 0).map AV.weak=some (.int .i64 j')):j'=j:=by
 cases ht:c.tmps 0 with
 | none=>rw [ht] at h; cases h
 | some v =>
  rw [ht] at h
  simp only [Option.map_some,Option.some.injEq] at h
  have:=hs.ok 0
  have e:xao c.tmps 0=.is v:=by simp [xao,ht]
  rw [e] at this
  have h1:(xjW j).tmps.getD 0 undef=v.den E:=this.1
  rw [← xe7,h] at h1
  have h2:Value.int .i64 j=.int .i64 j':=h1
  injection h2 with _ h2
  exact h2.symm
theorem At.ends (h:At yld q w0 E0 n0 Qx X1 j w) (hj:¬ j<(q.L.length:Int)):Qx X1 (.exit 1) (xjW j) w:=by
 obtain ⟨c,E,h1,h2,h3,h4⟩:=xoB h
 obtain ⟨g1,g2⟩:=xz9 h1
 have h5:=h4 X1
 unfold xme xoA at h5
 split at h5
 ·rename_i j' hj'
  have:=xCD g2 hj'
  subst this
  exact (h5.2 (decide_eq_false hj)) E (xjW j') w (fun _ _=>rfl) h1 (Nat.le_refl _) (Old.refl _)
 ·exact h5.elim
theorem xae.later {E:Env} {H:Heap} {w1:World} (h:xae X E w0 H w) (hb:Blw w.heap.size w w1):xae X E w0 H w1:=by
 have hin:∀ o'∈H.objs,∀ g,Inn E w1 o'.key o'.body g→Inn E w o'.key o'.body g:=fun o' ho' g hg=>xgN (h.objs o' ho') rfl (fun g hg=>hb.block g (xiX (h.objs o' ho') hg)) hg
 refine ⟨h.below.trans (hb.mono h.below.size),h.env,fun o' ho'=>(h.objs o' ho').keep rfl (xkn E) (fun g hg=>hb.block g (xiX (h.objs o' ho') hg)) hb.size (fun g hg=>hb.block g (xkZ (h.objs o' ho') hg)),h.high,h.inj,h.uniq,h.lt,fun x hx=>⟨?_,(h.prot x hx).2⟩,
  fun o1 ho1 b hb=>h.deep o1 ho1 b (hin o1 ho1 b hb),fun x hx o1 ho1 hb=>h.protD x hx o1 ho1 (hin o1 ho1 _ hb),fun o1 ho1 b hb=>h.fsh o1 ho1 b (hb.imp id fun h=>⟨h.1,hin o1 ho1 b h.2⟩)⟩
 rw [hb.block x.1 (Array.getElem?_eq_some_iff.1 (h.prot x hx).1).1]
 exact (h.prot x hx).1
theorem At.yield (hyld:xug P yld) (hq:q.key<n0) (h:At yld q w0 E0 n0 Qx X1 j w) (hj:j<(q.L.length:Int)) {v:Value} {w1:World} (hb:Blw w.heap.size w w1)
  (hrow:xa8 w1 true q.e q.ks.length v (q.L.getD j.toNat []).length (rowV q.ks (q.L.getD j.toNat []))) (hv:∀ b,blkO v=some b→w.heap.size≤b) (hone:v.oneCell'=true) :
  ∃ fn tmps assign body,(Instr.yield (blk (E0 q.key)) #[v]).run P w1=.ok (.round (blk (E0 q.key)) fn tmps assign body) w1 ∧
   RoundIn (FR none) 0 P (blk (E0 q.key)) fn tmps assign body w1 fun e w2=>(e=.returned (.bool true)∧At yld q w0 E0 n0 Qx X1 (j+1) w2)∨(e=.returned (.bool false)∧Qx X1 (.exit 0) (xjW j) w2):=by
 obtain ⟨c,E,h1,h2,h3,h4⟩:=xoB h
 obtain ⟨g1,g2⟩:=xz9 h1
 have h5:=h4 X1
 have h6:=g1.later hb
 unfold xme xoA at h5
 split at h5
 case h_2=>exact h5.elim
 rename_i j' hj'
 have:=xCD g2 hj'
 subst this
 have h7:=xbv (h5.1 (decide_eq_true hj))
 let E':Env:=upd E c.heap.next v
 have hE':∀ k,k<c.heap.next→E' k=E k:=fun k hk=>xfb _ _ (by omega)
 have hEn:E' c.heap.next=v:=xeA _ _ _
 have hkey:q.key<c.heap.next:=Nat.lt_of_lt_of_le hq h3
 have hEk:E' q.key=E0 q.key:=by rw [hE' _ hkey,h2 _ hq]
 have h8:xae X1 E' w0 c.heap w1:=h6.envUp hE' (fun k=>by
  by_cases hk:k=c.heap.next
  ·rw [hk,hEn]; exact hone
  ·show (upd E _ _ k).oneCell'=true
   rw [xfb _ _ hk]; exact h6.env k)
 have hlow:∀ o∈c.heap.objs,∀ b,blkO (E' o.key)=some b→b<w.heap.size:=fun o ho b hb=>by
  rw [hE' _ (g1.lt o ho).1] at hb
  exact xiX (g1.objs o ho) hb
 have hilow:∀ o∈c.heap.objs,∀ b,Inn E' w1 o.key o.body b→b<w.heap.size:=fun o ho b hi =>
  xkZ (g1.objs o ho) (xgN (g1.objs o ho) (hE' _ (g1.lt o ho).1) (fun g hg=>hb.block g (xiX (g1.objs o ho) hg)) hi)
 have h9:xae X1 E' w0 ⟨⟨c.heap.next,c.heap.next,true,.row q.e q.ks (q.L.getD j'.toNat [])⟩::c.heap.objs,c.heap.next+1⟩ w1:=by
  refine ⟨h8.below,h8.env,fun o ho=>?_,fun o ho hown b hb=>?_,fun o ho o' ho' hown hne b hb=>?_,fun o ho o' ho' he=>?_,fun o ho=>?_,fun x hx=>⟨(h8.prot x hx).1,fun o ho=>?_⟩,fun o ho b hi o' ho' hown hb'=>?_,fun x hx o ho hi=>?_,fun o ho b hi=>?_⟩
  ·rcases List.mem_cons.1 ho with rfl | ho
   ·show xa8 w1 true q.e q.ks.length (E' c.heap.next) _ _
    rw [hEn]; exact hrow
   ·exact h8.objs o ho
  ·rcases List.mem_cons.1 ho with rfl | ho
   ·rw [hEn] at hb
    exact Nat.le_trans g1.below.size (hv b hb)
   ·exact h8.high o ho hown b hb
  ·rcases List.mem_cons.1 ho with rfl | ho
   ·rcases List.mem_cons.1 ho' with rfl | ho'
    ·exact absurd rfl hne
    ·rw [hEn] at hb
     intro hb'
     have:=hv b hb
     have:=hlow o' ho' b hb'
     omega
   ·rcases List.mem_cons.1 ho' with rfl | ho'
    ·show blkO (E' c.heap.next)≠some b
     rw [hEn]
     intro hb'
     have:=hv b hb'
     have:=hlow o ho b hb
     omega
    ·exact h8.inj o ho o' ho' hown hne b hb
  ·rcases List.mem_cons.1 ho with rfl | ho
   ·rcases List.mem_cons.1 ho' with rfl | ho'
    ·rfl
    ·have:=(g1.lt o' ho').1
     have he:c.heap.next=o'.key:=he
     omega
   ·rcases List.mem_cons.1 ho' with rfl | ho'
    ·have:=(g1.lt o ho).1
     have he:o.key=c.heap.next:=he
     omega
    ·exact h8.uniq o ho o' ho' he
  ·rcases List.mem_cons.1 ho with rfl | ho
   ·exact ⟨Nat.lt_succ_self _,trivial⟩
   ·exact ⟨Nat.lt_succ_of_lt (h8.lt o ho).1,xaY (fun k hk=>Nat.lt_succ_of_lt hk) (h8.lt o ho).2⟩
  ·rcases List.mem_cons.1 ho with rfl | ho
   ·show blkO (E' c.heap.next)≠some x.1
    rw [hEn]
    intro hb'
    have h10:=hv _ hb'
    have h11:x.1<w.heap.size:=(Array.getElem?_eq_some_iff.1 (g1.prot x hx).1).1
    omega
   ·exact (h8.prot x hx).2 o ho
  ·rcases List.mem_cons.1 ho with rfl | ho
   ·exact xcC rfl hi
   ·rcases List.mem_cons.1 ho' with rfl | ho'
    ·have hb':blkO (E' c.heap.next)=some b:=hb'
     rw [hEn] at hb'
     have:=hv b hb'
     have:=hilow o ho b hi
     omega
    ·exact h8.deep o ho b hi o' ho' hown hb'
  ·rcases List.mem_cons.1 ho with rfl | ho
   ·exact xcC rfl hi
   ·exact h8.protD x hx o ho hi
  ·rcases List.mem_cons.1 ho with rfl | ho
   ·exact xmK rfl hi
   ·exact h8.fsh o ho b hi
 suffices hs:(yld q.key [.sl c.heap.next] ⟨⟨c.heap.next,c.heap.next,true,.row q.e q.ks (q.L.getD j'.toNat [])⟩::c.heap.objs,c.heap.next+1⟩).holds fun x=>∀ E2 w2,(∀ k,k<c.heap.next+1→E2 k=E' k)→xae X1 E2 w0 x.2 w2→AV.lt x.2.next x.1→c.heap.next+1≤x.2.next →
   Old ⟨⟨c.heap.next,c.heap.next,true,.row q.e q.ks (q.L.getD j'.toNat [])⟩::c.heap.objs,c.heap.next+1⟩ x.2→(Ending.returned (x.1.den E2)=.returned (.bool true)∧At yld q w0 E0 n0 Qx X1 (j'+1) w2)∨(Ending.returned (x.1.den E2)=.returned (.bool false)∧Qx X1 (.exit 0) (xjW j') w2) by
  obtain ⟨fn,tmps,assign,body,r1,r2⟩:=hyld X1 w0 q.key [.sl c.heap.next] _ E' w1 (fun e w2=>(e=.returned (.bool true)∧At yld q w0 E0 n0 Qx X1 (j'+1) w2)∨(e=.returned (.bool false)∧Qx X1 (.exit 0) (xjW j') w2)) h9 (Nat.lt_succ_of_lt hkey) ⟨Nat.lt_succ_self _,trivial⟩ hs
  rw [hEk] at r1 r2
  have hargs:(AV.denL E' [.sl c.heap.next]).toArray=#[v]:=by
   show #[E' c.heap.next]=#[v]
   rw [hEn]
  rw [hargs] at r1
  exact ⟨fn,tmps,assign,body,r1,r2⟩
 refine xaV (fun y hy=>?_) h7
 obtain ⟨u,H2⟩:=y
 intro E2 w2 k1 k2 k3 k4 k5
 have k4:c.heap.next+1≤H2.next:=k4
 have ag:∀ k,k<c.heap.next→E2 k=E k:=fun k hk=>by rw [k1 k (Nat.lt_succ_of_lt hk)]; exact hE' k hk
 have old:Old c.heap H2:=fun o ho hlt=>by
  rcases List.mem_cons.1 (k5 o ho (Nat.lt_succ_of_lt hlt)) with rfl | h
  ·exact absurd hlt (Nat.lt_irrefl _)
  ·exact h
 have hs2:xaX E2 H2.next 1 [] (xao c.tmps) (xjW j'):=g2.env ag (Nat.le_trans (Nat.le_succ _) k4)
 simp only [] at hy
 split at hy
 ·-- on it goes
  have hs3:xaX E2 H2.next 1 [] (xao (upd c.tmps 0 (some (.int .i64 (j'+1))))) (xjW (j'+1)):=by
   refine ⟨rfl,Nat.le_refl _,fun t=>?_⟩
   by_cases ht:t=0
   ·subst ht
    have e:xao (upd c.tmps 0 (some (.int .i64 (j'+1)))) 0=.is (.int .i64 (j'+1)):=by simp [xao,upd]
    rw [e]
    exact ⟨rfl,trivial⟩
   ·have e:xao (upd c.tmps 0 (some (.int .i64 (j'+1)))) t=xao c.tmps t:=by
     unfold xao; rw [xfb _ _ ht]
    rw [e]
    have:=hs2.ok t
    have ea:∀ i:Int,(xjW i).tmps.getD t undef=undef:=fun i=>by
     unfold xjW
     rw [Array.getD_eq_getD_getElem?,Array.getElem?_eq_none (by simp; omega)]
     rfl
    revert this
    unfold xao
    cases c.tmps t with
    | none=>exact fun _=>trivial
    | some v =>
     intro h
     have h1:(xjW j').tmps.getD t undef=v.den E2∧AV.lt H2.next v:=h
     rw [ea] at h1
     show (xjW (j'+1)).tmps.getD t undef=v.den E2∧AV.lt H2.next v
     rw [ea]
     exact h1
  exact .inl ⟨rfl,hy E2 (xjW (j'+1)) w2 ag (xz8 k2 hs3) (Nat.le_trans (Nat.le_succ _) k4) old⟩
 ·exact .inr ⟨rfl,hy E2 (xjW j') w2 ag (xz8 k2 hs2) (Nat.le_trans (Nat.le_succ _) k4) old⟩
 ·exact hy.elim
theorem xAq (yld:Nat→List AV→Heap→Tree (AV×Heap)) (q:SeqQ) (c:Cfg):(xme yld q c).all (Wr c [0]):=by
 unfold xme xoA
 split
 ·refine ⟨xdv ?_,fun _ t ht=>rfl⟩
  generalize yld q.key _ _=T
  rename_i j' _
  have any:∀ T:Tree (AV×Heap),T.all fun y=>(match y.1 with
    | .val (.bool true)=>Tree.ret (xck.normal,(⟨upd c.tmps 0 (some (.int .i64 (j'+1))),y.2⟩:Cfg))
    | .val (.bool false)=>.ret (.exit 0,⟨c.tmps,y.2⟩)
    | _=>.bad).all (Wr c [0]):=by
   intro T
   induction T with
   | ret y =>
    show Tree.all (match y.1 with | .val (.bool true)=>_ | .val (.bool false)=>_ | _=>_) _
    split
    ·exact fun _ t ht=>xfb _ _ (fun e=>ht (by simp [e]))
    ·exact fun _ t ht=>rfl
    ·trivial
   | br _ _ _ h1 h2=>exact ⟨h1,h2⟩
   | need _ _ h=>exact h
   | ask _ _ _ h1 h2=>exact ⟨h1,h2⟩
   | bad=>trivial
  exact any T
 ·trivial
theorem xDz {H:Heap} {R:Ending→World→Prop} (hH:xae X E0 w0 H w)
  (h:(xBq P yld q H).holds fun x=>∀ E' w',(∀ k,k<H.next→E' k=E0 k)→xae X E' w0 x.2 w'→AV.lt x.2.next x.1→H.next≤x.2.next→Old H x.2→R (.returned (x.1.den E')) w') :
  q.p∧At yld q w0 E0 H.next (fun X2 e _ w'=>∀ Y,X2=Y++X→match e with | .exit 0=>R (.returned (.bool false)) w' | .exit 1=>R (.returned (.bool true)) w' | _=>False) X 0 w:=by
 have h:(Tree.need q.p ((xgP P [] [0] (xme yld q) ⟨xyF 0,H⟩).bind xDL)).holds _:=h
 generalize hG:xgP P [] [0] (xme yld q) ⟨xyF 0,H⟩=G at h
 obtain ⟨hp,h⟩:=h
 refine ⟨hp,?_⟩
 have h2:=xbv h
 have hs:xaX E0 H.next 1 [] (xao (xyF 0)) (xjW 0):=by
  refine ⟨rfl,Nat.le_refl _,fun t=>?_⟩
  cases t with
  | zero =>
   show (xjW 0).tmps.getD 0 undef=Value.int .i64 0∧True
   exact ⟨rfl,trivial⟩
  | succ t=>exact (trivial:True)
 have hc:CfgOk X E0 w0 1 ⟨xyF 0,H⟩ (xjW 0) w:=xz8 (c:=⟨xyF 0,H⟩) (E:=E0) hH hs
 refine xy6 (P:=P) (res:=[]) (wr:=[0]) (wrs:=[0]) (N:=1) (c0:=⟨xyF 0,H⟩) (E0:=E0) (body:=xme yld q) (fun X1 c E a w h1 h2 h3 h4=>xvV ⟨c,E,h1,h2,h3,h4⟩) (xAq yld q) (fun t ht=>ht) hc fun X2=>?_
 rw [hG]
 refine xaV (fun x hx=>?_) h2
 obtain ⟨x,c⟩:=x
 intro E' a' w' hE hc' hle hold Y hY
 subst hY
 obtain ⟨rs,_,_,_,hH'⟩:=hc'
 have hH2:xae X E' w0 c.heap w':=hH'.dropXs.dropXs
 cases x with
 | normal=>exact hx.elim
 | ret=>exact hx.elim
 | exit id =>
  by_cases h0:id=0
  ·subst h0
   have hx:∀ E' w',(∀ k,k<H.next→E' k=E0 k)→xae X E' w0 c.heap w'→True→H.next≤c.heap.next→Old H c.heap→R (.returned (.bool false)) w':=hx
   exact hx E' w' hE hH2 trivial hle hold
  ·by_cases h1:id=1
   ·subst h1
    have hx:∀ E' w',(∀ k,k<H.next→E' k=E0 k)→xae X E' w0 c.heap w'→True→H.next≤c.heap.next→Old H c.heap→R (.returned (.bool true)) w':=hx
    exact hx E' w' hE hH2 trivial hle hold
   ·obtain ⟨n,rfl⟩:∃ n,id=n+2:=⟨id-2,by omega⟩
    exact (show False from hx).elim
end
def xzt (P:Program) (Ξ:xqK):Prop:=∀ f args objs q,Ξ f args objs=some q→xci P f∧∀ yld,xug P yld→∀ (X:List (Nat×Go.Obj)) (w0:World) (H:Heap) (E:Env) (w:World) (R:Ending→World→Prop),H.objs=objs →
 xae X E w0 H w→AV.ltL H.next args →
 (xBq P yld q H).holds (fun x=>∀ E' w',(∀ k,k<H.next→E' k=E k)→xae X E' w0 x.2 w'→AV.lt x.2.next x.1→H.next≤x.2.next→Old H x.2→R (.returned (x.1.den E')) w') →
 Calls P f (AV.denL E args).toArray w R
theorem xav {P:Program}:xzt P xbs:=fun _ _ _ _ h=>by cases h
end Go.Sy
set_option linter.unusedVariables false
namespace Go.Sy
open Go.RowKit
section
variable {P:Program} {Γ:Con} {Ξ:xqK} {X:List (Nat×Go.Obj)} {w0 w:World} {N:Nat} {E:Env} {H:Heap}
theorem xae.filter (h:xae X E w0 H w) (p:Obj→Bool):xae X E w0 { H with objs:=H.objs.filter p } w :=
 h.sub (fun o ho=>(List.mem_filter.1 ho).1) (fun o ho=>h.lt o (List.mem_filter.1 ho).1)
theorem xae.restrict (h:xae X E w0 H w) (next:Nat) (roots:List Nat):xae X E w0 (restrict next roots H) w:=h.filter _
def xoE (tmps:Array Value):ResultVar→Sem Value
 | .tmp t=>pure (tmps.getD t undef)
 | .cell x t=>do loadVar t (← asAddr (tmps.getD x undef))
theorem xqS {c:Cfg} {a:Act} {D:List Deferred} (hS:xaX E c.heap.next N D (xao c.tmps) a) (hH:xae X E w0 c.heap w) {r:ResultVar} {v:AV} (h:xpB P c r=some v) :
  (xoE a.tmps r).run P w=.ok (v.den E) w∧AV.lt c.heap.next v:=by
 have slot:∀ t v,c.tmps t=some v→a.tmps.getD t undef=v.den E∧AV.lt c.heap.next v:=fun t v ht=>by
  have:=hS.ok t
  have e:xao c.tmps t=.is v:=by simp [xao,ht]
  rw [e] at this
  exact this
 cases r with
 | tmp t =>
  obtain ⟨h1,h2⟩:=slot t v h
  exact ⟨by simp [xoE,h1],h2⟩
 | cell x t =>
  simp only [xpB] at h
  split at h
  ·rename_i key off hx
   split at h
   ·rename_i k ver own cs ho
    obtain ⟨h1,h2⟩:=slot _ _ hx
    obtain ⟨hm,hkey⟩:=xan ho
    simp only [] at hkey
    subst hkey
    obtain ⟨b,T,e1,hT⟩:=hH.objs _ hm
    simp only [] at e1
    have hb:blk (E k)=b:=by rw [e1]; rfl
    exact ⟨by simp [xoE,h1,AV.den,hb,asAddr,xqi hT h],xiC h (hH.lt _ hm).2⟩
   ·cases h
  ·cases h
theorem xfL {c:Cfg} {a:Act} {D:List Deferred} (hS:xaX E c.heap.next N D (xao c.tmps) a) (hH:xae X E w0 c.heap w):∀ (rs:List ResultVar) (vs:List AV),xfB P c rs=some vs →
  (rs.mapM (xoE a.tmps)).run P w=.ok (AV.denL E vs) w∧AV.ltL c.heap.next vs
 | [],vs,h=>by cases h; exact ⟨by simp [AV.denL],trivial⟩
 | r::rs,vs,h=>by
  unfold xfB at h
  split at h
  ·rename_i v vs' h1 h2
   cases h
   obtain ⟨e1,l1⟩:=xqS hS hH h1
   obtain ⟨e2,l2⟩:=xfL hS hH rs vs' h2
   refine ⟨?_,l1,l2⟩
   rw [List.mapM_cons]
   simp only [Sem.run_bind,e1,e2,Result.andThen_ok,Sem.run_pure,AV.denL]
  ·cases h
theorem xll {c:Cfg} {a:Act} {D:List Deferred} (hS:xaX E c.heap.next N D (xao c.tmps) a) (hH:xae X E w0 c.heap w) {fn:Func} {vs:List AV} (h:xfB P c fn.results.toList=some vs) :
  (results fn a.tmps).run P w=.ok (if h:(AV.denL E vs).toArray.size=1 then (AV.denL E vs).toArray[0] else .tuple (AV.denL E vs).toArray) w:=by
 have:=(xfL hS hH _ _ h).1
 have e:results fn a.tmps=(do
   let vs ← fn.results.mapM (xoE a.tmps)
   pure (if h:vs.size=1 then vs[0] else .tuple vs)):=by
  unfold results
  congr 2
 rw [e]
 simp only [Sem.run_bind,Array.mapM_eq_mapM_toList,Sem.run_map,this,Result.andThen_ok,Sem.run_pure]
theorem xmE {fn:Func} {tmps:Array Value} {R:Ending→World→Prop}:∀ (rs:List Nat) (w:World),(∀ r∈rs,w0.heap.size≤r∧∀ x∈X,x.1≠r)→rs.Nodup→xae (xml rs X) E w0 H w →
  (∀ w',xae X E w0 H w'→∃ v,(results fn tmps).run P w'=.ok v w'∧R (.returned v) w')→LeavesInM (FR none) 0 P fn tmps R (rs.map mark) .returning w
 | [],w,_,_,hH,hfin=>hfin w hH
 | r::rs,w,hrs,hn,hH,hfin=>by
  have hH':xae ((r,.deferred (some []))::xml rs X) E w0 H w:=hH
  have hp:=(hH'.prot (r,.deferred (some [])) List.mem_cons_self).1
  have hn':=List.nodup_cons.1 hn
  refine ⟨by simp,.inl ⟨r,_,rfl,run_takeDeferred hp,?_⟩⟩
  refine xmE rs _ (fun r' hr'=>hrs r' (List.mem_cons_of_mem _ hr')) hn'.2 (hH'.putX (hrs r List.mem_cons_self).1 (fun x hx=>?_)).dropX hfin
  rcases List.mem_append.1 hx with hx | hx
  ·obtain ⟨r',hr',rfl⟩:=List.mem_map.1 hx
   exact fun e=>hn'.1 (by rw [← show r'=r from e]; exact hr')
  ·exact (hrs r List.mem_cons_self).2 x hx
theorem xgf (hΞ:xzt P Ξ):∀ n,xeV P (xaP P Γ Ξ n)
 | 0=>fun _ _ _ h=>absurd (by simp [xaP]) h
 | n+1=>fun f args H h=>by
  unfold xaP at h
  split at h
  ·rename_i q hq
   exact (hΞ _ _ _ _ hq).1
  split at h
  ·exact absurd rfl h
  ·rename_i fn hf
   split at h
   ·exact absurd rfl h
   ·rename_i code hb
    split at h
    ·rename_i hc
     exact ⟨fn,hf,hc.1,by rw [hb]; rfl⟩
    ·exact absurd rfl h
theorem xzj (hΓ:xaT P Γ) (hΞ:xzt P Ξ) {n:Nat} (hcall:xiD P (xaP P Γ Ξ n)) (hyld:xug P (xqC P Γ Ξ n)):xiD P (xaP P Γ Ξ (n+1)):=by
 intro X w0 f args H E w R hH hargs h
 unfold xaP at h
 split at h
 ·rename_i p key e ks L hq
  exact (hΞ _ _ _ _ hq).2 _ hyld X w0 H E w R rfl hH hargs h
 split at h
 ·exact h.elim
 ·rename_i fn hf
  split at h
  ·exact h.elim
  ·rename_i code hb
   split at h
   ·rename_i hc
    refine xjq.1 (callsIn_of_wp_marks (F:=FR none) (n:=0) hf hb trivial (xbN (rnd:=none) (rb:=false) (X0:=X) (w0:=w0) hΓ hcall (xgf hΞ n) hyld (fun _ e=>by cases e) code ⟨_,H⟩ E _ w _ ⟨[],(fun _ h=>by cases h),List.nodup_nil,⟨rfl,?_,fun t=>?_⟩,hH⟩ (xaV (fun x hx=>?_) (xbv h))))
    ·simp [xaJ]; omega
    ·have hal:=(xdM _ _).1 hargs
     unfold xao
     by_cases ht:t<args.length
     ·have e1:args[t]?=some args[t]:=List.getElem?_eq_getElem ht
      simp only [e1]
      refine ⟨?_,hal _ (List.getElem_mem ht)⟩
      rw [Array.getD_eq_getD_getElem?,Array.getElem?_append_left (by simp [xaJ]; exact ht)]
      simp [xaJ,ht]
     ·have e1:args[t]?=none:=List.getElem?_eq_none (by omega)
      simp only [e1]
      refine ⟨?_,trivial⟩
      rw [Array.getD_eq_getD_getElem?,Array.getElem?_append_right (by simp [xaJ]; omega),Array.getElem?_replicate]
      split<;>rfl
    ·intro E' a' w' hE hc' hle hold
     obtain ⟨e,c⟩:=x
     obtain ⟨rs,hrs1,hrs2,hS,hH'⟩:=hc'
     have hold:Old H c.heap:=hold
     have hle:H.next≤c.heap.next:=hle
     have fin:((match xfB P c fn.results.toList with
       | some [v]=>(match xvU P c.heap.objs c.heap.next v with
        | some x=>xxy [] x.p (.ret (x.v,restrict H.next (AV.keys x.v) (c.heap.eff x)))
        | none=>Tree.ret (v,restrict H.next (AV.keys v) c.heap))
       | some vs=>Tree.ret (AV.tup vs,restrict H.next (AV.keysL vs) c.heap)
       | none=>Tree.bad).holds fun x=>∀ (E':Env) (w':World),(∀ k,k<H.next→E' k=E k)→xae X E' w0 x.2 w'→AV.lt x.2.next x.1→H.next≤x.2.next→Old H x.2→R (.returned (x.1.den E')) w') →
       LeavesInM (FR none) 0 P fn a'.tmps R a'.defers .returning w':=by
      intro h
      rw [hS.defers]
      refine xmE rs w' hrs1 hrs2 hH' fun w'' hH2=>?_
      have holdr:∀ roots,Old H (restrict H.next roots c.heap):=fun roots o ho hv=>hold o (List.mem_filter.1 ho).1 hv
      split at h
      ·rename_i v hv
       refine ⟨_,xll hS hH2 hv,?_⟩
       split at h
       ·rename_i x hx
        have hH2:xae X E' w0 c.heap w'':=hH2
        have hle:H.next≤c.heap.next:=hle
        obtain ⟨hn,h⟩:=xn9 h
        obtain ⟨f1,f2,f3⟩:=xvT (w:=w'') hH2 (fun o ho=>Nat.ne_of_lt (hH2.lt o ho).1) hx
        obtain ⟨E2,g1,g2⟩:=f3 (by
         unfold Eff.holds
         cases hp:x.p with
         | none=>trivial
         | some p=>exact hn p hp)
        have hH3:=hH2.effAt f1 g1 (fun o ho=>⟨.inl (hH2.lt o ho).1,xaY (fun k hk=>.inl hk) (hH2.lt o ho).2⟩) (n':=c.heap.next+x.nk) (Nat.le_add_right _ _) (Nat.le_refl _)
        have hE:∀ k,k<H.next→E' k=E k:=hE
        have f4:∀ o∈x.add,c.heap.next≤o.ver:=f1.ver
        have hold:Old H c.heap:=hold
        have:=h E2 w'' (fun k hk=>(g1.agree k (.inl (Nat.lt_of_lt_of_le hk hle))).trans (hE k hk)) (xae.restrict (H:=c.heap.eff x) hH3 _ _) (xeT (fun k hk=>(hk.elim (fun h=>Nat.lt_of_lt_of_le h (Nat.le_add_right _ _)) (fun h=>h):k<c.heap.next+x.nk)) _ f1.val) (Nat.le_trans hle (Nat.le_add_right _ _)) (fun o ho hv=>by
         refine hold o ?_ hv
         have ho:=(List.mem_filter.1 ho).1
         rcases List.mem_append.1 ho with ho | ho
         ·have:=f4 o ho
          omega
         ·exact (List.mem_filter.1 ho).1)
        rw [g2] at this
        simpa [AV.denL] using this
       ·have:=h E' w'' hE (hH2.restrict _ _) ((xfL hS hH2 _ _ hv).2.1) hle (holdr _)
        simpa [AV.denL] using this
      ·rename_i vs hne hv
       refine ⟨_,xll hS hH2 hv,?_⟩
       have:=h E' w'' hE (hH2.restrict _ _) ((xfL hS hH2 _ _ hv).2) hle (holdr _)
       have hlen:¬ (AV.denL E' vs).toArray.size=1:=by
        intro hl
        have hl:vs.length=1:=by simpa [xaJ] using hl
        match vs,hl with
        | [v],_=>exact hne v rfl
       rw [dif_neg hlen]
       simpa [AV.den] using this
      ·exact h.elim
     cases e with
     | exit id=>exact hx.elim
     | normal=>exact fin hx
     | ret=>exact fin hx
   ·exact h.elim
theorem xEg (hΓ:xaT P Γ) (hΞ:xzt P Ξ):∀ n,xiD P (xaP P Γ Ξ n)∧xug P (xqC P Γ Ξ n)
 | 0=>⟨fun _ _ _ _ _ _ _ _ _ _ h=>(by simp [xaP] at h; exact h.elim),fun _ _ _ _ _ _ _ _ _ _ _ h=>(by simp [xqC] at h; exact h.elim)⟩
 | n+1=>by
  obtain ⟨h1,h2⟩:=xEg hΓ hΞ n
  refine ⟨xzj hΓ hΞ h1 h2,?_⟩
  have:=xtF hΓ h1 (xgf hΞ n) h2
  intro X w0 key args H E w R hH hk ha h
  unfold xqC at h
  exact this X w0 key args H E w R hH hk ha h
theorem xph (hΓ:xaT P Γ) (hΞ:xzt P Ξ) (n:Nat):xiD P (xaP P Γ Ξ n):=(xEg hΓ hΞ n).1
def xjT (asg:List AV) (os:List Obj):Spec:=⟨asg.zipIdx.map fun x=>(x.2,x.1),os,[],os.length,[]⟩
def ext (P:Program) (Γ:Con) (F:FuncId) (asg:List AV) (os:List Obj) (eff:List U→Option Eff):Con:=fun f args objs =>
 if Nat.beq f F then
  if Nat.beq args.length asg.length&&Nat.beq objs.length os.length then
   match (xjT asg os).match_ P [] 1 ⟨fun t=>args[t]?,⟨frozen objs,objs.length⟩⟩ with
   | some us=>eff us
   | none=>none
  else none
 else Γ f args objs
theorem xwC (us:List U):∀ (asg:List AV) (i j:Nat),xbj us ((asg.zipIdx i).map fun x=>(x.2,x.1)) j=(((xcO us asg j).1.zipIdx i).map fun x=>(x.2,x.1),(xcO us asg j).2)
 | [],_,_=>rfl
 | a::r,i,j=>by
  have ih:=xwC us r (i+1) (xfJ us a j).2
  have e1:xbj us (((a::r).zipIdx i).map fun x=>(x.2,x.1)) j=((i,(xfJ us a j).1)::(xbj us ((r.zipIdx (i+1)).map fun x=>(x.2,x.1)) (xfJ us a j).2).1,(xbj us ((r.zipIdx (i+1)).map fun x=>(x.2,x.1)) (xfJ us a j).2).2):=rfl
  have e2:xcO us (a::r) j=((xfJ us a j).1::(xcO us r (xfJ us a j).2).1,(xcO us r (xfJ us a j).2).2):=rfl
  rw [e1,ih,e2]
  rfl
theorem xiw (us:List U):∀ (asg:List AV) (j:Nat),(xcO us asg j).1.length=asg.length
 | [],_=>rfl
 | a::r,j=>by
  show ((xfJ us a j).1::(xcO us r (xfJ us a j).2).1).length=_
  simp [xiw us r]
theorem xpM:∀ (l:List AV) (i t:Nat),xft (i+t) ((l.zipIdx i).map fun x=>(x.2,x.1))=l[t]?
 | [],_,_=>rfl
 | a::r,i,0=>by
  show (if Nat.beq (i+0) i then some a else _)=_
  rw [Nat.add_zero,xdh]; rfl
 | a::r,i,t+1=>by
  show (if Nat.beq (i+(t+1)) i then some a else xft (i+(t+1)) ((r.zipIdx (i+1)).map fun x=>(x.2,x.1)))=_
  rw [xgb (by omega),show i+(t+1)=i+1+t by omega,xpM r (i+1) t]
  simp
mutual
theorem xAN (us:List U):∀ (v:AV) (j:Nat),AV.keys (xfJ us v j).1=AV.keys v
 | .bool _,_=>rfl
 | .int _ _,_=>rfl
 | .fn f a b,j=>by
  show AV.keysL (xcO us a j).1++AV.keysL (xcO us b (xcO us a j).2).1=AV.keysL a++AV.keysL b
  rw [xjj us a,xjj us b]
 | .agg cs,j=>xjj us cs j
 | .tup cs,j=>xjj us cs j
 | .ptr _ _,_=>rfl
 | .val _,_=>rfl
 | .sl _,_=>rfl
 | .ix _ _ _ _ _,_=>rfl
 | .vw _ _ none _,_=>rfl
 | .vw _ _ (some _) _,_=>rfl
 | .yl _,_=>rfl
 | .fs _ _,_=>rfl
 | .ifc _ _,_=>rfl
theorem xjj (us:List U):∀ (l:List AV) (j:Nat),AV.keysL (xcO us l j).1=AV.keysL l
 | [],_=>rfl
 | a::r,j=>by
  show AV.keys (xfJ us a j).1++AV.keysL (xcO us r (xfJ us a j).2).1=AV.keys a++AV.keysL r
  rw [xAN us a,xjj us r]
end
theorem xlx (ver:Nat) (us:List U):∀ (os:List Obj) (j:Nat),∀ o∈(xbp ver us os j).1,∃ s∈os,o.key=s.key∧xbt o.body=xbt s.body
 | [],_,o,h=>by cases h
 | s::r,j,o,h=>by
  have e:(xbp ver us (s::r) j).1=⟨s.key,ver,s.own,(xix us s.body j).1⟩::(xbp ver us r (xix us s.body j).2).1:=rfl
  rw [e] at h
  rcases List.mem_cons.1 h with rfl | h
  ·refine ⟨s,by simp,rfl,?_⟩
   show xbt (xix us s.body j).1=_
   cases s.body<;>rfl
  ·obtain ⟨s',h1,h2⟩:=xlx ver us r _ o h
   exact ⟨s',by simp [h1],h2⟩
theorem xqa:∀ l:List Nat,∃ M,∀ k∈l,k<M
 | []=>⟨0,fun k h=>by cases h⟩
 | a::r=>by
  obtain ⟨M,hM⟩:=xqa r
  refine ⟨M+a+1,fun k hk=>?_⟩
  rcases List.mem_cons.1 hk with rfl | hk
  ·omega
  ·have:=hM k hk; omega
theorem xah (hΞ:xzt P Ξ) (hΓ:xaT P Γ) {n:Nat} {F:FuncId} {asg:List AV} {os:List Obj} {eff:List U→Option Eff} (hflat:os.all (fun o=>xbt o.body&&Nat.blt o.key os.length)=true)
  (hargs:(AV.keysL asg).all (fun k=>Nat.blt k os.length)=true)
  (hcol:∀ us x,eff us=some x→∃ p,xai P os.length (xaP P Γ Ξ n F (xcO us asg 0).1 ⟨(xbp os.length us os (xcO us asg 0).2).1,os.length⟩)=some { x with p:=p }∧(x.holds→Eff.holds { x with p:=p })):xaT P (ext P Γ F asg os eff):=by
 intro f args objs x h
 unfold ext at h
 split at h
 case isFalse=>exact hΓ f args objs x h
 rename_i hf
 have hf:f=F:=Nat.eq_of_beq_eq_true hf
 subst hf
 split at h
 case isFalse=>cases h
 rename_i hl
 rw [Bool.and_eq_true] at hl
 have hl1:args.length=asg.length:=Nat.eq_of_beq_eq_true hl.1
 have hl2:objs.length=os.length:=Nat.eq_of_beq_eq_true hl.2
 split at h
 case h_2=>cases h
 rename_i us hm
 obtain ⟨p0,hc,hph⟩:=hcol us x h
 have hfun:xci P f:=xgf hΞ n f (xcO us asg 0).1 _ fun e=>(by rw [e] at hc; cases hc)
 obtain ⟨hwf0,hfit0⟩:=xcS hc
 unfold xzu
 rw [hl2]
 have hwf:xhg os.length x:=⟨hwf0.rm,hwf0.key,hwf0.uniq,hwf0.flat,hwf0.val,hwf0.ver⟩
 have hfit:x.holds→(xaP P Γ Ξ n f (xcO us asg 0).1 ⟨(xbp os.length us os (xcO us asg 0).2).1,os.length⟩).holds (Fits os.length x):=fun hp=>hfit0 (hph hp)
 refine ⟨fun _=>⟨hfun,hwf,fun hp E w hpre=>?_⟩,fun hne=>absurd hwf.rm hne⟩
 obtain ⟨M,hM⟩:=xqa (AV.keysL args++objs.map (fun o=>o.key))
 have hmem:∀ o∈Sy.frozen objs,∃ o'∈objs,o={ o' with own:=false,body:=xAh o'.body }:=fun o ho=>by
  obtain ⟨o',ho',rfl⟩:=List.mem_map.1 ho
  exact ⟨o',ho',rfl⟩
 have hH:xae [] E w ⟨Sy.frozen objs,M⟩ w:=by
  refine ⟨Blw.refl _ _,hpre.env,?_,?_,?_,?_,?_,?_,?_,?_,?_⟩
  ·intro o ho; obtain ⟨o',ho',rfl⟩:=hmem o ho
   have:=(hpre.rows o' ho').1
   obtain ⟨k,v,own,b⟩:=o'
   cases b<;>first | exact this | exact this.2
  ·intro o ho hown; obtain ⟨o',ho',rfl⟩:=hmem o ho; cases hown
  ·intro o ho o2 ho2 hown; obtain ⟨o',ho',rfl⟩:=hmem o ho; cases hown
  ·intro o ho o2 ho2 hk
   obtain ⟨o',ho',rfl⟩:=hmem o ho
   obtain ⟨o2',ho2',rfl⟩:=hmem o2 ho2
   rw [hpre.uniq o' ho' o2' ho2' hk]
  ·intro o ho
   obtain ⟨o',ho',rfl⟩:=hmem o ho
   exact ⟨hM _ (List.mem_append.2 (.inr (List.mem_map.2 ⟨o',ho',rfl⟩))),by
    have:=xgC (p:=fun k=>k<M) (hpre.rows o' ho').2.1
    obtain ⟨k,v,own,b⟩:=o'
    cases b<;>exact this⟩
  ·intro y hy; cases hy
  ·intro o ho b hb o2 ho2 hown; obtain ⟨o',ho',rfl⟩:=hmem o2 ho2; cases hown
  ·intro y hy; cases hy
  ·intro o ho b hb
   obtain ⟨o',ho',rfl⟩:=hmem o ho
   rcases hb with ⟨h1,_⟩ | ⟨⟨h1,_⟩,_⟩
   ·obtain ⟨k,v,own,bd⟩:=o'
    cases bd<;>cases h1
   ·cases h1
 have hS:xaX E M 0 [] (xao fun t=>args[t]?) { tmps:=(AV.denL E args).toArray,defers:=[] }:=by
  refine ⟨rfl,Nat.zero_le _,fun t=>?_⟩
  cases ht:args[t]? with
  | none =>
   have e:xao (fun t=>args[t]?) t=.junk:=by simp [xao,ht]
   rw [e]; trivial
  | some v =>
   have e:xao (fun t=>args[t]?) t=.is v:=by simp [xao,ht]
   rw [e]
   refine ⟨?_,(xdM _ _).1 ((xc3 _).2 fun k hk=>hM k (List.mem_append.2 (.inl hk))) v (List.mem_of_getElem? ht)⟩
   rw [Array.getD_eq_getD_getElem?]
   simp [xaJ,ht]
 have hm':(xjT asg os).match_ P [] 1 ⟨fun t=>args[t]?,⟨Sy.frozen objs,M⟩⟩=some us:=hm
 obtain ⟨E2,g1,g2,g3,g4⟩:=xe2 (wr:=[]) (tm:=fun _=>none) hm' hH hS (fun o ho=>by cases ho) (fun o ho=>by cases ho) (fun t v _ hv=>by cases hv)
 have hz:=xwC us asg 0 0
 have hgs:∀ t v,(xcO us asg 0).1[t]?=some v→((xjT asg os).gen [] [] (fun _=>none) us).tmps t=some v:=by
  intro t v ht
  have e:((xjT asg os).gen [] [] (fun _=>none) us).tmps t=(match xft t (xbj us (asg.zipIdx.map fun x=>(x.2,x.1)) 0).1 with | some v=>some v | none=>if ([]:List Nat).any (Nat.beq t) then none else none):=rfl
  rw [e,hz]
  have:=xpM (xcO us asg 0).1 0 t
  rw [Nat.zero_add] at this
  rw [this,ht]
 have hden:AV.denL E2 (xcO us asg 0).1=AV.denL E args:=by
  apply List.ext_getElem?
  intro t
  rw [xaJ,xaJ,List.getElem?_map,List.getElem?_map]
  cases ht:(xcO us asg 0).1[t]? with
  | none =>
   have h1:=List.getElem?_eq_none_iff.1 ht
   rw [xiw] at h1
   rw [List.getElem?_eq_none (by omega)]
   rfl
  | some v =>
   have h1:=(List.getElem?_eq_some_iff.1 ht).1
   rw [xiw] at h1
   have hpt:=g2.ok t
   have e:xao ((xjT asg os).gen [] [] (fun _=>none) us).tmps t=.is v:=by simp [xao,hgs t v ht]
   rw [e] at hpt
   have h2:args[t]?=some args[t]:=List.getElem?_eq_getElem (by omega)
   rw [h2]
   have h3:=hpt.1
   simp only [Array.getD_eq_getD_getElem?,xaJ] at h3
   simp only [List.getElem?_toArray,List.getElem?_map,h2,Option.map_some,Option.getD_some] at h3
   simp only [Option.map_some,h3]
 have hHc:xae [] E2 w ⟨(xbp os.length us os (xcO us asg 0).2).1,os.length⟩ w:=by
  refine g3.sub (fun o ho=>?_) (fun o ho=>?_)
  ·have e:((xjT asg os).gen [] [] (fun _=>none) us).heap.objs=(xbp os.length us os (xbj us (asg.zipIdx.map fun x=>(x.2,x.1)) 0).2).1++[]++[]:=rfl
   rw [e,hz,List.append_nil,List.append_nil]
   exact ho
  ·obtain ⟨s,h1,h2,h3⟩:=xlx _ _ _ _ o ho
   have h4:=List.all_eq_true.1 hflat s h1
   rw [Bool.and_eq_true] at h4
   exact ⟨by rw [h2]; simpa using h4.2,xgC (by rw [h3]; exact h4.1)⟩
 rw [← hden]
 refine xph hΓ hΞ n [] w f _ _ E2 w _ hHc ((xc3 _).2 fun k hk=>?_) (xaV (fun y hy=>?_) (hfit hp))
 ·rw [xjj] at hk
  simpa using List.all_eq_true.1 hargs k hk
 ·intro E1 w' hE hH' _ _ _
  obtain ⟨E',e1,e2,e3,e4,e5,e6,e7,e8⟩:=hy [] E1 w w' hH'
  exact ⟨E',by rw [e3],fun k hk=>by rw [e1 k hk,hE k hk]; exact g1 k hk,e2,hH'.below,e4,fun o ho b hb=>.inl (e5 o ho b hb),e6,e7,e8⟩
end
end Go.Sy
set_option linter.unusedVariables false
namespace Go.Sy
open Go.ChangeShapes Go.WideShapes Go.ChangeAt Go.RowKit
def xnu:List CK→List Value→Prop
 | [],[]=>True
 | .int k::ks,v::vs=>(∃ n,v=.int k n∧(Lit.int k n).wf=true)∧xnu ks vs
 | .bool::ks,v::vs=>(∃ b,v=.bool b)∧xnu ks vs
 | _,_=>False
theorem xmM:∀ {ks ks':List CK} {l l':List Value},xnu ks l→xnu ks' l'→xnu (ks++ks') (l++l')
 | [],_,[],_,_,h=>h
 | .int _::_,_,_::_,_,h,h'=>⟨h.1,xmM h.2 h'⟩
 | .bool::_,_,_::_,_,h,h'=>⟨h.1,xmM h.2 h'⟩
 | [],_,_::_,_,h,_=>h.elim
 | .int _::_,_,[],_,h,_=>h.elim
 | .bool::_,_,[],_,h,_=>h.elim
section
variable (P:Program)
def xnK:Nat→TypeId→Option (List CK)
 | 0,_=>none
 | n+1,t=>match P.underlying t with
  | some .bool=>some [.bool]
  | some (.int k)=>some [.int k]
  | some (.struct fs)=>match xxM P (xnK n) fs.toList 0 with
   | some ks=>if ks.length=P.cellsOf t then some ks else none
   | none=>none
  | _=>none
inductive FK where
 | cells (ks:List CK)
 | sl (e:TypeId) (ks:List CK)
inductive VK where
 | one (k:CK)
 | agg (ks:List CK)
 | sl (e:TypeId) (ks:List CK)
 | mix (fs:List FK)
 | nst (e:TypeId) (fs:List FK)
def xoe (n:Nat):List Field→Nat→Option (List FK)
 | [],_=>some []
 | f::r,off=>if f.offset=off then (match P.underlying f.type with
   | some (.slice e)=>match xnK P n e with
    | some ks=>if ks.length=P.cellsOf e∧ks≠[]∧P.cellsOf f.type=1 then (match xoe n r (off+1) with | some l=>some (.sl e ks::l) | none=>none) else none
    | none=>none
   | _=>match xnK P n f.type with
    | some ks=>if ks.length=P.cellsOf f.type then (match xoe n r (off+ks.length) with | some l=>some (.cells ks::l) | none=>none) else none
    | none=>none) else none
def FK.size:FK→Nat
 | .cells ks=>ks.length
 | .sl _ _=>1
def xvC (n:Nat) (t:TypeId):Option VK :=
 match P.underlying t with
 | some .bool=>some (.one .bool)
 | some (.int k)=>some (.one (.int k))
 | some (.struct fs)=>match xnK P n t with
  | some ks=>some (.agg ks)
  | none=>match xoe P n fs.toList 0 with
   | some l=>if (l.map FK.size).sum=P.cellsOf t then some (.mix l) else none
   | none=>none
 | some (.slice e)=>match xnK P n e with
  | some ks=>if ks.length=P.cellsOf e∧ks≠[] then some (.sl e ks) else none
  | none=>match P.underlying e with
   | some (.struct fs)=>match xoe P n fs.toList 0 with
    | some l=>if (l.map FK.size).sum=P.cellsOf e∧P.cellsOf e≠0 then some (.nst e l) else none
    | none=>none
   | _=>none
 | _=>none
end
def nksF:List FK→List NK
 | []=>[]
 | .cells ks::r=>ks.map .c++nksF r
 | .sl e ks::r=>.s e ks::nksF r
theorem xn8:∀ l:List FK,(nksF l).length=(l.map FK.size).sum
 | []=>rfl
 | .cells ks::r=>by simp [nksF,FK.size,xn8 r]
 | .sl e ks::r=>by simp [nksF,FK.size,xn8 r]; omega
def elOk:List CK→List Int→Prop
 | [],[]=>True
 | .int k::ks,n::ns=>(Lit.int k n).wf=true∧elOk ks ns
 | .bool::ks,n::ns=>(n=0∨n=1)∧elOk ks ns
 | _,_=>False
theorem xlz:∀ {ks:List CK} {ns:List Int},elOk ks ns→ns.length=ks.length
 | [],[],_=>rfl
 | .int k::ks,n::ns,h=>by simp [xlz h.2]
 | .bool::ks,n::ns,h=>by simp [xlz h.2]
 | [],_::_,h=>h.elim
 | .int _::_,[],h=>h.elim
 | .bool::_,[],h=>h.elim
theorem xrk:∀ {ks:List CK} {cs:List Value} (pre:List Int),xnu ks cs→∃ ns,elOk ks ns∧cs=elV ks pre.length (pre++ns)
 | [],[],pre,_=>⟨[],trivial,rfl⟩
 | .int k::ks,v::vs,pre,h=>by
  obtain ⟨⟨n,rfl,hw⟩,h2⟩:=h
  obtain ⟨ns,h3,h4⟩:=xrk (pre++[n]) h2
  refine ⟨n::ns,⟨hw,h3⟩,?_⟩
  rw [h4]
  simp [elV,CK.val]
 | .bool::ks,v::vs,pre,h=>by
  obtain ⟨⟨b,rfl⟩,h2⟩:=h
  obtain ⟨ns,h3,h4⟩:=xrk (pre++[bif b then 1 else 0]) h2
  refine ⟨(bif b then 1 else 0)::ns,⟨by cases b<;>simp,h3⟩,?_⟩
  rw [h4]
  cases b<;>simp [elV,CK.val]
 | [],_::_,_,h=>h.elim
 | .int _::_,[],_,h=>h.elim
 | .bool::_,[],_,h=>h.elim
def xHS (W:World) (e:TypeId) (ks:List CK) (v:Value):Prop:=∃ l:List (List Int),(∀ el∈l,elOk ks el)∧xa8 W false e ks.length v l.length (rowV ks l)
def xBb (W:World):List FK→List Value→Prop
 | [],cs=>cs=[]
 | .cells ks::r,cs=>xnu ks (cs.take ks.length)∧xBb W r (cs.drop ks.length)
 | .sl e ks::r,cs=>∃ v cs',cs=v::cs'∧xHS W e ks v∧xBb W r cs'
def xtL:List NK→List Int→Prop
 | [],[]=>True
 | .c (.int k)::ks,n::ns=>(Lit.int k n).wf=true∧xtL ks ns
 | .c .bool::ks,n::ns=>(n=0∨n=1)∧xtL ks ns
 | .s _ ks'::ks,n::ns=>(∃ l:List (List Int),n=encL l∧∀ el∈l,elOk ks' el)∧xtL ks ns
 | _,_=>False
def xbz (W:World):VK→Value→Prop
 | .one k,v=>xnu [k] [v]
 | .agg ks,v=>∃ cs,v=.agg cs.toArray∧xnu ks cs
 | .sl e ks,v=>∃ l:List (List Int),(∀ el∈l,elOk ks el)∧xa8 W false e ks.length v l.length (rowV ks l)
 | .mix fs,v=>∃ cs,v=.agg cs.toArray∧xBb W fs cs
 | .nst e fs,v=>∃ l vs,xiO W false e (nksF fs) v l vs∧∀ el∈l,xtL (nksF fs) el
def xnX (w:World):List NK→List Int→List Value→Prop
 | [],[],[]=>True
 | k::ks,n::ns,v::vs=>xfU w k n v∧xnX w ks ns vs
 | _,_,_=>False
theorem xoQ {w:World}:∀ {k1 k2:List NK} {n1 n2:List Int} {v1 v2:List Value},xnX w k1 n1 v1→xnX w k2 n2 v2→xnX w (k1++k2) (n1++n2) (v1++v2)
 | [],_,[],_,[],_,_,h=>h
 | _::_,_,_::_,_,_::_,_,h,h'=>⟨h.1,xoQ h.2 h'⟩
 | [],_,[],_,_::_,_,h,_=>h.elim
 | [],_,_::_,_,_,_,h,_=>h.elim
 | _::_,_,[],_,_,_,h,_=>h.elim
 | _::_,_,_::_,_,[],_,h,_=>h.elim
theorem xki:∀ {k1 k2:List NK} {n1 n2:List Int},xtL k1 n1→xtL k2 n2→xtL (k1++k2) (n1++n2)
 | [],_,[],_,_,h=>h
 | .c (.int k)::_,_,_::_,_,h,h'=>⟨h.1,xki h.2 h'⟩
 | .c .bool::_,_,_::_,_,h,h'=>⟨h.1,xki h.2 h'⟩
 | .s _ _::_,_,_::_,_,h,h'=>⟨h.1,xki h.2 h'⟩
 | [],_,_::_,_,h,_=>h.elim
 | .c (.int k)::_,_,[],_,h,_=>h.elim
 | .c .bool::_,_,[],_,h,_=>h.elim
 | .s _ _::_,_,[],_,h,_=>h.elim
theorem xza:∀ {ks:List CK} {ns:List Int},elOk ks ns→xtL (ks.map .c) ns
 | [],[],_=>trivial
 | .int k::ks,n::ns,h=>⟨h.1,xza h.2⟩
 | .bool::ks,n::ns,h=>⟨h.1,xza h.2⟩
 | [],_::_,h=>h.elim
 | .int _::_,[],h=>h.elim
 | .bool::_,[],h=>h.elim
theorem xzM {w:World}:∀ {ks:List CK} {ns:List Int} (pre:List Int),elOk ks ns→xnX w (ks.map .c) ns (elV ks pre.length (pre++ns))
 | [],[],_,_=>trivial
 | k::ks,n::ns,pre,h=>by
  have h2:elOk ks ns:=by cases k<;>exact h.2
  have ih:=xzM (w:=w) (pre++[n]) h2
  rw [List.append_assoc] at ih
  simp only [List.length_append,List.length_cons,List.length_nil,Nat.zero_add,List.singleton_append] at ih
  refine ⟨?_,ih⟩
  show k.val _=k.val n
  simp
 | [],_::_,_,h=>h.elim
 | .int _::_,[],_,h=>h.elim
 | .bool::_,[],_,h=>h.elim
theorem xwA {W:World}:∀ {fs:List FK} {cs:List Value},xBb W fs cs→∃ ns,xtL (nksF fs) ns∧xnX W (nksF fs) ns cs
 | [],cs,h=>by
  have h:cs=[]:=h
  subst h; exact ⟨[],trivial,trivial⟩
 | .cells ks::r,cs,h=>by
  obtain ⟨n1,h1,h2⟩:=xrk [] h.1
  obtain ⟨n2,h3,h4⟩:=xwA h.2
  refine ⟨n1++n2,xki (xza h1) h3,?_⟩
  rw [← List.take_append_drop ks.length cs,h2]
  exact xoQ (xzM [] h1) h4
 | .sl e ks::r,cs,h=>by
  obtain ⟨v,cs',rfl,⟨l,hl,hr⟩,h2⟩:=h
  obtain ⟨ns,h3,h4⟩:=xwA h2
  refine ⟨encL l::ns,⟨⟨l,rfl,hl⟩,h3⟩,⟨?_,?_⟩,h4⟩
  ·obtain ⟨a,c,h1,_⟩:=hr.reads.is
   rw [h1]; rfl
  ·rw [xtQ]; exact hr
theorem xvd {w:World}:∀ {ks:List NK} {ns:List Int} {vs:List Value},xnX w ks ns vs→ns.length=ks.length∧vs.length=ks.length
 | [],[],[],_=>⟨rfl,rfl⟩
 | k::ks,n::ns,v::vs,h=>by obtain ⟨a,b⟩:=xvd h.2; simp [a,b]
 | [],[],_::_,h=>h.elim
 | [],_::_,_,h=>h.elim
 | _::_,[],_,h=>h.elim
 | _::_,_::_,[],h=>h.elim
theorem xve {w:World}:∀ {ks:List NK} {ns:List Int} {vs:List Value},xnX w ks ns vs→∀ (j:Nat) (k:NK),ks[j]?=some k→∃ u,vs[j]?=some u∧xfU w k (ns.getD j 0) u
 | [],[],[],_,j,k,hk=>by simp at hk
 | k0::ks,n::ns,v::vs,h,0,k,hk=>by
  simp only [List.getElem?_cons_zero,Option.some.injEq] at hk
  subst hk
  exact ⟨v,rfl,h.1⟩
 | k0::ks,n::ns,v::vs,h,j+1,k,hk=>xve h.2 j k (by simpa using hk)
 | [],[],_::_,h,_,_,_=>h.elim
 | [],_::_,_,h,_,_,_=>h.elim
 | _::_,[],_,h,_,_,_=>h.elim
 | _::_,_::_,[],h,_,_,_=>h.elim
theorem xwz {α:Type} {z:Nat}:∀ (L:List (List α)),(∀ x∈L,x.length=z)→∀ i j,i<L.length→j<z→L.flatten[i*z+j]?=(L.getD i [])[j]?
 | [],_,i,j,hi,_=>by cases hi
 | x::L,h,0,j,_,hj=>by
  rw [List.flatten_cons,Nat.zero_mul,Nat.zero_add,List.getElem?_append_left (by rw [h x (by simp)]; exact hj)]; rfl
 | x::L,h,i+1,j,hi,hj=>by
  have hx:=h x (by simp)
  rw [List.flatten_cons,List.getElem?_append_right (by rw [hx,Nat.succ_mul]; omega),hx,show (i+1)*z+j-z=i*z+j by rw [Nat.succ_mul]; omega]
  exact xwz L (fun y hy=>h y (by simp [hy])) i j (by simpa using hi) hj
theorem xlv {α:Type} {z:Nat}:∀ (L:List (List α)),(∀ x∈L,x.length=z)→L.flatten.length=L.length*z
 | [],_=>by simp
 | x::L,h=>by rw [List.flatten_cons,List.length_append,h x (by simp),xlv L (fun y hy=>h y (by simp [hy])),List.length_cons,Nat.succ_mul]; omega
def xfa (W:World):List VK→List Value→Prop
 | [],[]=>True
 | k::ks,v::vs=>xbz W k v∧xfa W ks vs
 | _,_=>False
section
variable {P:Program} {H:Type} {enc:TypeId×Value→H} {w:World} {base:Nat} {spare:Nat→Bool} {held:Bool}
theorem xsf {fuel:Nat} {rec_:TypeId→Option (List CK)} (hrec:∀ t ks cs x,rec_ t=some ks→DataW.trod enc P w base spare held fuel t cs=some x→xnu ks cs) (cs:List Value) :
  ∀ (fs:List Field) (off:Nat) (ks:List CK) (xs:List (DataW H×List MemPlace)),xxM P rec_ fs off=some ks →
   fs.mapM (fun f=>DataW.trod enc P w base spare held fuel f.type ((cs.drop f.offset).take (P.cellsOf f.type)))=some xs→xnu ks ((cs.drop off).take ks.length)
 | [],off,ks,xs,h,_=>by cases h; simp [xnu]
 | f::r,off,ks,xs,h,hm=>by
  unfold xxM at h
  split at h
  ·rename_i hoff
   split at h
   ·rename_i k1 hk1
    split at h
    ·rename_i hlen
     split at h
     ·rename_i k2 hk2
      cases h
      rw [List.mapM_cons] at hm
      simp only [bind,Option.bind_eq_some_iff,pure,Option.some.injEq] at hm
      obtain ⟨x,hx,xs',hxs,_⟩:=hm
      have h1:=hrec _ _ _ _ hk1 hx
      have h2:=xsf hrec cs r _ k2 xs' hk2 hxs
      have:=xmM h1 h2
      rw [hoff,← hlen] at this
      rw [List.length_append,List.take_add,List.drop_drop]
      exact this
     ·cases h
    ·cases h
   ·cases h
  ·cases h
theorem xoZ:∀ (fuel n:Nat) (t:TypeId) (ks:List CK) (cs:List Value) (x:DataW H×List MemPlace),xnK P n t=some ks→DataW.trod enc P w base spare held fuel t cs=some x→xnu ks cs
 | 0,_,_,_,_,_,_,h=>by cases h
 | fuel+1,0,t,ks,cs,x,h,_=>by cases h
 | fuel+1,n+1,t,ks,cs,x,h,hx=>by
  unfold xnK at h
  cases hu:P.underlying t with
  | none=>rw [hu] at h; cases h
  | some d =>
   rw [hu] at h
   cases d with
   | bool =>
    cases h
    obtain ⟨b,hcs,_⟩:=DataW.trod_bool hu hx
    rw [hcs]
    exact ⟨⟨b,rfl⟩,trivial⟩
   | int k =>
    cases h
    obtain ⟨m,hcs,_,hwf⟩:=DataW.trod_int hu hx
    rw [hcs]
    exact ⟨⟨m,rfl,hwf⟩,trivial⟩
   | struct fs =>
    simp only [] at h
    split at h
    ·rename_i ks' hks
     split at h
     ·rename_i hlen
      cases h
      unfold DataW.trod at hx
      rw [hu] at hx
      simp only [] at hx
      split at hx
      ·rename_i hl
       cases hm:fs.toList.mapM (fun f=>DataW.trod enc P w base spare held fuel f.type ((cs.drop f.offset).take (P.cellsOf f.type))) with
       | none=>rw [hm] at hx; cases hx
       | some xs =>
        have:=xsf (fun t ks cs x h1 h2=>xoZ fuel n t ks cs x h1 h2) cs fs.toList 0 ks xs hks hm
        rw [List.drop_zero,hlen,← hl,List.take_length] at this
        exact this
      ·cases hx
     ·cases h
    ·cases h
   | _=>cases h
theorem xlD {base n:Nat} {a:Addr} {cs:List Value} (hn:n≠0) (h:w.cells? base a n=some cs):a.block<w.heap.size:=by
 unfold World.cells? at h
 split at h
 ·obtain ⟨m,rfl⟩:∃ m,n=m+1:=⟨n-1,by omega⟩
  have h2:w.cell? (a.add 0)=cs[0]?:=mapM_some_get h 0 0 (by simp)
  have h3:0<cs.length:=by
   have:cs.length=m+1:=by simpa using mapM_some_length h
   omega
  rw [List.getElem?_eq_getElem h3] at h2
  unfold World.cell? at h2
  rw [xhd] at h2
  cases hb:w.heap[a.block]? with
  | none=>rw [hb] at h2; cases h2
  | some o=>exact (Array.getElem?_eq_some_iff.1 hb).1
 ·cases h
theorem xvk {fuel n:Nat} {t e:TypeId} {ks:List CK} {cs:List Value} {x:DataW H×List MemPlace} (hsp:∀ b,spare b=true) (hu:P.underlying t=some (.slice e)) (hks:xnK P n e=some ks) (hlen:ks.length=P.cellsOf e) (hne:ks≠[]) (h:DataW.trod enc P w base spare held fuel t cs=some x):∃ v,cs=[v]∧xHS w e ks v:=by
 rcases DataW.trod_slice hu h with ⟨h1,_⟩ | ⟨a,len0,cap0,elems,rest,m,hm,h1,_,_,hl,hc,hel,hget,hrest,_⟩
 ·refine ⟨_,h1,?_⟩
  refine ⟨[],(fun _ h=>by cases h),⟨⟨none,0,rfl,Nat.le_refl _,Nat.zero_le _⟩,fun j u hj=>by simp [rowV] at hj,fun b hb=>by cases hb⟩,by simp [rowV],fun h=>by cases h⟩
 ·refine ⟨_,h1,?_⟩
  have cells:∀ i,i<len0→∃ el,elOk ks el∧∀ j u,(elV ks 0 el)[j]?=some u→w.cell? (a.add (i*ks.length+j))=some u:=by
   intro i hi
   have hg:=hget i hi
   have hi':i<elems.length:=by omega
   rw [List.getElem?_eq_getElem hi',Option.bind_eq_some_iff] at hg
   obtain ⟨cs,hcs,htr⟩:=hg
   have hfit:=xoZ m n e ks cs _ hks htr
   obtain ⟨el,h2,h3⟩:=xrk [] hfit
   simp only [List.length_nil,List.nil_append] at h3
   refine ⟨el,h2,fun j u hj=>?_⟩
   rw [← h3] at hj
   unfold World.cells? at hcs
   split at hcs
   ·have hj':j<P.cellsOf e:=by
     have:=(List.getElem?_eq_some_iff.1 hj).1
     have hl2:cs.length=P.cellsOf e:=by simpa using mapM_some_length hcs
     omega
    have:=mapM_some_get hcs j j (by simp [hj'])
    rw [← xlG,hlen,this,hj]
   ·cases hcs
  have build:∀ m,m≤len0→∃ l:List (List Int),l.length=m∧(∀ el∈l,elOk ks el)∧∀ i,i<m→∀ j u,(elV ks 0 (l.getD i []))[j]?=some u→w.cell? (a.add (i*ks.length+j))=some u:=by
   intro m
   induction m with
   | zero=>intro _; exact ⟨[],rfl,(fun _ h=>by cases h),fun i hi=>by omega⟩
   | succ m ih =>
    intro hm
    obtain ⟨l,l1,l2,l3⟩:=ih (by omega)
    obtain ⟨el,e1,e2⟩:=cells m (by omega)
    refine ⟨l++[el],by simp [l1],fun x hx=>?_,fun i hi=>?_⟩
    ·rcases List.mem_append.1 hx with hx | hx
     ·exact l2 x hx
     ·rw [List.mem_singleton.1 hx]; exact e1
    ·by_cases h:i<m
     ·have:(l++[el]).getD i []=l.getD i []:=by simp [List.getD_eq_getElem?_getD,List.getElem?_append_left (show i<l.length by omega)]
      rw [this]; exact l3 i h
     ·have hi:i=m:=by omega
      subst hi
      have:(l++[el]).getD i []=el:=by rw [← l1]; simp [List.getD_eq_getElem?_getD]
      rw [this]; exact e2
  obtain ⟨l,l1,l2,l3⟩:=build len0 (Nat.le_refl _)
  refine ⟨l,l2,⟨⟨some a,cap0,by rw [l1],by rw [l1]; exact hl,hc⟩,fun j u hj=>⟨a,rfl,?_⟩,fun b hb=>?_⟩,xbu ks l,fun h=>by cases h⟩
  ·have hjl:j<(rowV ks l).length:=(List.getElem?_eq_some_iff.1 hj).1
   rw [xbu] at hjl
   have hz:0<ks.length:=by
    rcases Nat.eq_zero_or_pos ks.length with h | h
    ·rw [h,Nat.mul_zero] at hjl; omega
    ·exact h
   have h1:j/ks.length<l.length:=(Nat.div_lt_iff_lt_mul hz).2 hjl
   have h2:j%ks.length<ks.length:=Nat.mod_lt _ hz
   have h3:j/ks.length*ks.length+j%ks.length=j:=by rw [Nat.mul_comm]; exact Nat.div_add_mod j ks.length
   have h4:=xna ks l (j/ks.length) (j%ks.length) h2 h1
   rw [h3,hj] at h4
   have:=l3 (j/ks.length) (by omega) (j%ks.length) u h4.symm
   rwa [h3] at this
  ·simp only [blkO] at hb
   split at hb
   ·cases hb
   ·rename_i hcap
    cases hb
    have hn0:P.cellsOf e≠0:=by rw [← hlen]; exact fun h0=>hne (List.eq_nil_of_length_eq_zero h0)
    by_cases h0:0<len0
    ·have hg:=hget 0 h0
     rw [List.getElem?_eq_getElem (show 0<elems.length by omega),Option.bind_eq_some_iff] at hg
     obtain ⟨cs,hcs,_⟩:=hg
     have:=xlD hn0 hcs
     rwa [xhd] at this
    ·obtain ⟨hr1,hr2⟩:=hrest (hsp _)
     have hg:=hr2 0 (by omega)
     rw [List.getElem?_eq_getElem (show 0<rest.length by omega),Option.bind_eq_some_iff] at hg
     obtain ⟨cs,hcs,_⟩:=hg
     have:=xlD hn0 hcs
     rwa [xhd] at this
theorem xrj {fuel n:Nat} (hsp:∀ b,spare b=true) (cs:List Value):∀ (fs:List Field) (off:Nat) (l:List FK) (xs:List (DataW H×List MemPlace)),xoe P n fs off=some l→off+(l.map FK.size).sum=cs.length →
  fs.mapM (fun f=>DataW.trod enc P w base spare held fuel f.type ((cs.drop f.offset).take (P.cellsOf f.type)))=some xs→xBb w l (cs.drop off)
 | [],off,l,xs,h,hl,_=>by
  cases h
  have hl:off=cs.length:=by simpa using hl
  show cs.drop off=[]
  rw [hl,List.drop_length]
 | f::r,off,l,xs,h,hl,hm=>by
  unfold xoe at h
  split at h
  case isFalse=>cases h
  rename_i hoff
  rw [List.mapM_cons] at hm
  simp only [bind,Option.bind_eq_some_iff,pure,Option.some.injEq] at hm
  obtain ⟨x,hx,xs',hxs,_⟩:=hm
  split at h
  ·rename_i e hu
   split at h
   case h_2=>cases h
   rename_i ks hks
   split at h
   case isFalse=>cases h
   rename_i hc
   split at h
   case h_2=>cases h
   rename_i l' hl'
   cases h
   obtain ⟨v,h1,h2⟩:=xvk hsp hu hks hc.1 hc.2.1 hx
   have ih:=xrj hsp cs r (off+1) l' xs' hl' (by simp [FK.size] at hl; omega) hxs
   refine ⟨v,cs.drop (off+1),?_,h2,ih⟩
   rw [hoff,hc.2.2] at h1
   have hlt:off<cs.length:=by simp [FK.size] at hl; omega
   rw [List.drop_eq_getElem_cons hlt] at h1 ⊢
   simp only [List.take_succ_cons,List.take_zero,List.cons.injEq,and_true] at h1
   rw [h1]
  ·split at h
   case h_2=>cases h
   rename_i ks hks
   split at h
   case isFalse=>cases h
   rename_i hlen
   split at h
   case h_2=>cases h
   rename_i l' hl'
   cases h
   have ih:=xrj hsp cs r (off+ks.length) l' xs' hl' (by simp [FK.size] at hl; omega) hxs
   have h1:=xoZ _ _ _ _ _ _ hks hx
   rw [hoff,← hlen] at h1
   refine ⟨h1,?_⟩
   rw [List.drop_drop]
   exact ih
theorem xxZ {fuel n:Nat} {t e:TypeId} {gs:Array Field} {fs:List FK} {cs:List Value} {x:DataW H×List MemPlace} (hsp:∀ b,spare b=true) (hu:P.underlying t=some (.slice e)) (hg:P.underlying e=some (.struct gs)) (hks:xoe P n gs.toList 0=some fs) (hlen:(fs.map FK.size).sum=P.cellsOf e) (hne:P.cellsOf e≠0) (h:DataW.trod enc P w base spare held fuel t cs=some x):∃ v,cs=[v]∧xbz w (.nst e fs) v:=by
 have hz:(nksF fs).length=P.cellsOf e:=(xn8 fs).trans hlen
 rcases DataW.trod_slice hu h with ⟨h1,_⟩ | ⟨a,len0,cap0,elems,rest,m,hm,h1,_,_,hl,hc,hel,hget,hrest,_⟩
 ·refine ⟨_,h1,[],[],⟨⟨⟨⟨none,0,rfl,Nat.le_refl _,Nat.zero_le _⟩,fun j u hj=>by simp at hj,fun b hb=>by cases hb⟩,by simp,fun h=>by cases h⟩,fun i j k hi=>by cases hi⟩,fun el hel=>by cases hel⟩
 ·refine ⟨_,h1,?_⟩
  have cells:∀ i,i<len0→∃ (el:List Int) (cs:List Value),xtL (nksF fs) el∧xnX w (nksF fs) el cs∧∀ j u,cs[j]?=some u→w.cell? (a.add (i*(nksF fs).length+j))=some u:=by
   intro i hi
   have hg':=hget i hi
   have hi':i<elems.length:=by omega
   rw [List.getElem?_eq_getElem hi',Option.bind_eq_some_iff] at hg'
   obtain ⟨cs,hcs,htr⟩:=hg'
   have hcl:cs.length=P.cellsOf e:=by
    unfold World.cells? at hcs
    split at hcs
    ·simpa using mapM_some_length hcs
    ·cases hcs
   have hfit:xBb w fs cs:=by
    cases m with
    | zero=>cases htr
    | succ m =>
     unfold DataW.trod at htr
     rw [hg] at htr
     simp only [] at htr
     split at htr
     ·obtain ⟨xs,hmm,_⟩:=Option.map_eq_some_iff.1 htr
      have:=xrj hsp cs gs.toList 0 fs xs hks (by rw [Nat.zero_add,hlen,hcl]) hmm
      rwa [List.drop_zero] at this
     ·rename_i hno; exact absurd hcl hno
   obtain ⟨el,h2,h3⟩:=xwA hfit
   refine ⟨el,cs,h2,h3,fun j u hj=>?_⟩
   unfold World.cells? at hcs
   split at hcs
   ·have hj':j<P.cellsOf e:=by
     have:=(List.getElem?_eq_some_iff.1 hj).1
     omega
    have:=mapM_some_get hcs j j (by simp [hj'])
    rw [← xlG,hz,this,hj]
   ·cases hcs
  have build:∀ m,m≤len0→∃ L:List (List Int×List Value),L.length=m∧(∀ y∈L,xtL (nksF fs) y.1∧xnX w (nksF fs) y.1 y.2)∧∀ i,i<m→∀ j u,((L.map (·.2)).getD i [])[j]?=some u→w.cell? (a.add (i*(nksF fs).length+j))=some u:=by
   intro m
   induction m with
   | zero=>intro _; exact ⟨[],rfl,(fun _ h=>by cases h),fun i hi=>by omega⟩
   | succ m ih =>
    intro hm
    obtain ⟨L,l1,l2,l3⟩:=ih (by omega)
    obtain ⟨el,cs,e1,e2,e3⟩:=cells m (by omega)
    refine ⟨L++[(el,cs)],by simp [l1],fun y hy=>?_,fun i hi=>?_⟩
    ·rcases List.mem_append.1 hy with hy | hy
     ·exact l2 y hy
     ·rw [List.mem_singleton.1 hy]; exact ⟨e1,e2⟩
    ·by_cases h:i<m
     ·have:((L++[(el,cs)]).map (·.2)).getD i []=(L.map (·.2)).getD i []:=by simp [List.getD_eq_getElem?_getD,List.getElem?_append_left (show i<(L.map (·.2)).length by simpa [l1] using h)]
      rw [this]; exact l3 i h
     ·have hi:i=m:=by omega
      subst hi
      have:((L++[(el,cs)]).map (·.2)).getD i []=cs:=by rw [← l1]; simp [List.getD_eq_getElem?_getD]
      rw [this]; exact e3
  obtain ⟨L,l1,l2,l3⟩:=build len0 (Nat.le_refl _)
  have hLz:∀ x∈L.map (·.2),x.length=(nksF fs).length:=fun x hx=>by
   obtain ⟨y,hy,rfl⟩:=List.mem_map.1 hx
   exact (xvd (l2 y hy).2).2
  have hvl:(L.map (·.2)).flatten.length=len0*(nksF fs).length:=by rw [xlv _ hLz,List.length_map,l1]
  have hz0:0<(nksF fs).length:=by omega
  refine ⟨L.map (·.1),(L.map (·.2)).flatten,⟨⟨⟨⟨some a,cap0,by rw [List.length_map,l1],by rw [List.length_map,l1]; exact hl,hc⟩,fun j u hj=>⟨a,rfl,?_⟩,fun b hb=>?_⟩,by rw [hvl,List.length_map,l1],fun h=>by cases h⟩,fun i j k hi hk=>?_⟩,fun el hel=>?_⟩
  ·have hjl:=(List.getElem?_eq_some_iff.1 hj).1
   rw [hvl] at hjl
   have h1:j/(nksF fs).length<len0:=(Nat.div_lt_iff_lt_mul hz0).2 hjl
   have h2:j%(nksF fs).length<(nksF fs).length:=Nat.mod_lt _ hz0
   have h3:j/(nksF fs).length*(nksF fs).length+j%(nksF fs).length=j:=by rw [Nat.mul_comm]; exact Nat.div_add_mod j _
   have h4:=xwz _ hLz (j/(nksF fs).length) (j%(nksF fs).length) (by rw [List.length_map,l1]; exact h1) h2
   rw [h3,hj] at h4
   have:=l3 (j/(nksF fs).length) h1 (j%(nksF fs).length) u h4.symm
   rwa [h3] at this
  ·simp only [blkO] at hb
   split at hb
   ·cases hb
   ·rename_i hcap
    cases hb
    by_cases h0:0<len0
    ·have hg:=hget 0 h0
     rw [List.getElem?_eq_getElem (show 0<elems.length by omega),Option.bind_eq_some_iff] at hg
     obtain ⟨cs,hcs,_⟩:=hg
     have:=xlD hne hcs
     rwa [xhd] at this
    ·obtain ⟨hr1,hr2⟩:=hrest (hsp _)
     have hg:=hr2 0 (by omega)
     rw [List.getElem?_eq_getElem (show 0<rest.length by omega),Option.bind_eq_some_iff] at hg
     obtain ⟨cs,hcs,_⟩:=hg
     have:=xlD hne hcs
     rwa [xhd] at this
  ·have hi':i<L.length:=by simpa using hi
   have hj:j<(nksF fs).length:=(List.getElem?_eq_some_iff.1 hk).1
   rw [xwz _ hLz i j (by simpa using hi') hj]
   have e1:(L.map (·.2)).getD i []=L[i].2:=by simp [List.getD_eq_getElem?_getD,List.getElem?_eq_getElem hi']
   have e2:(L.map (·.1)).getD i []=L[i].1:=by simp [List.getD_eq_getElem?_getD,List.getElem?_eq_getElem hi']
   rw [e1,e2]
   exact xve (l2 _ (List.getElem_mem hi')).2 j k hk
  ·obtain ⟨y,hy,rfl⟩:=List.mem_map.1 hel
   exact (l2 y hy).1
theorem xDs {n:Nat} {t:TypeId} {k:VK} {r:Reach} {b0:Nat} {v:Value} {d:DataW H} {p:List MemPlace} (hsp:∀ b,spare b=true) (hk:xvC P n t=some k) (hv:Value.okWide P w r b0 t v) (h:DataW.Trod enc P w base spare held t v d p):xbz w k v:=by
 obtain ⟨fuel,hf⟩:=h
 unfold xvC at hk
 cases hu:P.underlying t with
 | none=>rw [hu] at hk; cases hk
 | some dd =>
  rw [hu] at hk
  cases dd with
  | bool =>
   cases hk
   cases fuel with
   | zero=>cases hf
   | succ fuel =>
    obtain ⟨b,hcs,_⟩:=DataW.trod_bool hu hf
    obtain ⟨x,hx⟩:∃ x,v=.bool x:=okWide_bool hu hv
    exact ⟨⟨x,hx⟩,trivial⟩
  | int k =>
   cases hk
   cases fuel with
   | zero=>cases hf
   | succ fuel =>
    obtain ⟨m,hcs,_,hwf⟩:=DataW.trod_int hu hf
    obtain ⟨x,rfl⟩:∃ x,v=.int k x:=okWide_int hu hv
    simp [Value.cells] at hcs
    subst hcs
    exact ⟨⟨x,rfl,hwf⟩,trivial⟩
  | struct fs =>
   simp only [] at hk
   obtain ⟨cs,rfl,hcs⟩:=okWide_struct hu hv
   cases hks:xnK P n t with
   | none =>
    rw [hks] at hk
    simp only [] at hk
    split at hk
    case h_2=>cases hk
    rename_i l hl
    split at hk
    case isFalse=>cases hk
    rename_i hsum
    cases hk
    refine ⟨cs.toList,by simp,?_⟩
    have hf:DataW.trod enc P w base spare held fuel t cs.toList=some (d,p):=by simpa [Value.cells] using hf
    cases fuel with
    | zero=>cases hf
    | succ fuel =>
     unfold DataW.trod at hf
     rw [hu] at hf
     simp only [] at hf
     split at hf
     ·cases hm:fs.toList.mapM (fun f=>DataW.trod enc P w base spare held fuel f.type ((cs.toList.drop f.offset).take (P.cellsOf f.type))) with
      | none=>rw [hm] at hf; cases hf
      | some xs =>
       have:=xrj hsp cs.toList fs.toList 0 l xs hl (by rw [Nat.zero_add,hsum]; simpa using hcs.symm) hm
       rwa [List.drop_zero] at this
     ·cases hf
   | some ks =>
    rw [hks] at hk
    cases hk
    exact ⟨cs.toList,by simp,xoZ fuel n t ks _ _ hks (by simpa [Value.cells] using hf)⟩
  | slice e =>
   simp only [] at hk
   cases hks:xnK P n e with
   | none =>
    rw [hks] at hk
    simp only [] at hk
    split at hk
    case h_2=>cases hk
    rename_i gs hg
    split at hk
    case h_2=>cases hk
    rename_i l hl
    split at hk
    case isFalse=>cases hk
    rename_i hc
    cases hk
    obtain ⟨v',h1,h2⟩:=xxZ hsp hu hg hl hc.1 hc.2 hf
    obtain ⟨a0,len0,cap0,rfl⟩:=okWide_slice hu hv
    have h1:[Value.slice a0 len0 cap0]=[v']:=h1
    cases h1
    exact h2
   | some ks =>
    rw [hks] at hk
    simp only [] at hk
    split at hk
    ·rename_i hc
     cases hk
     obtain ⟨v',h1,h2⟩:=xvk hsp hu hks hc.1 hc.2 hf
     obtain ⟨a0,len0,cap0,rfl⟩:=okWide_slice hu hv
     have h1:[Value.slice a0 len0 cap0]=[v']:=h1
     cases h1
     exact h2
    ·cases hk
  | _=>cases hk
theorem xzZ {n:Nat} {r:Reach} {b0:Nat} (hsp:∀ b,spare b=true):∀ (ts:List TypeId) (vs:List Value) (ds:List (DataW H)) (ps:List MemPlace) (ks:List VK),ts.mapM (xvC P n)=some ks →
  (∀ (j:Nat) t v,ts[j]?=some t→vs[j]?=some v→Value.okWide P w r b0 t v)→DataW.TrodAll enc P w base spare held ts vs ds ps→xfa w ks vs
 | [],[],[],_,ks,h,_,_=>by simp at h; subst h; trivial
 | t::ts,v::vs,d::ds,ps,ks,h,hv,ha=>by
  rw [List.mapM_cons] at h
  simp only [bind,Option.bind_eq_some_iff,pure,Option.some.injEq] at h
  obtain ⟨k,hk,ks',hks,rfl⟩:=h
  obtain ⟨p,q,h1,h2,_⟩:=ha
  exact ⟨xDs hsp hk (hv 0 t v rfl rfl) h1,xzZ hsp ts vs ds q ks' hks (fun j t v ht hv'=>hv (j+1) t v (by simpa using ht) (by simpa using hv')) h2⟩
 | [],[],_::_,_,_,_,_,h=>h.elim
 | [],_::_,_,_,_,_,_,h=>h.elim
 | _::_,[],_,_,_,_,_,h=>h.elim
 | _::_,_::_,[],_,_,_,_,h=>h.elim
theorem xoo (hl:laidOutB P=true) {W W':World} (hb:Below W.heap.size W W'):∀ (ts:List TypeId) (vs:List Value) (ds:List (DataW H)) (ps:List MemPlace),(ts.all fun t=>P.readableRec t&&decide (t<P.types.size))=true →
  (∀ x∈ps,x.block<W.heap.size)→DataW.TrodAll enc P W 0 (fun _=>true) true ts vs ds ps→DataW.TrodAll enc P W' 0 (fun b=>decide (b<W.heap.size)) true ts vs ds ps
 | [],[],[],_,_,_,h=>h
 | t::ts,v::vs,d::ds,ps,ht,hp,h=>by
  obtain ⟨p,q,h1,h2,rfl⟩:=h
  rw [List.all_cons,Bool.and_eq_true,Bool.and_eq_true] at ht
  exact ⟨p,q,Below.trod hl ht.1.1 (of_decide_eq_true ht.1.2) h1 hb (fun x hx=>hp x (List.mem_append_left _ hx)),xoo hl hb ts vs ds q ht.2 (fun x hx=>hp x (List.mem_append_right _ hx)) h2,rfl⟩
 | [],[],_::_,_,_,_,h=>h.elim
 | [],_::_,_,_,_,_,h=>h.elim
 | _::_,[],_,_,_,_,h=>h.elim
 | _::_,_::_,[],_,_,_,h=>h.elim
theorem xu0 {W:World}:∀ (ts:List TypeId) (vs:List Value) (ds:List (DataW H)) (ps:List MemPlace),DataW.TrodAll enc P W 0 (fun _=>true) true ts vs ds ps→∀ x∈ps,x.block<W.heap.size
 | [],[],[],ps,h,x,hx=>by have h:ps=[]:=h; rw [h] at hx; cases hx
 | t::ts,v::vs,d::ds,ps,h,x,hx=>by
  obtain ⟨p,q,⟨m,hm⟩,h2,rfl⟩:=h
  rcases List.mem_append.1 hx with hx | hx
  ·exact DataW.trod_lt m _ _ _ hm x hx
  ·exact xu0 ts vs ds q h2 x hx
 | [],[],_::_,_,h,_,_=>h.elim
 | [],_::_,_,_,h,_,_=>h.elim
 | _::_,[],_,_,h,_,_=>h.elim
 | _::_,_::_,[],_,h,_,_=>h.elim
end
theorem xxK {C:Checked} {f:FuncId} {fn:Func} {spec:ChangeSpec} {conds:List PathCond} {T:TypeId} {k:Nat} {H:Type} {enc:TypeId×Value→H}
  (hl:laidOutB C.prog=true) (hts:(fn.params.toList.all fun t=>C.prog.readableRec t&&decide (t<C.prog.types.size))=true) (hk:fn.params.toList.length=k) (hres:fn.resultTypes=#[T]) (hT:C.prog.underlying T=some .bool)
  (hvars:spec.vars=[]) (hspec:∀ (H:Type) (ds:List (DataW H)),ds.length=k→spec.fn H ds={ results:=[.lit (.bool true)],args:=ds })
  (hwalk:∀ (W:World) (base:Nat) (args:Array Value) (ds:List (DataW H)) (p:List MemPlace),(∀ (j:Nat) t v,fn.params.toList[j]?=some t→args.toList[j]?=some v→Value.okWide C.prog W .any base t v) →
   DataW.TrodAll enc C.prog W 0 (fun _=>true) true fn.params.toList args.toList ds p→Calls C.prog f args W fun e w'=>e=.returned (.bool true)∧Below W.heap.size W w') :
  ∀ (W:World) (base:Nat) (args:Array Value) (ds gs:List (DataW H)) (before:List MemPlace),
   (∀ (j:Nat) t v,fn.params[j]?=some t→args[j]?=some v→Value.okWide C.prog W .any base t v) →
   DataW.Whole enc C.prog fn.params.toList spec.vars false W args.toList ds gs before →
   conds.all (PathCond.test C.prog ⟨fn.params.toList,ds,spec.plain.varTypes C.prog,gs⟩)=true →
   ({}:Assume).holds C.prog (lone (Frame.enter C.prog f args .normal) [] W) →
   Calls C.prog f args W fun e W'=>∃ v,e=.returned v∧spec.post enc C.prog fn false true false false W args v W':=by
 intro W base args ds gs before hval hW _ _
 have hW':=hW
 rw [hvars] at hW
 obtain ⟨p,q,hA,hV,rfl,hfz,hnd⟩:=hW
 obtain ⟨rfl,rfl⟩:=trodVars_none hV
 have hlen:∀ (ts:List TypeId) (vs:List Value) (ds:List (DataW H)) (p:List MemPlace),DataW.TrodAll enc C.prog W 0 (fun _=>true) true ts vs ds p→ds.length=ts.length:=by
  intro ts
  induction ts with
  | nil=>intro vs ds p h; cases vs<;>cases ds<;>first | rfl | exact h.elim
  | cons t ts ih =>
   intro vs ds p h
   cases vs with
   | nil=>exact h.elim
   | cons v vs =>
    cases ds with
    | nil=>exact h.elim
    | cons d ds =>
     obtain ⟨_,_,_,h2,_⟩:=h
     simp [ih vs ds _ h2]
 refine (hwalk W base args ds p (fun j t v ht hv=>hval j t v (by simpa using ht) (by simpa using hv)) hA).mono fun e W' ⟨he,bel⟩=>?_
 subst he
 have e1:spec.fn H (ds++[])={ results:=[.lit (.bool true)],args:=ds }:=by rw [List.append_nil]; exact hspec H ds (by rw [hlen _ _ _ _ hA,hk])
 refine ⟨_,rfl,ds,[],_,[],p,[],hW',?_,?_,?_,bel.frame _,fun h=>by cases h⟩
 ·rw [e1,hres]
  exact trodAll_mk1 (shut_bool hT _)
 ·rw [e1]
  exact xoo hl bel _ _ _ _ hts (xu0 _ _ _ _ hA) hA
 ·rw [hvars,e1]
  rfl
theorem xB5 {C:Checked} {f:FuncId} {fn:Func} {spec:ChangeSpec} {conds:List PathCond} {T:TypeId} {k:Nat} {H:Type} {enc:TypeId×Value→H} {ks:List VK}
  (hl:laidOutB C.prog=true) (hts:(fn.params.toList.all fun t=>C.prog.readableRec t&&decide (t<C.prog.types.size))=true) (hk:fn.params.toList.length=k) (hres:fn.resultTypes=#[T]) (hT:C.prog.underlying T=some .bool)
  (hvars:spec.vars=[]) (hspec:∀ (H:Type) (ds:List (DataW H)),ds.length=k→spec.fn H ds={ results:=[.lit (.bool true)],args:=ds })
  (hks:fn.params.toList.mapM (xvC C.prog 9)=some ks)
  (hwalk:∀ (W:World) (args:List Value),xfa W ks args→Calls C.prog f args.toArray W fun e w'=>e=.returned (.bool true)∧Below W.heap.size W w') :
  ∀ (W:World) (base:Nat) (args:Array Value) (ds gs:List (DataW H)) (before:List MemPlace),
   (∀ (j:Nat) t v,fn.params[j]?=some t→args[j]?=some v→Value.okWide C.prog W .any base t v) →
   DataW.Whole enc C.prog fn.params.toList spec.vars false W args.toList ds gs before →
   conds.all (PathCond.test C.prog ⟨fn.params.toList,ds,spec.plain.varTypes C.prog,gs⟩)=true →
   ({}:Assume).holds C.prog (lone (Frame.enter C.prog f args .normal) [] W) →
   Calls C.prog f args W fun e W'=>∃ v,e=.returned v∧spec.post enc C.prog fn false true false false W args v W' :=
 xxK hl hts hk hres hT hvars hspec fun W _ args _ _ hval hA=>by
  have:=hwalk W args.toList (xzZ (fun _=>rfl) _ _ _ _ _ hks hval hA)
  simpa using this
theorem xjH {k:IntKind} {ks:List CK} {cs:List Value} (h:xnu (.int k::ks) cs):∃ n cs',cs=.int k n::cs'∧(Lit.int k n).wf=true∧xnu ks cs':=by
 cases cs with
 | nil=>exact h.elim
 | cons v vs=>obtain ⟨⟨n,rfl,hw⟩,h'⟩:=h; exact ⟨n,vs,rfl,hw,h'⟩
theorem xx0 {cs:List Value} (h:xnu [] cs):cs=[]:=by
 cases cs with
 | nil=>rfl
 | cons=>exact h.elim
theorem xmL {k:IntKind} {v:Value} {W:World} (h:xbz W (.one (.int k)) v):∃ n,v=.int k n∧(Lit.int k n).wf=true:=h.1
theorem xCn {vs:List Value} {W:World} (h:xfa W [] vs):vs=[]:=by
 cases vs with
 | nil=>rfl
 | cons=>exact h.elim
theorem xfe {k:VK} {ks:List VK} {vs:List Value} {W:World} (h:xfa W (k::ks) vs):∃ v vs',vs=v::vs'∧xbz W k v∧xfa W ks vs':=by
 cases vs with
 | nil=>exact h.elim
 | cons v vs=>exact ⟨v,vs,rfl,h.1,h.2⟩
theorem xCm {k0:VK} {vs:List Value} {W:World} (h:xfa W [k0] vs):∃ v0,vs=[v0]∧xbz W k0 v0:=by
 obtain ⟨v,vs',rfl,h0,h⟩:=xfe h
 obtain rfl:=xCn h
 exact ⟨v,rfl,h0⟩
theorem xCl {k0 k1:VK} {vs:List Value} {W:World} (h:xfa W [k0,k1] vs):∃ v0 v1,vs=[v0,v1]∧xbz W k0 v0∧xbz W k1 v1:=by
 obtain ⟨v,vs',rfl,h0,h⟩:=xfe h
 obtain ⟨u0,rfl,g0⟩:=xCm h
 exact ⟨v,u0,rfl,h0,g0⟩
theorem xCk {k0 k1 k2:VK} {vs:List Value} {W:World} (h:xfa W [k0,k1,k2] vs):∃ v0 v1 v2,vs=[v0,v1,v2]∧xbz W k0 v0∧xbz W k1 v1∧xbz W k2 v2:=by
 obtain ⟨v,vs',rfl,h0,h⟩:=xfe h
 obtain ⟨u0,u1,rfl,g0,g1⟩:=xCl h
 exact ⟨v,u0,u1,rfl,h0,g0,g1⟩
theorem xCj {k0 k1 k2 k3:VK} {vs:List Value} {W:World} (h:xfa W [k0,k1,k2,k3] vs):∃ v0 v1 v2 v3,vs=[v0,v1,v2,v3]∧xbz W k0 v0∧xbz W k1 v1∧xbz W k2 v2∧xbz W k3 v3:=by
 obtain ⟨v,vs',rfl,h0,h⟩:=xfe h
 obtain ⟨u0,u1,u2,rfl,g0,g1,g2⟩:=xCk h
 exact ⟨v,u0,u1,u2,rfl,h0,g0,g1,g2⟩
theorem xCi {k0 k1 k2 k3 k4:VK} {vs:List Value} {W:World} (h:xfa W [k0,k1,k2,k3,k4] vs):∃ v0 v1 v2 v3 v4,vs=[v0,v1,v2,v3,v4]∧xbz W k0 v0∧xbz W k1 v1∧xbz W k2 v2∧xbz W k3 v3∧xbz W k4 v4:=by
 obtain ⟨v,vs',rfl,h0,h⟩:=xfe h
 obtain ⟨u0,u1,u2,u3,rfl,g0,g1,g2,g3⟩:=xCj h
 exact ⟨v,u0,u1,u2,u3,rfl,h0,g0,g1,g2,g3⟩
theorem xCh {k0 k1 k2 k3 k4 k5:VK} {vs:List Value} {W:World} (h:xfa W [k0,k1,k2,k3,k4,k5] vs):∃ v0 v1 v2 v3 v4 v5,vs=[v0,v1,v2,v3,v4,v5]∧xbz W k0 v0∧xbz W k1 v1∧xbz W k2 v2∧xbz W k3 v3∧xbz W k4 v4∧xbz W k5 v5:=by
 obtain ⟨v,vs',rfl,h0,h⟩:=xfe h
 obtain ⟨u0,u1,u2,u3,u4,rfl,g0,g1,g2,g3,g4⟩:=xCi h
 exact ⟨v,u0,u1,u2,u3,u4,rfl,h0,g0,g1,g2,g3,g4⟩
theorem xCg {k0 k1 k2 k3 k4 k5 k6:VK} {vs:List Value} {W:World} (h:xfa W [k0,k1,k2,k3,k4,k5,k6] vs):∃ v0 v1 v2 v3 v4 v5 v6,vs=[v0,v1,v2,v3,v4,v5,v6]∧xbz W k0 v0∧xbz W k1 v1∧xbz W k2 v2∧xbz W k3 v3∧xbz W k4 v4∧xbz W k5 v5∧xbz W k6 v6:=by
 obtain ⟨v,vs',rfl,h0,h⟩:=xfe h
 obtain ⟨u0,u1,u2,u3,u4,u5,rfl,g0,g1,g2,g3,g4,g5⟩:=xCh h
 exact ⟨v,u0,u1,u2,u3,u4,u5,rfl,h0,g0,g1,g2,g3,g4,g5⟩
theorem xCf {k0 k1 k2 k3 k4 k5 k6 k7:VK} {vs:List Value} {W:World} (h:xfa W [k0,k1,k2,k3,k4,k5,k6,k7] vs):∃ v0 v1 v2 v3 v4 v5 v6 v7,vs=[v0,v1,v2,v3,v4,v5,v6,v7]∧xbz W k0 v0∧xbz W k1 v1∧xbz W k2 v2∧xbz W k3 v3∧xbz W k4 v4∧xbz W k5 v5∧xbz W k6 v6∧xbz W k7 v7:=by
 obtain ⟨v,vs',rfl,h0,h⟩:=xfe h
 obtain ⟨u0,u1,u2,u3,u4,u5,u6,rfl,g0,g1,g2,g3,g4,g5,g6⟩:=xCg h
 exact ⟨v,u0,u1,u2,u3,u4,u5,u6,rfl,h0,g0,g1,g2,g3,g4,g5,g6⟩
theorem xCe {k0 k1 k2 k3 k4 k5 k6 k7 k8:VK} {vs:List Value} {W:World} (h:xfa W [k0,k1,k2,k3,k4,k5,k6,k7,k8] vs):∃ v0 v1 v2 v3 v4 v5 v6 v7 v8,vs=[v0,v1,v2,v3,v4,v5,v6,v7,v8]∧xbz W k0 v0∧xbz W k1 v1∧xbz W k2 v2∧xbz W k3 v3∧xbz W k4 v4∧xbz W k5 v5∧xbz W k6 v6∧xbz W k7 v7∧xbz W k8 v8:=by
 obtain ⟨v,vs',rfl,h0,h⟩:=xfe h
 obtain ⟨u0,u1,u2,u3,u4,u5,u6,u7,rfl,g0,g1,g2,g3,g4,g5,g6,g7⟩:=xCf h
 exact ⟨v,u0,u1,u2,u3,u4,u5,u6,u7,rfl,h0,g0,g1,g2,g3,g4,g5,g6,g7⟩
theorem xEG {P:Program} {Γ:Con} (hΓ:xaT P Γ) {f:FuncId} {args:List AV} {objs:List Obj} {x:Eff} (h:Γ f args objs=some x) (hr:x.rm=[]) (hv:∀ E,x.v.den E=.bool true) (hp:x.holds) {E:Env} {w:World} (hpre:xyv E w objs) :
  Calls P f (AV.denL E args).toArray w fun e w'=>e=.returned (.bool true)∧Below w.heap.size w w':=by
 obtain ⟨_,_,hc⟩:=(hΓ f args objs x h).1 hr
 exact (hc hp E w hpre).mono fun e w' ⟨E',he,hg⟩=>⟨by rw [he,hv],hg.below.toBelow⟩
def xCt (vs:List Value):Env:=fun k=>vs.getD k (.slice none 0 0)
theorem xAW {w:World} (vs:List Value) (bs:List Body) (hl:vs.length=bs.length)
  (h:∀ (k:Nat) v b,vs[k]?=some v→bs[k]?=some b→v.oneCell'=true∧xbt b=true∧∀ (E:Env),E k=v→xbm E w k false b) :
  xyv (xCt vs) w (bs.zipIdx.map fun y=>⟨y.2,0,false,y.1⟩):=by
 refine ⟨fun k=>?_,fun o ho=>?_,fun o ho o' ho' hk=>?_⟩
 ·unfold xCt
  rw [List.getD_eq_getElem?_getD]
  cases hv:vs[k]? with
  | none=>rfl
  | some v =>
   have hk:k<bs.length:=by have:=(List.getElem?_eq_some_iff.1 hv).1; omega
   exact (h k v bs[k] hv (List.getElem?_eq_getElem hk)).1
 ·obtain ⟨⟨b,k⟩,hm,rfl⟩:=List.mem_map.1 ho
  have hr:=(List.mk_mem_zipIdx_iff_getElem? (l:=bs) (x:=b) (i:=k)).1 hm
  have hk:k<bs.length:=(List.getElem?_eq_some_iff.1 hr).1
  have hv:vs[k]?=some vs[k]:=List.getElem?_eq_getElem (by omega)
  obtain ⟨_,h2,h3⟩:=h k _ b hv hr
  exact ⟨h3 _ (by unfold xCt; rw [List.getD_eq_getElem?_getD,hv]; rfl),h2,by simpa using hk⟩
 ·obtain ⟨⟨x,k⟩,hm,rfl⟩:=List.mem_map.1 ho
  obtain ⟨⟨x',k'⟩,hm',rfl⟩:=List.mem_map.1 ho'
  simp only [] at hk
  subst hk
  have h1:=(List.mk_mem_zipIdx_iff_getElem? (l:=bs) (x:=x) (i:=k)).1 hm
  have h2:=(List.mk_mem_zipIdx_iff_getElem? (l:=bs) (x:=x') (i:=k)).1 hm'
  rw [h1] at h2
  cases h2
  rfl
def Con.none:Con:=fun _ _ _=>Option.none
theorem xk9 (P:Program):xaT P Con.none:=fun _ _ _ _ h=>by cases h
end Go.Sy
namespace Go.Sy
theorem xxP {step:List U→Option (Nat×List U)}:∀ {n m:Nat} {xs:List U} {r r':Nat×List U},xi2 step n xs=some r→xi2 step m xs=some r'→r=r'
 | 0,_,_,_,_,h,_=>by cases h
 | _+1,0,_,_,_,_,h=>by cases h
 | n+1,m+1,xs,r,r',h,h'=>by
  unfold xi2 at h h'
  cases hs:step xs with
  | none=>rw [hs] at h; cases h
  | some y =>
   obtain ⟨k,ys⟩:=y
   rw [hs] at h h'
   cases k with
   | zero=>exact xxP h h'
   | succ k=>cases h; cases h'; rfl
theorem xfI {step:List U→Option (Nat×List U)} {n:Nat} {xs:List U} {r:Nat×List U} (h:xi2 step n xs=some r):xa5 step xs∧xa6 step xs=r:=by
 have hok:xa5 step xs:=⟨n,r,h⟩
 obtain ⟨m,hm⟩:=xmC hok
 exact ⟨hok,xxP hm h⟩
theorem xaK {step:List U→Option (Nat×List U)} {n:Nat} {xs ys:List U} {r:Nat×List U} (hs:step xs=some (0,ys)) (h:xi2 step n ys=some r):xi2 step (n+1) xs=some r:=by
 unfold xi2; rw [hs]; exact h
theorem xcB {step:List U→Option (Nat×List U)} {xs ys:List U} {m:Nat} (hs:step xs=some (m+1,ys)):xi2 step 1 xs=some (m+1,ys):=by
 unfold xi2; rw [hs]
theorem xaa {α:Type} {p:Prop} {o:Option α} (hp:p):xaH p o=o:=xaN hp o
end Go.Sy
namespace Go.Sy
theorem xau {x:Int} (h : -9223372036854775808≤x∧x≤9223372036854775807):IntKind.i64.wrap x=x:=IntWalk.i64_in x h
theorem xbQ {i:Nat} (h:i<4611686018427387904):IntKind.i64.wrap ((i:Int)+1)=((i+1:Nat):Int):=by
 rw [xau (by omega)]; rfl
theorem xey {i:Nat} {l:List (List Int)} (h:i<l.length):inR (i:Int) l:=by unfold inR; omega
theorem dlt {α:Type} {i n:Nat} (h:i<n) {inst:Decidable ((i:Int)<(n:Int))} (x y:α):(bif @decide ((i:Int)<(n:Int)) inst then x else y)=x:=by rw [decide_eq_true (by omega)]; rfl
theorem dnlt {α:Type} (n:Nat) {inst:Decidable ((n:Int)<(n:Int))} (x y:α):(bif @decide ((n:Int)<(n:Int)) inst then x else y)=y:=by rw [decide_eq_false (by omega)]; rfl
theorem gi_z (n:Int) (r:List U):gi (.i n::r) 0=n:=by cases r<;>rfl
theorem gi_1 (a:U) (r:List U):gi (a::r) 1=gi r 0:=by cases r<;>rfl
theorem gi_2 (a b:U) (r:List U):gi (a::b::r) 2=gi r 0:=by cases r<;>rfl
theorem gi_3 (a b c:U) (r:List U):gi (a::b::c::r) 3=gi r 0:=by cases r<;>rfl
theorem gi_4 (a b c d:U) (r:List U):gi (a::b::c::d::r) 4=gi r 0:=by cases r<;>rfl
theorem gb_z (n:Bool) (r:List U):gb (.b n::r) 0=n:=by cases r<;>rfl
theorem gb_1 (a:U) (r:List U):gb (a::r) 1=gb r 0:=by cases r<;>rfl
theorem gr_z (n:List (List Int)) (r:List U):gr (.r n::r) 0=n:=by cases r<;>rfl
theorem gr_1 (a:U) (r:List U):gr (a::r) 1=gr r 0:=by cases r<;>rfl
theorem gr_2 (a b:U) (r:List U):gr (a::b::r) 2=gr r 0:=by cases r<;>rfl
theorem gr_3 (a b c:U) (r:List U):gr (a::b::c::r) 3=gr r 0:=by cases r<;>rfl
theorem xev {step:List U→Option (Nat×List U)} (n:Nat) (p:Nat→Bool) (mk out:Nat→List U) (m m':Nat) (fin:List U)
  (hs:∀ i,i<n→step (mk i)=bif p i then some (m+1,out i) else some (0,mk (i+1))) (he:step (mk n)=some (m'+1,fin)) :
  xa5 step (mk 0)∧((∃ i,i<n∧p i=true∧(∀ j,j<i→p j=false)∧xa6 step (mk 0)=(m+1,out i))∨((∀ j,j<n→p j=false)∧xa6 step (mk 0)=(m'+1,fin))):=by
 have key:∀ k i,k+i=n→(∃ i',i≤i'∧i'<n∧p i'=true∧(∀ j,i≤j→j<i'→p j=false)∧xi2 step (k+1) (mk i)=some (m+1,out i'))∨((∀ j,i≤j→j<n→p j=false)∧xi2 step (k+1) (mk i)=some (m'+1,fin)):=by
  intro k
  induction k with
  | zero =>
   intro i hi
   obtain rfl:i=n:=by omega
   exact Or.inr ⟨fun j _ _=>by omega,xcB he⟩
  | succ k ih =>
   intro i hi
   have h:=hs i (by omega)
   cases hp:p i with
   | true =>
    rw [hp] at h
    refine Or.inl ⟨i,Nat.le_refl _,by omega,hp,fun j _ _=>by omega,?_⟩
    unfold xi2; rw [h]; rfl
   | false =>
    rw [hp] at h
    rcases ih (i+1) (by omega) with ⟨i',h1,h2,h3,h4,h5⟩ | ⟨h4,h5⟩
    ·refine Or.inl ⟨i',by omega,h2,h3,fun j hj hj'=>?_,xaK h h5⟩
     by_cases e:j=i
     ·rw [e]; exact hp
     ·exact h4 j (by omega) hj'
    ·refine Or.inr ⟨fun j hj hj'=>?_,xaK h h5⟩
     by_cases e:j=i
     ·rw [e]; exact hp
     ·exact h4 j (by omega) hj'
 rcases key n 0 rfl with ⟨i,_,h2,h3,h4,h5⟩ | ⟨h4,h5⟩
 ·obtain ⟨h6,h7⟩:=xfI h5
  exact ⟨h6,Or.inl ⟨i,h2,h3,fun j hj=>h4 j (Nat.zero_le _) hj,h7⟩⟩
 ·obtain ⟨h6,h7⟩:=xfI h5
  exact ⟨h6,Or.inr ⟨fun j hj=>h4 j (Nat.zero_le _) hj,h7⟩⟩
def upto {σ:Type} (f:Nat→σ→σ):Nat→σ→σ
 | 0,s=>s
 | n+1,s=>f n (upto f n s)
theorem xf9 {σ:Type} {step:List U→Option (Nat×List U)} (n:Nat) (mk:Nat→σ→List U) (f:Nat→σ→σ) (I:Nat→σ→Prop) (m:Nat) (fin:σ→List U)
  (hI:∀ i s,i<n→I i s→I (i+1) (f i s)) (hs:∀ i s,i<n→I i s→step (mk i s)=some (0,mk (i+1) (f i s))) (he:∀ s,I n s→step (mk n s)=some (m+1,fin s)) {s:σ} (h0:I 0 s) :
  xa5 step (mk 0 s)∧xa6 step (mk 0 s)=(m+1,fin (upto f n s))∧I n (upto f n s):=by
 have hIn:∀ i,i≤n→I i (upto f i s):=by
  intro i
  induction i with
  | zero=>intro _; exact h0
  | succ i ih=>intro h; exact hI i _ (by omega) (ih (by omega))
 have key:∀ k i,k+i=n→xi2 step (k+1) (mk i (upto f i s))=some (m+1,fin (upto f n s)):=by
  intro k
  induction k with
  | zero =>
   intro i hi
   obtain rfl:i=n:=by omega
   exact xcB (he _ (hIn _ (Nat.le_refl _)))
  | succ k ih =>
   intro i hi
   exact xaK (hs i _ (by omega) (hIn i (by omega))) (ih (i+1) (by omega))
 obtain ⟨h6,h7⟩:=xfI (key n 0 rfl)
 exact ⟨h6,h7,hIn n (Nat.le_refl _)⟩
theorem xlt {step:List U→Option (Nat×List U)} (n:Nat) (Inv:Nat→List U→Prop) (Post:Nat×List U→Prop)
  (hs:∀ i xs,i<n→Inv i xs→(∃ ys,step xs=some (0,ys)∧Inv (i+1) ys)∨∃ m ys,step xs=some (m+1,ys)∧Post (m+1,ys))
  (he:∀ xs,Inv n xs→∃ m ys,step xs=some (m+1,ys)∧Post (m+1,ys)) {xs:List U} (h0:Inv 0 xs):xa5 step xs∧Post (xa6 step xs):=by
 have key:∀ k i xs,k+i=n→Inv i xs→∃ r,xi2 step (k+1) xs=some r∧Post r:=by
  intro k
  induction k with
  | zero =>
   intro i xs hi h
   obtain rfl:i=n:=by omega
   obtain ⟨m,ys,h1,h2⟩:=he _ h
   exact ⟨_,xcB h1,h2⟩
  | succ k ih =>
   intro i xs hi h
   rcases hs i xs (by omega) h with ⟨ys,h1,h2⟩ | ⟨m,ys,h1,h2⟩
   ·obtain ⟨r,h3,h4⟩:=ih (i+1) ys (by omega) h2
    exact ⟨r,xaK h1 h3,h4⟩
   ·refine ⟨(m+1,ys),?_,h2⟩
    unfold xi2; rw [h1]
 obtain ⟨r,h1,h2⟩:=key n 0 xs rfl h0
 obtain ⟨h3,h4⟩:=xfI h1
 rw [h4]; exact ⟨h3,h2⟩
end Go.Sy
set_option linter.unusedVariables false
namespace Go.Sy
section
variable {α:Type} {le:α→α→Bool}
def insB (le:α→α→Bool) (x:α):List α→List α
 | []=>[x]
 | y::r=>if le x y then x::y::r else y::insB le x r
def xmJ (le:α→α→Bool):List α→List α
 | []=>[]
 | x::r=>insB le x (xmJ le r)
theorem xr8 (x:α):∀ l:List α,(insB le x l).Perm (x::l)
 | []=>.refl _
 | y::r=>by
  unfold insB
  split
  ·exact .refl _
  ·exact ((xr8 x r).cons y).trans (.swap x y r)
theorem xjf:∀ l:List α,(xmJ le l).Perm l
 | []=>.refl _
 | x::r=>(xr8 x _).trans ((xjf r).cons x)
theorem xr7 (ht:∀ a b,le a b=true∨le b a=true) (htr:∀ a b c,le a b=true→le b c=true→le a c=true) (x:α):∀ l:List α,l.Pairwise (fun a b=>le a b=true)→(insB le x l).Pairwise (fun a b=>le a b=true)
 | [],_=>by simp [insB]
 | y::r,h=>by
  unfold insB
  have h1:=List.pairwise_cons.1 h
  split
  ·rename_i hxy
   refine List.pairwise_cons.2 ⟨fun z hz=>?_,h⟩
   rcases List.mem_cons.1 hz with rfl | hz
   ·exact hxy
   ·exact htr _ _ _ hxy (h1.1 z hz)
  ·rename_i hxy
   refine List.pairwise_cons.2 ⟨fun z hz=>?_,xr7 ht htr x r h1.2⟩
   rcases List.mem_cons.1 ((xr8 x r).mem_iff.1 hz) with rfl | hz
   ·exact (ht y z).resolve_right hxy
   ·exact h1.1 z hz
theorem xmH (ht:∀ a b,le a b=true∨le b a=true) (htr:∀ a b c,le a b=true→le b c=true→le a c=true):∀ l:List α,(xmJ le l).Pairwise (fun a b=>le a b=true)
 | []=>List.Pairwise.nil
 | x::r=>xr7 ht htr x _ (xmH ht htr r)
theorem xxQ (ht:∀ a b,le a b=true∨le b a=true) (htr:∀ a b c,le a b=true→le b c=true→le a c=true) {l l':List α} (ha:∀ a∈l,∀ b∈l,le a b=true→le b a=true→a=b)
  (hp:l'.Perm l) (hs:l'.Pairwise (fun a b=>le a b=true)):l'=xmJ le l :=
 List.Perm.eq_of_pairwise (le:=fun a b=>le a b=true) (fun a b h1 h2 h3 h4=>ha a (hp.mem_iff.1 h1) b ((xjf l).mem_iff.1 h2) h3 h4) hs (xmH ht htr l) (hp.trans (xjf l).symm)
theorem xmI (l:List α):(xmJ le l).length=l.length:=(xjf l).length_eq
theorem xr6 {l:List α} {x:α}:x∈xmJ le l↔x∈l:=(xjf l).mem_iff
end
def xcj (zs:List Int):List (List Int):=zs.map fun z=>[z]
def leI (x y:Int):Bool:=decide (x≤y)
theorem xr4 (x y:Int):leI x y=true∨leI y x=true:=by simp [leI]; omega
theorem xr3 (x y z:Int) (h:leI x y=true) (k:leI y z=true):leI x z=true:=by simp [leI] at *; omega
theorem xDm (x y:Int) (h:leI x y=true) (k:leI y x=true):x=y:=by simp [leI] at *; omega
def dd:Option Int→List Int→List Int
 | _,[]=>[]
 | p,x::r=>if p=some x then dd (some x) r else x::dd (some x) r
end Go.Sy
set_option linter.unusedVariables false
namespace Go.Sy
section
variable {α:Type} (k:α→Int)
variable {k}
end
end Go.Sy
set_option linter.unusedVariables false
namespace Go.Sy
section
variable {α:Type}
variable (d:α)
variable {k:α→Int}
end
end Go.Sy
set_option linter.unusedVariables false
namespace Go.Sy
open Go.RowKit
section
variable {P:Program} {Γ:Con} {Ξ:xqK}
theorem xAX (hΓ:xaT P Γ) {F:FuncId} {avs:List AV} {os:List Obj} {eff:List U→Option Eff} (hflat:os.all (fun o=>xbt o.body&&Nat.blt o.key os.length)=true)
  (hargs:(AV.keysL avs).all (fun k=>Nat.blt k os.length)=true)
  (hcol:∀ us x,eff us=some x→xci P F∧xhg os.length x∧(x.holds→∀ (E2:Env) (w:World),xae [] E2 w ⟨(xbp os.length us os (xcO us avs 0).2).1,os.length⟩ w →
   Calls P F (AV.denL E2 (xcO us avs 0).1).toArray w fun e w'=>∃ E',e=.returned (x.v.den E')∧xm5 E2 w os.length x E' w' fun b=>∃ o∈(xbp os.length us os (xcO us avs 0).2).1,Inn E2 w o.key o.body b)):xaT P (ext P Γ F avs os eff):=by
 intro f args objs x h
 unfold ext at h
 split at h
 case isFalse=>exact hΓ f args objs x h
 rename_i hf
 have hf:f=F:=Nat.eq_of_beq_eq_true hf
 subst hf
 split at h
 case isFalse=>cases h
 rename_i hl
 rw [Bool.and_eq_true] at hl
 have hl1:args.length=avs.length:=Nat.eq_of_beq_eq_true hl.1
 have hl2:objs.length=os.length:=Nat.eq_of_beq_eq_true hl.2
 split at h
 case h_2=>cases h
 rename_i us hm
 obtain ⟨hfun,hwf,hrun⟩:=hcol us x h
 unfold xzu
 rw [hl2]
 refine ⟨fun _=>⟨hfun,hwf,fun hp E w hpre=>?_⟩,fun hne=>absurd hwf.rm hne⟩
 obtain ⟨M,hM⟩:=xqa (AV.keysL args++objs.map (fun o=>o.key))
 have hmem:∀ o∈Sy.frozen objs,∃ o'∈objs,o={ o' with own:=false,body:=xAh o'.body }:=fun o ho=>by
  obtain ⟨o',ho',rfl⟩:=List.mem_map.1 ho
  exact ⟨o',ho',rfl⟩
 have hH:xae [] E w ⟨Sy.frozen objs,M⟩ w:=by
  refine ⟨Blw.refl _ _,hpre.env,?_,?_,?_,?_,?_,?_,?_,?_,?_⟩
  ·intro o ho; obtain ⟨o',ho',rfl⟩:=hmem o ho
   have:=(hpre.rows o' ho').1
   obtain ⟨k,v,own,b⟩:=o'
   cases b<;>first | exact this | exact this.2
  ·intro o ho hown; obtain ⟨o',ho',rfl⟩:=hmem o ho; cases hown
  ·intro o ho o2 ho2 hown; obtain ⟨o',ho',rfl⟩:=hmem o ho; cases hown
  ·intro o ho o2 ho2 hk
   obtain ⟨o',ho',rfl⟩:=hmem o ho
   obtain ⟨o2',ho2',rfl⟩:=hmem o2 ho2
   rw [hpre.uniq o' ho' o2' ho2' hk]
  ·intro o ho
   obtain ⟨o',ho',rfl⟩:=hmem o ho
   exact ⟨hM _ (List.mem_append.2 (.inr (List.mem_map.2 ⟨o',ho',rfl⟩))),by
    have:=xgC (p:=fun k=>k<M) (hpre.rows o' ho').2.1
    obtain ⟨k,v,own,b⟩:=o'
    cases b<;>exact this⟩
  ·intro y hy; cases hy
  ·intro o ho b hb o2 ho2 hown; obtain ⟨o',ho',rfl⟩:=hmem o2 ho2; cases hown
  ·intro y hy; cases hy
  ·intro o ho b hb
   obtain ⟨o',ho',rfl⟩:=hmem o ho
   rcases hb with ⟨h1,_⟩ | ⟨⟨h1,_⟩,_⟩
   ·obtain ⟨k,v,own,bd⟩:=o'
    cases bd<;>cases h1
   ·cases h1
 have hS:xaX E M 0 [] (xao fun t=>args[t]?) { tmps:=(AV.denL E args).toArray,defers:=[] }:=by
  refine ⟨rfl,Nat.zero_le _,fun t=>?_⟩
  cases ht:args[t]? with
  | none =>
   have e:xao (fun t=>args[t]?) t=.junk:=by simp [xao,ht]
   rw [e]; trivial
  | some v =>
   have e:xao (fun t=>args[t]?) t=.is v:=by simp [xao,ht]
   rw [e]
   refine ⟨?_,(xdM _ _).1 ((xc3 _).2 fun k hk=>hM k (List.mem_append.2 (.inl hk))) v (List.mem_of_getElem? ht)⟩
   rw [Array.getD_eq_getD_getElem?]
   simp [xaJ,ht]
 have hm':(xjT avs os).match_ P [] 1 ⟨fun t=>args[t]?,⟨Sy.frozen objs,M⟩⟩=some us:=hm
 obtain ⟨E2,g1,g2,g3,g4⟩:=xe2 (wr:=[]) (tm:=fun _=>none) hm' hH hS (fun o ho=>by cases ho) (fun o ho=>by cases ho) (fun t v _ hv=>by cases hv)
 have hz:=xwC us avs 0 0
 have hgs:∀ t v,(xcO us avs 0).1[t]?=some v→((xjT avs os).gen [] [] (fun _=>none) us).tmps t=some v:=by
  intro t v ht
  have e:((xjT avs os).gen [] [] (fun _=>none) us).tmps t=(match xft t (xbj us (avs.zipIdx.map fun x=>(x.2,x.1)) 0).1 with | some v=>some v | none=>if ([]:List Nat).any (Nat.beq t) then none else none):=rfl
  rw [e,hz]
  have:=xpM (xcO us avs 0).1 0 t
  rw [Nat.zero_add] at this
  rw [this,ht]
 have hden:AV.denL E2 (xcO us avs 0).1=AV.denL E args:=by
  apply List.ext_getElem?
  intro t
  rw [xaJ,xaJ,List.getElem?_map,List.getElem?_map]
  cases ht:(xcO us avs 0).1[t]? with
  | none =>
   have h1:=List.getElem?_eq_none_iff.1 ht
   rw [xiw] at h1
   rw [List.getElem?_eq_none (by omega)]
   rfl
  | some v =>
   have h1:=(List.getElem?_eq_some_iff.1 ht).1
   rw [xiw] at h1
   have hpt:=g2.ok t
   have e:xao ((xjT avs os).gen [] [] (fun _=>none) us).tmps t=.is v:=by simp [xao,hgs t v ht]
   rw [e] at hpt
   have h2:args[t]?=some args[t]:=List.getElem?_eq_getElem (by omega)
   rw [h2]
   have h3:=hpt.1
   simp only [Array.getD_eq_getD_getElem?,xaJ] at h3
   simp only [List.getElem?_toArray,List.getElem?_map,h2,Option.map_some,Option.getD_some] at h3
   simp only [Option.map_some,h3]
 have hHc:xae [] E2 w ⟨(xbp os.length us os (xcO us avs 0).2).1,os.length⟩ w:=by
  refine g3.sub (fun o ho=>?_) (fun o ho=>?_)
  ·have e:((xjT avs os).gen [] [] (fun _=>none) us).heap.objs=(xbp os.length us os (xbj us (avs.zipIdx.map fun x=>(x.2,x.1)) 0).2).1++[]++[]:=rfl
   rw [e,hz,List.append_nil,List.append_nil]
   exact ho
  ·obtain ⟨s,h1,h2,h3⟩:=xlx _ _ _ _ o ho
   have h4:=List.all_eq_true.1 hflat s h1
   rw [Bool.and_eq_true] at h4
   exact ⟨by rw [h2]; simpa using h4.2,xgC (by rw [h3]; exact h4.1)⟩
 have hin:∀ o∈(xbp os.length us os (xcO us avs 0).2).1,∀ b,Inn E2 w o.key o.body b→∃ o'∈objs,Inn E w o'.key o'.body b:=by
  intro o ho b hb
  have hm2:=hm'
  unfold Spec.match_ at hm2
  split at hm2
  case h_2=>cases hm2
  rename_i m1 h1
  split at hm2
  case h_2=>cases hm2
  rename_i m2 h2
  split at hm2
  case h_2=>cases hm2
  rename_i m3 h3
  split at hm2
  case isFalse=>cases hm2
  cases hm2
  have h3:some m2=some m3:=h3
  cases h3
  have hpre2:Pre m2.us m2.us.reverse:=⟨[],by simp⟩
  obtain ⟨x1,y1⟩:=xiK _ _ _ h1
  obtain ⟨x2,y2⟩:=xjE (ver:=os.length) _ _ _ h2
  have e1:=(y1 m2.us.reverse (Pre.of_ext x2 hpre2)).1
  have e1:(xbj m2.us.reverse (avs.zipIdx.map fun x=>(x.2,x.1)) 0).2=m1.us.length:=e1
  rw [hz] at e1
  have e1:(xcO m2.us.reverse avs 0).2=m1.us.length:=e1
  have e2:=(y2 m2.us.reverse hpre2).2
  rw [← e1] at e2
  obtain ⟨_,⟨sp,hsp,hspk⟩,_,o1,ho1,hk1,_,hbf,_⟩:=e2 o ho
  obtain ⟨o2,ho2,rfl⟩:=hmem o1 ho1
  have hlt:o.key<os.length:=by
   have h4:=List.all_eq_true.1 hflat sp hsp
   rw [Bool.and_eq_true] at h4
   rw [← hspk]; simpa using h4.2
  have hE:E2 o.key=E o2.key:=by
   have:o2.key=o.key:=hk1
   rw [this]; exact g1 o.key hlt
  refine ⟨o2,ho2,?_⟩
  have key:o2.body=o.body∨(∃ e ks,o.body=.nst e ks [])∨xq5 o.body=true:=by
   obtain ⟨ok,ov,oo,ob⟩:=o
   obtain ⟨ok2,ov2,oo2,ob2⟩:=o2
   simp only [] at hbf ⊢
   cases ob with
   | nst e ks l =>
    rcases hbf.2.1 e ks l rfl with h | h
    ·left
     cases ob2<;>first | exact h | cases h
    ·right; left
     exact ⟨e,ks,by rw [h]⟩
   | mq kt et q ks l =>
    have h:=hbf.2.2 kt et q ks l rfl
    left
    cases ob2<;>first | exact h | cases h
   | sub e ks l =>
    have h:=hbf.1 rfl
    cases ob2<;>cases h
   | _=>right; right; rfl
  rcases key with h | ⟨e,ks,h⟩ | h
  ·rw [h]; exact xww hE hb
  ·rw [h] at hb
   obtain ⟨_,j,_,_,hj,_⟩:=hb
   simp at hj
  ·exact xcC h hb
 rw [← hden]
 refine (hrun hp E2 w hHc).mono fun e w' ⟨E',he,hg⟩=>⟨E',he,⟨fun k hk=>by rw [hg.agree k hk]; exact g1 k hk,hg.env,hg.below,hg.bodies,fun o ho b hb=>(hg.own o ho b hb).imp id fun ⟨q1,q2,o1,ho1,hi⟩=>⟨q1,q2,hin o1 ho1 b hi⟩,hg.inj,hg.inn,hg.dq⟩⟩
theorem xAY (hΓ:xaT P Γ) {F:FuncId} {avs:List AV} {os:List Obj} {eff:List U→Option Eff} (hflat:os.all (fun o=>xbt o.body&&Nat.blt o.key os.length)=true)
  (hargs:(AV.keysL avs).all (fun k=>Nat.blt k os.length)=true)
  (hcol:∀ us x,eff us=some x→xci P F∧xhg os.length x∧(x.holds→∀ (E2:Env) (w:World),xae [] E2 w ⟨(xbp os.length us os (xcO us avs 0).2).1,os.length⟩ w →
   Calls P F (AV.denL E2 (xcO us avs 0).1).toArray w fun e w'=>∃ E',e=.returned (x.v.den E')∧xm5 E2 w os.length x E' w')):xaT P (ext P Γ F avs os eff) :=
 xAX hΓ hflat hargs fun us x h=>by
  obtain ⟨h1,h2,h3⟩:=hcol us x h
  exact ⟨h1,h2,fun hp E2 w hH=>(h3 hp E2 w hH).mono fun e w' ⟨E',he,hg⟩=>⟨E',he,hg.mono fun _ h=>h.elim⟩⟩
end
end Go.Sy
set_option linter.unusedVariables false
namespace Go.Sy
open Go.RowKit
section
variable {P:Program} {Γ:Con} {Ξ:xqK} {X:List (Nat×Go.Obj)} {w0 w:World} {N:Nat} {E:Env}
def Spec.st (S:Spec) (us:List U):Cfg:=S.gen [] [] (fun _=>none) us
def outP (P:Program):List (xck×Spec)→Nat→xck×Cfg→Option (Nat×List U)
 | [],_,_=>none
 | (y,T)::r,n,x=>if y.same x.1 then (match T.match_ P [] 0 x.2 with | some us=>some (n,us) | none=>none) else outP P r (n+1) x
def outT (P:Program) (outs:List (xck×Spec)) (x:xck×Cfg):Tree (Nat×List U):=match outP P outs 0 x with | some r=>.ret r | none=>.bad
noncomputable def xxo (P:Program) (Γ:Con) (n N:Nat) (S:Spec) (outs:List (xck×Spec)) (code:Code) (us:List U):Option (Nat×List U) :=
 ((xa2 P Γ (xaP P Γ xbs n) (xqC P Γ xbs n) false [] N code (S.st us)).bind (outT P outs)).opt
theorem xBr {x y:xck} (h:x.same y=true):x=y:=by
 cases x<;>cases y<;>first | rfl | (cases h; done) | skip
 ·rw [Nat.eq_of_beq_eq_true h]
theorem xxt:∀ {outs:List (xck×Spec)} {n:Nat} {x:xck×Cfg} {i:Nat} {us:List U},outP P outs n x=some (i,us)→∃ T,n≤i∧outs[i-n]?=some (x.1,T)∧T.match_ P [] 0 x.2=some us
 | [],n,x,i,us,h=>by cases h
 | (y,T)::r,n,x,i,us,h=>by
  unfold outP at h
  split at h
  ·rename_i hs
   have hs:=xBr hs
   split at h
   ·rename_i us' hm
    cases h
    exact ⟨T,Nat.le_refl _,by rw [Nat.sub_self]; simp [hs],hm⟩
   ·cases h
  ·obtain ⟨T',h1,h2,h3⟩:=xxt h
   refine ⟨T',by omega,?_,h3⟩
   rw [show i-n=(i-(n+1))+1 by omega]
   simpa using h2
theorem CfgOk.shape {T:Spec} {c:Cfg} {a:Act} {us:List U} (h:T.match_ P [] 0 c=some us) (hc:CfgOk X E w0 N c a w):∃ E2:Env,(∀ k,k<T.base→E2 k=E k)∧CfgOk X E2 w0 N (T.st us) a w:=by
 obtain ⟨rs,h1,h2,hS,hH⟩:=hc
 obtain ⟨E2,g1,g2,g3,_⟩:=xe2 (wr:=[]) (tm:=fun _=>none) h hH hS (fun o ho=>by cases ho) (fun o ho=>by cases ho) (fun t v _ hv=>by cases hv)
 exact ⟨E2,g1,rs,h1,h2,g2,g3⟩
theorem xlq (hΓ:xaT P Γ) {n:Nat} {S:Spec} {outs:List (xck×Spec)} {code:Code} {us:List U} {a:Act} {i:Nat} {us':List U} {y:xck} {T:Spec} (hc:CfgOk X E w0 N (S.st us) a w) (h:xxo P Γ n N S outs code us=some (i,us')) (ho:outs[i]?=some (y,T)) {Q:Exit→Act→World→Prop}
  (hQ:∀ E' a' w',(∀ k,k<S.base→k<T.base→E' k=E k)→CfgOk X E' w0 N (T.st us') a' w'→Q y.toExit a' w'):code.wpIn (FR none) 0 P Q a w:=by
 refine xbN (rnd:=none) hΓ (xph hΓ xav n) (xgf xav n) (xEg hΓ xav n).2 (rb:=false) (res:=[]) (fun _ e=>by cases e) code (S.st us) E a w Q hc ?_
 have h1:=xgz (Q:=fun r=>r=(i,us')) rfl h
 refine xaV (fun x hx=>?_) (xbv h1)
 intro E1 a1 w1 hE hc1 hle hold
 unfold outT at hx
 cases hp:outP P outs 0 x with
 | none=>rw [hp] at hx; exact hx.elim
 | some r =>
  rw [hp] at hx
  have hx:r=(i,us'):=hx
  subst hx
  obtain ⟨T',h2,h3,h4⟩:=xxt hp
  rw [Nat.sub_zero,ho] at h3
  cases h3
  obtain ⟨E2,g1,g2⟩:=hc1.shape h4
  refine hQ E2 a1 w1 (fun k hk hk'=>?_) g2
  rw [g1 k hk']
  exact hE k (by show k<S.base+S.rows.length+1; omega)
theorem xae.envTo {H:Heap} {E2:Env} (h:xae X E w0 H w) (hE:∀ o∈H.objs,E2 o.key=E o.key∧xbn (fun k=>E2 k=E k) o.body) (henv:∀ k,(E2 k).oneCell'=true):xae X E2 w0 H w :=
 ⟨h.below,henv,fun o ho=>(h.objs o ho).keep (hE o ho).1 (hE o ho).2 (fun _ _=>rfl) (Nat.le_refl _) (fun _ _=>rfl),
  fun o ho hown b hb=>h.high o ho hown b (by rw [← (hE o ho).1]; exact hb),
  fun o ho o' ho' hown hne b hb=>by rw [(hE o ho).1] at hb; rw [(hE o' ho').1]; exact h.inj o ho o' ho' hown hne b hb,
  h.uniq,h.lt,fun x hx=>⟨(h.prot x hx).1,fun o ho=>by rw [(hE o ho).1]; exact (h.prot x hx).2 o ho⟩,
  fun o ho b hb o' ho' hown=>by rw [(hE o' ho').1]; exact h.deep o ho b (xht (hE o ho).1 hb) o' ho' hown,
  fun x hx o ho hb=>h.protD x hx o ho (xht (hE o ho).1 hb),
  fun o ho b hb=>h.fsh o ho b (hb.imp (fun h1=>⟨h1.1,by rw [← (hE o ho).1]; exact h1.2⟩) fun h1=>⟨h1.1,xht (hE o ho).1 h1.2⟩)⟩
theorem CfgOk.put {c:Cfg} {a:Act} (hc:CfgOk X E w0 N c a w) {d:Nat} {v:Value} {u:Option AV} {E2:Env} (hd:d<N) (hE:∀ o∈c.heap.objs,E2 o.key=E o.key∧xbn (fun k=>E2 k=E k) o.body) (henv:∀ k,(E2 k).oneCell'=true)
  (hs:∀ t x,t≠d→c.tmps t=some x→AV.all (fun k=>E2 k=E k) x) (hu:∀ x,u=some x→v=x.den E2∧AV.lt c.heap.next x):CfgOk X E2 w0 N ⟨fun t=>match Nat.beq t d with | true=>u | false=>c.tmps t,c.heap⟩ (a.put (some d) v) w:=by
 obtain ⟨rs,h1,h2,hS,hH⟩:=hc
 refine ⟨rs,h1,h2,⟨?_,?_,fun t=>?_⟩,hH.envTo hE henv⟩
 ·exact hS.defers
 ·have:=hS.size
  simp only [Act.put]
  simpa using this
 ·have hdl:d<a.tmps.size:=Nat.lt_of_lt_of_le hd hS.size
  by_cases e:t=d
  ·subst e
   cases hu':u with
   | none =>
    have e1:xao (fun t'=>match Nat.beq t' t with | true=>(none:Option AV) | false=>c.tmps t') t=.junk:=by simp [xao]
    show xm3 _ _ _ t (xao (fun t'=>match Nat.beq t' t with | true=>(none:Option AV) | false=>c.tmps t') t)
    rw [e1]; trivial
   | some x =>
    obtain ⟨g1,g2⟩:=hu x hu'
    have e1:xao (fun t'=>match Nat.beq t' t with | true=>some x | false=>c.tmps t') t=.is x:=by simp [xao]
    show xm3 _ _ _ t (xao (fun t'=>match Nat.beq t' t with | true=>some x | false=>c.tmps t') t)
    rw [e1]
    refine ⟨?_,g2⟩
    rw [← g1]
    simp [Act.put,Array.getD_eq_getD_getElem?,hdl]
  ·have e0:(match Nat.beq t d with | true=>u | false=>c.tmps t)=c.tmps t:=by rw [xgb e]
   have e1:xao (fun t'=>match Nat.beq t' d with | true=>u | false=>c.tmps t') t=xao c.tmps t:=by simp only [xao,e0]
   show xm3 _ _ _ t (xao (fun t'=>match Nat.beq t' d with | true=>u | false=>c.tmps t') t)
   rw [e1]
   have hp:=hS.ok t
   cases ht:c.tmps t with
   | none =>
    have e2:xao c.tmps t=.junk:=by simp [xao,ht]
    rw [e2]; trivial
   | some x =>
    have e2:xao c.tmps t=.is x:=by simp [xao,ht]
    rw [e2] at hp ⊢
    refine ⟨?_,hp.2⟩
    rw [xdt (fun k hk=>hk) x (hs t x e ht),← hp.1]
    simp [Act.put,Array.getD_eq_getD_getElem?,Array.getElem?_setIfInBounds,Ne.symm e]
theorem xae.turn {H:Heap} {w2:World} {bs:List Nat} {X2:List (Nat×Go.Obj)} (h:xae X E w0 H w) (hc:Chg w w2 bs) (hbs:∀ b∈bs,w0.heap.size≤b∧∃ o,(b,o)∈X)
  (hX2:∀ x∈X2,w2.heap[x.1]?=some x.2∧((∃ o,(x.1,o)∈X)∨w.heap.size≤x.1)):xae X2 E w0 H w2:=by
 have hno:∀ o∈H.objs,∀ b∈bs,blkO (E o.key)≠some b:=fun o ho b hb=>by
  obtain ⟨_,ob,hm⟩:=hbs b hb
  exact (h.prot (b,ob) hm).2 o ho
 have hnoD:∀ o∈H.objs,∀ b∈bs,¬ Inn E w o.key o.body b:=fun o ho b hb hi=>by
  obtain ⟨_,ob,hm⟩:=hbs b hb
  exact h.protD (b,ob) hm o ho hi
 have hsame:∀ o∈H.objs,∀ g,blkO (E o.key)=some g→w2.heap[g]?=w.heap[g]?:=fun o ho g hg=>hc.block g (xiX (h.objs o ho) hg) fun hm=>hno o ho g hm hg
 have hin:∀ o∈H.objs,∀ g,Inn E w2 o.key o.body g→Inn E w o.key o.body g:=fun o ho g hg=>xgN (h.objs o ho) rfl (hsame o ho) hg
 refine ⟨h.below.chg hc fun b hb=>(hbs b hb).1,h.env,fun o ho=>(h.objs o ho).keep rfl (xkn E) (hsame o ho) hc.size (fun g hg=>hc.block g (xkZ (h.objs o ho) hg) fun hm=>hnoD o ho g hm hg),h.high,h.inj,h.uniq,h.lt,fun x hx=>?_,
  fun o1 ho1 b hb=>h.deep o1 ho1 b (hin o1 ho1 b hb),fun x hx o1 ho1 hb=>?_,fun o1 ho1 b hb=>h.fsh o1 ho1 b (hb.imp id fun h=>⟨h.1,hin o1 ho1 b h.2⟩)⟩
 ·obtain ⟨h1,h2⟩:=hX2 x hx
  refine ⟨h1,fun o ho=>?_⟩
  rcases h2 with ⟨ob,hm⟩ | h2
  ·exact (h.prot (x.1,ob) hm).2 o ho
  ·intro he
   have:=xiX (h.objs o ho) he
   omega
 ·obtain ⟨h1,h2⟩:=hX2 x hx
  have hb:=hin o1 ho1 _ hb
  rcases h2 with ⟨ob,hm⟩ | h2
  ·exact h.protD (x.1,ob) hm o1 ho1 hb
  ·have:=xkZ (h.objs o1 ho1) hb
   omega
theorem CfgOk.turn {c:Cfg} {a:Act} {w2:World} {bs:List Nat} {X2:List (Nat×Go.Obj)} (h:CfgOk X E w0 N c a w) (hc:Chg w w2 bs) (hbs:∀ b∈bs,w0.heap.size≤b∧∃ o,(b,o)∈X)
  (hX2:∀ x∈X2,w2.heap[x.1]?=some x.2∧((∃ o,(x.1,o)∈X)∨w.heap.size≤x.1)):CfgOk X2 E w0 N c a w2:=by
 obtain ⟨rs,h1,h2,hS,hH⟩:=h
 have hrs:∀ r∈rs,r<w.heap.size∧w.heap[r]?=some (Go.Obj.deferred (some [])):=fun r hr=>by
  have:=(hH.prot (r,_) (List.mem_append.2 (.inl (List.mem_map.2 ⟨r,hr,rfl⟩)))).1
  exact ⟨(Array.getElem?_eq_some_iff.1 this).1,this⟩
 have hne:∀ r∈rs,r∉bs:=fun r hr hb=>by
  obtain ⟨_,o,hm⟩:=hbs r hb
  exact (h1 r hr).2 _ hm rfl
 refine ⟨rs,fun r hr=>⟨(h1 r hr).1,fun x hx e=>?_⟩,h2,hS,hH.turn hc (fun b hb=>?_) fun x hx=>?_⟩
 ·rcases (hX2 x hx).2 with ⟨o,hm⟩ | h3
  ·exact (h1 r hr).2 _ hm e
  ·have:=(hrs r hr).1; omega
 ·obtain ⟨g1,o,g2⟩:=hbs b hb
  exact ⟨g1,o,List.mem_append.2 (.inr g2)⟩
 ·rcases List.mem_append.1 hx with hx | hx
  ·obtain ⟨r,hr,rfl⟩:=List.mem_map.1 hx
   refine ⟨?_,.inl ⟨_,List.mem_append.2 (.inl (List.mem_map.2 ⟨r,hr,rfl⟩))⟩⟩
   show w2.heap[r]?=_
   rw [hc.block r (hrs r hr).1 (hne r hr)]
   exact (hrs r hr).2
  ·obtain ⟨g1,g2⟩:=hX2 x hx
   exact ⟨g1,g2.imp (fun ⟨o,hm⟩=>⟨o,List.mem_append.2 (.inr hm)⟩) id⟩
def Fin (P:Program) (fn:Func) (w0:World) (N:Nat) (R:Ending→World→Prop):Exit→Act→World→Prop
 | .ret,a,w | .normal,a,w=>∃ (X:List (Nat×Go.Obj)) (E:Env) (c:Cfg) (v:AV),CfgOk X E w0 N c a w∧xfB P c fn.results.toList=some [v]∧∀ w',xae X E w0 c.heap w'→R (.returned (v.den E)) w'
 | _,_,_=>False
theorem xAH {f:FuncId} {fn:Func} {code:Code} (hf:P.funcs[f]?=some fn) (hb:fn.body=some code) {args:List AV} {H:Heap} {R:Ending→World→Prop} (hl:args.length≤fn.ntmps) (hH:xae X E w0 H w) (hargs:AV.ltL H.next args)
  (h:∀ a,CfgOk X E w0 fn.ntmps ⟨fun t=>match args[t]? with | some v=>some v | none=>some (.val undef),H⟩ a w→code.wpIn (FR none) 0 P (Fin P fn w0 fn.ntmps R) a w):Calls P f (AV.denL E args).toArray w R:=by
 refine xjq.1 (callsIn_of_wp_marks (F:=FR none) (n:=0) hf hb trivial (wpIn_mono (h _ ⟨[],(fun _ h=>by cases h),List.nodup_nil,⟨rfl,?_,fun t=>?_⟩,hH⟩) fun e a' w' hx=>?_))
 ·simp [xaJ]; omega
 ·have hal:=(xdM _ _).1 hargs
  unfold xao
  by_cases ht:t<args.length
  ·have e1:args[t]?=some args[t]:=List.getElem?_eq_getElem ht
   simp only [e1]
   refine ⟨?_,hal _ (List.getElem_mem ht)⟩
   rw [Array.getD_eq_getD_getElem?,Array.getElem?_append_left (by simp [xaJ]; exact ht)]
   simp [xaJ,ht]
  ·have e1:args[t]?=none:=List.getElem?_eq_none (by omega)
   simp only [e1]
   refine ⟨?_,trivial⟩
   rw [Array.getD_eq_getD_getElem?,Array.getElem?_append_right (by simp [xaJ]; omega),Array.getElem?_replicate]
   split<;>rfl
 ·have fin:(∃ (X:List (Nat×Go.Obj)) (E:Env) (c:Cfg) (v:AV),CfgOk X E w0 fn.ntmps c a' w'∧xfB P c fn.results.toList=some [v]∧∀ w',xae X E w0 c.heap w'→R (.returned (v.den E)) w')→LeavesInM (FR none) 0 P fn a'.tmps R a'.defers .returning w':=by
   rintro ⟨X2,E2,c,v,⟨rs,hrs1,hrs2,hS,hH'⟩,hv,hR⟩
   rw [hS.defers]
   refine xmE rs w' hrs1 hrs2 hH' fun w'' hH2=>⟨_,xll hS hH2 hv,?_⟩
   have:=hR w'' hH2
   simpa [AV.denL] using this
  cases e with
  | ret=>exact fin hx
  | normal=>exact fin hx
  | _=>exact hx.elim
def rhoC (c:Cfg):Operand→Option AV
 | .tmp t=>c.tmps t
 | .const v=>some (ofValue v)
 | _=>none
theorem CfgOk.opE {c:Cfg} {a:Act} {o:Oper} {x:Eff} (hc:CfgOk X E w0 N c a w) (hz:xm2 P (rhoC c) c.heap.objs c.heap.next o.op=some x) (hx:x.holds) :
  ∃ E' w' nx,(execOp a.eval o).run P w=.ok nx w'∧(nx=.value (x.v.den E')∨(nx=.skip∧x.v.den E'=undef))∧(∀ k,k<c.heap.next→E' k=E k)∧CfgOk X E' w0 N ⟨c.tmps,c.heap.eff x⟩ a w'∧AV.lt (c.heap.next+x.nk) x.v∧(∀ d,o.op≠.defer d)∧w.heap.size≤w'.heap.size:=by
 have hnd:∀ d,o.op≠.defer d:=fun d e=>by
  rw [e] at hz
  unfold xm2 at hz
  simp [xfR] at hz
 have hρ:∀ x v,rhoC c x=some v→a.eval x=v.den E∧AV.lt c.heap.next v:=by
  intro x v hx
  cases x with
  | tmp t=>exact hc.point hx
  | const u=>cases hx; exact ⟨(xhw E u).symm,xgr _ u⟩
  | global=>cases hx
  | func=>cases hx
 obtain ⟨rs,q1,q2,hS,hH⟩:=hc
 obtain ⟨f1,h2,_⟩:=xhy (P:=P) (objs:=c.heap.objs) (n:=c.heap.next) (K:=c.heap.next) (ρ:=rhoC c) hH hρ (Nat.le_refl _) o hz (fun _ o ho=>⟨Nat.ne_of_lt (hH.lt o ho).1,xaY (fun k hk=>Nat.ne_of_lt hk) (hH.lt o ho).2⟩)
 obtain ⟨E',w',nx,g1,g2,g3⟩:=h2 hx
 have hH3:=hH.effAt f1 g3 (fun o ho=>⟨.inl (hH.lt o ho).1,xaY (fun k hk=>.inl hk) (hH.lt o ho).2⟩) (n':=c.heap.next+x.nk) (Nat.le_add_right _ _) (Nat.le_refl _)
 have hE:∀ k,k<c.heap.next→E' k=E k:=fun k hk=>g3.agree k (.inl hk)
 exact ⟨E',w',nx,g1,g2,hE,⟨rs,q1,q2,hS.env hE (Nat.le_add_right _ _),hH3⟩,xeT (fun k hk=>(hk.elim (fun h=>Nat.lt_of_lt_of_le h (Nat.le_add_right _ _)) (fun h=>h):k<c.heap.next+x.nk)) _ f1.val,hnd,g3.chg.size⟩
theorem CfgOk.body {c:Cfg} {a:Act} (hc:CfgOk X E w0 N c a w) {o:Obj} (ho:o∈c.heap.objs):xbm E w o.key o.own o.body:=by
 obtain ⟨rs,_,_,_,hH⟩:=hc
 exact hH.objs o ho
end
end Go.Sy
set_option linter.unusedVariables false
namespace Go.Sy
open Go.RowKit
section
variable {P:Program} {ops:Array Oper} {Q:Exit→Act→World→Prop} {a:Act} {w:World} {rnd:Option Nat}
def xeZ (a:Act) (t:Nat):Value:=a.tmps.getD t undef
theorem xm8 {d:Nat} {v:Value} (h:d<a.tmps.size) (t:Nat):xeZ (a.put (some d) v) t=if t=d then v else xeZ a t:=by
 unfold xeZ Act.put
 rw [Array.getD_eq_getD_getElem?,Array.getElem?_setIfInBounds]
 by_cases e:t=d
 ·subst e; rw [if_pos rfl,if_pos h,if_pos rfl]; rfl
 ·rw [if_neg (fun h=>e h.symm),if_neg e,← Array.getD_eq_getD_getElem?]
theorem xm9 (dst:Option Nat) (v:Value):(a.put dst v).tmps.size=a.tmps.size:=by
 cases dst<;>simp [Act.put]
theorem xjm (dst:Option Nat) (v:Value):(a.put dst v).defers=a.defers:=by cases dst<;>rfl
theorem xtH (t:Nat):a.eval (.tmp t)=xeZ a t:=rfl
theorem xwo {o:Oper} {rest:List Oper} {nx:Next} {v:Value} {w':World} (hg:o.guard=none) (ho:∀ c,o.op≠.defer c) (hr:(execOp a.eval o).run P w=.ok nx w') (hv:nx=.value v∨(nx=.skip∧v=undef))
  (h:wpListIn (FR rnd) 0 P ops Q rest (a.put o.dst v) w'):wpListIn (FR rnd) 0 P ops Q (o::rest) a w:=by
 unfold wpListIn
 rw [if_pos (by simp [Region.wanted,hg])]
 exact xhr ho hr hv h
theorem xrf {o:Oper} {rest:List Oper} {v:Value} {w':World} (hg:o.guard=none) (ho:∀ c,o.op≠.defer c) (hr:(execOp a.eval o).run P w=.ok (.value v) w')
  (h:wpListIn (FR rnd) 0 P ops Q rest (a.put o.dst v) w'):wpListIn (FR rnd) 0 P ops Q (o::rest) a w:=xwo hg ho hr (.inl rfl) h
theorem xr1 {o:Oper} {rest:List Oper} {f:FuncId} {args:Array Value} {w':World} (hg:o.guard=none) (ho:∀ c,o.op≠.defer c) (hr:(execOp a.eval o).run P w=.ok (.enter f args) w')
  (hc:Calls P f args w' fun e w''=>∃ v,e=.returned v∧wpListIn (FR rnd) 0 P ops Q rest (a.put o.dst v) w''):wpListIn (FR rnd) 0 P ops Q (o::rest) a w:=by
 unfold wpListIn
 rw [if_pos (by simp [Region.wanted,hg])]
 exact xis ho hr hc
theorem xAB {o:Oper} {rest:List Oper} {l:Nat} {f:FuncId} {tmps:Array Value} {assign body:Code} {w':World} (hg:o.guard=none) (ho:∀ c,o.op≠.defer c) (hr:(execOp a.eval o).run P w=.ok (.round l f tmps assign body) w')
  (hc:RoundIn (FR none) 0 P l f tmps assign body w' fun e w''=>∃ v,e=.returned v∧wpListIn (FR rnd) 0 P ops Q rest (a.put o.dst v) w''):wpListIn (FR rnd) 0 P ops Q (o::rest) a w:=by
 unfold wpListIn
 rw [if_pos (by simp [Region.wanted,hg])]
 exact xoL ho hr hc
theorem xn7 {o:Oper} {j:Nat} {nx:Next} {v:Value} {w':World} {K:Act→World→Prop} (hj:ops[j]?=some o) (hg:o.guard=none) (ho:∀ c,o.op≠.defer c) (hr:(execOp a.eval o).run P w=.ok nx w') (hv:nx=.value v∨(nx=.skip∧v=undef)) (h:K (a.put o.dst v) w') :
  wpOpIn (FR rnd) 0 P ops Q j K a w:=by
 unfold wpOpIn
 rw [hj]
 simp only []
 rw [if_pos (by simp [Region.wanted,hg])]
 exact xhr ho hr hv h
theorem xDh {o:Oper} {j:Nat} {f:FuncId} {args:Array Value} {w':World} {K:Act→World→Prop} (hj:ops[j]?=some o) (hg:o.guard=none) (ho:∀ c,o.op≠.defer c) (hr:(execOp a.eval o).run P w=.ok (.enter f args) w')
  (hc:Calls P f args w' fun e w''=>∃ v,e=.returned v∧K (a.put o.dst v) w''):wpOpIn (FR rnd) 0 P ops Q j K a w:=by
 unfold wpOpIn
 rw [hj]
 simp only []
 rw [if_pos (by simp [Region.wanted,hg])]
 exact xis ho hr hc
end
end Go.Sy
set_option linter.unusedVariables false
namespace Go.Sy
open Go.RowKit
section
variable {P:Program} {X:List (Nat×Go.Obj)} {w0 w:World} {N:Nat} {E:Env} {ops:Array Oper} {rest:List Oper} {Q:Exit→Act→World→Prop} {c:Cfg} {a:Act} {o:Oper} {x:Eff} {d:Nat}
theorem xwp (hc:CfgOk X E w0 N c a w) (hg:o.guard=none) (hd:o.dst=some d) (hdN:d<N) (hz:xm2 P (rhoC c) c.heap.objs c.heap.next o.op=some x) (hx:x.holds)
  (h:∀ E' v w',(∀ k,k<c.heap.next→E' k=E k)→v=x.v.den E'→CfgOk X E' w0 N ⟨fun t=>match Nat.beq t d with | true=>some x.v | false=>c.tmps t,c.heap.eff x⟩ (a.put (some d) v) w'→wpListIn (FR none) 0 P ops Q rest (a.put (some d) v) w') :
  wpListIn (FR none) 0 P ops Q (o::rest) a w:=by
 obtain ⟨E',w',nx,g1,g2,g3,g4,g5,g6,_⟩:=hc.opE hz hx
 have henv:∀ k,(E' k).oneCell'=true:=by obtain ⟨_,_,_,_,hH⟩:=g4; exact hH.env
 have hp:=g4.put (d:=d) (v:=x.v.den E') (u:=some x.v) (E2:=E') hdN (fun o ho=>⟨rfl,xkn _⟩) henv (fun t y _ _=>(xeD y).2 fun _ _=>rfl) (fun y hy=>by cases hy; exact ⟨rfl,g5⟩)
 refine xwo (v:=x.v.den E') hg g6 g1 g2 ?_
 rw [hd]
 exact h E' _ w' g3 rfl hp
end
end Go.Sy
namespace Go.Proofs
open Go.Shelf
def Tryz.lays189_ren:Go.Shelf.Ren:=⟨fun | 189=>88 | 125=>148 | 257=>147 | 128=>203 | 129=>204 | 294=>194 | 295=>195 | 296=>196 | 297=>197 | 298=>198 | 299=>199 | 216=>200 | 300=>201 | 301=>202 | 328=>235 | 329=>236 | 330=>237 | 331=>238 | 332=>239 | 215=>153 | 343=>260 | n=>n,fun | 28=>48 | 3=>3 | 46=>270 | 0=>0 | 51=>317 | 53=>172 | 4=>4 | 183=>310 | 182=>309 | 131=>314 | 5=>5 | 9=>9 | 218=>346 | 222=>350 | 228=>366 | 229=>293 | n=>n,fun | n=>n⟩
theorem Tryz.lays189:Go.Proofs.Lays.n189 Tryz.prog Tryz.lays189_ren:={
 mixed:=by kernel_rfl
 f125:=Tryz.func148.trans (congrArg some (by kernel_rfl))
 f128:=Tryz.func203.trans (congrArg some (by kernel_rfl))
 f129:=Tryz.func204.trans (congrArg some (by kernel_rfl))
 f189:=Tryz.func88.trans (congrArg some (by kernel_rfl))
 f215:=Tryz.func153.trans (congrArg some (by kernel_rfl))
 f216:=Tryz.func200.trans (congrArg some (by kernel_rfl))
 f257:=Tryz.func147.trans (congrArg some (by kernel_rfl))
 f294:=Tryz.func194.trans (congrArg some (by kernel_rfl))
 f295:=Tryz.func195.trans (congrArg some (by kernel_rfl))
 f296:=Tryz.func196.trans (congrArg some (by kernel_rfl))
 f297:=Tryz.func197.trans (congrArg some (by kernel_rfl))
 f298:=Tryz.func198.trans (congrArg some (by kernel_rfl))
 f299:=Tryz.func199.trans (congrArg some (by kernel_rfl))
 f300:=Tryz.func201.trans (congrArg some (by kernel_rfl))
 f301:=Tryz.func202.trans (congrArg some (by kernel_rfl))
 f328:=Tryz.func235.trans (congrArg some (by kernel_rfl))
 f329:=Tryz.func236.trans (congrArg some (by kernel_rfl))
 f330:=Tryz.func237.trans (congrArg some (by kernel_rfl))
 f331:=Tryz.func238.trans (congrArg some (by kernel_rfl))
 f332:=Tryz.func239.trans (congrArg some (by kernel_rfl))
 f343:=Tryz.func260.trans (congrArg some (by kernel_rfl))
 t0:=Tryz.underlying0
 a0:=Tryz.isAgg0
 z0:=Tryz.sizeOf0
 v0:=Tryz.zeroValue0
 t3:=Tryz.underlying3
 a3:=Tryz.isAgg3
 z3:=Tryz.sizeOf3
 v3:=Tryz.zeroValue3
 t4:=Tryz.underlying4
 a4:=Tryz.isAgg4
 z4:=Tryz.sizeOf4
 v4:=Tryz.zeroValue4
 t5:=Tryz.underlying5
 a5:=Tryz.isAgg5
 z5:=Tryz.sizeOf5
 v5:=Tryz.zeroValue5
 t9:=Tryz.underlying9
 a9:=Tryz.isAgg9
 z9:=Tryz.sizeOf9
 v9:=Tryz.zeroValue9
 t28:=Tryz.underlying48
 a28:=Tryz.isAgg48
 z28:=Tryz.sizeOf48
 v28:=Tryz.zeroValue48
 t46:=Tryz.underlying270
 a46:=Tryz.isAgg270
 z46:=Tryz.sizeOf270
 v46:=Tryz.zeroValue270
 t51:=Tryz.underlying317
 a51:=Tryz.isAgg317
 z51:=Tryz.sizeOf317
 v51:=Tryz.zeroValue317
 t53:=Tryz.underlying172
 a53:=Tryz.isAgg172
 z53:=Tryz.sizeOf172
 v53:=Tryz.zeroValue172
 t131:=Tryz.underlying314
 a131:=Tryz.isAgg314
 z131:=Tryz.sizeOf314
 v131:=Tryz.zeroValue314
 t182:=Tryz.underlying309
 a182:=Tryz.isAgg309
 z182:=Tryz.sizeOf309
 v182:=Tryz.zeroValue309
 t183:=Tryz.underlying310
 a183:=Tryz.isAgg310
 z183:=Tryz.sizeOf310
 v183:=Tryz.zeroValue310
 t218:=Tryz.underlying346
 a218:=Tryz.isAgg346
 z218:=Tryz.sizeOf346
 v218:=Tryz.zeroValue346
 t222:=Tryz.underlying350
 a222:=Tryz.isAgg350
 z222:=Tryz.sizeOf350
 v222:=Tryz.zeroValue350
 t228:=Tryz.underlying366
 a228:=Tryz.isAgg366
 z228:=Tryz.sizeOf366
 v228:=Tryz.zeroValue366
 t229:=Tryz.underlying293
 a229:=Tryz.isAgg293
 z229:=Tryz.sizeOf293
 v229:=Tryz.zeroValue293 }
end Go.Proofs
namespace Go.Proofs
open Go.Shelf
def Tryz.keysE_ren:Go.Shelf.Ren:=⟨fun | 7=>129 | 10=>182 | n=>n,fun | 23=>155 | 26=>3 | 3=>165 | 28=>247 | 0=>0 | 27=>246 | 33=>110 | 4=>4 | n=>n,fun | n=>n⟩
theorem Tryz.keysE:Go.Proofs.SlLaysZI.n7 Tryz.prog Tryz.keysE_ren:={
 mixed:=by kernel_rfl
 f7:=⟨Tryz.f129.name,by decide,Tryz.func129.trans (congrArg some (by kernel_rfl))⟩
 f10:=⟨Tryz.f182.name,by decide,Tryz.func182.trans (congrArg some (by kernel_rfl))⟩
 t0:=Tryz.underlying0
 a0:=Tryz.isAgg0
 z0:=Tryz.sizeOf0
 v0:=Tryz.zeroValue0
 t4:=Tryz.underlying4
 a4:=Tryz.isAgg4
 z4:=Tryz.sizeOf4
 v4:=Tryz.zeroValue4
 t23:=Tryz.underlying155
 a23:=Tryz.isAgg155
 z23:=Tryz.sizeOf155
 v23:=Tryz.zeroValue155
 t26:=Tryz.underlying3
 a26:=Tryz.isAgg3
 z26:=Tryz.sizeOf3
 v26:=Tryz.zeroValue3
 t27:=Tryz.underlying246
 a27:=Tryz.isAgg246
 z27:=Tryz.sizeOf246
 v27:=Tryz.zeroValue246
 t28:=Tryz.underlying247
 a28:=Tryz.isAgg247
 z28:=Tryz.sizeOf247
 v28:=Tryz.zeroValue247
 t33:=Tryz.underlying110
 a33:=Tryz.isAgg110
 z33:=Tryz.sizeOf110
 v33:=Tryz.zeroValue110 }
def Tryz.sortedE_ren:Go.Shelf.Ren:=⟨fun | 6=>128 | 8=>181 | 9=>88 | 11=>225 | 13=>148 | 12=>147 | 23=>203 | 24=>204 | 14=>194 | 15=>195 | 16=>196 | 17=>197 | 18=>198 | 19=>199 | 20=>200 | 21=>201 | 22=>202 | 25=>235 | 26=>236 | 27=>237 | 28=>238 | 29=>239 | 30=>153 | 31=>260 | n=>n,fun | 26=>3 | 28=>247 | 24=>48 | 0=>0 | 3=>3 | 37=>270 | 48=>317 | 50=>172 | 4=>4 | 40=>310 | 39=>309 | 45=>314 | 5=>5 | 9=>9 | 51=>346 | 55=>350 | 57=>366 | 58=>293 | 33=>110 | n=>n,fun | n=>n⟩
theorem Tryz.sortedE:Go.Proofs.SlLaysZI.n6 Tryz.prog Tryz.sortedE_ren:={
 mixed:=by kernel_rfl
 f6:=⟨Tryz.f128.name,by decide,Tryz.func128.trans (congrArg some (by kernel_rfl))⟩
 f8:=⟨Tryz.f181.name,by decide,Tryz.func181.trans (congrArg some (by kernel_rfl))⟩
 f11:=⟨Tryz.f225.name,by decide,Tryz.func225.trans (congrArg some (by kernel_rfl))⟩
 t0:=Tryz.underlying0
 a0:=Tryz.isAgg0
 z0:=Tryz.sizeOf0
 v0:=Tryz.zeroValue0
 t24:=Tryz.underlying48
 a24:=Tryz.isAgg48
 z24:=Tryz.sizeOf48
 v24:=Tryz.zeroValue48
 t26:=Tryz.underlying3
 a26:=Tryz.isAgg3
 z26:=Tryz.sizeOf3
 v26:=Tryz.zeroValue3
 t28:=Tryz.underlying247
 a28:=Tryz.isAgg247
 z28:=Tryz.sizeOf247
 v28:=Tryz.zeroValue247
 i26:=by kernel_rfl }
end Go.Proofs
set_option linter.unusedVariables false
set_option maxRecDepth 100000
namespace Go.Proofs.YthfjhbbpdhjklaaGreat
open Go Go.Sy Go.Proofs Go.RowKit Go.Maps Go.Sort Go.Shelf
theorem xAF (mb:Option Nat) (w:World):Calls Tryz.prog 129 #[.map mb] w fun e w'=>e=.returned (.func (.func 182) #[] #[.pointer (some ⟨w.heap.size,0,none⟩)])∧w'=w.alloc (.cells #[.map mb] 155) :=
 (callsIn_wide (n:=0)).1 (AnyZI.keys_in Tryz.keysE Fence.wide 0 trivial rfl mb w)
theorem xxB (zs:List Int):(zs.mergeSort fun x y=>decide (x≤y))=xmJ Sy.leI zs :=
 xxQ Sy.xr4 Sy.xr3 (fun a _ b _ h k=>Sy.xDm a b h k) (List.mergeSort_perm _ _) (List.pairwise_mergeSort (fun a b c=>Sy.xr3 a b c) (fun a b=>by have:=Sy.xr4 a b; simpa [Sy.leI] using this) zs)
def RU:Value→Option (DataW Unit×List MemPlace):=fun _=>some (.nil,[])
theorem xB9 {n:Int} (h:(Lit.int .i64 n).wf=true):keyOf Tryz.prog 3 (.int .i64 n)=some (.int .i64 n):=by
 simp [keyOf,Tryz.underlying3,mapKey,h]
theorem xDN {w:World} {v:Value} {ks:List NK} {l:List (List Int)} {b:Nat} {es:Array MapEntry} {clock:Nat} (hM:MqOk w v .i64 ks l b es clock) (hk:∀ r∈l,(Lit.int .i64 (r.getD 0 0)).wf=true) {i:Nat} {e:MapEntry} (he:es.toList[i]?=some e) :
  ∃ r,l[i]?=some r∧WideElems.rd Tryz.prog 3 RU e=some (.int .i64 (r.getD 0 0),.nil):=by
 obtain ⟨r,a1,_,a3,a4,_⟩:=xxz hM he
 refine ⟨r,a1,?_⟩
 unfold WideElems.rd
 rw [a4,xB9 (hk r a3)]
 rfl
theorem xDo {w:World} {ks:List NK} {l:List (List Int)} {b:Nat} {es:Array MapEntry} {clock:Nat} (hM:MqOk w (.map (some b)) .i64 ks l b es clock) (hk:∀ r∈l,(Lit.int .i64 (r.getD 0 0)).wf=true) (hl:l.length≤1000000) :
  ∃ D0:DataW Unit,w.ownsMap Tryz.prog 3 RU b l.length D0∧(intKeys D0).Perm (l.map fun r=>r.getD 0 0)∧Maps.size D0=l.length:=by
 have hsz:es.size=l.length:=by rw [← hM.len]; simp
 refine ⟨.map ((es.toList.map (WideElems.rg Tryz.prog 3 RU)).foldr DataW.insert []),⟨es,clock,hM.at_,⟨by rw [hsz]; unfold maxLen; omega,hM.stamp,fun x hx=>?_⟩,by omega,rfl⟩,?_,?_⟩
 ·obtain ⟨i,hi⟩:=List.mem_iff_getElem?.1 hx
  obtain ⟨r,_,h⟩:=xDN hM hk hi
  exact ⟨_,h⟩
 ·have h1:(intKeys (.map ((es.toList.map (WideElems.rg Tryz.prog 3 RU)).foldr DataW.insert []):DataW Unit)).Perm ((es.toList.map (WideElems.rg Tryz.prog 3 RU)).map fun p=>Go.intOf p.1):=(WideShapes.sorted_perm _).map _
  refine h1.trans (List.Perm.of_eq ?_)
  rw [List.map_map]
  apply List.ext_getElem?
  intro i
  rw [List.getElem?_map,List.getElem?_map]
  cases hi:es.toList[i]? with
  | none =>
   have:=List.getElem?_eq_none_iff.1 hi
   rw [hM.len] at this
   rw [List.getElem?_eq_none this]; rfl
  | some e =>
   obtain ⟨r,hr,h⟩:=xDN hM hk hi
   rw [hr]
   simp only [Option.map_some,Function.comp,WideElems.rg,h,Option.getD_some]
   rfl
 ·show ((es.toList.map (WideElems.rg Tryz.prog 3 RU)).foldr DataW.insert []).length=l.length
  rw [length_sorted]
  simp [hsz]
theorem xC1 (m:Nat):AnyZI.SortsIn Tryz.prog Tryz.sortedE_ren Fence.wide m :=
 ⟨fun blk off cap ss W hH hblk hsz=>callsIn_wide.2 (Any.slices_Sort_int Tryz.lays189 blk off cap ss W hH hblk hsz),
  fun p cap W=>callsIn_wide.2 (Any.slices_Sort_int_none Tryz.lays189 p cap W)⟩
theorem xw9 {Bm b:Nat} {w:World} (hBm:Bm<w.heap.size) (hm:w.cell? ⟨Bm,0,none⟩=some (.map (some b))) {ks:List NK} {l:List (List Int)} {es:Array MapEntry} {clock:Nat} (hM:MqOk w (.map (some b)) .i64 ks l b es clock) (hk:∀ r∈l,(Lit.int .i64 (r.getD 0 0)).wf=true) (hl:l.length≤1000000) :
  Calls Tryz.prog 128 #[.func (.func 182) #[] #[.pointer (some ⟨Bm,0,none⟩)]] w fun e w'=>∃ v,e=.returned v∧w'.ownsRow w.heap.size 3 1 v l.length ((xmJ Sy.leI (l.map fun r=>r.getD 0 0)).map encZ)∧Below w.heap.size w w':=by
 obtain ⟨D0,hown,hperm,hsize⟩:=xDo hM hk hl
 refine (callsIn_wide (n:=6)).1 ?_
 have hseq:SeqGives Fence.wide 3 Tryz.prog 182 #[.pointer (some ⟨Bm,0,none⟩)] encZ (fun ss=>ss.Perm (intKeys D0)) (Maps.size D0) w :=
  AnyZI.keys_gives (ρ:=Tryz.keysE_ren) { Tryz.keysE with } Fence.wide _ trivial rfl (by omega) Bm b l.length D0 _ hBm hm hown
 have cS:=AnyZI.sorted_in Tryz.sortedE Fence.wide 6 trivial trivial trivial trivial rfl (by omega) (xC1 _) (enters_of Tryz.func88 (by kernel_rfl) rfl) 182 #[.pointer (some ⟨Bm,0,none⟩)] trivial (enters_of Tryz.func182 (by kernel_rfl) rfl) _ _ (by rw [hsize]; unfold maxLen; omega) (by rw [hsize]; omega) _ hseq
 refine CallsIn.mono cS ?_
 rintro e w' ⟨v,ss,rfl,hS,hrow,_,hb⟩
 refine ⟨v,rfl,?_,hb⟩
 have hp:ss.Perm (l.map fun r=>r.getD 0 0):=hS.trans hperm
 have hlen:ss.length=l.length:=by rw [hp.length_eq]; simp
 have he:ss.mergeSort (fun x y=>decide (x≤y))=xmJ Sy.leI (l.map fun r=>r.getD 0 0):=by
  rw [← xxB]
  exact mergeSort_of_perm_i hp
 rw [hlen,he] at hrow
 exact hrow
end Go.Proofs.YthfjhbbpdhjklaaGreat
set_option linter.unusedVariables false
set_option maxRecDepth 100000
namespace Go.Proofs.YthfjhbbpdhjklaaGreat
open Go Go.Sy Go.Proofs Go.RowKit
def tInt:TypeId:=3
def tDg:TypeId:=165
def kDg:List CK:=[.int .i64,.bool,.int .i64,.int .i64,.int .i64,.int .i64,.int .i64,.bool,.int .i64,.int .i64,.int .i64,.int .i64]
def nDg:List NK:=[.c (.int .i64),.c .bool,.c (.int .i64),.c (.int .i64),.c (.int .i64),.c (.int .i64),.c (.int .i64),.c .bool,.c (.int .i64),.c (.int .i64),.c (.int .i64),.c (.int .i64)]
def xBJ:Sy.Obj:=⟨0,0,false,.mq tInt tDg .i64 nDg []⟩
def sl0:AV:=.val (.slice none 0 0)
noncomputable def lsF:Func:=Tryz.f61
noncomputable def lsB:Code:=lsF.body.getD .skip
theorem xBW:lsF.body=some lsB:=by kernel_rfl
def xil (n:Nat):Code→Option Code
 | .region id ops d=>if Nat.beq id n then some (.region id ops d) else none
 | .seq a b=>match xil n a with | some c=>some c | none=>xil n b
 | .cond _ a b=>match xil n a with | some c=>some c | none=>xil n b
 | .block _ a=>xil n a
 | .loop a=>xil n a
 | .scope a=>xil n a
 | _=>none
noncomputable def lpc (n:Nat):Code:=(xil n lsB).getD .skip
noncomputable def xEI:Code:=.block 0 (.loop (.seq (lpc 3) (.seq (.cond (.tmp 11) .skip (.exit 0)) (.seq (.block 1 (.seq (lpc 4) (lpc 5))) (lpc 6)))))
theorem xEz:lsB=.seq (lpc 0) (.seq (lpc 1) (.seq (.seq (lpc 2) xEI) (.seq (lpc 7) .ret))):=by kernel_rfl
def lT0:Sy.Spec:=⟨[(0,.sl 0)],[xBJ],[],1,[]⟩
def lT1:Sy.Spec:=⟨[(0,.sl 0),(3,sl0)],[xBJ],[],1,[]⟩
def lT2:Sy.Spec:=⟨[(0,.sl 0),(3,sl0),(8,.sl 1),(9,.int .i64 0),(10,.int .i64 0)],[xBJ],[.row tInt [.int .i64]],1,[]⟩
def lT3:Sy.Spec:=⟨[(3,.sl 1)],[],[.row tDg kDg],1,[]⟩
def lTR:Sy.Spec:=⟨[(2,.sl 1)],[],[.row tDg kDg],1,[]⟩
end Go.Proofs.YthfjhbbpdhjklaaGreat
set_option maxRecDepth 100000
set_option linter.unusedVariables false
namespace Go.Proofs.YthfjhbbpdhjklaaGreat
open Go Go.Sy
noncomputable def lq0 (l:List (List Int)):Option (Nat×List U) :=
 some (0,[.r (l)])
noncomputable def lq1 (l:List (List Int)):Option (Nat×List U) :=
 some (0,[.r (l)])
noncomputable def xFU (n j:Int) (l ks:List (List Int)):List Int :=
 [(0:Int),(0:Int),(0:Int),(0:Int),(0:Int),bif false then (1:Int) else (0:Int),(0:Int),(0:Int),(0:Int),(0:Int)]
noncomputable def xkg (n j:Int) (l ks:List (List Int)) (y0:List U):List Int :=
 (xaO 1 [((ks).getD (gi y0 0).toNat []).getD 0 (0:Int)] (l)).getD
 ((0:Int)::(bif false then (1:Int) else (0:Int))::(xFU n j l ks))
noncomputable def xFT (n j:Int) (l ks:List (List Int)) (y0:List U):List Int :=
 [((xkg n j l ks y0)).getD 8 (0:Int),((xkg n j l ks y0)).getD 9 (0:Int),((xkg n j l ks y0)).getD 10 (0:Int),((xkg n j l ks y0)).getD 11 (0:Int)]
noncomputable def xFS (n j:Int) (l ks:List (List Int)) (y0:List U):List Int :=
 ((xkg n j l ks y0)).getD 5 (0:Int) ::
 ((xkg n j l ks y0)).getD 6 (0:Int)::(bif ((xkg n j l ks y0)).getD 7 (0:Int) !=(0:Int) then (1:Int) else (0:Int))::(xFT n j l ks y0)
noncomputable def xBX (n j:Int) (l ks:List (List Int)) (y0:List U):List Int :=
 (bif ((xkg n j l ks y0)).getD 1 (0:Int) !=(0:Int) then (1:Int) else (0:Int)) ::
 ((xkg n j l ks y0)).getD 2 (0:Int)::((xkg n j l ks y0)).getD 3 (0:Int)::((xkg n j l ks y0)).getD 4 (0:Int)::(xFS n j l ks y0)
noncomputable def xoa (n j:Int) (l ks:List (List Int)):List U :=
 [.i (j),.r ([])]
noncomputable def xjF (n j:Int) (l ks:List (List Int)) (y0:List U):Option (Nat×List U) :=
 (bif decide (gi y0 0<n) then xaH (inR (gi y0 0) (ks)) (xaH (inR (gi y0 0) (ks)) (xaH (xdo 96 ((gr y0 1).length+[((xkg n j l ks y0)).getD 0 (0:Int)::(xBX n j l ks y0)].length)) (some (0,[.i (IntKind.i64.wrap (gi y0 0+(1:Int))),.r (gr y0 1++[((xkg n j l ks y0)).getD 0 (0:Int)::(xBX n j l ks y0)])])))) else some (2,[.i (gi y0 0),.r (gr y0 1)]))
noncomputable def xDQ (n j:Int) (l ks:List (List Int)):Nat×List U:=xa6 (xjF n j l ks) (xoa n j l ks)
noncomputable def lqB (n j:Int) (l ks:List (List Int)):Option (Nat×List U) :=
 xaH ((xa5 (xjF n j l ks) (xoa n j l ks))) (some (0,[.r (gr (xDQ n j l ks).snd 1)]))
noncomputable def lqR (out:List (List Int)):Option (Nat×List U) :=
 some (0,[.r (out)])
end Go.Proofs.YthfjhbbpdhjklaaGreat
set_option maxRecDepth 100000
set_option linter.unusedVariables false
namespace Go.Proofs.YthfjhbbpdhjklaaGreat
open Go Go.Sy
theorem xFX (l:List (List Int)):xxo Tryz.prog Con.none 9 22 (lT0) [(.normal,lT0)] (lpc 0) [.r l]=lq0 l:=by kernel_rfl
theorem xFW (l:List (List Int)):xxo Tryz.prog Con.none 9 22 (lT0) [(.normal,lT1)] (lpc 1) [.r l]=lq1 l:=by kernel_rfl
theorem xFV (n j:Int) (l ks:List (List Int)):xxo Tryz.prog Con.none 9 22 (lT2) [(.normal,lT3)] (xEI) [.i n,.i j,.r l,.r ks]=lqB n j l ks:=by kernel_rfl
theorem xFR (out:List (List Int)):xxo Tryz.prog Con.none 9 22 (lT3) [(.ret,lTR)] ((Code.seq (lpc 7) .ret)) [.r out]=lqR out:=by kernel_rfl
end Go.Proofs.YthfjhbbpdhjklaaGreat
set_option linter.unusedVariables false
set_option maxRecDepth 100000
namespace Go.Proofs.YthfjhbbpdhjklaaGreat
open Go Go.Sy Go.Proofs Go.RowKit
def dgZ:List Int:=[0,0,0,0,0,0,0,0,0,0,0,0]
def dgN (x:List Int):List Int:=[x.getD 0 0,bif x.getD 1 0 !=0 then 1 else 0,x.getD 2 0,x.getD 3 0,x.getD 4 0,x.getD 5 0,x.getD 6 0,bif x.getD 7 0 !=0 then 1 else 0,x.getD 8 0,x.getD 9 0,x.getD 10 0,x.getD 11 0]
def dgAt (l:List (List Int)) (k:Int):List Int:=dgN ((xaO 1 [k] l).getD dgZ)
theorem xEA (n j:Int) (l ks:List (List Int)) (y0:List U):(xkg n j l ks y0).getD 0 0::xBX n j l ks y0=dgAt l ((ks.getD (gi y0 0).toNat []).getD 0 0):=rfl
theorem xzv (g:List Int→List Int) (ks:List (List Int)):∀ n,n≤ks.length→upto (fun i (s:List (List Int))=>s++[g (ks.getD i [])]) n []=(ks.take n).map g
 | 0,_=>rfl
 | n+1,h=>by
  unfold upto
  rw [xzv g ks n (by omega),List.take_add_one,List.map_append,List.getD_eq_getElem?_getD,List.getElem?_eq_getElem (show n<ks.length by omega)]
  rfl
theorem xB1 (l ks:List (List Int)) (h:ks.length≤1000000):lqB ks.length 0 l ks=some (0,[.r (ks.map fun r=>dgAt l (r.getD 0 0))]):=by
 obtain ⟨h1,h2,_⟩:=xf9 (step:=xjF ks.length 0 l ks) ks.length (fun i (s:List (List Int))=>[.i i,.r s]) (fun i s=>s++[dgAt l ((ks.getD i []).getD 0 0)]) (fun i s=>s.length=i) 1 (fun s=>[.i ks.length,.r s])
  (fun i s hi hs=>by simp [hs])
  (fun i s hi hs=>by
   unfold xjF
   simp only [xEA,gi_z,gr_1,gr_z,dlt hi,xaa (xey hi),xbQ (show i<4611686018427387904 by omega),Int.toNat_natCast]
   exact xaa (by unfold xdo maxLen; simp only [List.length_cons,List.length_nil]; omega))
  (fun s hs=>by
   unfold xjF
   simp only [gi_z,gr_1,gr_z,dnlt])
  (s:=[]) rfl
 unfold lqB
 have e:xoa ks.length 0 l ks=[.i ((0:Nat):Int),.r []]:=rfl
 unfold xDQ
 rw [e,xaa h1,h2,xzv (fun r=>dgAt l (r.getD 0 0)) ks ks.length (Nat.le_refl _),List.take_length]
 rfl
noncomputable def xaZ (l:List (List Int)):List (List Int):=(xmJ Sy.leI (l.map fun r=>r.getD 0 0)).map fun k=>dgAt l k
def xfN (l:List (List Int)):Prop:=l.length≤1000000∧∀ r∈l,(Lit.int .i64 (r.getD 0 0)).wf=true
noncomputable def xo1:List U→Option Eff
 | [.r l]=>some ⟨some (xfN l),[],1,[⟨1,1,true,.row tDg kDg (xaZ l)⟩],.sl 1⟩
 | _=>Option.none
theorem xA1 {w:World} (o:Go.Obj):Chg w (w.alloc o) []:=⟨Nat.le_refl _,rfl,rfl,rfl,(xbo w o).size,fun k hk _=>(xbo w o).block k hk⟩
theorem _root_.Go.Sy.CfgOk.envT {X:List (Nat×Go.Obj)} {E:Env} {w0 w:World} {N:Nat} {c:Cfg} {a:Act} (h:CfgOk X E w0 N c a w):∀ k,(E k).oneCell'=true:=by obtain ⟨_,_,_,_,hH⟩:=h; exact hH.env
theorem _root_.Go.Sy.CfgOk.newRow {X:List (Nat×Go.Obj)} {E:Env} {w0 w w':World} {N:Nat} {c:Cfg} {a:Act} (hc:CfgOk X E w0 N c a w) (hb:Blw w.heap.size w w') {e:TypeId} {ks:List CK} {rows:List (List Int)} {v:Value} {d:Nat} (hd:d<N) (hrow:xa8 w' true e ks.length v rows.length (rowV ks rows)) (hfresh:∀ g,blkO v=some g→w.heap.size≤g) (hone:v.oneCell'=true) :
  ∃ E',(∀ k,k<c.heap.next→E' k=E k)∧CfgOk X E' w0 N ⟨fun t=>match Nat.beq t d with | true=>some (.sl c.heap.next) | false=>c.tmps t,c.heap.eff ⟨none,[],1,[⟨c.heap.next,c.heap.next,true,.row e ks rows⟩],.sl c.heap.next⟩⟩ (a.put (some d) v) w':=by
 have henv:=hc.envT
 obtain ⟨rs,q1,q2,hS,hH⟩:=hc
 have heff:xeW E c.heap.objs w c.heap.next ⟨none,[],1,[⟨c.heap.next,c.heap.next,true,.row e ks rows⟩],.sl c.heap.next⟩ (fun k=>if k=c.heap.next then v else E k) w':=xk7 (b:=.row e ks rows) henv hone (by
  show xa8 w' true e ks.length (if c.heap.next=c.heap.next then v else E c.heap.next) _ _
  rw [if_pos rfl]; exact hrow) hb hfresh _
 have hwf:xdq c.heap.next c.heap.objs c.heap.next ⟨none,[],1,[⟨c.heap.next,c.heap.next,true,.row e ks rows⟩],.sl c.heap.next⟩:=xjJ (b:=.row e ks rows) trivial (Nat.lt_succ_self _)
 have hE:∀ k,k<c.heap.next→(fun k=>if k=c.heap.next then v else E k) k=E k:=fun k hk=>if_neg (by omega)
 have hH3:=hH.effAt hwf heff (fun o ho=>⟨.inl (hH.lt o ho).1,xaY (fun k hk=>.inl hk) (hH.lt o ho).2⟩) (n':=c.heap.next+1) (Nat.le_add_right _ _) (Nat.le_refl _)
 have hc2:CfgOk X (fun k=>if k=c.heap.next then v else E k) w0 N ⟨c.tmps,c.heap.eff ⟨none,[],1,[⟨c.heap.next,c.heap.next,true,.row e ks rows⟩],.sl c.heap.next⟩⟩ a w':=⟨rs,q1,q2,hS.env hE (Nat.le_add_right _ _),hH3⟩
 refine ⟨_,hE,hc2.put (d:=d) (v:=v) (u:=some (.sl c.heap.next)) hd (fun o ho=>⟨rfl,xkn _⟩) heff.env (fun t y _ _=>(xeD y).2 fun _ _=>rfl) (fun y hy=>by
  cases hy
  exact ⟨(if_pos rfl).symm,Nat.lt_succ_self _⟩)⟩
theorem xzS:lsF.ntmps=22:=by kernel_rfl
theorem xDi (zs:List Int):rowV [.int .i64] (xcj zs)=zs.map (Value.int .i64):=by
 induction zs with
 | nil=>rfl
 | cons z r ih =>
  show elV [.int .i64] 0 [z]++rowV [.int .i64] (xcj r)=_
  rw [ih]; rfl
theorem xxi {w:World} {base:Nat} {e:TypeId} {v:Value} {n:Nat} {zs:List Int} (h:w.ownsRow base e 1 v n (zs.map encZ)) (hn:zs.length=n):xa8 w true e 1 v (xcj zs).length (rowV [.int .i64] (xcj zs))∧(∀ g,blkO v=some g→base≤g)∧v.oneCell'=true:=by
 have hl:(xcj zs).length=n:=by simp [xcj,hn]
 rw [xDi,hl]
 have h2:=h.2
 have ho:xm4 w e 1 v n (zs.map (Value.int .i64)):=by
  rcases h2 with ⟨rfl,hz⟩ | ⟨gb,cap,cur,rfl,hb,hg,r1,r2,r3,r4⟩
  ·exact .inl ⟨none,rfl,hz⟩
  ·exact .inr ⟨gb,cap,cur,rfl,hg,r1,r2,r3,r4⟩
 refine ⟨xd6 ho (by simp [hn]),fun g hg=>?_,?_⟩
 ·rcases h2 with ⟨rfl,hz⟩ | ⟨gb,cap,cur,rfl,hb,hg2,r1,r2,r3,r4⟩
  ·cases hg
  ·have:gb=g:=by
    simp only [blkO] at hg
    split at hg
    ·cases hg
    ·simpa using hg
   omega
 ·rcases h2 with ⟨rfl,hz⟩ | ⟨gb,cap,cur,rfl,hb,hg2,r1,r2,r3,r4⟩<;>rfl
theorem xDl:xci Tryz.prog 61:=⟨lsF,Tryz.func61,by
 have:(lsF.name == "runtime.NumGoroutine")=false:=by kernel_rfl
 simpa using this,by rw [xBW]; rfl⟩
theorem xDp:xci Tryz.prog 129:=⟨Tryz.f129,Tryz.func129,by
 have:(Tryz.f129.name == "runtime.NumGoroutine")=false:=by kernel_rfl
 simpa using this,by kernel_rfl⟩
theorem xAn:xci Tryz.prog 128:=⟨Tryz.f128,Tryz.func128,by
 have:(Tryz.f128.name == "runtime.NumGoroutine")=false:=by kernel_rfl
 simpa using this,by kernel_rfl⟩
theorem xAC {E2:Env} {w:World} {l:List (List Int)} (hp:xfN l) (hH:xae [] E2 w ⟨(xbp 1 [.r l] [xBJ] 0).1,1⟩ w) :
  Calls Tryz.prog 61 (AV.denL E2 [.sl 0]).toArray w fun e w' =>
   ∃ E',e=.returned ((AV.sl 1).den E')∧xm5 E2 w 1 ⟨some (xfN l),[],1,[⟨1,1,true,.row tDg kDg (xaZ l)⟩],.sl 1⟩ E' w':=by
 refine xAH (P:=Tryz.prog) (fn:=lsF) (code:=lsB) Tryz.func61 xBW (by rw [xzS]; exact (by decide:1≤22)) hH ⟨(by show 0<1; omega),trivial⟩ fun a hc=>?_
 rw [xzS] at hc ⊢
 obtain ⟨E1,hE1,hc1⟩:=hc.shape (P:=Tryz.prog) (T:=lT0) (us:=[.r l]) (by kernel_rfl)
 rw [xEz]
 refine wpIn_seq (xlq (xk9 _) (i:=0) (y:=.normal) (T:=lT0) hc1 (xFX l) rfl fun E2a a2 w2 hE2a hc2=>?_)
 show Code.wpIn _ _ _ _ _ _ _
 refine wpIn_seq (xlq (xk9 _) (i:=0) (y:=.normal) (T:=lT1) hc2 (xFW l) rfl fun E3 a3 w3 hE3 hc3=>?_)
 show Code.wpIn _ _ _ _ _ _ _
 refine wpIn_seq (wpIn_seq (wpIn_region_list ?_))
 refine xwp (x:=⟨none,[],0,[],.sl 0⟩) (d:=6) hc3 rfl rfl (by omega) (by kernel_rfl) trivial fun E4 v4 w4 hE4 hv4 hc4=>?_
 have h6:=(hc4.point (t:=6) (v:=.sl 0) (by kernel_rfl)).1
 have hob:(⟨0,1,false,.mq tInt tDg .i64 nDg l⟩:Sy.Obj)∈(lT1.st [.r l]).heap.objs:=List.mem_of_getElem? (i:=0) rfl
 have hob4:(⟨0,1,false,.mq tInt tDg .i64 nDg l⟩:Sy.Obj)∈((lT1.st [.r l]).heap.eff ⟨none,[],0,[],.sl 0⟩).objs:=by
  show _∈xfu _ _
  unfold xfu
  simp only [List.nil_append]
  exact List.mem_filter.2 ⟨hob,rfl⟩
 obtain ⟨b,es,clock,hM⟩:∃ b es clock,MqOk w4 (E4 0) .i64 nDg l b es clock:=hc4.body hob4
 have hE0:E4 0=.map (some b):=hM.is
 refine xr1 (f:=129) (args:=#[.map (some b)]) (w':=w4) rfl (fun c e=>by cases e) ?_ ((xAF (some b) w4).mono ?_)
 ·have:=xho (P:=Tryz.prog) (E:=E4) (w:=w4) (o:=(((match lpc 2 with | .region _ ops _=>ops.toList | _=>[]).getD 1 default))) (f:=.func 129) (args:=#[.tmp 6]) (ts:=#[155]) (by kernel_rfl) (fi:=129) (first:=[]) (caps:=[]) (vs:=[.sl 0]) (a:=a3.put (some 6) v4) rfl (by
   show [(a3.put (some 6) v4).eval (.tmp 6)]=[E4 0]
   rw [show (a3.put (some 6) v4).eval (.tmp 6)=(AV.sl 0).den E4 from h6]; rfl) xDp
  rw [show (AV.denL E4 ([]++[.sl 0]++[])).toArray=#[.map (some b)] by rw [← hE0]; rfl] at this
  exact this
 rintro e w5 ⟨rfl,rfl⟩
 refine ⟨_,rfl,?_⟩
 have hc5:=(hc4.turn (X2:=[]) (xA1 (.cells #[.map (some b)] 155)) (fun b hb=>by cases hb) (fun x hx=>by cases hx)).put (d:=7) (v:=.func (.func 182) #[] #[.pointer (some ⟨w4.heap.size,0,none⟩)])
  (u:=some (.val (.func (.func 182) #[] #[.pointer (some ⟨w4.heap.size,0,none⟩)]))) (E2:=E4) (by omega) (fun o ho=>⟨rfl,xkn _⟩) hc4.envT (fun t x _ _=>(xeD x).2 fun _ _=>rfl) (fun x hx=>by cases hx; exact ⟨rfl,trivial⟩)
 have h7:=(hc5.point (t:=7) (v:=.val (.func (.func 182) #[] #[.pointer (some ⟨w4.heap.size,0,none⟩)])) (by kernel_rfl)).1
 obtain ⟨b5,es5,clock5,hM5⟩:∃ b' es clock,MqOk (w4.alloc (.cells #[.map (some b)] 155)) (E4 0) .i64 nDg l b' es clock:=hc5.body hob4
 rw [hE0] at hM5
 have hb5:b5=b:=by have:=hM5.is; simpa using this.symm
 subst hb5
 have hsz:w4.heap.size<(w4.alloc (.cells #[.map (some b5)] 155)).heap.size:=by rw [World.size_alloc]; omega
 have hcell:(w4.alloc (.cells #[.map (some b5)] 155)).cell? ⟨w4.heap.size,0,none⟩=some (.map (some b5)):=by
  have hg:=xbb w4 (.cells #[.map (some b5)] 155)
  unfold World.cell?
  rw [show (w4.alloc (.cells #[.map (some b5)] 155)).heap[(⟨w4.heap.size,0,none⟩:Addr).block]?=some (.cells #[.map (some b5)] 155 (0,0)) from hg]
  rfl
 refine xr1 (f:=128) (args:=#[.func (.func 182) #[] #[.pointer (some ⟨w4.heap.size,0,none⟩)]]) (w':=w4.alloc (.cells #[.map (some b5)] 155)) rfl (fun c e=>by cases e) ?_ ((xw9 hsz hcell hM5 hp.2 hp.1).mono ?_)
 ·have:=xho (P:=Tryz.prog) (E:=E4) (w:=w4.alloc (.cells #[.map (some b5)] 155)) (o:=(((match lpc 2 with | .region _ ops _=>ops.toList | _=>[]).getD 2 default))) (f:=.func 128) (args:=#[.tmp 7]) (ts:=#[247]) (by kernel_rfl) (fi:=128) (first:=[]) (caps:=[]) (vs:=[.val (.func (.func 182) #[] #[.pointer (some ⟨w4.heap.size,0,none⟩)])]) rfl (by
   exact congrArg (fun x=>[x]) h7) xAn
  exact this
 rintro e w6 ⟨v,rfl,hrow,hbelow⟩
 refine ⟨v,rfl,?_⟩
 obtain ⟨r1,r2,r3⟩:=xxi hrow (by rw [xmI]; simp)
 obtain ⟨E6,hE6,hc6⟩:=hc5.newRow (w':=w6) ⟨hbelow,Nat.le_refl _⟩ (d:=8) (by omega) (e:=tInt) (ks:=[.int .i64]) r1 r2 r3
 refine xwp (x:=⟨none,[],0,[],.int .i64 (xcj (xmJ Sy.leI (l.map fun r=>r.getD 0 0))).length⟩) (d:=9) hc6 rfl rfl (by omega) (by kernel_rfl) trivial fun E7 v7 w7 hE7 hv7 hc7=>?_
 refine xwp (x:=⟨none,[],0,[],.val (.int .i64 0)⟩) (d:=10) hc7 rfl rfl (by omega) (by kernel_rfl) trivial fun E8 v8 w8 hE8 hv8 hc8=>?_
 show xEI.wpIn _ _ _ _ _ _
 obtain ⟨E9,hE9,hc9⟩:=hc8.shape (P:=Tryz.prog) (T:=lT2) (us:=[.i (xcj (xmJ Sy.leI (l.map fun r=>r.getD 0 0))).length,.i 0,.r l,.r (xcj (xmJ Sy.leI (l.map fun r=>r.getD 0 0)))]) (by kernel_rfl)
 have hlen:(xcj (xmJ Sy.leI (l.map fun r=>r.getD 0 0))).length≤1000000:=by
  have:=hp.1
  simp only [xcj,List.length_map,xmI]
  exact this
 have hout:(xcj (xmJ Sy.leI (l.map fun r=>r.getD 0 0))).map (fun r=>dgAt l (r.getD 0 0))=xaZ l:=by
  unfold xcj xaZ
  rw [List.map_map]
  rfl
 have hloop:=xB1 l _ hlen
 rw [hout] at hloop
 refine xlq (xk9 _) (i:=0) (y:=.normal) (T:=lT3) hc9 ((xFV _ _ _ _).trans hloop) rfl fun E10 a10 w10 hE10 hc10=>?_
 show (Code.seq (lpc 7) .ret).wpIn _ _ _ _ _ _
 refine xlq (xk9 _) (i:=0) (y:=.ret) (T:=lTR) hc10 (xFR _) rfl fun E a11 w11 hE11 hc11=>?_
 refine ⟨[],E,lTR.st [.r (xaZ l)],.sl 1,hc11,by kernel_rfl,fun w' hH'=>?_⟩
 have hob:(⟨1,1,true,.row tDg kDg (xaZ l)⟩:Sy.Obj)∈(lTR.st [.r (xaZ l)]).heap.objs:=List.mem_of_getElem? (i:=0) rfl
 refine ⟨fun k=>if k=1 then E 1 else E2 k,?_,⟨fun k hk=>if_neg (by omega),fun k=>?_,hH'.below,fun o ho=>?_,fun o ho b hb=>?_,fun o ho o' ho' hown hne=>?_,fun o ho b hb=>?_,fun o ho b hb=>?_⟩⟩
 ·show Ending.returned (E 1)=.returned (if 1=1 then E 1 else E2 1)
  rw [if_pos rfl]
 ·show (if k=1 then E 1 else E2 k).oneCell'=true
  split
  ·exact hH'.env 1
  ·exact hH.env k
 ·rw [List.mem_singleton.1 ho]
  have:=hH'.objs _ hob
  show xa8 w' true _ _ (if 1=1 then E 1 else E2 1) _ _
  rw [if_pos rfl]
  exact this
 ·rw [List.mem_singleton.1 ho] at hb
  have hb:blkO (if 1=1 then E 1 else E2 1)=some b:=hb
  rw [if_pos rfl] at hb
  exact .inl (hH'.high _ hob rfl b hb)
 ·rw [List.mem_singleton.1 ho,List.mem_singleton.1 ho'] at hne
  exact absurd rfl hne
 ·rw [List.mem_singleton.1 ho] at hb
  exact xcC rfl hb
 ·rw [List.mem_singleton.1 ho] at hb
  exact xcC rfl hb
end Go.Proofs.YthfjhbbpdhjklaaGreat
