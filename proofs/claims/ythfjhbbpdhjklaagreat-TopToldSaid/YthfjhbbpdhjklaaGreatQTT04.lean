/- Several texts in one (wip/pack.py): XSyR XSyT XSyU XSyV XSyW XSyX XSyY XSyZ. -/
import Derived.OrdersIn
import Derived.Still
import Derived.LoopNIn
import Derived.RangeFuncRecord
import Derived.Scope
import Derived.Test.YthfjhbbpdhjklaaGreatQTT03
set_option linter.unusedVariables false
namespace Go.Sy
open Go.RowKit
section congr
variable {P:Program} {Γ:Con} {ρ ρ':Operand→Option AV} {objs objs':List Obj} {K:Nat}
theorem xgk:∀ (l:List Operand),(∀ x∈l,ρ x=ρ' x)→xlY ρ l=xlY ρ' l
 | [],_=>rfl
 | x::r,h=>by
  unfold xlY
  rw [h x (by simp),xgk r (fun y hy=>h y (by simp [hy]))]
theorem xmi:∀ (l:List (Nat×Operand)),(∀ x∈l.map (·.2),ρ x=ρ' x)→xgI ρ l=xgI ρ' l
 | [],_=>rfl
 | (i,x)::r,h=>by
  unfold xgI
  rw [h x (by simp),xmi r (fun y hy=>h y (by simp at hy ⊢; exact .inr hy))]
theorem xoH {sz:Nat}:∀ (l:List (Nat×Operand)) (j:Nat),(∀ x∈l.map (·.2),ρ x=ρ' x)→xiJ ρ sz j l=xiJ ρ' sz j l
 | [],_,_=>rfl
 | (i,x)::r,j,h=>by
  unfold xiJ
  rw [h x (by simp),xoH r (j+1) (fun y hy=>h y (by simp at hy ⊢; exact .inr hy))]
theorem xp9 {t:TypeId} {len:Nat} (l:List (Nat×Operand)) (h:∀ x∈l.map (·.2),ρ x=ρ' x):xdQ P ρ K t len l=xdQ P ρ' K t len l:=by
 unfold xdQ
 simp only [xoH l 0 h]
theorem xAR {k:NK} {v:AV} (h:∀ key∈v.keys,xap key objs=xap key objs'):encK P objs K k v=encK P objs' K k v:=by
 cases k with
 | c k=>rfl
 | s e ks =>
  cases v with
  | sl key=>simp only [encK,h key (by simp [AV.keys])]
  | val x =>
   by_cases hv:x=.slice none 0 0
   ·subst hv; rfl
   ·have e1:∀ os:List Obj,encK P os K (.s e ks) (.val x)=none:=by
     intro os
     unfold encK
     split<;>first | rfl | (rename_i heq; cases heq; exact absurd rfl hv) | (rename_i heq; cases heq)
    rw [e1,e1]
  | _=>rfl
theorem xvn:∀ {ks:List NK} {vs:List AV},(∀ key∈AV.keysL vs,xap key objs=xap key objs')→encE P objs K ks vs=encE P objs' K ks vs
 | [],[],_=>rfl
 | k::ks,v::vs,h=>by
  unfold encE
  rw [xAR (fun key hk=>h key (by simp [AV.keysL,hk])),xvn (fun key hk=>h key (by simp [AV.keysL,hk]))]
 | [],_::_,_=>rfl
 | _::_,[],_=>rfl
theorem xvm {ks:List NK}:∀ {els:List (List AV)},(∀ el∈els,∀ key∈AV.keysL el,xap key objs=xap key objs')→encR P objs K ks els=encR P objs' K ks els
 | [],_=>rfl
 | el::els,h=>by
  unfold encR
  rw [xvn (h el (by simp)),xvm (fun el' hel=>h el' (by simp [hel]))]
theorem xyB {x:Eff} (h:∀ o∈x.add,∀ e sz els,o.body=.arr e sz els→∀ el∈els,∀ key∈AV.keysL el,xap key objs=xap key objs'):xup P objs K x=xup P objs' K x:=by
 unfold xup
 split
 ·rename_i k ver e sz els v
  have:=fun ks=>xvm (P:=P) (K:=K) (ks:=ks) (h _ (List.mem_singleton.2 rfl) e sz els rfl)
  simp only [this]
 ·rfl
theorem xqk {sz:Nat}:∀ {l:List (Nat×Operand)} {j:Nat} {els:List (List AV)},xiJ ρ sz j l=some els→(∀ key∈l.flatMap (fun p=>xvi (ρ p.2)),xap key objs=xap key objs')→∀ el∈els,∀ key∈AV.keysL el,xap key objs=xap key objs'
 | [],_,els,h,_=>by cases h; simp
 | (i,x)::r,j,els,h,hk=>by
  unfold xiJ at h
  split at h
  ·split at h
   ·rename_i v hv
    split at h
    ·split at h
     ·rename_i els' hr
      cases h
      intro el hel
      rcases List.mem_cons.1 hel with rfl | hel
      ·exact fun key hkey=>hk key (by simp only [List.flatMap_cons,List.mem_append]; left; rw [hv]; exact hkey)
      ·exact xqk hr (fun key hkey=>hk key (by simp only [List.flatMap_cons,List.mem_append]; exact .inr hkey)) el hel
     ·cases h
    ·cases h
   ·cases h
  ·cases h
theorem xp7 {t:TypeId} {len:Nat} (l:List (Nat×Operand)) (h:∀ x∈l.map (·.2),ρ x=ρ' x) (hf:∀ key∈l.flatMap (fun p=>xvi (ρ p.2)),xap key objs=xap key objs') :
  ((xdQ P ρ K t len l).map fun x=>(xup P objs K x).getD x)=(xdQ P ρ' K t len l).map fun x=>(xup P objs' K x).getD x:=by
 rw [← xp9 l h]
 cases hb:xdQ P ρ K t len l with
 | none=>rfl
 | some x =>
  simp only [Option.map_some]
  rw [xyB]
  unfold xdQ at hb
  split at hb
  ·split at hb
   ·split at hb
    ·rename_i els hels
     split at hb
     ·cases hb
      intro o ho e sz els' hbody
      simp only [List.mem_singleton] at ho
      subst ho
      cases hbody
      exact xqk hels hf
     ·cases hb
    ·cases hb
   ·cases hb
  ·cases hb
theorem xlo (x:Option Operand) (h:∀ y,x=some y→ρ y=ρ' y):xv2 ρ x=xv2 ρ' x:=by
 cases x with
 | none=>rfl
 | some y=>simp only [xv2,h y rfl]
def xdC (objs objs':List Obj) (v:Option AV):Prop:=∀ key∈keyOf v,xap key objs=xap key objs'
theorem xyY {t:TypeId} {v:AV} (h:xdC objs objs' (some v)):xAA P objs t v=xAA P objs' t v:=by
 cases v<;>first | rfl | (simp only [xAA]; rw [h _ (by simp [keyOf])])
theorem xxJ {t:TypeId} {v:AV} (h:xdC objs objs' (some v)):xr0 P objs K t v=xr0 P objs' K t v:=by
 cases v<;>first | rfl | (simp only [xr0]; rw [h _ (by simp [keyOf])])
theorem xuV {t:TypeId} {s x:AV} (hs:xdC objs objs' (some s)) (h:xdC objs objs' (some x)):xnk P objs K t s x=xnk P objs' K t s x:=by
 cases x with
 | sl key2 =>
  have hk2:=h key2 (by simp [keyOf])
  simp only [xnk]
  rw [hk2]
  have hk:tgtA objs s=tgtA objs' s:=by
   cases s with
   | sl key=>exact hs key (by simp [keyOf])
   | _=>rfl
  rw [hk]
 | _=>rfl
theorem xw5 {t:TypeId} {v x:AV} (h:xdC objs objs' (some x)):xru P objs K t v x=xru P objs' K t v x:=by
 cases x<;>first | rfl | (simp only [xru]; rw [h _ (by simp [keyOf])])
theorem xq4 {t:TypeId} {x i:AV} (h:xdC objs objs' (some x)):xjh P objs t x i=xjh P objs' t x i:=by
 unfold xjh
 split
 ·rfl
 ·rename_i e _
  cases x with
  | sl key =>
   have hk:xap key objs=xap key objs':=h key (by simp [keyOf])
   generalize intA i=oi
   generalize xjY P e=os
   cases oi with
   | none=>rfl
   | some n=>cases os with
    | none=>rfl
    | some s=>cases s with
     | zero=>rfl
     | succ s=>simp only [hk]
  | vw key sz lo hi =>
   have hk:xap key objs=xap key objs':=h key (by simp [keyOf])
   generalize intA i=oi
   generalize xjY P e=os
   cases oi with
   | none=>rfl
   | some n=>cases os with
    | none=>rfl
    | some s=>cases s with
     | zero=>rfl
     | succ s=>simp only [hk]
  | _=>rfl
 ·rfl
theorem xlR {d:Nat} {x:AV} (h:xdC objs objs' (some x)):xhu P objs d x=xhu P objs' d x:=by
 cases x<;>first | rfl | (simp only [xhu]; rw [h _ (by simp [keyOf])])
theorem xq2 {t:TypeId} {x i:AV} (h:xdC objs objs' (some x)):xjg P objs t x i=xjg P objs' t x i:=by
 unfold xjg
 split
 ·exact xlR h
 ·exact xq4 h
theorem xxd {t:TypeId} {x:AV} {lo hi:Option Int} (h:xdC objs objs' (some x)):xrA P objs t x lo hi=xrA P objs' t x lo hi:=by
 cases x with
 | sl key=>simp only [xrA,xkG]; rw [h _ (by simp [keyOf])]
 | vw key sz l0 h0 =>
  cases l0 with
  | none=>simp only [xrA,xkG]; rw [h _ (by simp [keyOf])]
  | some _=>rfl
 | _=>rfl
theorem xvR {t:TypeId} {x:AV} (h:xdC objs objs' (some x)):xpw P objs K t x=xpw P objs' K t x:=by
 cases x with
 | sl key=>simp only [xpw]; rw [h _ (by simp [keyOf])]
 | val v=>cases v with
  | slice a n c=>cases a<;>cases n<;>cases c<;>rfl
  | _=>rfl
 | _=>rfl
theorem xvP {t:TypeId} {x:AV} {lo:Option Int} {hi mx:Int} (h:xdC objs objs' (some x)):xpv P objs K t x lo hi mx=xpv P objs' K t x lo hi mx:=by
 cases x<;>first | rfl | (simp only [xpv]; rw [h _ (by simp [keyOf])])
theorem xyk {t:TypeId} {x:AV} (h:xdC objs objs' (some x)):xvs P objs K t x=xvs P objs' K t x:=by
 cases x<;>first | rfl | (simp only [xvs,xm0]; rw [h _ (by simp [keyOf])])
theorem xps {x:AV} (h:xdC objs objs' (some x)):srcA P objs x=srcA P objs' x:=by
 cases x<;>first | rfl | (simp only [srcA]; rw [h _ (by simp [keyOf])])
theorem xAl {x:AV} (h:xdC objs objs' (some x)):tgtA objs x=tgtA objs' x:=by
 cases x<;>first | rfl | (simp only [tgtA]; rw [h _ (by simp [keyOf])])
theorem xAE {t:Option TypeDesc} {x:AV} (h:xdC objs objs' (some x)):lenA P objs t x=lenA P objs' t x:=by
 unfold lenA
 split
 ·rename_i e key
  have hk:xap key objs=xap key objs':=h key (by simp [keyOf])
  rw [hk]
 ·rfl
 ·rename_i e key sz lo hi
  have hk:xap key objs=xap key objs':=h key (by simp [keyOf])
  rw [hk]
 ·rfl
theorem xt9 {t:TypeId} {s x:AV} (hs:xdC objs objs' (some s)) (h:xdC objs objs' (some x)):xiB P objs K t s x=xiB P objs' K t s x:=by
 unfold xiB
 rw [xps h,xAl hs]
theorem xt7 {t:TypeId} {s x:AV} (hs:xdC objs objs' (some s)) (h:xdC objs objs' (some x)):xlb P objs K t s x=xlb P objs' K t s x:=by
 cases s with
 | vw key sz lo hi =>
  simp only [xlb]
  rw [xps h,hs _ (by simp [keyOf])]
 | _=>rfl
theorem xwn {t:TypeId} {x ix:AV} {ok:Bool} (h:xdC objs objs' (some x)):xpP P objs t x ix ok=xpP P objs' t x ix ok:=by
 cases x<;>first | rfl | (simp only [xpP]; rw [h _ (by simp [keyOf])])
theorem xqY {t:TypeId} {x ix v:AV} (h:xdC objs objs' (some x)):xje P objs K t x ix v=xje P objs' K t x ix v:=by
 cases x<;>first | rfl | (simp only [xje]; rw [h _ (by simp [keyOf])])
theorem xAQ {k:NK} {v:AV} (h:∀ key∈v.keys,xap key objs=xap key objs'):encQ P objs k v=encQ P objs' k v:=by
 cases k with
 | c k=>rfl
 | s e ks =>
  cases v with
  | sl key=>simp only [encQ,h key (by simp [AV.keys])]
  | val x =>
   by_cases hv:x=.slice none 0 0
   ·subst hv; rfl
   ·have e1:∀ os:List Obj,encQ P os (.s e ks) (.val x)=none:=by
     intro os
     unfold encQ
     split<;>first | rfl | (rename_i heq; cases heq; exact absurd rfl hv) | (rename_i heq; cases heq)
    rw [e1,e1]
  | _=>rfl
theorem xof:∀ {ks:List NK} {vs:List AV},(∀ key∈AV.keysL vs,xap key objs=xap key objs')→xuN P objs ks vs=xuN P objs' ks vs
 | [],[],_=>rfl
 | k::ks,v::vs,h=>by
  unfold xuN
  rw [xAQ (fun key hk=>h key (by simp [AV.keysL,hk])),xof (fun key hk=>h key (by simp [AV.keysL,hk]))]
 | [],_::_,_=>rfl
 | _::_,[],_=>rfl
theorem xwj {t:TypeId} {x ix:AV} {ok:Bool} (h:xdC objs objs' (some x)):xpN P objs K t x ix ok=xpN P objs' K t x ix ok:=by
 have hz:∀ et z,xnm P et=some (.agg z)→∀ ks,xuN P objs ks z=xuN P objs' ks z:=fun et z hz ks=>xof fun key hk=>by
  have:=xuc hz (fun _=>False)
  exact ((xc3 z).1 this key hk).elim
 cases x with
 | sl key =>
  simp only [xpN]
  rw [h _ (by simp [keyOf])]
  split
  ·rename_i kt et q ks l _
   cases intK q ix with
   | none=>rfl
   | some n =>
    cases hze:xnm P et with
    | none=>rfl
    | some z =>
     cases z with
     | agg z=>simp only [hz et z hze ks]
     | _=>rfl
  ·rfl
 | _=>rfl
theorem xqW {t:TypeId} {x ix v:AV} (h:xdC objs objs' (some x)) (hv:∀ key∈AV.keysL v.cells,xap key objs=xap key objs'):xjd P objs K t x ix v=xjd P objs' K t x ix v:=by
 cases x with
 | sl key =>
  simp only [xjd]
  rw [h _ (by simp [keyOf])]
  split
  ·rename_i kt et q ks l _
   cases intK q ix with
   | none=>rfl
   | some n=>cases v with
    | agg cs=>simp only [xof (P:=P) (objs:=objs) (objs':=objs') (ks:=ks) (vs:=cs) hv]
    | _=>rfl
  ·rfl
 | _=>rfl
theorem xwl {t:TypeId} {x ix:AV} {ok:Bool} (h:xdC objs objs' (some x)):xpO P objs t x ix ok=xpO P objs' t x ix ok:=by
 cases x with
 | sl key =>
  simp only [xpO]
  rw [h _ (by simp [keyOf])]
 | _=>rfl
theorem xwv {t:TypeId} {x ix v:AV} (h:xdC objs objs' (some x)):xpR P objs K t x ix v=xpR P objs' K t x ix v:=by
 cases x with
 | sl key =>
  simp only [xpR]
  rw [h _ (by simp [keyOf])]
 | _=>rfl
theorem xwP {t:TypeId} {x ix:AV} (h:xdC objs objs' (some x)):xp4 P objs K t x ix=xp4 P objs' K t x ix:=by
 cases x with
 | sl key =>
  simp only [xp4]
  rw [h _ (by simp [keyOf])]
 | _=>rfl
theorem xu5:∀ {l:List Operand} {vs:List AV},xlY ρ l=some vs→(∀ key∈l.flatMap (fun x=>keyOf (ρ x)),xap key objs=xap key objs')→∀ v∈vs,xdC objs objs' (some v)
 | [],vs,h,_,v,hv=>by cases h; cases hv
 | x::r,vs,h,hk,v,hv=>by
  unfold xlY at h
  split at h
  ·rename_i u us h1 h2
   cases h
   rcases List.mem_cons.1 hv with rfl | hv
   ·intro key hkey
    exact hk key (by simp only [List.flatMap_cons,List.mem_append]; rw [h1]; exact .inl hkey)
   ·exact xu5 h2 (fun key hkey=>hk key (by simp only [List.flatMap_cons,List.mem_append]; exact .inr hkey)) v hv
  ·cases h
theorem xqJ (op:Op) (h:∀ x∈op.operands,ρ x=ρ' x) (hf:∀ key∈xoY ρ op,xap key objs=xap key objs'):xfR P ρ objs K op=xfR P ρ' objs' K op:=by
 unfold xfR
 split
 ·rename_i x; rw [h x (by simp [Op.operands])]
 ·rename_i x; rw [h x (by simp [Op.operands])]
 ·rfl
 ·rename_i x; rw [h x (by simp [Op.operands])]
 ·rename_i t len parts
  exact xp7 parts.toList (fun x hx=>h x (by
   obtain ⟨p,hp,rfl⟩:=List.mem_map.1 hx
   simp only [Op.operands,List.mem_toArray,List.mem_map]
   exact ⟨p,hp,rfl⟩)) hf
 ·rename_i t parts
  rw [xmi parts.toList (fun x hx=>h x (by
   obtain ⟨p,hp,rfl⟩:=List.mem_map.1 hx
   simp only [Op.operands,List.mem_toArray,List.mem_map]
   exact ⟨p,hp,rfl⟩))]
 ·rename_i t x
  rw [← h x (by simp [Op.operands])]
  cases hx:ρ x with
  | none=>rfl
  | some v =>
   simp only []
   rw [xxJ (objs':=objs') (by rw [← hx]; exact hf),xyY (objs':=objs') (by rw [← hx]; exact hf)]
 ·rename_i t x y
  rw [← h x (by simp [Op.operands]),← h y (by simp [Op.operands])]
  cases hx:ρ x with
  | none=>rfl
  | some v=>cases hy:ρ y with
   | none=>rfl
   | some u=>exact xw5 (by rw [← hx]; exact hf)
 ·rename_i x; rw [h x (by simp [Op.operands])]
 ·rename_i x y _; rw [h x (by simp [Op.operands]),h y (by simp [Op.operands])]
 ·rename_i x; rw [h x (by simp [Op.operands])]
 ·rename_i x; rw [h x (by simp [Op.operands])]
 ·rename_i x; rw [h x (by simp [Op.operands])]
 ·rename_i x; rw [h x (by simp [Op.operands])]
 ·rename_i first caps
  rw [xgk first.toList (fun x hx=>h x (by simp only [Op.operands,Array.mem_append]; exact .inl (by simpa using hx))),
   xgk caps.toList (fun x hx=>h x (by simp only [Op.operands,Array.mem_append]; exact .inr (by simpa using hx)))]
 ·rename_i x _
  rw [← h x (by simp [Op.operands])]
  cases hx:ρ x with
  | none=>rfl
  | some v =>
   have hv:xdC objs objs' (some v):=by rw [← hx]; exact hf
   split
   ·rename_i v' fd he _
    cases he
    split
    ·exact xlR hv
    ·rfl
   ·rfl
 ·rename_i x _; rw [h x (by simp [Op.operands])]
 ·rename_i x i; rw [h x (by simp [Op.operands]),h i (by simp [Op.operands])]
 ·rename_i x i
  rw [← h x (by simp [Op.operands]),← h i (by simp [Op.operands])]
  cases hx:ρ x with
  | none=>rfl
  | some v=>cases hi:ρ i with
   | none=>rfl
   | some u=>exact xq2 (by rw [← hx]; exact hf)
 ·rename_i x _; rw [h x (by simp [Op.operands])]
 ·rename_i t x lo hi
  rw [← h x (by simp [Op.operands]),xlo (ρ:=ρ) (ρ':=ρ') lo (fun y hy=>h y (by subst hy; simp [Op.operands])),xlo (ρ:=ρ) (ρ':=ρ') hi (fun y hy=>h y (by subst hy; simp [Op.operands]))]
  cases hx:ρ x with
  | none=>rfl
  | some v =>
   have hv:xdC objs objs' (some v):=by rw [← hx]; exact hf
   split
   ·rename_i v' lo hi he _ _
    cases he
    exact xxd hv
   ·rfl
 ·rename_i t x lo hi mx
  rw [← h x (by simp [Op.operands]),← h mx (by simp [Op.operands]),xlo (ρ:=ρ) (ρ':=ρ') lo (fun y hy=>h y (by subst hy; simp [Op.operands])),xlo (ρ:=ρ) (ρ':=ρ') hi (fun y hy=>h y (by subst hy; simp [Op.operands]))]
  have e1:hi.bind ρ=hi.bind ρ':=by
   cases hi with
   | none=>rfl
   | some y=>exact h y (by simp [Op.operands])
  rw [← e1]
  cases hx:ρ x with
  | none=>rfl
  | some v =>
   have hv:xdC objs objs' (some v):=by rw [← hx]; exact hf
   simp only []
   rw [xvR hv]
   simp only [xvP hv]
 ·rfl
 ·rename_i t x ix ok
  rw [← h x (by simp [Op.operands]),← h ix (by simp [Op.operands])]
  cases hx:ρ x with
  | none=>rfl
  | some v=>cases hi:ρ ix with
   | none=>rfl
   | some u=>simp only []; rw [xwj (by rw [← hx]; exact hf),xwn (by rw [← hx]; exact hf),xwl (by rw [← hx]; exact hf)]
 ·rename_i t x ix y
  rw [← h x (by simp [Op.operands]),← h ix (by simp [Op.operands]),← h y (by simp [Op.operands])]
  cases hx:ρ x with
  | none=>rfl
  | some v=>cases hi:ρ ix with
   | none=>rfl
   | some u=>cases hy:ρ y with
    | none=>rfl
    | some z =>
     have h1:xdC objs objs' (some v):=by rw [← hx]; exact hf
     simp only []
     rw [xwv h1]
 ·rename_i t x ix y
  rw [← h x (by simp [Op.operands]),← h ix (by simp [Op.operands]),← h y (by simp [Op.operands])]
  cases hx:ρ x with
  | none=>rfl
  | some v=>cases hi:ρ ix with
   | none=>rfl
   | some u=>cases hy:ρ y with
    | none=>rfl
    | some z =>
     have h1:xdC objs objs' (some v):=by rw [← hx]; exact fun key hk=>hf key (by simp only [xoY,List.mem_append]; exact .inl hk)
     simp only []
     rw [xqW h1 (fun key hk=>hf key (by simp only [xoY,List.mem_append]; right; rw [hy]; exact hk)),xqY h1]
 ·rename_i b args argTypes
  rw [← xgk args.toList (fun x hx=>h x (by simp only [Op.operands,Call.operands,Array.mem_append]; exact .inr (by simpa using hx)))]
  cases hvs:xlY ρ args.toList with
  | none=>rfl
  | some vs =>
   have hsame:=xu5 (objs:=objs) (objs':=objs') hvs hf
   simp only []
   split
   ·rfl
   ·rfl
   ·split
    ·rename_i x; exact xAE (hsame x (by simp))
    ·rfl
   ·split
    ·rename_i s x t t' _
     rw [xuV (hsame s (by simp)) (hsame x (by simp)),xt9 (hsame s (by simp)) (hsame x (by simp)),xt7 (hsame s (by simp)) (hsame x (by simp))]
    ·rfl
   ·split
    ·rename_i x k t ts _
     exact xwP (hsame x (by simp))
    ·rfl
   ·split
    ·rename_i x t _
     exact xyk (hsame x (by simp))
    ·rfl
   ·rfl
 ·rfl
mutual
theorem xB8:∀ v:AV,v.weak.keys=v.keys
 | .bool _ | .int _ _ | .ptr _ _ | .fn _ _ _ | .sl _ | .ix _ _ _ _ _ | .yl _ | .vw _ _ _ _ | .fs _ _ | .ifc _ _=>rfl
 | .val v=>by cases v<;>rfl
 | .agg cs=>by simp only [AV.weak,AV.keys,xkX cs]
 | .tup cs=>by simp only [AV.weak,AV.keys,xkX cs]
theorem xkX:∀ l:List AV,AV.keysL (AV.weakL l)=AV.keysL l
 | []=>rfl
 | a::r=>by simp only [AV.weakL,AV.keysL,xB8 a,xkX r]
end
theorem xy2 (v:Option AV):xvi (v.map AV.weak)=xvi v:=by
 cases v with
 | none=>rfl
 | some v=>cases v with
  | val u=>cases u<;>rfl
  | agg cs=>exact xkX cs
  | tup cs=>show AV.keys (AV.tup (AV.weakL cs))++[]=AV.keys (AV.tup cs)++[]; simp only [AV.keys,xkX cs]
  | _=>rfl
theorem xzs (op:Op) (h:∀ x∈op.operands,ρ x=ρ' x) (hf:∀ key∈xoY ρ op,xap key objs=xap key objs'):xm2 P ρ objs K op=xm2 P ρ' objs' K op:=by
 have hw:∀ x∈op.operands,(ρ x).map AV.weak=(ρ' x).map AV.weak:=fun x hx=>by rw [h x hx]
 have kw:∀ v:Option AV,keyOf (v.map AV.weak)=keyOf v:=by
  intro v
  cases v with
  | none=>rfl
  | some v=>cases v with
   | val u=>cases u<;>rfl
   | _=>rfl
 have fw:∀ op,xoY (fun z=>(ρ z).map AV.weak) op=xoY ρ op:=by
  intro op
  unfold xoY
  split<;>simp only [kw,xy2]
 have w0:xfR P (fun z=>(ρ z).map AV.weak) objs K op=xfR P (fun z=>(ρ' z).map AV.weak) objs' K op:=xqJ _ hw (fun key hk=>by rw [fw] at hk; exact hf key hk)
 unfold xm2
 split
 ·rename_i x y _
  rw [h x (by simp [Op.operands]),h y (by simp [Op.operands]),w0]
 ·rename_i x
  rw [h x (by simp [Op.operands]),w0]
 ·rename_i x
  rw [h x (by simp [Op.operands]),w0]
 ·exact w0
 ·exact w0
 ·exact xqJ _ h hf
theorem xvu {t:Option TypeId} {k i:Nat} {acc acc':List xeU} (h:canK P objs t k acc=some (i,acc')) :
  (∀ x∈acc,x∈acc')∧((∀ x∈acc',∀ k,x.key=some k→xap k objs=xap k objs')→canK P objs' t k acc=some (i,acc')):=by
 unfold canK at h ⊢
 split at h
 ·rename_i j hj
  cases h
  exact ⟨fun _ hx=>hx,fun _=>rfl⟩
 ·rename_i hn
  split at h
  ·rename_i o ho
   cases h
   refine ⟨fun x hx=>by simp [hx],fun hs=>?_⟩
   rw [← hs ⟨some k,o.own,match o.body with | .nil=>xgp P t | b=>b⟩ (List.mem_append.2 (.inr (List.mem_singleton.2 rfl))) k rfl,ho]
  ·cases h
mutual
theorem xA3:∀ (v:AV) (t:Option TypeId) (acc:List xeU) (v':AV) (acc':List xeU),canV P objs t v acc=some (v',acc') →
  (∀ x∈acc,x∈acc')∧((∀ x∈acc',∀ k,x.key=some k→xap k objs=xap k objs')→canV P objs' t v acc=some (v',acc'))
 | .sl k,t,acc,v',acc',h=>by
  unfold canV at h ⊢
  split at h
  ·rename_i i acc1 hc
   cases h
   obtain ⟨a,b⟩:=xvu (objs':=objs') hc
   exact ⟨a,fun hs=>by rw [b hs]⟩
  ·cases h
 | .ptr k off,t,acc,v',acc',h=>by
  unfold canV at h ⊢
  split at h
  ·rename_i i acc1 hc
   cases h
   obtain ⟨a,b⟩:=xvu (objs':=objs') hc
   exact ⟨a,fun hs=>by rw [b hs]⟩
  ·cases h
 | .fn f first caps,t,acc,v',acc',h=>by
  unfold canV at h ⊢
  split at h
  ·rename_i first' acc1 h1
   split at h
   ·rename_i caps' acc2 h2
    cases h
    obtain ⟨a,b⟩:=xjp first [] acc first' acc1 h1
    obtain ⟨a',b'⟩:=xjp caps [] acc1 caps' acc' h2
    exact ⟨fun x hx=>a' x (a x hx),fun hs=>by rw [b (fun x hx=>hs x (a' x hx))]; simp only []; rw [b' hs]⟩
   ·cases h
  ·cases h
 | .agg cs,t,acc,v',acc',h=>by
  unfold canV at h ⊢
  split at h
  ·rename_i cs' acc1 h1
   cases h
   obtain ⟨a,b⟩:=xjp cs _ acc cs' acc' h1
   exact ⟨a,fun hs=>by rw [b hs]⟩
  ·cases h
 | .tup cs,t,acc,v',acc',h=>by
  unfold canV at h ⊢
  split at h
  ·rename_i cs' acc1 h1
   cases h
   obtain ⟨a,b⟩:=xjp cs _ acc cs' acc' h1
   exact ⟨a,fun hs=>by rw [b hs]⟩
  ·cases h
 | .yl _,t,acc,v',acc',h=>by cases h
 | .ix _ _ _ _ _,t,acc,v',acc',h=>by cases h
 | .vw _ _ _ _,t,acc,v',acc',h=>by cases h
 | .bool b,t,acc,v',acc',h=>by simp only [canV] at h ⊢; cases h; exact ⟨fun _ hx=>hx,fun _=>rfl⟩
 | .ifc _ _,t,acc,v',acc',h=>by cases h
 | .fs m ents,t,acc,v',acc',h=>by simp only [canV] at h ⊢; cases h; exact ⟨fun _ hx=>hx,fun _=>rfl⟩
 | .int k b,t,acc,v',acc',h=>by simp only [canV] at h ⊢; cases h; exact ⟨fun _ hx=>hx,fun _=>rfl⟩
 | .val v,t,acc,v',acc',h=>by
  by_cases hv:v=.slice none 0 0
  ·subst hv
   simp only [canV] at h ⊢
   split at h
   ·cases h; exact ⟨fun x hx=>by simp [hx],fun _=>rfl⟩
   ·cases h; exact ⟨fun _ hx=>hx,fun _=>rfl⟩
  ·have e:∀ objs,canV P objs t (.val v) acc=some (.val v,acc):=by
    intro objs
    unfold canV
    split<;>first | rfl | (rename_i heq; cases heq; exact absurd rfl hv) | (rename_i heq; cases heq)
   rw [e] at h
   cases h
   exact ⟨fun _ hx=>hx,fun _=>e _⟩
theorem xjp:∀ (l:List AV) (ts:List TypeId) (acc:List xeU) (l':List AV) (acc':List xeU),canL P objs ts l acc=some (l',acc') →
  (∀ x∈acc,x∈acc')∧((∀ x∈acc',∀ k,x.key=some k→xap k objs=xap k objs')→canL P objs' ts l acc=some (l',acc'))
 | [],ts,acc,l',acc',h=>by cases h; exact ⟨fun _ hx=>hx,fun _=>by unfold canL; rfl⟩
 | a::r,ts,acc,l',acc',h=>by
  unfold canL at h ⊢
  split at h
  ·rename_i a' acc1 h1
   split at h
   ·rename_i r' acc2 h2
    cases h
    obtain ⟨x1,x2⟩:=xA3 a _ acc a' acc1 h1
    obtain ⟨y1,y2⟩:=xjp r _ acc1 r' acc' h2
    exact ⟨fun x hx=>y1 x (x1 x hx),fun hs=>by rw [x2 (fun x hx=>hs x (y1 x hx))]; simp only []; rw [y2 hs]⟩
   ·cases h
  ·cases h
end
theorem xqF:∀ {es0 es:List xeU},xfT P es0=some es→es.map (·.key)=es0.map (·.key)
 | [],es,h=>by cases h; rfl
 | x::r,es,h=>by
  have key:∀ b:Body,((xfT P r).map ({ x with body:=b }::·))=some es→es.map (·.key)=(x::r).map (·.key):=by
   intro b h
   cases hr:xfT P r with
   | none=>rw [hr] at h; cases h
   | some es'=>rw [hr] at h; cases h; simp [xqF hr]
  unfold xfT at h
  obtain ⟨xk,xo,xb⟩:=x
  cases xb with
  | row e ks l=>exact key _ h
  | nst e ks l=>exact key _ h
  | sub e ks l=>exact key _ h
  | nil=>exact key _ h
  | arr e sz els =>
   simp only [] at h
   split at h
   ·exact key _ h
   ·cases h
  | cells=>cases h
  | mq=>exact key _ h
  | mf=>cases h
  | mp=>cases h
  | fin=>cases h
  | loop=>cases h
theorem xt1 {f:FuncId} {args:List AV} {ft:List Nat} {y:Eff} (h:xyo P Γ f args objs K=some (ft,y)) (hf:∀ key∈ft,xap key objs=xap key objs'):xyo P Γ f args objs' K=some (ft,y):=by
 have h0:=h
 unfold xyo at h
 split at h
 case h_2=>cases h
 rename_i args' es0 hcan
 split at h
 case h_2=>cases h
 rename_i es hrows
 split at h
 case h_2=>cases h
 rename_i o' hobjs
 split at h
 case h_2=>cases h
 rename_i x hx
 split at h
 case h_2=>cases h
 rename_i y' hy
 cases h
 have hkeys:=xqF hrows
 have hcan':=(xjp (objs':=objs') _ _ _ _ _ hcan).2 (fun x hx k hk=>hf k (by
  have h1:some k∈es0.map (·.key):=List.mem_map.2 ⟨x,hx,hk⟩
  rw [← hkeys] at h1
  obtain ⟨z,hz,hzk⟩:=List.mem_map.1 h1
  exact List.mem_filterMap.2 ⟨z,hz,hzk⟩))
 unfold xyo at h0 ⊢
 rw [hcan] at h0
 rw [hcan']
 exact h0
theorem xkw (k:Nat):∀ a b:List Obj,xap k (a++b)=match xap k a with | some o=>some o | none=>xap k b
 | [],b=>rfl
 | x::r,b=>by
  simp only [List.cons_append,xap]
  split
  ·rfl
  ·exact xkw k r b
theorem xkv (k K:Nat):∀ l:List Obj,xap k (l.filter fun o=>Nat.blt o.key K)=if k<K then xap k l else none
 | []=>by simp [xap]
 | x::r=>by
  have ih:=xkv k K r
  rw [List.filter_cons]
  by_cases hx:Nat.blt x.key K=true
  ·rw [if_pos hx]
   simp only [xap]
   split
   ·rename_i he
    have:=Nat.eq_of_beq_eq_true he
    rw [if_pos (by rw [← this]; simpa using hx)]
   ·exact ih
  ·rw [if_neg hx,ih]
   split
   ·rename_i hk
    simp only [xap]
    rw [if_neg]
    intro he
    have:=Nat.eq_of_beq_eq_true he
    exact hx (by simp; omega)
   ·rfl
theorem xl3:∀ {args:List AV} {K:Nat} {args':List AV} {add:List Obj} {ft:List Nat} {p:Option Prop},xnw P objs K args=some (args',add,ft,p)→(∀ key∈ft,xap key objs=xap key objs')→xnw P objs' K args=some (args',add,ft,p)∧∀ o∈add,K≤o.key
 | [],K,args',add,ft,p,h,_=>by cases h; exact ⟨rfl,by simp⟩
 | a::r,K,args',add,ft,p,h,hf=>by
  unfold xnw at h ⊢
  split at h
  ·rename_i ha
   split at h
   ·rename_i k b p1 r' add' ft' q hs hr
    cases h
    obtain ⟨i1,i2⟩:=xl3 hr (fun key hk=>hf key (List.mem_cons_of_mem _ hk))
    have hs':srcA P objs' a=some (k,b,p1):=by
     rw [← hs]
     refine (xps (fun key hk=>?_)).symm
     cases a<;>simp [isVw] at ha
     rename_i key0 _ _ _
     simp only [keyOf,List.mem_singleton] at hk
     subst hk
     have:k=key:=by
      simp only [srcA] at hs
      repeat' split at hs
      all_goals first | (cases hs; rfl) | cases hs
     exact hf key (by rw [this]; exact List.mem_cons_self)
    simp only [hs',i1]
    refine ⟨trivial,fun o ho=>?_⟩
    rcases List.mem_cons.1 ho with rfl | ho
    ·exact Nat.le_refl _
    ·have:=i2 o ho; omega
   ·cases h
  ·rename_i ha
   split at h
   ·rename_i r' add' ft' q hr
    cases h
    obtain ⟨i1,i2⟩:=xl3 hr hf
    simp only [i1]
    exact ⟨trivial,i2⟩
   ·cases h
theorem xoi {f:FuncId} {args:List AV} {ft:List Nat} {y:Eff} (h:xwT P Γ f args objs K=some (ft,y)) (hf:∀ key∈ft,xap key objs=xap key objs'):xwT P Γ f args objs' K=some (ft,y):=by
 unfold xwT at h ⊢
 split at h
 ·exact xt1 h hf
 ·split at h
  case h_2=>cases h
  rename_i args' add ft1 p hv
  split at h
  case h_2=>cases h
  rename_i ft' x hc
  cases h
  obtain ⟨i1,i2⟩:=xl3 (objs':=objs') hv (fun key hk=>hf key (List.mem_append.2 (.inl hk)))
  have hc':=xt1 (objs':=add++objs'.filter fun o=>Nat.blt o.key K) hc (fun key hk=>by
   rw [xkw,xkw]
   cases xap key add with
   | some o=>rfl
   | none =>
    simp only []
    rw [xkv,xkv]
    split
    ·rename_i hlt
     exact hf key (List.mem_append.2 (.inr (List.mem_filter.2 ⟨hk,by simpa using hlt⟩)))
    ·rfl)
  simp only [i1,hc']
theorem xxY {args:List AV} {m:Int}:∀ (ents:List (Int×FuncId)) {x:Eff},fsE P Γ args objs K m ents=some x→fsE P Γ args objs' K m ents=some x
 | [],x,h=>by cases h
 | (k,g)::r,x,h=>by
  unfold fsE at h ⊢
  split at h
  case h_2=>cases h
  rename_i p v hc
  rw [xoi hc (fun key hk=>by cases hk)]
  split at h
  ·exact h
  ·rename_i hr
   split at h
   case h_2=>cases h
   rename_i q u hf
   have:=xxY r hf
   simp only [this]
   cases r with
   | nil=>cases hf
   | cons=>exact h
theorem xrF {ctx:Ctx} {s s':xa4} (x:Operand) (h:∀ t,x=.tmp t→s t=s' t):readS ctx s x=readS ctx s' x:=by
 cases x with
 | tmp t=>simp only [readS,h t rfl]
 | _=>rfl
theorem xyM {ctx:Ctx} {s s':xa4} {c a b:Operand} (h:∀ x∈[c,a,b],∀ t,x=.tmp t→s t=s' t):xv8 ctx s c a b=xv8 ctx s' c a b:=by
 have e:∀ side x,x∈[c,a,b]→xfM ctx s c side x=xfM ctx s' c side x:=by
  intro side x hx
  cases x with
  | tmp t=>simp only [xfM,h _ hx t rfl]
  | _=>rfl
 unfold xv8 xxq xBm
 rw [xrF c (h c (by simp)),e true a (by simp),e false b (by simp)]
theorem xiL {s s':xa4}:∀ (m g:Nat) (want:Bool) (ctx:Ctx),xbw s m g want=some ctx→(∀ c∈ctx,s' c.1=s c.1)→xbw s' m g want=some ctx
 | 0,_,_,_,h,_=>by cases h
 | m+1,g,want,ctx,h,hs=>by
  unfold xbw at h
  split at h
  ·rename_i v hg
   split at h
   case h_2=>cases h
   rename_i b hv
   cases h
   have e:=hs (g,want,b) (by simp)
   unfold xbw
   simp only [e,hg,hv]
  ·rename_i g1 w1 v hg
   split at h
   case h_2=>cases h
   rename_i b hv
   cases hr:xbw s m g1 w1 with
   | none=>rw [hr] at h; cases h
   | some r =>
    rw [hr] at h
    cases h
    have e:=hs (g,want,b) (by simp)
    have ih:=xiL (s':=s') m g1 w1 r hr (fun c hc=>hs c (List.mem_cons_of_mem _ hc))
    unfold xbw
    simp only [e,hg,hv,ih]
    rfl
  ·cases h
theorem xsd {s:xa4} {m g:Nat} {want:Bool} {ctx:Ctx} (h:xbw s m g want=some ctx):∃ b r,ctx=(g,want,b)::r:=by
 cases m with
 | zero=>cases h
 | succ m =>
  unfold xbw at h
  split at h
  ·split at h
   ·cases h; exact ⟨_,_,rfl⟩
   ·cases h
  ·rename_i g1 w1 v _
   split at h
   case h_2=>cases h
   rename_i b _
   cases hr:xbw s m g1 w1 with
   | none=>rw [hr] at h; cases h
   | some r=>rw [hr] at h; cases h; exact ⟨b,r,rfl⟩
  ·cases h
end congr
end Go.Sy
set_option linter.unusedVariables false
namespace Go.Sy
open Go.RowKit
def xom (p:Nat→Prop):Slot→Prop
 | .is v=>AV.all p v
 | .when _ _ v=>AV.all p v
 | .junk=>True
def xhe (p:Nat→Prop) (s:xa4):Prop:=∀ t,xom p (s t)
theorem xrz {p q:Nat→Prop} (h:∀ k,p k→q k) {sl:Slot} (hs:xom p sl):xom q sl:=by
 cases sl with
 | is v=>exact xeT h v hs
 | when g want v=>exact xeT h v hs
 | junk=>trivial
theorem xxb {p:Nat→Prop} {s:xa4} (h:xhe p s) {sl:Slot} (hs:xom p sl) (dst:Option Nat):xhe p (put s dst sl):=by
 intro t
 cases dst with
 | none=>exact h t
 | some d =>
  show xom p (upd s d sl t)
  by_cases ht:t=d
  ·subst ht; rw [xeA]; exact hs
  ·rw [xfb _ _ ht]; exact h t
theorem xvN {p:Nat→Prop} {s:xa4} (h:xhe p s) (c:Ctx) (x:Operand) (v:AV) (hx:readS c s x=some v):AV.all p v:=by
 cases x with
 | tmp t =>
  simp only [readS] at hx
  have:=h t
  split at hx
  ·rename_i v' hs; cases hx; rw [hs] at this; exact this
  ·rename_i g want v' hs
   rw [hs] at this
   split at hx
   ·cases hx; exact this
   ·cases hx
  ·cases hx
 | const c=>cases hx; exact xgr _ c
 | global g=>cases hx; trivial
 | func f=>cases hx; exact ⟨trivial,trivial⟩
theorem xAp {p:Nat→Prop} {ctx:Ctx} {v:AV} (h:AV.all p v):xom p (xkF ctx v):=by
 unfold xkF
 split<;>exact h
theorem Item.slotAll {it:Item} {p:Nat→Prop} (h:AV.all p it.x.v):xom p it.slot:=by
 unfold Item.slot
 split
 ·exact xAp h
 ·exact h
section run
variable {P:Program} {Γ:Con} {call:xhh} {N:Nat} {ops:Array Oper} {objs0:List Obj}
def xlH (ops:Array Oper) (it:Item) (s:xa4) (seen:List Nat):Prop :=
 match it.ctx with
 | []=>it.o.guard=none
 | (g,want,b)::r=>g∈seen∧xbw s 9 g want=some ((g,want,b)::r)∧∃ j oj,it.o.guard=some (j,want)∧ops[j]?=some oj∧oj.dst=some g
structure Same (it it0:Item):Prop where
 o:it.o=it0.o
 ctx:it.ctx=it0.ctx
 key:it.key=it0.key
 all:it.all=it0.all
 foot:it.foot=it0.foot
 rm:it.x.rm=it0.x.rm
 nk:it.x.nk=it0.x.nk
 add:it.x.add=it0.x.add
 v:(it.x.v=it0.x.v∧it.x.p=it0.x.p)∨∃ b v,it0.x.v=.bool b∧it.x.v=.val (.bool v)∧it.x.p=xuR it0.x.p (some (b=v))
theorem xt4 (asg:List (Nat×Bool)) (it0:Item) (sure:Bool):Same { xAb asg it0 with sure:=sure } it0:=by
 unfold xAb
 split
 ·split
  ·split
   ·rename_i b hv
    exact ⟨rfl,rfl,rfl,rfl,rfl,rfl,rfl,rfl,.inr ⟨b,_,hv,rfl,rfl⟩⟩
   ·exact ⟨rfl,rfl,rfl,rfl,rfl,rfl,rfl,rfl,.inl ⟨rfl,rfl⟩⟩
  ·exact ⟨rfl,rfl,rfl,rfl,rfl,rfl,rfl,rfl,.inl ⟨rfl,rfl⟩⟩
 ·exact ⟨rfl,rfl,rfl,rfl,rfl,rfl,rfl,rfl,.inl ⟨rfl,rfl⟩⟩
def xCN (P:Program) (Γ:Con) (call:xhh) (it:Item) (s:xa4) (objs0:List Obj) (H:Heap):Prop :=
 (it.sure=true→xez it.ctx)∧((∃ it0,xw6 P Γ call it.o s objs0 H it.ctx=some it0∧Same it it0)∨¬ xez it.ctx)∧it.key=H.next
def xE8 (P:Program) (Γ:Con) (call:xhh) (N:Nat) (ops:Array Oper) (objs0:List Obj):List Item→List Nat→xa4→Heap→Prop
 | [],_,_,_=>True
 | it::r,seen,s,H=>∃ seen',xfs N it.o.dst seen=some seen'∧it.fine=true∧xlH ops it s seen∧xCN P Γ call it s objs0 H ∧
   xE8 P Γ call N ops objs0 r seen' (put s it.o.dst it.slot) (H.eff it.x)
theorem xBk {o:Oper} {s:xa4} {H:Heap} {ctx:Ctx} {it:Item} (h:xw6 P Γ call o s objs0 H ctx=some it):it.o=o∧it.ctx=ctx∧it.key=H.next:=by
 unfold xw6 at h
 simp only [] at h
 split at h
 ·split at h
  ·cases h; exact ⟨rfl,rfl,rfl⟩
  ·cases h
 ·split at h
  ·split at h
   ·cases h; exact ⟨rfl,rfl,rfl⟩
   ·split at h
    ·cases h; exact ⟨rfl,rfl,rfl⟩
    ·cases h
  ·split at h
   ·cases h; exact ⟨rfl,rfl,rfl⟩
   ·cases h
  ·cases h
 ·split at h
  ·split at h
   ·split at h
    ·cases h; exact ⟨rfl,rfl,rfl⟩
    ·split at h
     ·cases h; exact ⟨rfl,rfl,rfl⟩
     ·cases h
   ·cases h
  ·cases h
 ·split at h
  ·cases h; exact ⟨rfl,rfl,rfl⟩
  ·cases h
theorem xzd {o:Oper} {s:xa4} {seen:List Nat} {ctx:Ctx} (h:xze ops o s seen=some ctx) {it:Item} (e1:it.o=o) (e2:it.ctx=ctx):xlH ops it s seen:=by
 unfold xze at h
 unfold xlH
 rw [e1,e2]
 split at h
 ·rename_i hg
  cases h
  exact xqA hg
 ·rename_i g want hg
  split at h
  ·rename_i hseen
   obtain ⟨b,r,rfl⟩:=xsd h
   obtain ⟨x,hx,hb⟩:=List.any_eq_true.1 hseen
   exact ⟨by rw [Nat.eq_of_beq_eq_true hb]; exact hx,h,xqz hg⟩
  ·cases h
 ·cases h
theorem xnM {o:Oper} {s:xa4} {seen:List Nat} {ctx:Ctx} {b:Bool} (hc:xze ops o s seen=some ctx) (hk:xB6 ops o s=some b):xez ctx↔b=true:=by
 unfold xB6 at hk
 unfold xze at hc
 split at hk
 ·rename_i g want hg
  rw [hg] at hc
  simp only [] at hc
  split at hc
  ·unfold xk1 at hk
   unfold xbw at hc
   split at hk
   ·rename_i v hv
    rw [hv] at hc
    cases hc
    cases hk
    simp [xez]
   ·rename_i v hnb hv
    rw [hv] at hc
    simp only [] at hc
    split at hc
    ·rename_i b' hw
     exfalso
     cases v<;>first | (simp [AV.weak] at hw; done) | skip
     rename_i bb
     exact hnb bb rfl
    ·cases hc
   ·cases hk
  ·cases hc
 ·cases hk
theorem xCY {asg:List (Nat×Bool)} {o:Oper} {s:xa4} {seen:List Nat} {H:Heap} {ctx:Ctx} {it:Item} (hc:xze ops o s seen=some ctx) (h:xCZ P Γ call asg ops o s objs0 H ctx=some it):it.o=o∧it.ctx=ctx∧xCN P Γ call it s objs0 H:=by
 unfold xCZ at h
 split at h
 ·rename_i hk
  cases h
  have:=xnM hc hk
  exact ⟨rfl,rfl,⟨fun h=>(by cases h),Or.inr (fun h=>by have:=this.1 h; cases this),rfl⟩⟩
 ·rename_i hk
  have hkc:=xnM hc hk
  cases hs:xw6 P Γ call o s objs0 H ctx with
  | none=>rw [hs] at h; cases h
  | some it0 =>
   rw [hs] at h
   cases h
   obtain ⟨e1,e2,e3⟩:=xBk hs
   have sm:=xt4 asg it0 true
   have s1:=sm.o.trans e1
   have s2:=sm.ctx.trans e2
   exact ⟨s1,s2,⟨fun _=>by rw [s2]; exact hkc.2 rfl,Or.inl ⟨it0,by rw [s1,s2]; exact hs,sm⟩,sm.key.trans e3⟩⟩
 ·cases hs:xw6 P Γ call o s objs0 H ctx with
  | none=>rw [hs] at h; cases h
  | some it0 =>
   rw [hs] at h
   cases h
   obtain ⟨e1,e2,e3⟩:=xBk hs
   have sm:=xt4 asg it0 false
   have s1:=sm.o.trans e1
   have s2:=sm.ctx.trans e2
   exact ⟨s1,s2,⟨fun h=>(by cases h),Or.inl ⟨it0,by rw [s1,s2]; exact hs,sm⟩,sm.key.trans e3⟩⟩
theorem xkM {asg:List (Nat×Bool)}:∀ (l:List Oper) (seen:List Nat) (s:xa4) (H:Heap) (L:List Item),runD P Γ call asg N ops objs0 l seen s H=some L→L.map (·.o)=l∧xE8 P Γ call N ops objs0 L seen s H
 | [],seen,s,H,L,h=>by cases h; exact ⟨rfl,trivial⟩
 | o::rest,seen,s,H,L,h=>by
  unfold runD at h
  split at h
  ·rename_i seen' ctx hseen hctx
   split at h
   ·rename_i it hit
    obtain ⟨e1,e2,e3⟩:=xCY hctx hit
    split at h
    ·rename_i hfine
     split at h
     ·rename_i l hl
      cases h
      obtain ⟨h1,h2⟩:=xkM rest seen' _ _ l hl
      refine ⟨by simp [h1,e1],seen',by rw [e1]; exact hseen,hfine,xzd hctx e1 e2,e3,by rw [e1]; exact h2⟩
     ·cases h
    ·cases h
   ·cases h
  ·cases h
end run
section chain
variable {P:Program} {Γ:Con} {call:xhh} {N:Nat} {ops:Array Oper} {objs0:List Obj}
theorem xlj:∀ (L:List Item) (i:Nat) (S:Nat→Bool) (s:xa4),(∀ m,i≤m→S m=false)→xbq S i L s=s
 | [],_,_,_,_=>rfl
 | it::r,i,S,s,h=>by
  unfold xbq
  rw [h i (Nat.le_refl _)]
  exact xlj r (i+1) S s (fun m hm=>h m (by omega))
theorem xjc:∀ (L:List Item) (i:Nat) (S:Nat→Bool) (l:List Obj),(∀ m,i≤m→S m=false)→xdT S i L l=l
 | [],_,_,_,_=>rfl
 | it::r,i,S,l,h=>by
  unfold xdT
  rw [h i (Nat.le_refl _)]
  exact xjc r (i+1) S l (fun m hm=>h m (by omega))
theorem xgM:∀ (L:List Item) (n:Nat),n≤xfS L n
 | [],n=>Nat.le_refl _
 | it::r,n=>by
  unfold xfS
  exact Nat.le_trans (by omega) (xgM r _)
theorem xpH:∀ (L:List Item) (k k':Nat) (n:Nat),k≤k'→xfS (L.take k) n≤xfS (L.take k') n
 | [],k,k',n,_=>by simp
 | it::r,0,k',n,_=>by simp only [List.take_zero]; exact xgM _ _
 | it::r,k+1,k'+1,n,h=>by
  simp only [List.take_succ_cons]
  exact xpH r k k' _ (by omega)
 | it::r,k+1,0,n,h=>by omega
theorem xpI:∀ (L:List Item) (k:Nat) (n:Nat) (it:Item),L[k]?=some it→xfS (L.take (k+1)) n=xfS (L.take k) n+it.x.nk
 | [],k,n,it,h=>by simp at h
 | x::r,0,n,it,h=>by simp at h; subst h; rfl
 | x::r,k+1,n,it,h=>by
  simp only [List.getElem?_cons_succ] at h
  simp only [List.take_succ_cons]
  exact xpI r k _ it h
structure xD4 (P:Program) (Γ:Con) (call:xhh) (N:Nat) (ops:Array Oper) (objs0:List Obj) (i k:Nat) (L:List Item) (seen:List Nat) (s:xa4) (H:Heap) (it:Item) (seenk:List Nat):Prop where
 step:xCN P Γ call it (xbq (fun x=>decide (x<i+k)) i L s) objs0 ⟨xdT (fun x=>decide (x<i+k)) i L H.objs,xfS (L.take k) H.next⟩
 fine:it.fine=true
 guard:xlH ops it (xbq (fun x=>decide (x<i+k)) i L s) seenk
 add:∃ seen',xfs N it.o.dst seenk=some seen'
 from_:∀ d∈seenk,d∈seen∨∃ k' it',k'<k∧L[k']?=some it'∧it'.o.dst=some d
 keeps:∀ d∈seen,d∈seenk
 has:∀ k' it' d,k'<k→L[k']?=some it'→it'.o.dst=some d→d∈seenk
 key:it.key=xfS (L.take k) H.next
 slots:xhe (fun x=>x<xfS (L.take k) H.next) (xbq (fun x=>decide (x<i+k)) i L s)
theorem xwR:∀ (L:List Item) (i k:Nat) (seen:List Nat) (s:xa4) (H:Heap) (it:Item),xE8 P Γ call N ops objs0 L seen s H→xhe (fun x=>x<H.next) s→L[k]?=some it →
  ∃ seenk,xD4 P Γ call N ops objs0 i k L seen s H it seenk
 | [],i,k,seen,s,H,it,_,_,h=>by simp at h
 | x::r,i,0,seen,s,H,it,hc,hs,h=>by
  simp only [List.getElem?_cons_zero,Option.some.injEq] at h
  subst h
  obtain ⟨seen',h1,h2,h3,h4,h5⟩:=hc
  have e1:xbq (fun y=>decide (y<i+0)) i (x::r) s=s:=xlj _ _ _ _ (fun m hm=>by simp; omega)
  have e2:xdT (fun y=>decide (y<i+0)) i (x::r) H.objs=H.objs:=xjc _ _ _ _ (fun m hm=>by simp; omega)
  exact ⟨seen,by rw [e1,e2]; exact h4,h2,by rw [e1]; exact h3,⟨seen',h1⟩,fun d hd=>.inl hd,fun d hd=>hd,fun k' _ _ hk'=>by omega,h4.2.2,by rw [e1]; exact hs⟩
 | x::r,i,k+1,seen,s,H,it,hc,hs,h=>by
  simp only [List.getElem?_cons_succ] at h
  obtain ⟨seen',h1,h2,h3,h4,h5⟩:=hc
  have hkey:x.key=H.next:=h4.2.2
  have hf:=xx1 h2
  have hs':xhe (fun y=>y<H.next+x.x.nk) (put s x.o.dst x.slot):=by
   refine xxb (fun t=>xrz (fun _ hk=>by omega) (hs t)) ?_ _
   exact Item.slotAll (by have:=hf.val; rw [hkey] at this; exact this)
  obtain ⟨seenk,hat⟩:=xwR r (i+1) k seen' (put s x.o.dst x.slot) (H.eff x.x) it h5 hs' h
  have ef:(fun y=>decide (y<i+(k+1)))=fun y=>decide (y<i+1+k):=by funext y; congr 1; apply propext; omega
  have e1:xbq (fun y=>decide (y<i+(k+1))) i (x::r) s=xbq (fun y=>decide (y<i+1+k)) (i+1) r (put s x.o.dst x.slot):=by
   rw [ef]
   show xbq _ (i+1) r (if decide (i<i+1+k)=true then _ else _)=_
   rw [if_pos (by simp; omega)]
  have e2:xdT (fun y=>decide (y<i+(k+1))) i (x::r) H.objs=xdT (fun y=>decide (y<i+1+k)) (i+1) r (xfu x.x H.objs):=by
   rw [ef]
   show xdT _ (i+1) r (if decide (i<i+1+k)=true then _ else _)=_
   rw [if_pos (by simp; omega)]
  have e3:xfS ((x::r).take (k+1)) H.next=xfS (r.take k) (H.next+x.x.nk):=by simp only [List.take_succ_cons]; rfl
  refine ⟨seenk,by rw [e1,e2,e3]; exact hat.step,hat.fine,by rw [e1]; exact hat.guard,hat.add,fun d hd=>?_,fun d hd=>hat.keeps d ?_,fun k' it' d hk' hit' hd=>?_,by rw [e3]; exact hat.key,by rw [e1,e3]; exact hat.slots⟩
  ·rcases hat.from_ d hd with h | ⟨k',it',hk',hit',hd'⟩
   ·cases hx:x.o.dst with
    | none=>rw [hx] at h1; cases h1; exact .inl h
    | some d' =>
     rw [hx] at h1
     simp only [xfs] at h1
     split at h1
     ·cases h1
      rcases List.mem_cons.1 h with rfl | h
      ·exact .inr ⟨0,x,by omega,by simp,hx⟩
      ·exact .inl h
     ·cases h1
   ·exact .inr ⟨k'+1,it',by omega,by simpa using hit',hd'⟩
  ·cases hx:x.o.dst with
   | none=>rw [hx] at h1; cases h1; exact hd
   | some d' =>
    rw [hx] at h1
    simp only [xfs] at h1
    split at h1
    ·cases h1; exact List.mem_cons_of_mem _ hd
    ·cases h1
  ·match k',hit' with
   | 0,hit' =>
    simp only [List.getElem?_cons_zero,Option.some.injEq] at hit'
    subst hit'
    have hmem:d∈seen':=by
     rw [hd] at h1
     simp only [xfs] at h1
     split at h1
     ·cases h1; exact List.mem_cons_self
     ·cases h1
    exact hat.keeps d hmem
   | k'+1,hit'=>exact hat.has k' it' d (by omega) (by simpa using hit') hd
theorem xja {t:Nat}:∀ (L:List Item) (i:Nat) (S:Nat→Bool) (s:xa4),xbq S i L s t=s t∨∃ k it,L[k]?=some it∧S (i+k)=true∧it.o.dst=some t∧xbq S i L s t=it.slot
 | [],i,S,s=>.inl rfl
 | x::r,i,S,s=>by
  unfold xbq
  rcases xja r (i+1) S (if S i then put s x.o.dst x.slot else s) with h | ⟨k,it,h1,h2,h3,h4⟩
  ·rw [h]
   split
   ·rename_i hS
    cases hd:x.o.dst with
    | none=>exact .inl rfl
    | some d =>
     by_cases ht:t=d
     ·subst ht
      exact .inr ⟨0,x,by simp,by simpa using hS,hd,by simp [put,xeA]⟩
     ·exact .inl (by simp [put,xfb _ _ ht])
   ·exact .inl rfl
  ·exact .inr ⟨k+1,it,by simpa using h1,by rw [show i+(k+1)=i+1+k by omega]; exact h2,h3,h4⟩
theorem xoN {Q:Obj→Prop}:∀ (L:List Item) (i:Nat) (S:Nat→Bool) (l:List Obj),(∀ o∈l,Q o) →
  (∀ k it,L[k]?=some it→S (i+k)=true→∀ o∈it.x.add,Q o)→∀ o∈xdT S i L l,Q o
 | [],_,_,_,h,_=>h
 | x::r,i,S,l,h,hx=>by
  unfold xdT
  refine xoN r (i+1) S _ ?_ (fun k it hk hS=>hx (k+1) it (by simpa using hk) (by rw [show i+(k+1)=i+1+k by omega]; exact hS))
  split
  ·rename_i hS
   have h0:=hx 0 x (by simp) (by simpa using hS)
   intro o ho
   rcases List.mem_append.1 ho with ho | ho
   ·exact h0 o ho
   ·exact h o (List.mem_filter.1 ho).1
  ·exact h
theorem xu1 {t j:Nat} {x:Item}:∀ (L:List Item) (i k:Nat) (S S':Nat→Bool) (s:xa4),L[k]?=some x→i+k=j→S j=false→(∀ m,S' m=(S m||Nat.beq m j)) →
  (∀ k' it,L[k']?=some it→k'≠k→x.o.dst=some t→it.o.dst=some t→False)→xbq S' i L s t=put (xbq S i L s) x.o.dst x.slot t
 | [],_,_,_,_,_,h,_,_,_,_=>by simp at h
 | it::r,i,0,S,S',s,h,hj,hSj,hS',hd=>by
  simp only [List.getElem?_cons_zero,Option.some.injEq] at h
  subst h
  have hj:i=j:=by omega
  subst hj
  unfold xbq
  rw [hS',hSj,xdh]
  simp only [Bool.or_true,if_true,Bool.false_eq_true,if_false]
  have hother:∀ k' y,r[k']?=some y→S' (i+1+k')=S (i+1+k'):=fun k' y _=>by
   rw [hS',xgb (by omega)]; simp
  by_cases ht:it.o.dst=some t
  ·have e:∀ (S:Nat→Bool) (s:xa4),xbq S (i+1) r s t=s t:=fun S s=>by
    rcases xja (t:=t) r (i+1) S s with h | ⟨k,y,h1,h2,h3,h4⟩
    ·exact h
    ·exact (hd (k+1) y (by simpa using h1) (by omega) ht h3).elim
   rw [e]
   simp [put,ht,xeA]
  ·have e:∀ (s:xa4),put s it.o.dst it.slot t=s t:=fun s=>by
    cases hdd:it.o.dst with
    | none=>rfl
    | some d=>exact xfb _ _ (fun e=>ht (by rw [hdd,e]))
   rw [e]
   exact xgs r (i+1) S' S _ _ (e s) (fun k' y hy _=>hother k' y hy)
 | it::r,i,k+1,S,S',s,h,hj,hSj,hS',hd=>by
  simp only [List.getElem?_cons_succ] at h
  unfold xbq
  have e:S' i=S i:=by rw [hS',xgb (by omega)]; simp
  rw [e]
  exact xu1 r (i+1) k S S' _ h (by omega) hSj hS' (fun k' y hy hne hx hty=>hd (k'+1) y (by simpa using hy) (by omega) hx hty)
theorem xae.sub {X:List (Nat×Go.Obj)} {E:Env} {w0 w:World} {H:Heap} (h:xae X E w0 H w) {l:List Obj} {n:Nat} (hm:∀ o∈l,o∈H.objs) (hlt:∀ o∈l,o.key<n∧xbn (fun k=>k<n) o.body):xae X E w0 ⟨l,n⟩ w :=
 ⟨h.below,h.env,fun o ho=>h.objs o (hm o ho),fun o ho=>h.high o (hm o ho),fun o ho o' ho'=>h.inj o (hm o ho) o' (hm o' ho'),fun o ho o' ho'=>h.uniq o (hm o ho) o' (hm o' ho'),hlt,fun x hx=>⟨(h.prot x hx).1,fun o ho=>(h.prot x hx).2 o (hm o ho)⟩,fun o ho b hb o' ho'=>h.deep o (hm o ho) b hb o' (hm o' ho'),fun x hx o ho=>h.protD x hx o (hm o ho),fun o ho=>h.fsh o (hm o ho)⟩
theorem xae.congr {X:List (Nat×Go.Obj)} {E:Env} {w0 w:World} {l l':List Obj} {n:Nat} (h:xae X E w0 ⟨l,n⟩ w) (he:∀ key,xf7 key l=xf7 key l'):xae X E w0 ⟨l',n⟩ w:=by
 have hm:∀ o,o∈l'→o∈l:=fun o ho=>by rw [xkS,he,← xkS]; exact ho
 exact h.sub hm (fun o ho=>h.lt o (hm o ho))
theorem xzn {E:Env} {w:World} {key:Nat} {own:Bool} {b:Body} (h:xbm E w key own b):xbm E w.drew key own b :=
 h.keep rfl (by cases b<;>first | exact fun t v _=>(xeD v).2 fun _ _=>rfl | exact (xc3 _).2 fun _ _=>rfl) (fun _ _=>rfl) (Nat.le_refl _) (fun _ _=>rfl)
theorem xae.drew {X:List (Nat×Go.Obj)} {E:Env} {w0 w:World} {H:Heap} (h:xae X E w0 H w):xae X E w0 H w.drew :=
 ⟨h.below.drew,h.env,fun o ho=>xzn (h.objs o ho),h.high,h.inj,h.uniq,h.lt,h.prot,h.deep,h.protD,h.fsh⟩
theorem xaX.point {E:Env} {n N:Nat} {D:List Deferred} {s s':xa4} {a:Act} (h:xaX E n N D s a) (hs:∀ t,s' t=s t):xaX E n N D s' a :=
 ⟨h.defers,h.size,fun t=>by rw [hs t]; exact h.ok t⟩
theorem xaX.envAll {E E':Env} {n N:Nat} {D:List Deferred} {p:Nat→Prop} {s:xa4} {a:Act} (h:xaX E n N D s a) (hE:∀ k,p k→E' k=E k) (hs:xhe p s):xaX E' n N D s a:=by
 refine ⟨h.defers,h.size,fun t=>?_⟩
 have h1:=h.ok t
 have h2:=hs t
 cases hst:s t with
 | is v=>rw [hst] at h1 h2; exact ⟨by rw [xdt hE v h2]; exact h1.1,h1.2⟩
 | when g want v=>rw [hst] at h1 h2; exact ⟨h1.1,fun hg=>by rw [xdt hE v h2]; exact h1.2.1 hg,h1.2.2⟩
 | junk=>trivial
end chain
end Go.Sy
set_option linter.unusedVariables false
namespace Go.Sy
open Go.RowKit
section
variable {P:Program} {Γ:Con} {call:xhh} {N:Nat} {ops:Array Oper} {X:List (Nat×Go.Obj)} {w0:World} {D:List Deferred} {H:Heap} {s:xa4} {L:List Item} {rnd:Option Nat}
structure Run (P:Program) (Γ:Con) (call:xhh) (N:Nat) (ops:Array Oper) (H:Heap) (s:xa4) (L:List Item):Prop where
 hΓ:xaT P Γ
 hcall:xiD P call
 hk:xeV P call
 hops:L.map (·.o)=ops.toList
 at_:∀ k it,L[k]?=some it→∃ seenk,xD4 P Γ call N ops H.objs 0 k L [] s H it seenk
 hslots:xhe (fun x=>x<H.next) s
 nowhen:xld s []
 hobjs:∀ o∈H.objs,o.key<H.next∧xbn (fun k=>k<H.next) o.body
 pair:∀ j x m y,L[j]?=some x→L[m]?=some y→j≠m→xzI (xe3 ops.toList []) H.next j x m y=true
 alls:∀ j x m y,L[j]?=some x→L[m]?=some y→xDB (xe3 ops.toList []) H.next j x m y=true
 edge:∀ i o,ops[i]?=some o→∀ e∈o.after,Region.binds .any e=true→e.on<i
def Inv (N:Nat) (D:List Deferred) (X:List (Nat×Go.Obj)) (w0:World) (H:Heap) (s:xa4) (L:List Item) (E:Env) (S:Nat→Bool) (a:Act) (w:World):Prop :=
 ∃ E',(∀ k,k<H.next→E' k=E k)∧xaX E' (xfS L H.next) N D (xbq S 0 L s) a∧xae X E' w0 ⟨xdT S 0 L H.objs,xfS L H.next⟩ w
theorem Run.get (r:Run P Γ call N ops H s L) {j:Nat} {o:Oper} (h:ops[j]?=some o):∃ it,L[j]?=some it∧it.o=o:=by
 have h1:(L.map (·.o))[j]?=some o:=by rw [r.hops]; simpa using h
 rw [List.getElem?_map] at h1
 cases hl:L[j]? with
 | none=>rw [hl] at h1; cases h1
 | some it=>rw [hl] at h1; simp at h1; exact ⟨it,rfl,h1⟩
theorem Run.back (r:Run P Γ call N ops H s L) {j:Nat} {it:Item} (h:L[j]?=some it):ops[j]?=some it.o:=by
 have h1:(L.map (·.o))[j]?=some it.o:=by rw [List.getElem?_map,h]; rfl
 rw [r.hops] at h1
 simpa using h1
theorem Run.distinct (r:Run P Γ call N ops H s L) {k k':Nat} {x y:Item} {d:Nat} (h:L[k]?=some x) (h':L[k']?=some y) (hx:x.o.dst=some d) (hy:y.o.dst=some d):k=k':=by
 have lt:∀ {k k':Nat} {x y:Item},L[k]?=some x→L[k']?=some y→x.o.dst=some d→y.o.dst=some d→¬ k<k':=by
  intro k k' x y h h' hx hy hlt
  obtain ⟨seenk,hat⟩:=r.at_ k' y h'
  have hm:=hat.has k x d hlt h hx
  obtain ⟨seen',hadd⟩:=hat.add
  rw [hy] at hadd
  simp only [xfs] at hadd
  split at hadd
  ·rename_i hc
   rw [Bool.and_eq_true] at hc
   have h2:seenk.any (Nat.beq d)=true:=List.any_eq_true.2 ⟨d,hm,xdh d⟩
   rw [h2] at hc
   simp at hc
  ·cases hadd
 have h1:=lt h h' hx hy
 have h2:=lt h' h hy hx
 omega
theorem Run.dstN (r:Run P Γ call N ops H s L) {k:Nat} {x:Item} {d:Nat} (h:L[k]?=some x) (hx:x.o.dst=some d):d<N:=by
 obtain ⟨seenk,hat⟩:=r.at_ k x h
 obtain ⟨seen',hadd⟩:=hat.add
 rw [hx] at hadd
 simp only [xfs] at hadd
 split at hadd
 ·rename_i hc
  rw [Bool.and_eq_true] at hc
  simpa using hc.1
 ·cases hadd
theorem Run.key (r:Run P Γ call N ops H s L) {k:Nat} {x:Item} (h:L[k]?=some x):x.key=xfS (L.take k) H.next:=by
 obtain ⟨seenk,hat⟩:=r.at_ k x h
 exact hat.key
theorem Run.fine (r:Run P Γ call N ops H s L) {k:Nat} {x:Item} (h:L[k]?=some x):Fine x:=by
 obtain ⟨seenk,hat⟩:=r.at_ k x h
 exact xx1 hat.fine
theorem Run.fines (r:Run P Γ call N ops H s L):∀ it∈L,Fine it:=fun it hm=>by
 obtain ⟨k,hk⟩:=List.mem_iff_getElem?.1 hm
 exact r.fine hk
theorem Run.keyF (r:Run P Γ call N ops H s L) {k:Nat} {x:Item} (h:L[k]?=some x):H.next≤x.key∧x.key+x.x.nk≤xfS L H.next:=by
 rw [r.key h]
 refine ⟨xgM _ _,?_⟩
 have h1:=xpI L k H.next x h
 have h2:=xpH L (k+1) L.length H.next (by
  rcases Nat.lt_or_ge k L.length with h' | h'
  ·omega
  ·rw [List.getElem?_eq_none h'] at h; cases h)
 rw [List.take_length,h1] at h2
 exact h2
theorem Run.keyLt (r:Run P Γ call N ops H s L) {j k:Nat} {x y:Item} (hj:L[j]?=some x) (hk:L[k]?=some y) (hlt:j<k):x.key+x.x.nk≤y.key:=by
 rw [r.key hj,r.key hk]
 have h1:=xpI L j H.next x hj
 have h2:=xpH L (j+1) k H.next (by omega)
 rw [h1] at h2
 omega
theorem Run.agree (r:Run P Γ call N ops H s L) {S:Nat→Bool} (hS:xle ops S) {j:Nat} {oj:Oper} (hj:ops[j]?=some oj) (hSj:S j=false) (hready:∀ e∈oj.after,Region.binds .any e=true→S e.on=true) {m:Nat} {y:Item} (hm:L[m]?=some y) (_hne:j≠m)
  (ho:xks (xe3 ops.toList []) j m=true):S m=decide (m<j):=by
 unfold xks at ho
 by_cases hlt:m<j
 ·have:Nat.blt m j=true:=by simpa using hlt
  rw [this] at ho
  simp only [if_true] at ho
  rw [xiA hS (j+1) j (by omega) oj hj hready m ho]
  simp [hlt]
 ·have:Nat.blt m j=false:=Bool.eq_false_iff.2 (fun hb=>hlt (by simpa using hb))
  rw [this] at ho
  simp only [Bool.false_eq_true,if_false] at ho
  cases hSm:S m with
  | false=>simp [hlt]
  | true =>
   have hom:=r.back hm
   have:=xiA hS (m+1) m (by omega) y.o hom (hS m y.o hom hSm) j ho
   rw [hSj] at this
   cases this
structure xD2 (n j:Nat) (x:Item) (m:Nat) (y:Item):Prop where
 dst:∀ d,y.o.dst=some d→d∉xqZ x
 foot:∀ key∈x.foot,y.touch key=false
 all:x.all=true→∀ k∈y.x.rm,n≤k
 rm:∀ k∈x.x.rm,y.touch k=false
 names:∀ k,x.key≤k→k<x.key+x.x.nk→k∉AV.keys y.x.v∧∀ o∈y.x.add,o.key≠k∧k∉AV.keysL o.body.cellsOf
theorem xjC {M:List Nat} {n j m:Nat} {x y:Item} (h:xzI M n j x m y=true) (hne:j≠m):xks M j m=true∨xD2 n j x m y:=by
 unfold xzI at h
 rw [xgb hne] at h
 simp only [Bool.false_or,Bool.or_eq_true,Bool.and_eq_true] at h
 rcases h with h | h
 ·exact .inl h
 refine .inr ?_
 obtain ⟨⟨⟨⟨h1,h2⟩,h3⟩,h4⟩,h5⟩:=h
 refine ⟨fun d hd hm=>?_,fun key hk=>?_,fun ha k hk=>?_,fun k hk=>?_,fun k hk1 hk2=>?_⟩
 ·rw [hd] at h1
  have:(xqZ x).any (Nat.beq d)=true:=xkA.2 hm
  simp only [this] at h1
  cases h1
 ·cases ht:y.touch key with
  | false=>rfl
  | true =>
   have:xFN x.foot y=true:=List.any_eq_true.2 ⟨key,hk,ht⟩
   rw [this] at h2
   cases h2
 ·rw [ha] at h3
  rcases h3 with h3 | h3
  ·cases h3
  ·simpa using List.all_eq_true.1 h3 k hk
 ·cases ht:y.touch k with
  | false=>rfl
  | true =>
   have:x.x.rm.any y.touch=true:=List.any_eq_true.2 ⟨k,hk,ht⟩
   rw [this] at h4
   cases h4
 ·rcases h5 with h5 | h5
  ·have:=Nat.eq_of_beq_eq_true h5; omega
  ·have no:k∉AV.keys y.x.v++y.x.add.flatMap (fun o=>o.key::AV.keysL o.body.cellsOf):=fun hm=>by
    have:y.names x.key (x.key+x.x.nk)=true:=by
     unfold Item.names
     exact List.any_eq_true.2 ⟨k,hm,by simp [hk1,hk2]⟩
    rw [this] at h5
    cases h5
   rw [List.mem_append,not_or] at no
   refine ⟨no.1,fun o ho=>?_⟩
   have h6:k∉o.key::AV.keysL o.body.cellsOf:=fun hm=>no.2 (List.mem_flatMap.2 ⟨o,ho,hm⟩)
   rw [List.mem_cons,not_or] at h6
   exact ⟨fun e=>h6.1 e.symm,h6.2⟩
theorem xxu (M:List Nat) {j m:Nat} (hne:j≠m):xks M j m=xks M m j:=by
 unfold xks
 by_cases h:m<j
 ·have h1:Nat.blt m j=true:=by simpa using h
  have h2:Nat.blt j m=false:=Bool.eq_false_iff.2 (fun hb=>by have h9:j<m:=(by simpa using hb); omega)
  rw [h1,h2]; rfl
 ·have h1:Nat.blt m j=false:=Bool.eq_false_iff.2 (fun hb=>h (by simpa using hb))
  have h2:Nat.blt j m=true:=by simp; omega
  rw [h1,h2]; rfl
theorem Run.touchBoth (r:Run P Γ call N ops H s L) {j m:Nat} {x y:Item} (hj:L[j]?=some x) (hm:L[m]?=some y) (hne:j≠m) {key:Nat} (hx:x.touch key=true) (hy:y.touch key=true):xks (xe3 ops.toList []) j m=true:=by
 rcases xjC (r.pair j x m y hj hm hne) hne with h | h
 ·exact h
 ·rcases xjC (r.pair m y j x hm hj (fun e=>hne e.symm)) (fun e=>hne e.symm) with h' | h'
  ·rw [xxu _ hne]; exact h'
  ·exfalso
   rcases xl4.1 hx with h1 | h1
   ·have:=h.rm _ h1; rw [hy] at this; cases this
   ·rcases xl4.1 hy with h2 | h2
    ·have:=h'.rm _ h2; rw [hx] at this; cases this
    ·rcases Nat.lt_or_ge j m with hlt | hlt
     ·have:=r.keyLt hj hm hlt; omega
     ·have:=r.keyLt hm hj (by omega); omega
theorem Run.pairAgree (r:Run P Γ call N ops H s L) {S:Nat→Bool} (hS:xle ops S) {j:Nat} {it:Item} (hj:L[j]?=some it) (hSj:S j=false) (hready:∀ e∈it.o.after,Region.binds .any e=true→S e.on=true) {m:Nat} {y:Item} (hm:L[m]?=some y) {C:Prop} (hC:xD2 H.next j it m y→C) (hn:¬ C):S m=decide (m<j):=by
 by_cases hkj:m=j
 ·subst hkj; rw [hSj]; simp
 ·have hne:j≠m:=fun e=>hkj e.symm
  rcases xjC (r.pair j it m y hj hm hne) hne with h | h
  ·exact r.agree hS (r.back hj) hSj hready hm hne h
  ·exact absurd (hC h) hn
theorem Run.noGuard (r:Run P Γ call N ops H s L) {S:Nat→Bool} (hS:xle ops S) {j:Nat} {it:Item} (hj:L[j]?=some it) (hSj:S j=false) {d:Nat} (hd:it.o.dst=some d) :
  ∀ t g want v,xbq S 0 L s t=.when g want v→g≠d:=by
 intro t g want v ht hg
 subst hg
 rcases xja L 0 S s with h | ⟨k,y,h1,h2,h3,h4⟩
 ·rw [h] at ht
  exact absurd (r.nowhen t g want v ht) (by simp)
 ·rw [h4] at ht
  have hctx:∃ b r,y.ctx=(g,want,b)::r:=by
   unfold Item.slot at ht
   split at ht
   ·unfold xkF at ht
    split at ht
    ·cases ht
    ·rename_i g' want' b' r' hc; cases ht; exact ⟨b',r',hc⟩
   ·cases ht
  obtain ⟨b,rr,hc⟩:=hctx
  obtain ⟨seenk,hat⟩:=r.at_ k y h1
  have hgu:=hat.guard
  unfold xlH at hgu
  rw [hc] at hgu
  rcases hat.from_ g hgu.1 with h | ⟨k',y',hk',hy',hd'⟩
  ·cases h
  ·have e:k'=j:=r.distinct hy' hj hd' hd
   subst e
   have hne:k≠k':=by omega
   have ho:xks (xe3 ops.toList []) k k'=true:=by
    rcases xjC (r.pair k y k' it h1 hj hne) hne with h | h
    ·exact h
    ·exact absurd (show g∈xqZ y by unfold xqZ; rw [hc]; simp) (h.dst g hd)
   have hk0:S k=true:=by simpa using h2
   have hok:=r.back h1
   unfold xks at ho
   have hb:Nat.blt k' k=true:=by simpa using hk'
   rw [hb] at ho
   simp only [if_true] at ho
   have:=xiA hS (k+1) k (by omega) y.o hok (hS k y.o hok hk0) k' ho
   rw [hSj] at this
   cases this
end
end Go.Sy
set_option linter.unusedVariables false
namespace Go.Sy
open Go.RowKit
section
variable {P:Program} {Γ:Con} {call:xhh} {N:Nat} {ops:Array Oper} {X:List (Nat×Go.Obj)} {w0:World} {D:List Deferred} {H:Heap} {s:xa4} {L:List Item} {rnd:Option Nat} {E:Env}
def Away (it:Item) (k:Nat):Prop:=k<it.key∨it.key+it.x.nk≤k
theorem Run.clear (r:Run P Γ call N ops H s L) {S:Nat→Bool} (hS:xle ops S) {j:Nat} {it:Item} (hj:L[j]?=some it) (hSj:S j=false) (hready:∀ e∈it.o.after,Region.binds .any e=true→S e.on=true) :
  (∀ o∈xdT S 0 L H.objs,Away it o.key∧xbn (Away it) o.body)∧xhe (Away it) (xbq S 0 L s):=by
 have hK:=(r.keyF hj).1
 have other:∀ k y,L[k]?=some y→S k=true→AV.all (Away it) y.x.v∧∀ o∈y.x.add,Away it o.key∧xbn (Away it) o.body:=by
  intro k y hy hSk
  have hf:=r.fine hy
  have hne:j≠k:=fun e=>by rw [← e,hSj] at hSk; cases hSk
  by_cases hkj:k<j
  ·have hle:=r.keyLt hy hj hkj
   refine ⟨xeT (fun x hx=>.inl (by omega)) _ hf.val,fun o ho=>⟨.inl (by have:=hf.addLt ho; omega),xnW (hf.noLoop o ho) (xlF (fun x hx=>.inl (by omega)) _ (hf.below o ho))⟩⟩
  ·rcases xjC (r.pair j it k y hj hy hne) hne with h | h
   ·have:=r.agree hS (r.back hj) hSj hready hy hne h
    rw [hSk] at this
    have:k<j:=by simpa using this
    omega
   ·have far:∀ x,x∉AV.keys y.x.v→True:=fun _ _=>trivial
    have dec:∀ x,¬ Away it x→it.key≤x∧x<it.key+it.x.nk:=fun x hx=>by
     unfold Away at hx
     rw [not_or] at hx
     omega
    refine ⟨(xeD _).2 fun x hx=>Classical.byContradiction fun hn=>?_,fun o ho=>⟨Classical.byContradiction fun hn=>?_,xnW (hf.noLoop o ho) ((xc3 _).2 fun x hx=>Classical.byContradiction fun hn=>?_)⟩⟩
    ·obtain ⟨h1,h2⟩:=dec x hn
     exact (h.names x h1 h2).1 hx
    ·obtain ⟨h1,h2⟩:=dec _ hn
     exact ((h.names _ h1 h2).2 o ho).1 rfl
    ·obtain ⟨h1,h2⟩:=dec x hn
     exact ((h.names x h1 h2).2 o ho).2 hx
 refine ⟨xoN L 0 S H.objs (fun o ho=>?_) (fun k y hy hSk o ho=>(other k y hy (by simpa using hSk)).2 o ho),fun t=>?_⟩
 ·obtain ⟨a1,a2⟩:=r.hobjs o ho
  exact ⟨.inl (by omega),xaY (fun x hx=>.inl (by omega)) a2⟩
 ·rcases xja (t:=t) L 0 S s with h | ⟨k,y,h1,h2,h3,h4⟩
  ·rw [h]; exact xrz (fun x hx=>.inl (by omega)) (r.hslots t)
  ·rw [h4]
   exact Item.slotAll (other k y h1 (by simpa using h2)).1
theorem xBs {it it0:Item} (hs:Same it it0) {n K0:Nat} {objs:List Obj} {E':Env} {a:Act} {w:World} (h:xdq n objs K0 it0.x∧Does rnd P E' objs K0 a w it0.o it0.x):xdq n objs K0 it.x∧Does rnd P E' objs K0 a w it.o it.x:=by
 obtain ⟨hw,hd⟩:=h
 refine ⟨⟨by rw [hs.rm]; exact hw.rm,by rw [hs.add,hs.rm,hs.nk]; exact hw.key,by rw [hs.add]; exact hw.uniq,by rw [hs.add,hs.nk]; exact hw.all,?_,by rw [hs.add]; exact hw.ver⟩,?_⟩
 ·rcases hs.v with ⟨h1,_⟩ | ⟨b,v,h1,h2,_⟩
  ·rw [h1,hs.nk]; exact hw.val
  ·rw [h2]; trivial
 ·intro hp K Q hK
  have hp0:it0.x.holds∧it.x.v.den=it0.x.v.den:=by
   rcases hs.v with ⟨h1,h2⟩ | ⟨b,v,h1,h2,h3⟩
   ·unfold Eff.holds at hp ⊢
    rw [h2] at hp
    exact ⟨hp,by rw [h1]⟩
   ·unfold Eff.holds at hp ⊢
    rw [h3] at hp
    cases hq:it0.x.p with
    | none =>
     rw [hq] at hp
     have hb:b=v:=hp
     exact ⟨trivial,by funext E; rw [h1,h2,hb]; rfl⟩
    | some q =>
     rw [hq] at hp
     have hb:q∧b=v:=hp
     exact ⟨hb.1,by funext E; rw [h1,h2,hb.2]; rfl⟩
  rw [hs.o]
  refine hd hp0.1 K Q fun E2 w2 he=>?_
  have:=hK E2 w2 ⟨by rw [hs.nk]; exact he.agree,he.env,by rw [hs.rm]; exact he.chg,by rw [hs.add]; exact he.bodies,by rw [hs.add,hs.rm]; exact he.own,by rw [hs.add,hs.rm]; exact he.ro,by rw [hs.add]; exact he.inj,by rw [hs.add,hs.rm]; exact he.dp,by rw [hs.add]; exact he.dq,by rw [hs.add,hs.rm]; exact he.df⟩
  rw [hs.o,show it.x.v.den E2=it0.x.v.den E2 from congrFun hp0.2 E2] at this
  exact this
theorem Run.does (r:Run P Γ call N ops H s L) {S:Nat→Bool} (hS:xle ops S) {j:Nat} {it:Item} (hj:L[j]?=some it) (hSj:S j=false) (hready:∀ e∈it.o.after,Region.binds .any e=true→S e.on=true)
  {E':Env} {a:Act} {w:World} (hSl:xaX E' (xfS L H.next) N D (xbq S 0 L s) a) (hH:xae X E' w0 ⟨xdT S 0 L H.objs,xfS L H.next⟩ w)
  (hwant:xez it.ctx):xdq (xfS L H.next) (xdT S 0 L H.objs) it.key it.x∧Does rnd P E' (xdT S 0 L H.objs) it.key a w it.o it.x:=by
 classical
 obtain ⟨seenk,hat⟩:=r.at_ j it hj
 have hoj:=r.back hj
 have hkey:=r.key hj
 obtain ⟨hk1,hk2⟩:=r.keyF hj
 have hlook:∀ t,t∈xqZ it→xbq S 0 L s t=xbq (fun x=>decide (x<0+j)) 0 L s t:=by
  intro t ht
  refine xgs L 0 S _ s s rfl (fun k y hy hd=>?_)
  simp only [Nat.zero_add]
  exact r.pairAgree hS hj hSj hready hy (C:=t∉xqZ it) (fun h=>h.dst t hd) (fun h=>h ht)
 have hobj:∀ key∈it.foot,xap key (xdT (fun x=>decide (x<0+j)) 0 L H.objs)=xap key (xdT S 0 L H.objs):=by
  intro key hkey
  rw [xpX,xpX]
  congr 1
  refine (xe1 L 0 S _ _ _ r.fines rfl (fun k y hy ht=>?_)).symm
  simp only [Nat.zero_add]
  exact r.pairAgree hS hj hSj hready hy (C:=y.touch key=false) (fun h=>h.foot key hkey) (fun h=>by rw [ht] at h; cases h)
 have hopnd:∀ c x,x∈it.o.op.operands→readS c (xbq (fun x=>decide (x<0+j)) 0 L s) x=readS c (xbq S 0 L s) x:=by
  intro c x hx
  refine xrF x fun t ht=>?_
  subst ht
  refine (hlook t ?_).symm
  unfold xqZ
  refine List.mem_append.2 (.inl (List.mem_filterMap.2 ⟨.tmp t,by simpa using hx,rfl⟩))
 have hgv:∀ c∈it.ctx,a.tmps.getD c.1 undef=.bool c.2.1:=by
  intro c hc
  have hgu:=hat.guard
  unfold xlH at hgu
  cases hctx:it.ctx with
  | nil=>rw [hctx] at hc; cases hc
  | cons c0 r0 =>
   obtain ⟨g,want,b⟩:=c0
   rw [hctx] at hgu
   have hch:=xiL (s':=xbq S 0 L s) 9 g want _ hgu.2.1 (fun c hc=>hlook c.1 (by unfold xqZ; rw [hctx]; exact List.mem_append.2 (.inr (List.mem_map.2 ⟨c,hc,rfl⟩))))
   rw [hctx] at hc hwant
   exact (xfd hSl 9 g want _ hch).2.1 hwant c hc
 have hrd:∀ x v,readS it.ctx (xbq S 0 L s) x=some v→a.eval x=v.den E'∧AV.lt (xfS L H.next) v:=xhp hSl _ hgv
 have hlow:∀ x v,readS it.ctx (xbq (fun x=>decide (x<0+j)) 0 L s) x=some v→AV.lt it.key v:=fun x v hx=>by
  rw [hkey]; exact xvN hat.slots _ x v hx
 obtain ⟨it0,hstep,hsame⟩:=hat.step.2.1.resolve_right (fun h=>h hwant)
 refine xBs hsame ?_
 rw [← hsame.o]
 unfold xw6 at hstep
 simp only [] at hstep
 split at hstep
 ·-- pick
  rename_i c x y hop
  split at hstep
  ·rename_i v hv
   have hr:it0.x=⟨none,[],0,[],v⟩:=(congrArg Item.x (Option.some.inj hstep)).symm
   rw [hr]
   rw [xyM (s':=xbq S 0 L s) (fun z hz t ht=>by
    subst ht
    refine (hlook t ?_).symm
    unfold xqZ
    refine List.mem_append.2 (.inl (List.mem_filterMap.2 ⟨.tmp t,?_,rfl⟩))
    rw [hop]
    simpa [Op.operands] using hz)] at hv
   obtain ⟨cb,hc,hval,hl⟩:=xrO hSl hgv hv
   refine ⟨xjk _ (xeT (fun k hk=>.inl hk) _ hl),fun _ K Q hK=>?_⟩
   refine xhr (fun c e=>by rw [hop] at e; cases e) (xzF hop hc) (.inl rfl) ?_
   rw [hval]
   exact hK E' w (xjl hH.env _ _)
  ·cases hstep
 ·-- call
  rename_i f args ts hop
  have hnd:∀ c,it.o.op≠.defer c:=fun c e=>by rw [hop] at e; cases e
  split at hstep
  ·rename_i fi first caps vs hf hvs
   have hfl:=hlow _ _ hf
   have hvl:AV.ltL it.key vs:=(xdM _ _).2 (xjy (Q:=AV.lt it.key) hlow _ _ hvs)
   have hargs:AV.ltL it.key (first++vs++caps):=by
    rw [xdM]
    intro v hv
    simp only [List.mem_append] at hv
    rcases hv with (hv | hv) | hv
    ·exact (xdM _ _).1 hfl.1 v hv
    ·exact (xdM _ _).1 hvl v hv
    ·exact (xdM _ _).1 hfl.2 v hv
   rw [hopnd _ f (by rw [hop]; simp [Op.operands,Call.operands])] at hf
   rw [xgk (ρ':=readS it.ctx (xbq S 0 L s)) _ (fun x hx=>hopnd _ x (by rw [hop]; simp only [Op.operands,Call.operands,Array.mem_append]; exact .inr (by simpa using hx)))] at hvs
   have hrun:xci P fi→(execOp a.eval it.o).run P w=.ok (.enter fi (AV.denL E' (first++vs++caps)).toArray) w:=fun hfun =>
    xho hop (hrd _ _ hf).1 (xe0 (fun x v hx=>(hrd x v hx).1) _ _ hvs) hfun
   split at hstep
   ·rename_i ft x hc
    have hx:it0.x=x:=(congrArg Item.x (Option.some.inj hstep)).symm
    have hft:it.foot=ft:=hsame.foot.trans (congrArg Item.foot (Option.some.inj hstep)).symm
    rw [← hkey] at hc
    rw [← hft] at hc
    obtain ⟨h1,h2,h3⟩:=xlE r.hΓ hH hargs (xoi hc hobj)
    rw [hx]
    exact ⟨h2.eff,xfP hH.env hnd (hrun h1) h2 h3⟩
   ·split at hstep
    ·rename_i x hc
     have hx:it0.x=x:=(congrArg Item.x (Option.some.inj hstep)).symm
     have hall:it.all=true:=hsame.all.trans (congrArg Item.all (Option.some.inj hstep)).symm
     rw [← hkey] at hc
     have hmem:∀ o∈H.objs,o∈xdT S 0 L H.objs:=by
      intro o ho
      rw [xkS]
      have e:xf7 o.key (xdT S 0 L H.objs)=xf7 o.key (xdT (fun _=>false) 0 L H.objs):=by
       refine xe1 L 0 S _ _ _ r.fines rfl (fun k y hy ht=>?_)
       simp only [Nat.zero_add]
       have hk0:=(r.hobjs o ho).1
       rcases xl4.1 ht with h1 | h1
       ·-- an old object is turned: behind
        have hnot:¬ (∀ k∈y.x.rm,H.next≤k):=fun h=>by have:=h _ h1; omega
        have hsa:=r.pairAgree hS hj hSj hready hy (C:=∀ k∈y.x.rm,H.next≤k) (fun h=>h.all hall) hnot
        have hao:=r.alls j it k y hj hy
        unfold xDB at hao
        rw [hall] at hao
        simp only [Bool.not_true,Bool.false_or,Bool.or_eq_true] at hao
        rcases hao with hao | hao
        ·exfalso
         exact hnot fun k hk=>by simpa using List.all_eq_true.1 hao k hk
        ·rw [hsa]
         have:j<k:=by simpa using hao
         simp; omega
       ·have:=(r.keyF hy).1
        omega
      rw [e,xjc _ _ _ _ (fun _ _=>rfl),← xkS]
      exact ho
     have hH0:xae X E' w0 ⟨H.objs,it.key⟩ w:=hH.sub hmem (fun o ho=>⟨Nat.lt_of_lt_of_le (r.hobjs o ho).1 hk1,xaY (fun k hk=>Nat.lt_of_lt_of_le hk hk1) (r.hobjs o ho).2⟩)
     obtain ⟨h2,h3⟩:=xlC r.hcall (H:=⟨H.objs,it.key⟩) hc hH0 hargs
     have h1:xci P fi:=r.hk fi (first++vs++caps) _ fun e=>(by rw [e] at hc; cases hc)
     rw [hx]
     exact ⟨h2.eff,xfP hH.env hnd (hrun h1) h2 fun hp=>(h3 hp).mono fun e w' ⟨E2,he,hg⟩=>⟨E2,he,hg.mono fun _ h=>h.elim⟩⟩
    ·cases hstep
  ·rename_i m ents vs hf hvs
   have hvl:AV.ltL it.key vs:=(xdM _ _).2 (xjy (Q:=AV.lt it.key) hlow _ _ hvs)
   rw [hopnd _ f (by rw [hop]; simp [Op.operands,Call.operands])] at hf
   rw [xgk (ρ':=readS it.ctx (xbq S 0 L s)) _ (fun x hx=>hopnd _ x (by rw [hop]; simp only [Op.operands,Call.operands,Array.mem_append]; exact .inr (by simpa using hx)))] at hvs
   split at hstep
   ·rename_i x hc
    have hx:it0.x=x:=(congrArg Item.x (Option.some.inj hstep)).symm
    rw [← hkey] at hc
    obtain ⟨h1,h2⟩:=xxX r.hΓ hH hvl ents (xxY (objs':=xdT S 0 L H.objs) ents hc)
    rw [hx]
    refine ⟨h1.eff,fun hp=>?_⟩
    obtain ⟨p,h3,h4,h5⟩:=h2 hp
    have hev:a.eval f=(AV.fn (.func p.2) [] []).den E':=by
     rw [(hrd _ _ hf).1]
     simp [AV.den,AV.denL,xxW,h3]
    have hrun:=xho (w:=w) hop hev (xe0 (fun x v hx=>(hrd x v hx).1) _ _ hvs) h4
    simp only [List.nil_append,List.append_nil] at hrun
    exact xfP hH.env hnd hrun h1 (fun _=>h5) hp
   ·cases hstep
  ·cases hstep
 ·-- a method
  rename_i f name args ts hop
  have hnd:∀ c,it.o.op≠.defer c:=fun c e=>by rw [hop] at e; cases e
  split at hstep
  ·rename_i t v vs hf hvs
   split at hstep
   case h_2=>cases hstep
   rename_i fi hmeth
   have hfl:=hlow _ _ hf
   have hvl:AV.ltL it.key vs:=(xdM _ _).2 (xjy (Q:=AV.lt it.key) hlow _ _ hvs)
   have hargs:AV.ltL it.key (v::vs):=⟨hfl,hvl⟩
   rw [hopnd _ f (by rw [hop]; simp [Op.operands,Call.operands])] at hf
   rw [xgk (ρ':=readS it.ctx (xbq S 0 L s)) _ (fun x hx=>hopnd _ x (by rw [hop]; simp only [Op.operands,Call.operands,Array.mem_append]; exact .inr (by simpa using hx)))] at hvs
   have hrun:xci P fi→(execOp a.eval it.o).run P w=.ok (.enter fi (AV.denL E' (v::vs)).toArray) w:=fun hfun =>
    xyH hop (hrd _ _ hf).1 (xe0 (fun x v hx=>(hrd x v hx).1) _ _ hvs) hmeth hfun
   split at hstep
   ·rename_i ft x hc
    have hx:it0.x=x:=(congrArg Item.x (Option.some.inj hstep)).symm
    have hft:it.foot=ft:=hsame.foot.trans (congrArg Item.foot (Option.some.inj hstep)).symm
    rw [← hkey] at hc
    rw [← hft] at hc
    obtain ⟨h1,h2,h3⟩:=xlE r.hΓ hH hargs (xoi hc hobj)
    rw [hx]
    exact ⟨h2.eff,xfP hH.env hnd (hrun h1) h2 h3⟩
   ·split at hstep
    ·rename_i x hc
     have hx:it0.x=x:=(congrArg Item.x (Option.some.inj hstep)).symm
     have hall:it.all=true:=hsame.all.trans (congrArg Item.all (Option.some.inj hstep)).symm
     rw [← hkey] at hc
     have hmem:∀ o∈H.objs,o∈xdT S 0 L H.objs:=by
      intro o ho
      rw [xkS]
      have e:xf7 o.key (xdT S 0 L H.objs)=xf7 o.key (xdT (fun _=>false) 0 L H.objs):=by
       refine xe1 L 0 S _ _ _ r.fines rfl (fun k y hy ht=>?_)
       simp only [Nat.zero_add]
       have hk0:=(r.hobjs o ho).1
       rcases xl4.1 ht with h1 | h1
       ·-- an old object is turned: behind
        have hnot:¬ (∀ k∈y.x.rm,H.next≤k):=fun h=>by have:=h _ h1; omega
        have hsa:=r.pairAgree hS hj hSj hready hy (C:=∀ k∈y.x.rm,H.next≤k) (fun h=>h.all hall) hnot
        have hao:=r.alls j it k y hj hy
        unfold xDB at hao
        rw [hall] at hao
        simp only [Bool.not_true,Bool.false_or,Bool.or_eq_true] at hao
        rcases hao with hao | hao
        ·exfalso
         exact hnot fun k hk=>by simpa using List.all_eq_true.1 hao k hk
        ·rw [hsa]
         have:j<k:=by simpa using hao
         simp; omega
       ·have:=(r.keyF hy).1
        omega
      rw [e,xjc _ _ _ _ (fun _ _=>rfl),← xkS]
      exact ho
     have hH0:xae X E' w0 ⟨H.objs,it.key⟩ w:=hH.sub hmem (fun o ho=>⟨Nat.lt_of_lt_of_le (r.hobjs o ho).1 hk1,xaY (fun k hk=>Nat.lt_of_lt_of_le hk hk1) (r.hobjs o ho).2⟩)
     obtain ⟨h2,h3⟩:=xlC r.hcall (H:=⟨H.objs,it.key⟩) hc hH0 hargs
     have h1:xci P fi:=r.hk fi (v::vs) _ fun e=>(by rw [e] at hc; cases hc)
     rw [hx]
     exact ⟨h2.eff,xfP hH.env hnd (hrun h1) h2 fun hp=>(h3 hp).mono fun e w' ⟨E2,he,hg⟩=>⟨E2,he,hg.mono fun _ h=>h.elim⟩⟩
    ·cases hstep
  ·cases hstep
 ·-- all else
  split at hstep
  ·rename_i x hx
   have hr:it0.x=x:=(congrArg Item.x (Option.some.inj hstep)).symm
   have hfoot:it.foot=xoY (readS it.ctx (xbq (fun x=>decide (x<0+j)) 0 L s)) it.o.op:=hsame.foot.trans (congrArg Item.foot (Option.some.inj hstep)).symm
   have hclear:=r.clear hS hj hSj hready
   have hrd2:∀ x v,x∈it.o.op.operands→readS it.ctx (xbq S 0 L s) x=some v→AV.lt it.key v:=fun x v hm hx=>hlow x v (by rw [hopnd _ x hm]; exact hx)
   rw [← hkey] at hx
   have hx2:xm2 P (fun x=>if x∈it.o.op.operands then readS it.ctx (xbq S 0 L s) x else none) (xdT S 0 L H.objs) it.key it.o.op=some x:=by
    rw [← hx]
    symm
    refine xzs it.o.op (fun x hm=>?_) (fun key hk=>hobj key (by rw [hfoot]; exact hk))
    rw [if_pos hm]
    exact hopnd _ x hm
   have hnd:∀ c,it.o.op≠.defer c:=fun c e=>by
    rw [e] at hx
    unfold xm2 at hx
    simp [xfR] at hx
   have hs:=xhy (P:=P) (e:=a.eval) hH (fun x v hx=>by
    split at hx
    ·rename_i hm
     exact ⟨(hrd x v hx).1,hrd2 x v hm hx⟩
    ·cases hx) (show it.key≤xfS L H.next by omega) it.o hx2 (fun hn o ho=>by
     obtain ⟨q1,q2⟩:=hclear.1 o ho
     unfold Away at q1 q2
     rw [hsame.nk,hr] at q1 q2
     exact ⟨by omega,xaY (fun k hk=>by omega) q2⟩)
   rw [hr]
   exact ⟨hs.1,xvp hnd hs.2.1⟩
  ·cases hstep
theorem Run.invStep (r:Run P Γ call N ops H s L) {S S':Nat→Bool} (hS:xle ops S) {j:Nat} {it:Item} (hj:L[j]?=some it) (hSj:S j=false) (hready:∀ e∈it.o.after,Region.binds .any e=true→S e.on=true) (hS':∀ m,S' m=(S m||Nat.beq m j))
  (hneed:∀ p,it.need=some p→p) {a:Act} {w:World} (hinv:Inv N D X w0 H s L E S a w) {K:Act→World→Prop} {Q:Exit→Act→World→Prop} (hK:∀ a2 w2,Inv N D X w0 H s L E S' a2 w2→K a2 w2):wpOpIn (FR rnd) 0 P ops Q j K a w:=by
 obtain ⟨E',hE,hSl,hH⟩:=hinv
 obtain ⟨seenk,hat⟩:=r.at_ j it hj
 have hoj:=r.back hj
 have hf:=r.fine hj
 obtain ⟨hk1,hk2⟩:=r.keyF hj
 have hd:∀ d,it.o.dst=some d→d<N∧∀ t g want v,xbq S 0 L s t=.when g want v→g≠d:=fun d hd=>⟨r.dstN hj hd,r.noGuard hS hj hSj hd⟩
 have tr_slots:∀ t,xbq S' 0 L s t=put (xbq S 0 L s) it.o.dst it.slot t:=fun t =>
  xu1 L 0 j S S' s hj (by omega) hSj hS' (fun k' y hy hne hx hty=>hne (r.distinct hy hj hty hx))
 have tr_objs:∀ key,xf7 key (xfu it.x (xdT S 0 L H.objs))=xf7 key (xdT S' 0 L H.objs):=fun key =>
  (xxw L 0 j S S' H.objs r.fines hj (by omega) hSj hS' (fun k' y hy hlt hx hty=>by
   have hne:j≠k':=by omega
   have:=r.agree hS hoj hSj hready hy hne (r.touchBoth hj hy hne hx hty)
   rw [Nat.zero_add,this]
   simp; omega)).symm
 have done:∀ {E2:Env} {u:Value} {w2:World} {l:List Obj},(∀ k,k<H.next→E2 k=E k)→xaX E2 (xfS L H.next) N D (put (xbq S 0 L s) it.o.dst it.slot) (a.put it.o.dst u)→l=xfu it.x (xdT S 0 L H.objs)→xae X E2 w0 ⟨l,xfS L H.next⟩ w2→K (a.put it.o.dst u) w2:=by
  intro E2 u w2 l hE2 hs2 hl hh2
  subst hl
  exact hK _ _ ⟨E2,hE2,hs2.point tr_slots,hh2.congr tr_objs⟩
 have hguard:=hat.guard
 have hl:AV.lt (xfS L H.next) it.x.v:=xeM hk2 _ hf.val
 have hlooks:∀ c∈it.ctx,xbq S 0 L s c.1=xbq (fun x=>decide (x<0+j)) 0 L s c.1:=by
  intro c hc
  refine xgs L 0 S _ s s rfl (fun k y hy hdy=>?_)
  simp only [Nat.zero_add]
  exact r.pairAgree hS hj hSj hready hy (C:=c.1∉xqZ it) (fun h=>h.dst _ hdy) (fun h=>h (by unfold xqZ; exact List.mem_append.2 (.inr (List.mem_map.2 ⟨c,hc,rfl⟩))))
 have hctxok:xBc a it.o it.ctx:=by
  cases hc:it.ctx with
  | nil=>trivial
  | cons c0 r0 =>
   obtain ⟨g,want,b⟩:=c0
   unfold xlH at hguard
   rw [hc] at hguard hlooks
   have hch:=xiL (s':=xbq S 0 L s) 9 g want _ hguard.2.1 hlooks
   obtain ⟨q1,q2,_⟩:=xfd hSl 9 g want _ hch
   refine ⟨q1,q2,fun e=>?_⟩
   rcases hat.from_ g hguard.1 with h | ⟨k',y,hk',hy,hdy⟩
   ·cases h
   ·have:=r.distinct hy hj hdy e; omega
 have exec:xez it.ctx→it.o.wpIn (FR rnd) 0 P a w K Q:=by
  intro hb
  obtain ⟨hwf,hdoes⟩:=r.does (rnd:=rnd) hS hj hSj hready hSl hH hb
  have hclear:=r.clear hS hj hSj hready
  have hholds:it.x.holds:=by
   unfold Eff.holds
   cases hp:it.x.p with
   | none=>trivial
   | some q=>exact xtS (hneed _ (by unfold Item.need; rw [hp]; rfl)) hb
  refine hdoes hholds K Q fun E2 w2 he=>?_
  have hH2:=hH.effAt hwf he hclear.1 (n':=xfS L H.next) (Nat.le_refl _) hk2
  refine done (fun k hk=>by rw [he.agree k (.inl (by omega))]; exact hE k hk) ?_ rfl hH2
  have hSl2:xaX E2 (xfS L H.next) N D (xbq S 0 L s) a:=hSl.envAll (fun k hk=>he.agree k hk) hclear.2
  unfold Item.slot
  split
  ·exact (xkN hSl2 hd hctxok hl).1 hb
  ·exact hSl2.put hd ⟨rfl,hl⟩
 unfold wpOpIn
 rw [hoj]
 simp only []
 cases hc:it.ctx with
 | nil =>
  unfold xlH at hguard
  rw [hc] at hguard
  rw [if_pos (by simp [Region.wanted,hguard])]
  exact exec (fun c h=>by rw [hc] at h; cases h)
 | cons c0 r0 =>
  obtain ⟨g,want,b⟩:=c0
  have hguard0:=hguard
  have hctx0:=hctxok
  unfold xlH at hguard
  rw [hc] at hguard hctx0
  obtain ⟨hseen,_,jg,og,hg1,hg2,hg3⟩:=hguard
  by_cases hb:xez it.ctx
  ·have hgv:a.tmps.getD g undef=.bool want:=hctx0.1.2 (by rw [← hc]; exact hb)
   rw [if_pos (by simp [Region.wanted,hg1,xpl hg2 hg3 hgv])]
   exact exec hb
  ·have hgv:a.tmps.getD g undef≠.bool want:=fun e=>hb (by rw [hc]; exact hctx0.1.1 e)
   have hnw:¬ Region.wanted it.o (yielded ops a.tmps)=true:=by
    intro hw
    unfold Region.wanted at hw
    rw [hg1] at hw
    have hw:(yielded ops a.tmps jg==some want)=true:=hw
    have hy:yielded ops a.tmps jg=some want:=by simpa using hw
    unfold yielded at hy
    simp only [hg2,Option.bind_some,hg3] at hy
    cases ht:a.tmps[g]? with
    | none=>rw [ht] at hy; cases hy
    | some v =>
     rw [ht] at hy
     cases v<;>simp at hy
     subst hy
     exact hgv (by rw [Array.getD_eq_getD_getElem?,ht]; rfl)
   rw [if_neg hnw]
   refine ⟨fun _ _=>trivial,?_⟩
   have hpure:it.x.pure=true:=by
    rcases hf.pure with h | h | h
    ·exact h
    ·rw [hc] at h; cases h
    ·exact absurd (hat.step.1 h) hb
   obtain ⟨e1,e2,e3⟩:=xxl hpure
   refine done hE ?_ (l:=xdT S 0 L H.objs) (by unfold xfu; rw [e1,e2,List.nil_append]; symm; exact List.filter_eq_self.2 (fun _ _=>rfl)) hH
   unfold Item.slot
   rw [hpure]
   exact (xkN hSl hd hctxok hl).2 _ _ hc hb
theorem xtR {p q:Nat→Bool}:∀ {l:List Nat} {j:Nat},(∀ x,q x=true→p x=true)→j∈l→p j=true→q j=false→l.countP q<l.countP p
 | [],j,_,h,_,_=>by cases h
 | x::r,j,hqp,h,hp,hq=>by
  have mono:r.countP q≤r.countP p:=List.countP_mono_left (fun x _ h=>hqp x h)
  simp only [List.countP_cons]
  rcases List.mem_cons.1 h with rfl | h
  ·rw [hp,hq]; simp; omega
  ·have:=xtR hqp h hp hq
   cases hx:q x with
   | true=>rw [hqp x hx]; simp; omega
   | false=>simp; omega
theorem Run.all (r:Run P Γ call N ops H s L) {Q:Exit→Act→World→Prop} (hneed:∀ (k:Nat) (it:Item) (p:Prop),L[k]?=some it→it.need=some p→p)
  (hpost:Post X w0 E H N D (Q .normal) (xbq (fun _=>true) 0 L s,⟨xdT (fun _=>true) 0 L H.objs,xfS L H.next⟩)) :
  ∀ (fuel:Nat) (listed:Array Bool) (a:Act) (w:World),listed.size=ops.size→xle ops (fun m=>listed.getD m false)→Inv N D X w0 H s L E (fun m=>listed.getD m false) a w →
   (List.range ops.size).countP (fun i=>!(listed.getD i false))≤fuel→wpAnyIn (FR rnd) 0 P .any ops Q fuel listed a w:=by
 have hlen:L.length=ops.size:=by
  have:=congrArg List.length r.hops
  simpa using this
 have full:∀ (listed:Array Bool) (a:Act) (w:World),Inv N D X w0 H s L E (fun m=>listed.getD m false) a w→(∀ j,j<ops.size→listed.getD j false=true)→Q .normal a w:=by
  intro listed a w hinv hfull
  obtain ⟨E',hE,hSl,hH⟩:=hinv
  have hS:∀ k it,L[k]?=some it→listed.getD (0+k) false=true:=fun k it hk=>by
   have:k<L.length:=by
    rcases Nat.lt_or_ge k L.length with h | h
    ·exact h
    ·rw [List.getElem?_eq_none h] at hk; cases hk
   rw [Nat.zero_add]; exact hfull k (by omega)
  refine hpost E' a w hE (hSl.point fun t=>?_) (hH.congr fun key=>?_) (xgM _ _) (xoN L 0 _ H.objs (fun o ho _=>ho) (fun k it hk _ o ho hv=>?_))
  ·exact xgs L 0 (fun _=>true) (fun m=>listed.getD m false) s s rfl (fun k it hk _=>(hS k it hk).symm)
  ·exact xe1 L 0 (fun m=>listed.getD m false) (fun _=>true) _ _ r.fines rfl (fun k it hk _=>hS k it hk)
  ·have h1:=(r.fine hk).ver o ho
   have h2:=(r.keyF hk).1
   have h3:o.ver<H.next:=hv
   omega
 have getD_eq:∀ (listed:Array Bool),listed.size=ops.size→∀ j,j<ops.size→listed.getD j true=listed.getD j false:=by
  intro listed hl j hj
  have:j<listed.size:=by omega
  simp [Array.getD,this]
 have ready_full:∀ (listed:Array Bool),listed.size=ops.size→Region.ready .any ops listed=[]→∀ n j,j<n→j<ops.size→listed.getD j false=true:=by
  intro listed hl hr n
  induction n with
  | zero=>intro j h; omega
  | succ n ih =>
   intro j hjn hj
   cases hb:listed.getD j false with
   | true=>rfl
   | false =>
    exfalso
    have hmem:j∈Region.ready .any ops listed:=by
     refine mem_ready.2 ⟨by rw [getD_eq listed hl j hj]; exact hb,ops[j],by simp [hj],fun e he hbi=>?_⟩
     have hlt:=r.edge j ops[j] (by simp [hj]) e he hbi
     exact ih e.on (by omega) (by omega)
    rw [hr] at hmem
    cases hmem
 intro fuel
 induction fuel with
 | zero =>
  intro listed a w hl hcl hinv hcount
  have hfull:∀ j,j<ops.size→listed.getD j false=true:=by
   intro j hj
   cases hb:listed.getD j false with
   | true=>rfl
   | false =>
    exfalso
    have:0<(List.range ops.size).countP (fun i=>!(listed.getD i false)):=List.countP_pos_iff.2 ⟨j,by simpa using hj,by rw [hb]; rfl⟩
    omega
  refine ⟨?_,full listed a w hinv hfull⟩
  rw [List.eq_nil_iff_forall_not_mem]
  intro j hj
  obtain ⟨hju,oj,hoj,_⟩:=mem_ready.1 hj
  have hlt:j<ops.size:=by
   rcases Nat.lt_or_ge j ops.size with h | h
   ·exact h
   ·simp [h] at hoj
  rw [getD_eq listed hl j hlt,hfull j hlt] at hju
  cases hju
 | succ fuel ih =>
  intro listed a w hl hcl hinv hcount
  refine ⟨fun h=>full listed a w hinv (fun j hj=>ready_full listed hl h (j+1) j (by omega) hj),fun j hj=>?_⟩
  obtain ⟨hju,oj,hoj,hall⟩:=mem_ready.1 hj
  have hlt:j<ops.size:=by
   rcases Nat.lt_or_ge j ops.size with h | h
   ·exact h
   ·simp [h] at hoj
  rw [getD_eq listed hl j hlt] at hju
  obtain ⟨it,hit,hio⟩:=r.get hoj
  subst hio
  have hset:∀ m,(listed.setIfInBounds j true).getD m false=(listed.getD m false||Nat.beq m j):=by
   intro m
   by_cases hm:m=j
   ·subst hm
    rw [xdh]
    simp [Array.getD_eq_getD_getElem?,hl,hlt]
   ·rw [xgb hm]
    simp [Array.getD_eq_getD_getElem?,Array.getElem?_setIfInBounds_ne (fun e=>hm e.symm)]
  refine r.invStep (S:=fun m=>listed.getD m false) (S':=fun m=>(listed.setIfInBounds j true).getD m false) hcl hit hju (fun e he hb=>hall e he hb) hset (fun p hp=>hneed j it p hit hp) hinv (fun a2 w2 hinv2=>?_)
  refine ih _ a2 w2 (by simpa using hl) ?_ hinv2 ?_
  ·intro i o ho hSi e he hb
   simp only [hset] at hSi ⊢
   rcases Bool.or_eq_true _ _▸hSi with h | h
   ·have h2:listed.getD e.on false=true:=hcl i o ho h e he hb
    rw [h2]; rfl
   ·have hij:i=j:=Nat.eq_of_beq_eq_true h
    subst hij
    rw [hoj] at ho
    cases ho
    rw [hall e he hb]; rfl
  ·have:=xtR (p:=fun i=>!(listed.getD i false)) (q:=fun i=>!((listed.setIfInBounds j true).getD i false)) (l:=List.range ops.size) (j:=j)
    (fun x hx=>by
     rw [hset] at hx
     cases hb:listed.getD x false with
     | true=>rw [hb] at hx; simp at hx
     | false=>rfl) (by simpa using hlt) (by rw [hju]; rfl) (by rw [hset,xdh]; simp)
   omega
theorem xls {α:Type} {Q:α→Prop} {t:Tree α}:∀ {L:List Item},(xxx L t).holds Q→(∀ (k:Nat) (it:Item) (p:Prop),L[k]?=some it→it.need=some p→p)∧t.holds Q
 | [],h=>⟨fun k it p hk=>by simp at hk,h⟩
 | x::r,h=>by
  unfold xxx at h
  split at h
  ·rename_i q hq
   obtain ⟨h1,h2⟩:=xls (L:=r) h.2
   refine ⟨fun k it p hk hp=>?_,h2⟩
   cases k with
   | zero=>simp at hk; subst hk; rw [hq] at hp; cases hp; exact h.1
   | succ k=>exact h1 k it p (by simpa using hk) hp
  ·rename_i hq
   obtain ⟨h1,h2⟩:=xls (L:=r) h
   refine ⟨fun k it p hk hp=>?_,h2⟩
   cases k with
   | zero=>simp at hk; subst hk; rw [hq] at hp; cases hp
   | succ k=>exact h1 k it p (by simpa using hk) hp
theorem xoF (n m:Nat):(Array.replicate n false).getD m false=false:=by
 rw [Array.getD_eq_getD_getElem?,Array.getElem?_replicate]
 split<;>rfl
theorem xyc (hΓ:xaT P Γ) (hcall:xiD P call) (hk:xeV P call) {a:Act} {w:World} (hS:xaX E H.next N D s a) (hG:xld s []) (hH:xae X E w0 H w) {id:Nat} {Q:Exit→Act→World→Prop}
  : ∀ (n:Nat) (asg:List (Nat×Bool)),(xtP P Γ call N ops s H n asg).holds (Post X w0 E H N D (Q .normal))→(Code.region id ops true).wpIn (FR rnd) 0 P Q a w:=by
 intro n
 induction n with
 | zero=>intro asg h; exact h.elim
 | succ n ih =>
 intro asg h
 unfold xtP at h
 split at h
 ·rename_i L hrun
  split at h
  ·rename_i hc
   rw [Bool.and_eq_true] at hc
   obtain ⟨hmix,hord⟩:=hc
   obtain ⟨hneed,hpost⟩:=xls h
   obtain ⟨hmap,hchain⟩:=xkM _ _ _ _ _ hrun
   have hslots:xhe (fun x=>x<H.next) s:=by
    intro t
    have:=hS.ok t
    cases hs:s t with
    | is v=>rw [hs] at this; exact this.2
    | when g want v=>rw [hs] at this; exact this.1
    | junk=>trivial
   unfold xv9 at hord
   simp only [Bool.and_eq_true] at hord
   obtain ⟨hedge,hpairs⟩:=hord
   have r:Run P Γ call N ops H s L:={
    hΓ:=hΓ,hcall:=hcall,hk:=hk,hops:=hmap
    at_:=fun k it hk=>xwR L 0 k [] s H it hchain hslots hk
    hslots:=hslots,nowhen:=hG,hobjs:=hH.lt
    pair:=fun j x m y hj hm _=>by
     have h1:=List.all_eq_true.1 hpairs (x,j) (List.mem_zipIdx_iff_getElem?.2 hj)
     have h2:=List.all_eq_true.1 h1 (y,m) (List.mem_zipIdx_iff_getElem?.2 hm)
     rw [Bool.and_eq_true] at h2
     exact h2.1
    alls:=fun j x m y hj hm=>by
     have h1:=List.all_eq_true.1 hpairs (x,j) (List.mem_zipIdx_iff_getElem?.2 hj)
     have h2:=List.all_eq_true.1 h1 (y,m) (List.mem_zipIdx_iff_getElem?.2 hm)
     rw [Bool.and_eq_true] at h2
     exact h2.2
    edge:=fun i o ho e he hb=>by
     have h1:=List.all_eq_true.1 hedge (o,i) (List.mem_zipIdx_iff_getElem?.2 (by simpa using ho))
     have h2:=Array.all_eq_true_iff_forall_mem.1 h1 e he
     rw [hb] at h2
     simpa using h2 }
   refine wpIn_region_any hmix (r.all hneed hpost ops.size _ a _ (by simp) (fun i o _ hi=>?_) ⟨E,fun _ _=>rfl,?_,?_⟩ ?_)
   ·rw [show (fun m=>(Array.replicate ops.size false).getD m false) i=false from xoF _ _] at hi; cases hi
   ·have e:xbq (fun m=>(Array.replicate ops.size false).getD m false) 0 L s=s:=xlj _ _ _ _ (fun m _=>xoF _ _)
    rw [e]
    exact ⟨hS.defers,hS.size,(hS.env (fun _ _=>rfl) (xgM L H.next)).ok⟩
   ·have e:xdT (fun m=>(Array.replicate ops.size false).getD m false) 0 L H.objs=H.objs:=xjc _ _ _ _ (fun m _=>xoF _ _)
    rw [e]
    exact hH.drew.sub (fun o ho=>ho) (fun o ho=>⟨Nat.lt_of_lt_of_le (hH.lt o ho).1 (xgM L H.next),xaY (fun k hk=>Nat.lt_of_lt_of_le hk (xgM L H.next)) (hH.lt o ho).2⟩)
   ·refine Nat.le_trans List.countP_le_length ?_
    simp
  ·exact h.elim
 ·split at h
  ·rename_i g b _
   cases b with
   | true=>exact ih _ (h.1 rfl)
   | false=>exact ih _ (h.2 rfl)
  ·exact h.elim
theorem xrb (hΓ:xaT P Γ) (hcall:xiD P call) (hk:xeV P call) {a:Act} {w:World} (hS:xaX E H.next N D s a) (hG:xld s []) (hH:xae X E w0 H w) {id:Nat} {Q:Exit→Act→World→Prop}
  (h:(xnj P Γ call N ops s H).holds (Post X w0 E H N D (Q .normal))):(Code.region id ops true).wpIn (FR rnd) 0 P Q a w:=xyc hΓ hcall hk hS hG hH _ _ h
end
end Go.Sy
set_option linter.unusedVariables false
namespace Go.Sy
open Go.RowKit
section
variable {P:Program} {Γ:Con} {call:xhh} {yld:Nat→List AV→Heap→Tree (AV×Heap)} {X:List (Nat×Go.Obj)} {w0:World} {N:Nat} {D:List Deferred} {rnd:Option Nat}
structure xhf (rs:Ctx) (s s0:xa4):Prop where
 whens:∀ u g w v,s0 u=.when g w v→s u=.when g w v
 else_:∀ u,s0 u=s u∨(∃ g w v,s u=.when g w v)∨∃ c∈rs,c.1=u
theorem xhf.refl (rs:Ctx) (s:xa4):xhf rs s s:=⟨fun _ _ _ _ h=>h,fun _=>.inl rfl⟩
theorem xmF {rest:Ctx} {g:Nat} {want b v:Bool} {s s0:xa4} (h:xhf rest (xr2 g v s) s0):xhf ((g,want,b)::rest) s s0:=by
 refine ⟨fun u g' w x hu=>xkW (h.whens u g' w x hu),fun u=>?_⟩
 rcases h.else_ u with h1 | ⟨g',w,x,h1⟩ | ⟨c,hc,h1⟩
 ·by_cases hu:u=g
  ·exact .inr (.inr ⟨_,List.mem_cons_self,hu.symm⟩)
  ·cases hs:s u with
   | when g2 w2 y=>exact .inr (.inl ⟨_,_,_,rfl⟩)
   | is y=>left; rw [h1]; unfold xr2; rw [xfb _ _ hu,hs]
   | junk=>left; rw [h1]; unfold xr2; rw [xfb _ _ hu,hs]
 ·exact .inr (.inl ⟨g',w,x,xkW h1⟩)
 ·exact .inr (.inr ⟨c,List.mem_cons_of_mem _ hc,h1⟩)
theorem xwU {Q:RCfg→Prop} {t e:xa4→Tree RCfg}:∀ (rs:Ctx) (s:xa4),(∀ s0,xhf rs s s0→(t s0).all Q)→(∀ s0,xhf rs s s0→(e s0).all Q)→(brG rs s t e).all Q
 | [],s,ht,_=>ht s (xhf.refl _ _)
 | (g,want,b)::rest,s,ht,he=>⟨xwU rest (xr2 g want s) (fun s0 h=>ht s0 (xmF h)) (fun s0 h=>he s0 (xmF h)),he _ (xmF (xhf.refl _ _))⟩
def xDE (s:xa4) (dst:Option Nat) (ctx:Ctx) (s':xa4):Prop :=
 ∃ sl s0,s'=Sy.put s0 dst sl∧(∀ g want v,sl=.when g want v→∃ b r,ctx=(g,want,b)::r)∧xhf ctx.reverse s s0
theorem xi0 {s s0:xa4} (dst:Option Nat) {ctx:Ctx} (v:AV) (h:xhf ctx.reverse s s0):xDE s dst ctx (Sy.put s0 dst (.is v)):=⟨_,_,rfl,(fun _ _ _ e=>by cases e),h⟩
theorem xrd (s:xa4) (dst:Option Nat) (ctx:Ctx) (v:AV):xDE s dst ctx (Sy.put s dst (xkF ctx v)):=by
 refine ⟨_,_,rfl,fun g want v' e=>?_,xhf.refl _ _⟩
 unfold xkF at e
 split at e
 ·cases e
 ·rename_i g' want' b' r'; cases e; exact ⟨b',r',rfl⟩
theorem xud {α:Type} {ctx:Ctx} {p:Option Prop} {t:Tree α} {Q:α→Prop} (h:t.all Q):(xxy ctx p t).all Q:=by
 cases p<;>exact h
theorem xmk (s:xa4) (H:Heap) (dst:Option Nat) (ctx:Ctx) (x:Eff):(xt5 s H dst ctx x).all fun y=>xDE s dst ctx y.1:=by
 unfold xt5
 split
 ·exact xud (xrd _ _ _ _)
 ·split
  ·exact xud (xi0 _ _ (xhf.refl _ _))
  ·exact xwU _ _ (fun s0 h=>xud (xi0 _ _ h)) (fun s0 h=>xi0 _ _ h)
theorem xrH (o:Oper) (s:xa4) (H:Heap) (ctx:Ctx):(xuq P Γ call yld o s H ctx).all fun x=>xDE s o.dst ctx x.1:=by
 unfold xuq
 simp only []
 split
 ·split
  ·exact xrd _ _ _ _
  ·trivial
 ·split
  ·split
   ·exact xmk _ _ _ _ _
   split
   ·exact xmk _ _ _ _ _
   ·split
    ·exact xdv (xij (fun x=>xi0 _ _ (xhf.refl _ _)) _)
    ·exact xwU _ _ (fun s0 h=>xdv (xij (fun x=>xi0 _ _ h) _)) (fun s0 h=>xi0 _ _ h)
  ·split
   ·exact xdv (xij (fun x=>xi0 _ _ (xhf.refl _ _)) _)
   ·exact xwU _ _ (fun s0 h=>xdv (xij (fun x=>xi0 _ _ h) _)) (fun s0 h=>xi0 _ _ h)
  ·trivial
 ·split
  ·exact xmk _ _ _ _ _
  ·split
   ·split
    ·exact ⟨xrd _ _ _ _,xrd _ _ _ _⟩
    ·trivial
   ·trivial
theorem xi5 (hΓ:xaT P Γ) (hcall:xiD P call) (hk:xeV P call) (hyld:xug P yld) (ops:Array Oper) {Q:Exit→Act→World→Prop} :
  ∀ (l:List Oper) (seen:List Nat) (s:xa4) (H:Heap) (E:Env) (a:Act) (w:World),xld s seen→xaX E H.next N D s a→xae X E w0 H w →
   (xiM P Γ call yld N ops l seen s H).holds (Post X w0 E H N D (Q .normal))→wpListIn (FR rnd) 0 P ops Q l a w
 | [],seen,s,H,E,a,w,_,hS,hH,h=>h E a w (fun _ _=>rfl) hS hH (Nat.le_refl _) (Old.refl _)
 | o::rest,seen,s,H,E,a,w,hG,hS,hH,h=>by
  unfold xiM at h
  split at h
  ·exact h.elim
  ·rename_i seen' hseen
   have hd:=xC6 hG hseen
   have next:∀ (ctx:Ctx),(∀ g want b r,ctx=(g,want,b)::r→g∈seen) →
     ((xuq P Γ call yld o s H ctx).bind fun (x:RCfg)=>xiM P Γ call yld N ops rest seen' x.1 x.2).holds (Post X w0 E H N D (Q .normal)) →
     (xuq P Γ call yld o s H ctx).holds (Post X w0 E H N D (wpListIn (FR rnd) 0 P ops Q rest)):=by
    intro ctx hc h
    refine xaV (fun x hx=>?_) (xk0 (xbv h) (xrH o s H ctx))
    obtain ⟨hx,sl,s0,hsl,hguard,hlrn⟩:=hx
    have hG0:xld s0 seen:=fun t g w v h=>hG t g w v (hlrn.whens t g w v h)
    intro E' a' w' hE hS' hH' hle hold
    refine xi5 hΓ hcall hk hyld ops rest seen' x.1 x.2 E' a' w' ?_ hS' hH' (xaV (fun y hy=>?_) hx)
    ·rw [hsl]
     exact xng hG0 hseen fun g want v e=>by
      obtain ⟨b,r,hb⟩:=hguard g want v e
      exact hc g want b r hb
    ·intro E2 a2 w2 hE2 hS2 hH2 hle2 hold2
     exact hy E2 a2 w2 (fun k hk=>by rw [hE2 k (by omega),hE k hk]) hS2 hH2 (Nat.le_trans hle hle2) (hold.trans hold2 hle)
   split at h
   ·rename_i hg
    have hgo:=xqA hg
    have:=xn0 (rnd:=rnd) hΓ hcall hk hyld hS hH hd (ctx:=[]) trivial trivial (Q:=Q) (next [] (fun _ _ _ _ e=>by cases e) h)
    unfold wpListIn
    rw [if_pos (by simp [Region.wanted,hgo])]
    exact this
   ·rename_i g want hg
    split at h
    ·rename_i hseen2
     have hmem:g∈seen:=by
      obtain ⟨x,hx,hb⟩:=List.any_eq_true.1 hseen2
      rw [Nat.eq_of_beq_eq_true hb]; exact hx
     obtain ⟨j,oj,hgo,hj,hdj⟩:=xqz hg
     have unwanted:a.tmps.getD g undef≠.bool want→¬ Region.wanted o (yielded ops a.tmps)=true:=by
      intro hgv hw
      unfold Region.wanted at hw
      rw [hgo] at hw
      have hw:(yielded ops a.tmps j==some want)=true:=hw
      have hy:yielded ops a.tmps j=some want:=by simpa using hw
      unfold yielded at hy
      simp only [hj,Option.bind_some,hdj] at hy
      cases ht:a.tmps[g]? with
      | none=>rw [ht] at hy; cases hy
      | some v =>
       rw [ht] at hy
       cases v<;>simp at hy
       subst hy
       exact hgv (by rw [Array.getD_eq_getD_getElem?,ht]; rfl)
     split at h
     ·-- a guard that is known to hold
      rename_i hkn
      have hgv:a.tmps.getD g undef=.bool want:=by
       have hs:=hS.ok g
       unfold xk1 at hkn
       split at hkn
       ·rename_i b hsl
        rw [hsl] at hs
        have:b=want:=by simpa using hkn
        subst this
        exact hs.1
       ·cases hkn
       ·cases hkn
      have:=xn0 (rnd:=rnd) hΓ hcall hk hyld hS hH hd (ctx:=[]) trivial trivial (Q:=Q) (next [] (fun _ _ _ _ e=>by cases e) h)
      unfold wpListIn
      rw [if_pos (by simp [Region.wanted,hgo,xpl hj hdj hgv])]
      exact this
     ·-- one that is known not to hold
      rename_i hkn
      have hgv:a.tmps.getD g undef≠.bool want:=by
       have hs:=hS.ok g
       unfold xk1 at hkn
       split at hkn
       ·rename_i b hsl
        rw [hsl] at hs
        have:b≠want:=by simpa using hkn
        intro e
        rw [hs.1] at e
        exact this (by cases e; rfl)
       ·rename_i v hnb hsl
        rw [hsl] at hs
        intro e
        rw [hs.1] at e
        exact hnb want (by rw [show v=Value.bool want from e])
       ·cases hkn
      unfold wpListIn
      rw [if_neg (unwanted hgv)]
      refine ⟨fun _ _=>trivial,?_⟩
      refine xi5 hΓ hcall hk hyld ops rest seen' _ H E _ w ?_ (hS.put hd (sl:=.is (.val undef)) ⟨rfl,trivial⟩) hH (xaV (fun y hy=>?_) h)
      ·exact xng hG hseen fun g want v e=>by cases e
      ·exact fun E2 a2 w2 hE2 hS2 hH2 hle2 hold2=>hy E2 a2 w2 hE2 hS2 hH2 hle2 hold2
     ·split at h
      case h_2=>exact h.elim
      rename_i ctx hch
      obtain ⟨q1,q2,b,r,rfl⟩:=xfd hS 9 g want ctx hch
      have hne:o.dst≠some g:=fun e=>by
       have h2:seen.any (Nat.beq g)=true:=hseen2
       rw [e] at hseen
       simp only [xfs,h2] at hseen
       simp at hseen
      have:=xn0 (rnd:=rnd) hΓ hcall hk hyld hS hH hd (ctx:=(g,want,b)::r) ⟨q1,q2,hne⟩ (xlP hS 9 g want _ hch) (Q:=Q) (next _ (fun _ _ _ _ e=>by cases e; exact hmem) h)
      unfold wpListIn
      by_cases hb:xez ((g,want,b)::r)
      ·rw [if_pos (by simp [Region.wanted,hgo,xpl hj hdj (q1.2 hb)])]
       exact this.1 hb
      ·have hgv:a.tmps.getD g undef≠.bool want:=fun e=>hb (q1.1 e)
       rw [if_neg (unwanted hgv)]
       exact ⟨fun _ _=>trivial,this.2 hb⟩
    ·exact h.elim
   ·exact h.elim
theorem xoI {s:xa4} {dst:Option Nat} {sl:Slot} {t:Nat} (h:dst≠some t):Sy.put s dst sl t=s t:=by
 cases dst with
 | none=>rfl
 | some d=>exact xfb _ _ (fun e=>h (by rw [e]))
theorem xnN {s:xa4} {seen:List Nat} (hG:xld s seen):∀ (m g:Nat) (want:Bool) (ctx:Ctx),xbw s m g want=some ctx→g∈seen→∀ c∈ctx,c.1∈seen
 | 0,_,_,_,h,_=>by cases h
 | m+1,g,want,ctx,h,hg=>by
  unfold xbw at h
  split at h
  ·split at h
   ·cases h; intro c hc; simp at hc; subst hc; exact hg
   ·cases h
  ·rename_i g1 w1 v hs
   split at h
   case h_2=>cases h
   cases hr:xbw s m g1 w1 with
   | none=>rw [hr] at h; cases h
   | some r =>
    rw [hr] at h
    cases h
    intro c hc
    rcases List.mem_cons.1 hc with rfl | hc
    ·exact hg
    ·exact xnN hG m g1 w1 r hr (hG g g1 w1 v hs) c hc
  ·cases h
def xDD (s:xa4) (seen:List Nat):Prop:=∀ t g w v,s t=.when g w v→t∈seen
theorem xzB {N:Nat} {dst:Option Nat} {seen seen':List Nat} (h:xfs N dst seen=some seen'):(∀ t,t∈seen→t∈seen')∧(∀ d,dst=some d→d∈seen')∧∀ t,t∈seen'→t∈seen∨dst=some t:=by
 cases dst with
 | none=>cases h; exact ⟨fun _ h=>h,(fun _ h=>by cases h),fun _ h=>.inl h⟩
 | some d =>
  simp only [xfs] at h
  split at h
  ·cases h
   refine ⟨fun t ht=>List.mem_cons_of_mem _ ht,fun d' hd=>by cases hd; exact List.mem_cons_self,fun t ht=>?_⟩
   rcases List.mem_cons.1 ht with rfl | ht
   ·exact .inr rfl
   ·exact .inl ht
  ·cases h
theorem xwY {s:xa4} {seen seen':List Nat} {N:Nat} {dst:Option Nat} {sl:Slot} (h:xDD s seen) (hs:xfs N dst seen=some seen'):xDD (Sy.put s dst sl) seen':=by
 intro t g w v ht
 obtain ⟨m1,m2,_⟩:=xzB hs
 by_cases hd:dst=some t
 ·exact m2 t hd
 ·rw [xoI hd] at ht
  exact m1 t (h t g w v ht)
theorem xih (ops:Array Oper):∀ (l:List Oper) (seen:List Nat) (s:xa4) (H:Heap),xld s seen→xDD s seen→(xiM P Γ call yld N ops l seen s H).all fun x=>∀ t,t∉seen→(∀ o∈l,o.dst≠some t)→x.1 t=s t
 | [],seen,s,H,_,_=>fun t _ _=>rfl
 | o::rest,seen,s,H,hG,hW=>by
  unfold xiM
  split
  ·trivial
  ·rename_i seen' hseen
   have hsm:=xzB hseen
   have next:∀ (ctx:Ctx),(∀ c∈ctx,c.1∈seen)→((xuq P Γ call yld o s H ctx).bind fun (x:RCfg)=>xiM P Γ call yld N ops rest seen' x.1 x.2).all fun x=>∀ t,t∉seen→(∀ o'∈o::rest,o'.dst≠some t)→x.1 t=s t:=by
    intro ctx hctx
    refine xdv (xcu (fun x hx=>?_) (xrH o s H ctx))
    obtain ⟨sl,s0,hsl,hguard,hlrn⟩:=hx
    have hG0:xld s0 seen:=fun t g w v h=>hG t g w v (hlrn.whens t g w v h)
    have hW0:xDD s0 seen:=fun t g w v h=>hW t g w v (hlrn.whens t g w v h)
    refine xcu (fun y hy t ht1 ht2=>?_) (xih ops rest seen' x.1 x.2 ?_ ?_)
    ·rw [hy t (fun hm=>by
      rcases hsm.2.2 t hm with h | h
      ·exact ht1 h
      ·exact ht2 o (by simp) h) (fun o' ho'=>ht2 o' (by simp [ho'])),hsl,xoI (ht2 o (by simp))]
     rcases hlrn.else_ t with h | ⟨g,w,v,h⟩ | ⟨c,hc,h⟩
     ·exact h
     ·exact absurd (hW t g w v h) ht1
     ·exact absurd (by rw [← h]; exact hctx c (List.mem_reverse.1 hc)) ht1
    ·rw [hsl]
     exact xng hG0 hseen fun g want v e=>by
      obtain ⟨b,r,hb⟩:=hguard g want v e
      exact hctx (g,want,b) (by rw [hb]; exact List.mem_cons_self)
    ·rw [hsl]; exact xwY hW0 hseen
   split
   ·exact next [] (fun c hc=>by cases hc)
   ·rename_i g want hg
    split
    ·rename_i hs2
     have hmem:g∈seen:=xkA.1 hs2
     split
     ·exact next [] (fun c hc=>by cases hc)
     ·refine xcu (fun y hy t ht1 ht2=>?_) (xih ops rest seen' _ H ?_ (xwY hW hseen))
      ·rw [hy t (fun hm=>by
        rcases hsm.2.2 t hm with h | h
        ·exact ht1 h
        ·exact ht2 o (by simp) h) (fun o' ho'=>ht2 o' (by simp [ho'])),xoI (ht2 o (by simp))]
      ·exact xng hG hseen fun g want v e=>by cases e
     ·split
      ·rename_i ctx hch
       exact next ctx (xnN hG 9 g want ctx hch hmem)
      ·trivial
    ·trivial
   ·trivial
theorem xoP {α:Type} {Q:α→Prop} {t:Tree α} (h:t.all Q):∀ L:List Item,(xxx L t).all Q
 | []=>h
 | x::r=>by
  unfold xxx
  split
  ·exact xoP h r
  ·exact xoP h r
theorem xli {S:Nat→Bool}:∀ (L:List Item) (i:Nat) (s:xa4),(∀ t g w v,s t≠.when g w v)→(∀ it∈L,it.ctx=[])→∀ t g w v,xbq S i L s t≠.when g w v
 | [],_,_,h,_=>h
 | it::r,i,s,h,hc=>by
  unfold xbq
  refine xli r (i+1) _ ?_ fun x hx=>hc x (by simp [hx])
  intro t g w v
  split
  ·have e:∃ u,it.slot=.is u:=by
    unfold Item.slot
    rw [hc it (by simp)]
    split<;>exact ⟨_,rfl⟩
   obtain ⟨u,e⟩:=e
   rw [e]
   by_cases hd:it.o.dst=some t
   ·rw [hd]
    show upd s t (.is u) t≠_
    rw [xeA]; exact fun h=>by cases h
   ·rw [xoI hd]; exact h t g w v
  ·exact h t g w v
theorem xpY (ops:Array Oper) (draw:Bool) (c:Cfg):(xk5 P Γ call yld N ops draw c).all fun x=>∀ t,t∉ops.toList.filterMap (·.dst)→x.1 t=xao c.tmps t:=by
 have hd:∀ t,t∉ops.toList.filterMap (·.dst)→∀ o∈ops.toList,o.dst≠some t:=fun t ht o ho e=>ht (List.mem_filterMap.2 ⟨o,ho,e⟩)
 unfold xk5
 split
 ·exact ⟨trivial,trivial⟩
 split
 ·exact xcu (fun x hx t ht=>hx t (fun h=>by cases h) (hd t ht)) (xih ops _ [] _ _ (fun t g w v h=>by unfold xao at h; split at h<;>cases h) (fun t g w v h=>by unfold xao at h; split at h<;>cases h))
 ·have h1:(xnj P Γ call N ops (xao c.tmps) c.heap).all fun x=>∀ t,t∉ops.toList.filterMap (·.dst)→x.1 t=xao c.tmps t:=by
   ·unfold xnj
    have key:∀ (n:Nat) (asg:List (Nat×Bool)),(xtP P Γ call N ops (xao c.tmps) c.heap n asg).all fun x=>∀ t,t∉ops.toList.filterMap (·.dst)→x.1 t=xao c.tmps t:=by
     intro n
     induction n with
     | zero=>intro asg; trivial
     | succ n ih =>
      intro asg
      unfold xtP
      split
      ·rename_i L hrun
       split
       ·refine xoP ?_ L
        intro t ht
        obtain ⟨hmap,_⟩:=xkM _ _ _ _ _ hrun
        rcases xja (t:=t) L 0 (fun _=>true) (xao c.tmps) with h | ⟨k,it,h1,_,h3,_⟩
        ·exact h
        ·exfalso
         refine hd t ht it.o ?_ h3
         rw [← hmap]
         exact List.mem_map.2 ⟨it,List.mem_of_getElem? h1,rfl⟩
       ·trivial
      ·split
       ·exact ⟨ih _,ih _⟩
       ·trivial
    exact key _ _
  have h2:(xo7 P Γ call yld N ops (xao c.tmps) c.heap).all fun x=>∀ t,t∉ops.toList.filterMap (·.dst)→x.1 t=xao c.tmps t:=by
   unfold xo7
   split
   ·trivial
   rename_i k _
   split
   ·trivial
   split
   ·rename_i L hrun
    split
    ·rename_i hc
     rw [Bool.and_eq_true] at hc
     have hnw:∀ t g w v,xbq (fun _=>true) 0 L (xao c.tmps) t≠.when g w v:=xli L 0 _ (fun t g w v h=>by unfold xao at h; split at h<;>cases h) (fun it hit=>by simpa using List.all_eq_true.1 hc.2 it hit)
     refine xoP (xcu (fun x hx t ht=>?_) (xih ops _ _ _ _ (fun t g w v h=>absurd h (hnw t g w v)) (fun t g w v h=>absurd h (hnw t g w v)))) L
     have hsub:∀ o,o∈ops.toList.take k→o∈ops.toList:=fun o ho=>List.mem_of_mem_take ho
     have hsub2:∀ o,o∈ops.toList.drop k→o∈ops.toList:=fun o ho=>List.mem_of_mem_drop ho
     rw [hx t (fun hm=>by
      obtain ⟨o,ho,he⟩:=List.mem_filterMap.1 hm
      exact hd t ht o (hsub o ho) he) (fun o ho=>hd t ht o (hsub2 o ho))]
     obtain ⟨hmap,_⟩:=xkM _ _ _ _ _ hrun
     rcases xja (t:=t) L 0 (fun _=>true) (xao c.tmps) with h | ⟨k',it,h1,_,h3,_⟩
     ·exact h
     ·exfalso
      refine hd t ht it.o (hsub _ ?_) h3
      have:it.o∈(ops.toList.take k).toArray.toList:=by rw [← hmap]; exact List.mem_map.2 ⟨it,List.mem_of_getElem? h1,rfl⟩
      exact this
    ·trivial
   ·trivial
  split
  ·exact h2
  ·exact h1
def xuh (F:Fence) (n:Nat) (P:Program) (c:Code) (Q:Exit→Act→World→Prop) (a:Act) (w:World):Prop :=
 ∀ (b:Frame) (k:List Go.Item) (cs:List Frame),b.roundOf=F.round→F.fn b.fn→F.room (cs.length+1+n) →
  ∃ e a' w',Q e a' w'∧ArrivesIn (Machine.fenced P F) P (lone (b.atR a (.code c::.inLoop c::k)) cs w) b k cs e a' w'
theorem xnv {F:Fence} {n:Nat} {c:Code} {Q:Exit→Act→World→Prop} {a:Act} {w:World} (h:xuh F n P c Q a w):(Code.loop c).wpIn F n P Q a w:=by
 intro b k cs hro hb hr
 obtain ⟨e,a',w',hq,harr⟩:=h b k cs hro hb hr
 exact ⟨e,a',w',hq,.of_steps (.one (fenced_calm hb hr rfl) stepR_loop) harr⟩
theorem xkh {F:Fence} {n:Nat} {c:Code} {Q:Exit→Act→World→Prop} {a:Act} {w:World} (h:c.wpIn F n P (Exit.then (xuh F n P c Q) Q) a w):xuh F n P c Q a w:=by
 intro b k cs hro hb hr
 obtain ⟨e,a₁,w₁,hq,harr⟩:=h b (.inLoop c::k) cs hro hb hr
 cases e with
 | normal =>
  obtain ⟨e₂,a₂,w₂,hq₂,harr₂⟩:=hq b k cs hro hb hr
  exact ⟨e₂,a₂,w₂,hq₂,.of_steps (StepsIn.trans harr (.one (fenced_calm hb hr rfl) stepR_inLoop)) harr₂⟩
 | exit id=>exact ⟨_,a₁,w₁,hq,.pass (x:=.inLoop c) rfl (fun _ _=>.inl (by simp)) harr⟩
 | goto l=>exact ⟨_,a₁,w₁,hq,.pass (x:=.inLoop c) rfl (fun _ _=>.inl (by simp)) harr⟩
 | ret=>exact ⟨_,a₁,w₁,hq,.pass (x:=.inLoop c) rfl (fun _ _=>.inl (by simp)) harr⟩
 | panic ch=>exact ⟨_,a₁,w₁,hq,.pass (x:=.inLoop c) rfl (fun _ _=>.inl (by simp)) harr⟩
 | outgrown=>exact ⟨_,a₁,w₁,hq,.pass (x:=.inLoop c) rfl (fun _ _=>.inl (by simp)) harr⟩
def mark (r:Nat):Deferred:={ target:=.collected r,args:=#[] }
def xml (rs:List Nat) (X0:List (Nat×Go.Obj)):List (Nat×Go.Obj):=rs.map (fun r=>(r,Go.Obj.deferred (some [])))++X0
def CfgOk (X0:List (Nat×Go.Obj)) (E:Env) (w0:World) (N:Nat) (c:Cfg) (a:Act) (w:World):Prop :=
 ∃ rs:List Nat,(∀ r∈rs,w0.heap.size≤r∧∀ x∈X0,x.1≠r)∧rs.Nodup∧xaX E c.heap.next N (rs.map mark) (xao c.tmps) a∧xae (xml rs X0) E w0 c.heap w
def xck.toExit:xck→Exit
 | .normal=>.normal
 | .exit id=>.exit id
 | .ret=>.ret
def xlI (X0:List (Nat×Go.Obj)) (w0:World) (E:Env) (N:Nat) (c:Cfg) (Q:Exit→Act→World→Prop) (x:xck×Cfg):Prop :=
 ∀ E' a' w',(∀ k,k<c.heap.next→E' k=E k)→CfgOk X0 E' w0 N x.2 a' w'→c.heap.next≤x.2.heap.next→Old c.heap x.2.heap→Q x.1.toExit a' w'
theorem xlI.next {X0:List (Nat×Go.Obj)} {E E':Env} {c c':Cfg} {Q:Exit→Act→World→Prop} {x:xck×Cfg} (h:xlI X0 w0 E N c Q x) (hE:∀ k,k<c.heap.next→E' k=E k) (hle:c.heap.next≤c'.heap.next) (hold:Old c.heap c'.heap):xlI X0 w0 E' N c' Q x :=
 fun E2 a2 w2 hE2 hc2 hle2 hold2=>h E2 a2 w2 (fun k hk=>by rw [hE2 k (Nat.lt_of_lt_of_le hk hle),hE k hk]) hc2 (Nat.le_trans hle hle2) (hold.trans hold2 hle)
theorem CfgOk.point {X0:List (Nat×Go.Obj)} {E:Env} {c:Cfg} {a:Act} {w:World} (h:CfgOk X0 E w0 N c a w) {t:Nat} {v:AV} (ht:c.tmps t=some v):a.tmps.getD t undef=v.den E∧AV.lt c.heap.next v:=by
 obtain ⟨rs,_,_,hS,_⟩:=h
 have:=hS.ok t
 have e:xao c.tmps t=.is v:=by simp [xao,ht]
 rw [e] at this
 exact this
theorem CfgOk.lt {X0:List (Nat×Go.Obj)} {E:Env} {c:Cfg} {a:Act} {w:World} (h:CfgOk X0 E w0 N c a w):∀ o∈c.heap.objs,o.key<c.heap.next∧xbn (fun k=>k<c.heap.next) o.body:=by
 obtain ⟨rs,_,_,_,hH⟩:=h
 exact hH.lt
theorem CfgOk.uniq {X0:List (Nat×Go.Obj)} {E:Env} {c:Cfg} {a:Act} {w:World} (h:CfgOk X0 E w0 N c a w):∀ o∈c.heap.objs,∀ o'∈c.heap.objs,o.key=o'.key→o=o':=by
 obtain ⟨rs,_,_,_,hH⟩:=h
 exact hH.uniq
theorem CfgOk.readS {X0:List (Nat×Go.Obj)} {E:Env} {c:Cfg} {a:Act} {w:World} (h:CfgOk X0 E w0 N c a w) {x:Operand} {v:AV} (hx:readS [] (xao c.tmps) x=some v):a.eval x=v.den E∧AV.lt c.heap.next v:=by
 obtain ⟨rs,_,_,hS,_⟩:=h
 exact xhp hS [] (fun _ e=>by cases e) x _ hx
theorem xku (f:Nat→Option AV):xld (xao f) []:=by
 intro t g want v h
 unfold xao at h
 split at h<;>cases h
theorem xC3 {E:Env} {n:Nat} {s:xa4} {a:Act} (h:xaX E n N D s a):xaX E n N D (xao (xgL s)) a:=by
 refine ⟨h.defers,h.size,fun t=>?_⟩
 have:=h.ok t
 cases hs:s t with
 | is v =>
  rw [hs] at this
  have e:xao (xgL s) t=.is v:=by simp [xao,xgL,hs]
  rw [e]; exact this
 | when g want v =>
  have e:xao (xgL s) t=.junk:=by simp [xao,xgL,hs]
  rw [e]; trivial
 | junk =>
  have e:xao (xgL s) t=.junk:=by simp [xao,xgL,hs]
  rw [e]; trivial
def Wr (c:Cfg) (wr:List Nat) (x:xck×Cfg):Prop:=x.1≠.ret→∀ t,t∉wr→x.2.tmps t=c.tmps t
theorem xrP (f:Nat→Option AV) (t:Nat):xgL (xao f) t=f t:=by
 unfold xgL xao
 cases f t<;>rfl
theorem xkT {t:Nat}:∀ (l acc:List Nat),t∈xha l acc↔t∈l∨t∈acc
 | [],acc=>by simp [xha]
 | a::r,acc=>by
  unfold xha
  split
  ·rename_i h
   rw [xkT r acc]
   have ha:=xkA.1 h
   constructor
   ·rintro (h | h)
    ·exact .inl (by simp [h])
    ·exact .inr h
   ·rintro (h | h)
    ·rcases List.mem_cons.1 h with rfl | h
     ·exact .inr ha
     ·exact .inl h
    ·exact .inr h
  ·rw [xkT r (a::acc)]
   simp only [List.mem_cons]
   constructor
   ·rintro (h | h | h)
    ·exact .inl (.inr h)
    ·exact .inl (.inl h)
    ·exact .inr h
   ·rintro ((h | h) | h)
    ·exact .inr (.inl h)
    ·exact .inl h
    ·exact .inr (.inr h)
theorem xqx {t:Nat}:∀ {l:List (Nat×AV)},(∀ x∈l,x.1≠t)→xft t l=none
 | [],_=>rfl
 | (t',v)::r,h=>by
  unfold xft
  rw [xgb (fun e=>h (t',v) (by simp) e.symm)]
  exact xqx (fun x hx=>h x (by simp [hx]))
theorem xnO (xs:List U):∀ (l:List (Nat×AV)) (j:Nat),(xbj xs l j).1.map (·.1)=l.map (·.1)
 | [],_=>rfl
 | (t,v)::r,j=>by
  show (t::((xbj xs r (xfJ xs v j).2).1.map (·.1)))=_
  rw [xnO xs r]
  rfl
theorem xnh {S:Spec} {st:List Obj} {wr:List Nat} {tm:Nat→Option AV} {xs:List U} (h:xvM wr S=true) {t:Nat} (ht:t∉wr):(S.gen st wr tm xs).tmps t=tm t:=by
 have e:(S.gen st wr tm xs).tmps t=(match xft t (xbj xs S.slots 0).1 with | some v=>some v | none=>if wr.any (Nat.beq t) then none else tm t):=rfl
 rw [e,xqx]
 ·have:wr.any (Nat.beq t)=false:=Bool.eq_false_iff.2 (fun hb=>ht (xkA.1 hb))
  simp [this]
 ·intro x hx he
  have h1:t∈(xbj xs S.slots 0).1.map (·.1):=List.mem_map.2 ⟨x,hx,he⟩
  rw [xnO] at h1
  obtain ⟨y,hy,hyt⟩:=List.mem_map.1 h1
  have:=List.all_eq_true.1 h y hy
  rw [hyt] at this
  exact ht (xkA.1 this)
theorem xvv {st:List Obj} {wr:List Nat} {tm:Nat→Option AV} {r:Nat×List U}:∀ {outs:List (Nat×xck×Spec)},xzJ wr outs=true→(brs st wr tm r outs).all fun x=>x.1≠.ret→∀ t,t∉wr→x.2.tmps t=tm t
 | [],_=>trivial
 | [(n,y,T)],h=>by
  intro hy t ht
  have h1:=List.all_eq_true.1 h (n,y,T) (by simp)
  cases y with
  | ret=>exact absurd rfl hy
  | normal=>exact xnh h1 ht
  | exit id=>exact xnh h1 ht
 | (n,y,T)::z::r',h=>by
  refine ⟨?_,xvv (outs:=z::r') (by
   unfold xzJ at h ⊢
   rw [List.all_cons,Bool.and_eq_true] at h
   exact h.2)⟩
  intro hy t ht
  have h1:=List.all_eq_true.1 h (n,y,T) (by simp)
  cases y with
  | ret=>exact absurd rfl hy
  | normal=>exact xnh h1 ht
  | exit id=>exact xnh h1 ht
theorem xuJ (res wr:List Nat) (body:Cfg→Tree (xck×Cfg)) (c0:Cfg):(xgP P res wr body c0).all (Wr c0 wr):=by
 unfold xgP
 simp only []
 split
 ·split
  ·rename_i hc
   rw [Bool.and_eq_true] at hc
   exact xvv hc.2
  ·trivial
 ·trivial
theorem xf6 {wr:List Nat}:∀ {ts:List Nat} {c1:Cfg},(∀ t∈ts,t∈wr)→(xmd ts c1).all (fun c2=>∀ t,t∉wr→c2.tmps t=c1.tmps t)
 | [],c1,h=>fun t _=>rfl
 | t::r,c1,h=>by
  unfold xmd
  split
  ·split
   ·refine xcu (fun c2 h2 t' ht'=>?_) (xf6 (ts:=r) fun t ht=>h t (List.mem_cons_of_mem _ ht))
    rw [h2 t' ht']
    exact xfb _ _ (fun e=>ht' (e▸h t List.mem_cons_self))
   ·exact xf6 (ts:=r) fun t ht=>h t (List.mem_cons_of_mem _ ht)
  ·exact xf6 (ts:=r) fun t ht=>h t (List.mem_cons_of_mem _ ht)
theorem xvS {code:Code} {c:Cfg} {r:xck×Cfg} (h:Wr c (xdw code) r):(xxg (xha (xdw code) []) c r).all (Wr c (xdw code)):=by
 obtain ⟨x,c1⟩:=r
 have hts:∀ t∈(xha (xdw code) []).filter fun t=>xDT (c.tmps t),t∈xdw code:=by
  intro t ht
  have:=(List.mem_filter.1 ht).1
  rcases (xkT _ _).1 this with h | h
  ·exact h
  ·cases h
 cases x with
 | ret=>exact h
 | normal=>exact xdv (xcu (fun c2 h2 hx t ht=>by show c2.tmps t=_; rw [h2 t ht]; exact h hx t ht) (xf6 hts))
 | exit id=>exact xdv (xcu (fun c2 h2 hx t ht=>by show c2.tmps t=_; rw [h2 t ht]; exact h hx t ht) (xf6 hts))
theorem xc0 {rb:Bool} {res:List Nat}:∀ (code:Code) (c:Cfg),(xa2 P Γ call yld rb res N code c).all (Wr c (xdw code))
 | .skip,c=>fun _ t _=>rfl
 | .region id ops draw,c=>by
  unfold xa2
  refine xdv (xcu (fun x hx=>?_) (xpY ops draw c))
  intro _ t ht
  show xgL x.1 t=c.tmps t
  have:=hx t ht
  rw [← xrP c.tmps t]
  unfold xgL
  rw [this]
 | .seq x y,c=>by
  unfold xa2
  refine xdv (xcu (fun r hr=>?_) (xc0 x c))
  obtain ⟨e,c'⟩:=r
  have left:e≠.ret→∀ t,t∉xdw (.seq x y)→c'.tmps t=c.tmps t:=fun he t ht=>hr he t (fun h=>ht (List.mem_append.2 (.inl h)))
  cases e with
  | normal =>
   refine xcu (fun r2 hr2 he t ht=>?_) (xc0 y c')
   rw [hr2 he t (fun h=>ht (List.mem_append.2 (.inr h))),left (fun h=>by cases h) t ht]
  | exit id=>exact left
  | ret=>exact left
 | .cond x t e,c=>by
  unfold xa2
  have l:(xa2 P Γ call yld rb res N t c).all (Wr c (xdw (.cond x t e))):=xcu (fun r hr he u hu=>hr he u (fun h=>hu (List.mem_append.2 (.inl h)))) (xc0 t c)
  have r:(xa2 P Γ call yld rb res N e c).all (Wr c (xdw (.cond x t e))):=xcu (fun r hr he u hu=>hr he u (fun h=>hu (List.mem_append.2 (.inr h)))) (xc0 e c)
  split
  ·exact ⟨l,r⟩
  ·rename_i b _
   cases b
   ·exact r
   ·exact l
  ·trivial
 | .block id body,c=>by
  unfold xa2
  refine xdv (xcu (fun r hr=>?_) (xc0 body c))
  obtain ⟨e,c'⟩:=r
  cases e with
  | normal=>exact hr
  | exit id' =>
   show Tree.all (if Nat.beq id' id=true then _ else _) _
   split
   ·exact fun _=>hr (fun h=>by cases h)
   ·exact hr
  | ret=>exact fun h=>absurd rfl h
 | .exit id,c=>fun _ t _=>rfl
 | .ret,c=>fun _ t _=>rfl
 | .loop body,c=>by
  unfold xa2
  have key:∀ (known:Cfg→Bool) (n:Nat) (c:Cfg),(xni known (xgP P res (xha (xdw body) []) fun c=>(xa2 P Γ call yld rb res N body c).bind (xxg (xha (xdw body) []) c)) (fun c=>xa2 P Γ call yld rb res N body c) n c).all (Wr c (xdw body)):=by
   intro known n
   induction n with
   | zero=>intro c; trivial
   | succ n ih =>
    intro c
    unfold xni
    split
    ·refine xdv (xcu (fun r hr=>?_) (xc0 body c))
     obtain ⟨e,c'⟩:=r
     cases e with
     | normal =>
      refine xcu (fun r2 hr2 he t ht=>?_) (ih c')
      rw [hr2 he t ht]
      exact hr (fun h=>by cases h) t ht
     | exit id=>exact hr
     | ret=>exact hr
    ·exact xcu (fun r hr he t ht=>hr he t (fun h=>ht (by rcases (xkT _ _).1 h with h | h; exact h; cases h))) (xuJ res _ _ c)
  exact key _ _ c
 | .rangeFunc f params assign body,c=>by
  unfold xa2
  split
  ·refine xdv (xij (fun x=>?_) _)
   obtain ⟨v,H2⟩:=x
   simp only []
   split
   ·split
    ·trivial
    ·split
     ·exact fun _ t _=>rfl
     ·trivial
   ·trivial
  ·trivial
 | .scope body,c=>by unfold xa2; exact xc0 body c
 | .label _,c=>by unfold xa2; exact fun _ t _=>rfl
 | .goto _,c=>trivial
 | .refuse _,c=>trivial
end
end Go.Sy
set_option linter.unusedVariables false
namespace Go.Sy
open Go.RowKit
section
variable {P:Program} {X0:List (Nat×Go.Obj)} {w0:World} {N:Nat} {rnd:Option Nat} {S:Spec} {st:List Obj} {ver:Nat} {outs:List (Nat×xck×Spec)}
theorem xfF {Φ Ψ:xck×Cfg→Prop} {res:Nat×List U} (hleaf:∀ x n,(number P S st ver outs (.ret x) n).1.opt=some res→Ψ x→Φ x) :
  ∀ (t:Tree (xck×Cfg)) (n:Nat),(number P S st ver outs t n).1.opt=some res→t.all Ψ→t.holds Φ
 | .ret x,n,h,ha=>hleaf x n h ha
 | .br b t e,n,h,ha=>by
  have e1:(number P S st ver outs (.br b t e) n).1=.br b (number P S st ver outs t n).1 (number P S st ver outs e (number P S st ver outs t n).2).1:=rfl
  rw [e1] at h
  cases b with
  | true=>exact ⟨fun _=>xfF hleaf t n h ha.1,fun hb=>(by cases hb)⟩
  | false=>exact ⟨fun hb=>(by cases hb),fun _=>xfF hleaf e _ h ha.2⟩
 | .need p t,n,h,ha=>by
  have e1:(number P S st ver outs (.need p t) n).1=.need p (number P S st ver outs t n).1:=rfl
  rw [e1] at h
  exact ⟨(xew h).1,xfF hleaf t n (xew h).2 ha⟩
 | .ask p t e,n,h,ha=>by
  have e1:(number P S st ver outs (.ask p t e) n).1=.ask p (number P S st ver outs t n).1 (number P S st ver outs e (number P S st ver outs t n).2).1:=rfl
  rw [e1] at h
  exact ⟨fun hp=>xfF hleaf t n (((xew h).1 hp).trans (xew h).2) ha.1,xfF hleaf e _ (xew h).2 ha.2⟩
 | .bad,n,h,_=>by cases h
theorem xxh {x y:xck} (h:y.same x=true):y.toExit=x.toExit∧(y=.ret↔x=.ret):=by
 cases x<;>cases y<;>first | (cases h; done) | exact ⟨rfl,by simp⟩ | skip
 rename_i a b
 have:b=a:=Nat.eq_of_beq_eq_true h
 subst this
 exact ⟨rfl,by simp⟩
theorem xrQ {x:xck} {c:Cfg} {n:Nat} {res:Nat×List U} (h:(number P S st ver outs (.ret (x,c)) n).1.opt=some res) :
  (x=.normal∧∃ us,S.match_ P st ver c=some us∧res=(0,us)) ∨
  (x≠.normal∧∃ m y T us,outs.find? (fun y=>Nat.beq y.1 (n+1))=some (m,y,T)∧y.same x=true∧c.heap.next≤T.base∧T.match_ P (T.still st) ver c=some us∧res=(n+1,us)):=by
 have exit_:x≠.normal→((match outs.find? (fun y=>Nat.beq y.1 (n+1)) with
   | some (_,y,T)=>if y.same x&&Nat.ble c.heap.next T.base then (match T.match_ P (T.still st) ver c with | some us=>Tree.ret (n+1,us) | none=>.bad) else .bad
   | none=>.bad):Tree (Nat×List U)).opt=some res →
   ∃ m y T us,outs.find? (fun y=>Nat.beq y.1 (n+1))=some (m,y,T)∧y.same x=true∧c.heap.next≤T.base∧T.match_ P (T.still st) ver c=some us∧res=(n+1,us):=by
  intro _ h
  split at h
  ·rename_i m y T hf
   split at h
   ·rename_i hc
    rw [Bool.and_eq_true] at hc
    split at h
    ·rename_i us hm
     cases h
     exact ⟨m,y,T,us,hf,hc.1,Nat.le_of_ble_eq_true hc.2,hm,rfl⟩
    ·cases h
   ·cases h
  ·cases h
 cases x with
 | normal =>
  refine .inl ⟨rfl,?_⟩
  simp only [number] at h
  split at h
  ·rename_i us hm; cases h; exact ⟨us,hm,rfl⟩
  ·cases h
 | exit id=>exact .inr ⟨fun e=>(by cases e),exit_ (fun e=>by cases e) h⟩
 | ret=>exact .inr ⟨fun e=>(by cases e),exit_ (fun e=>by cases e) h⟩
theorem xt2 {wr:List Nat} {tm:Nat→Option AV} {r:Nat×List U} {Ψ:xck×Cfg→Prop}:∀ {outs:List (Nat×xck×Spec)} {m:Nat} {y:xck} {T:Spec},(brs st wr tm r outs).holds Ψ →
  outs.find? (fun y=>Nat.beq y.1 r.1)=some (m,y,T)→Ψ (y,T.gen (T.still st) wr (tmOf y tm) r.2)
 | [],_,_,_,h,_=>h.elim
 | [(n,y',T')],m,y,T,h,hf=>by
  cases hb:Nat.beq n r.1 with
  | true=>simp only [List.find?,hb] at hf; cases hf; exact h
  | false=>simp only [List.find?,hb] at hf; cases hf
 | (n,y',T')::z::rest,m,y,T,h,hf=>by
  cases hb:Nat.beq n r.1 with
  | true =>
   rw [List.find?_cons_of_pos (by exact hb)] at hf
   cases hf
   exact h.1 (by rw [Nat.eq_of_beq_eq_true hb]; exact xdh _)
  | false =>
   rw [List.find?_cons_of_neg (by rw [hb]; simp)] at hf
   exact xt2 (outs:=z::rest) (h.2 (xgb (fun e=>Nat.ne_of_beq_eq_false hb e.symm))) hf
theorem xmC {step:List U→Option (Nat×List U)} {xs:List U} (h:xa5 step xs):∃ n,xi2 step n xs=some (xa6 step xs):=by
 unfold xa6
 rw [dif_pos h]
 exact ⟨_,h.choose_spec.choose_spec⟩
theorem xi3 {wr:List Nat} {tm:Nat→Option AV} {xs:List U}:(S.gen st wr tm xs).heap.next=S.base+S.rows.length+1:=rfl
theorem xxV {wr:List Nat} {tm:Nat→Option AV} {xs:List U}:∀ o∈st,o∈(S.gen st wr tm xs).heap.objs:=fun o ho=>by
 have e:(S.gen st wr tm xs).heap.objs=(xbp S.base xs S.objs (xbj xs S.slots 0).2).1++xd9 S.base xs S.base S.rows (xbp S.base xs S.objs (xbj xs S.slots 0).2).2++st:=rfl
 rw [e]
 exact List.mem_append.2 (.inr ho)
theorem xwy {code:Code} {body:Cfg→Tree (xck×Cfg)} {res:List Nat}
  (hbody:∀ (c:Cfg) (E:Env) (a:Act) (w:World) (Q:Exit→Act→World→Prop),CfgOk X0 E w0 N c a w→(body c).holds (xlI X0 w0 E N c Q)→code.wpIn (FR rnd) 0 P Q a w)
  (hwr:∀ c,(body c).all (Wr c (xdw code))) {c0:Cfg} {E:Env} {a:Act} {w:World} {Q:Exit→Act→World→Prop} (hc0:CfgOk X0 E w0 N c0 a w)
  (h:(xgP P res (xha (xdw code) []) body c0).holds (xlI X0 w0 E N c0 Q)):xuh (FR rnd) 0 P code Q a w:=by
 unfold xgP at h
 simp only [] at h
 generalize hS:Spec.search P (xha (xdw code) []) c0 body 4 ⟨(xi8 c0.tmps (xha (xdw code) [])).filter (fun x=>!xws x.2),[],[],c0.heap.next,[]⟩=S at h
 generalize houts:xxs S (S.still c0.heap.objs) (S.base+S.rows.length+1) res 0 (xkV (body (S.gen (S.still c0.heap.objs) (xha (xdw code) []) c0.tmps [])))=outs at h
 have hwrm:∀ t,t∉xha (xdw code) []→t∉xdw code:=fun t ht hm=>ht ((xkT _ _).2 (.inl hm))
 generalize hwr0:xha (xdw code) []=wr at h hwrm hS houts
 have hst0:∀ o∈S.still c0.heap.objs,o∈c0.heap.objs:=fun o ho=>(List.mem_filter.1 ho).1
 generalize hst:S.still c0.heap.objs=st at h hst0 houts
 split at h
 case h_2=>exact h.elim
 rename_i xs0 hm0
 split at h
 case isFalse=>exact h.elim
 rename_i hcond
 rw [Bool.and_eq_true,Bool.and_eq_true] at hcond
 obtain ⟨⟨hbase,hsin⟩,hoin⟩:=hcond
 have hbase:S.base=c0.heap.next:=Nat.eq_of_beq_eq_true hbase
 obtain ⟨hok,hbrs⟩:=h
 obtain ⟨n0,hn0⟩:=xmC hok
 generalize hr:xa6 (fun xs=>(number P S st (S.base+S.rows.length+1) outs (body (S.gen st wr c0.tmps xs)) 0).1.opt) xs0=r at hbrs hn0
 have hst2:∀ o∈st,o.key<S.base∧xbn (fun k=>k<S.base) o.body:=fun o ho=>by rw [hbase]; exact hc0.lt o (hst0 o ho)
 have hlt0:∀ t v,c0.tmps t=some v→AV.lt S.base v:=fun t v ht=>by rw [hbase]; exact (hc0.point ht).2
 have key:∀ (n:Nat) (xs:List U) (E1:Env) (a1:Act) (w1:World),xi2 (fun xs=>(number P S st (S.base+S.rows.length+1) outs (body (S.gen st wr c0.tmps xs)) 0).1.opt) n xs=some r →
   CfgOk X0 E1 w0 N (S.gen st wr c0.tmps xs) a1 w1→(∀ k,k<c0.heap.next→E1 k=E k)→xuh (FR rnd) 0 P code Q a1 w1:=by
  intro n
  induction n with
  | zero=>intro xs E1 a1 w1 hi; cases hi
  | succ n ih =>
   intro xs E1 a1 w1 hi hg hE1
   refine xkh (hbody _ E1 a1 w1 _ hg ?_)
   unfold xi2 at hi
   split at hi
   case h_3=>cases hi
   all_goals
    rename_i hstep
    refine xfF (Ψ:=Wr (S.gen st wr c0.tmps xs) (xdw code)) (fun x n' hx hw=>?_) _ _ hstep (hwr _)
    obtain ⟨x,c⟩:=x
    intro E2 a2 w2 hE2 hc2 hle hold
    have hstill:∀ {T:Spec} {us:List U} {st':List Obj},(∀ o∈st',o∈st)→T.match_ P st' (S.base+S.rows.length+1) c=some us→∀ o∈st',o∈c.heap.objs:=by
     intro T us st' hsub hm o ho
     obtain ⟨o',h1,h2,h3⟩:=xl6 (xrW hm) o ho
     have h4:=hold o' h1 h3
     rwa [hg.uniq o' h4 o (xxV o (hsub o ho)) h2] at h1
    have htm:x≠.ret→∀ t v,wr.any (Nat.beq t)=false→c0.tmps t=some v→c.tmps t=some v:=by
     intro hx t v ht hv
     have ht':t∉wr:=fun hm=>by rw [xkA.2 hm] at ht; cases ht
     rw [hw hx t (hwrm t ht'),xnh hsin ht',hv]
    have hle':S.base<c.heap.next:=Nat.lt_of_lt_of_le (by rw [xi3]; omega) hle
    obtain ⟨rs,hrs1,hrs2,hS2,hH2⟩:=hc2
    rcases xrQ hx with ⟨rfl,us,hm,he⟩ | ⟨hnx,m,y,T,us,hf,hsame,hTb,hm,he⟩
   ·-- the next round
    cases he
    obtain ⟨E3,g1,g2,g3,g4⟩:=xe2 (wr:=wr) (tm:=c0.tmps) hm hH2 hS2 (hstill (fun o h=>h) hm) hst2 (fun t v ht hv=>⟨htm (fun e=>by cases e) t v ht hv,hlt0 t v hv⟩)
    exact ih _ E3 a2 w2 hi ⟨rs,hrs1,hrs2,g2,g3⟩ (fun k hk=>by rw [g1 k (by omega),hE2 k (by rw [xi3]; omega),hE1 k hk])
   ·cases he
   ·cases he
   ·-- out
    cases he
    cases hi
    obtain ⟨hex,hret⟩:=xxh hsame
    have hTs:∀ o∈T.still st,o∈st:=fun o ho=>(List.mem_filter.1 ho).1
    obtain ⟨E3,g1,g2,g3,g4⟩:=xe2 (wr:=wr) (tm:=tmOf y c0.tmps) hm hH2 hS2 (hstill hTs hm) (fun o ho=>⟨by have:=(hst2 o (hTs o ho)).1; omega,xaY (fun k hk=>by omega) (hst2 o (hTs o ho)).2⟩) (fun t v ht hv=>by
     cases y with
     | ret=>cases hv
     | normal=>exact ⟨htm (fun e=>by have:=hret.2 e; cases this) t v ht hv,xeM (by omega) _ (hlt0 t v hv)⟩
     | exit id=>exact ⟨htm (fun e=>by have:=hret.2 e; cases this) t v ht hv,xeM (by omega) _ (hlt0 t v hv)⟩)
    have hq:=xt2 hbrs hf E3 a2 w2 (fun k hk=>by rw [g1 k (by omega),hE2 k (by rw [xi3]; omega),hE1 k hk]) ⟨rs,hrs1,hrs2,g2,g3⟩ (by rw [xi3]; omega) (fun o ho hv=>by
     rcases g4 o ho with h1 | h1
     ·omega
     ·exact hst0 o (hTs o h1))
    have hq:Q y.toExit a2 w2:=hq
    rw [hex] at hq
    cases x with
    | normal=>exact absurd rfl hnx
    | exit id=>exact hq
    | ret=>exact hq
 obtain ⟨rs,hrs1,hrs2,hS0,hH0⟩:=hc0
 obtain ⟨E3,g1,g2,g3,g4⟩:=xe2 (wr:=wr) (tm:=c0.tmps) hm0 hH0 hS0 hst0 hst2 (fun t v ht hv=>⟨hv,hlt0 t v hv⟩)
 exact key n0 xs0 E3 a w hn0 ⟨rs,hrs1,hrs2,g2,g3⟩ (fun k hk=>g1 k (by omega))
theorem xAI (P:Program) (res wr:List Nat) (body:Cfg→Tree (xck×Cfg)) (c0:Cfg):xgP P res wr body c0=.bad∨∃ (S:Spec) (st:List Obj) (outs:List (Nat×xck×Spec)) (xs0:List U),
  S.match_ P st (c0.heap.next+1) c0=some xs0∧S.base=c0.heap.next∧xvM wr S=true∧xzJ wr outs=true∧(∀ o∈st,o∈c0.heap.objs) ∧
  xgP P res wr body c0=.need (xa5 (fun xs=>(number P S st (S.base+S.rows.length+1) outs (body (S.gen st wr c0.tmps xs)) 0).1.opt) xs0)
    (brs st wr c0.tmps (xa6 (fun xs=>(number P S st (S.base+S.rows.length+1) outs (body (S.gen st wr c0.tmps xs)) 0).1.opt) xs0) outs):=by
 unfold xgP
 simp only []
 generalize Spec.search P wr c0 body 4 ⟨(xi8 c0.tmps wr).filter (fun x=>!xws x.2),[],[],c0.heap.next,[]⟩=S
 generalize xxs S (S.still c0.heap.objs) (S.base+S.rows.length+1) res 0 (xkV (body (S.gen (S.still c0.heap.objs) wr c0.tmps [])))=outs
 have hst0:∀ o∈S.still c0.heap.objs,o∈c0.heap.objs:=fun o ho=>(List.mem_filter.1 ho).1
 generalize S.still c0.heap.objs=st at hst0
 split
 case h_2=>exact .inl rfl
 rename_i xs0 hm0
 split
 case isFalse=>exact .inl rfl
 rename_i hcond
 rw [Bool.and_eq_true,Bool.and_eq_true] at hcond
 exact .inr ⟨S,st,outs,xs0,hm0,Nat.eq_of_beq_eq_true hcond.1.1,hcond.1.2,hcond.2,hst0,rfl⟩
theorem xy6 {body:Cfg→Tree (xck×Cfg)} {res wr wrs:List Nat} {LW:List (Nat×Go.Obj)→Act→World→Prop} {Qx:List (Nat×Go.Obj)→Exit→Act→World→Prop}
  {c0:Cfg} {E0:Env}
  (hround:∀ (X1:List (Nat×Go.Obj)) (c:Cfg) (E:Env) (a:Act) (w:World),CfgOk X1 E w0 N c a w→(∀ k,k<c0.heap.next→E k=E0 k)→c0.heap.next≤c.heap.next→(∀ X2,(body c).holds (xlI X2 w0 E N c (Exit.then (LW X2) (Qx X2))))→LW X1 a w)
  (hwr:∀ c,(body c).all (Wr c wrs)) (hwrm:∀ t,t∉wr→t∉wrs) {a:Act} {w:World} (hc0:CfgOk X0 E0 w0 N c0 a w)
  (h:∀ X2,(xgP P res wr body c0).holds (xlI X2 w0 E0 N c0 (Qx X2))):LW X0 a w:=by
 rcases xAI P res wr body c0 with he | ⟨S,st,outs,xs0,hm0,hbase,hsin,hoin,hst0,he⟩
 ·have:=h X0
  rw [he] at this
  exact this.elim
 simp only [he] at h
 have hok:=(h X0).1
 have hbrs:=fun X2=>(h X2).2
 obtain ⟨n0,hn0⟩:=xmC hok
 generalize hr:xa6 (fun xs=>(number P S st (S.base+S.rows.length+1) outs (body (S.gen st wr c0.tmps xs)) 0).1.opt) xs0=r at hbrs hn0
 have hst2:∀ o∈st,o.key<S.base∧xbn (fun k=>k<S.base) o.body:=fun o ho=>by rw [hbase]; exact hc0.lt o (hst0 o ho)
 have hlt0:∀ t v,c0.tmps t=some v→AV.lt S.base v:=fun t v ht=>by rw [hbase]; exact (hc0.point ht).2
 have key:∀ (n:Nat) (xs:List U) (X1:List (Nat×Go.Obj)) (E1:Env) (a1:Act) (w1:World),xi2 (fun xs=>(number P S st (S.base+S.rows.length+1) outs (body (S.gen st wr c0.tmps xs)) 0).1.opt) n xs=some r →
   CfgOk X1 E1 w0 N (S.gen st wr c0.tmps xs) a1 w1→(∀ k,k<c0.heap.next→E1 k=E0 k)→LW X1 a1 w1:=by
  intro n
  induction n with
  | zero=>intro xs X1 E1 a1 w1 hi; cases hi
  | succ n ih =>
   intro xs X1 E1 a1 w1 hi hg hE1
   refine hround X1 _ E1 a1 w1 hg hE1 (by rw [xi3]; omega) fun X2=>?_
   unfold xi2 at hi
   split at hi
   case h_3=>cases hi
   all_goals
    rename_i hstep
    refine xfF (Ψ:=Wr (S.gen st wr c0.tmps xs) wrs) (fun x n' hx hw=>?_) _ _ hstep (hwr _)
    obtain ⟨x,c⟩:=x
    intro E2 a2 w2 hE2 hc2 hle hold
    have hstill:∀ {T:Spec} {us:List U} {st':List Obj},(∀ o∈st',o∈st)→T.match_ P st' (S.base+S.rows.length+1) c=some us→∀ o∈st',o∈c.heap.objs:=by
     intro T us st' hsub hm o ho
     obtain ⟨o',h1,h2,h3⟩:=xl6 (xrW hm) o ho
     have h4:=hold o' h1 h3
     rwa [hg.uniq o' h4 o (xxV o (hsub o ho)) h2] at h1
    have htm:x≠.ret→∀ t v,wr.any (Nat.beq t)=false→c0.tmps t=some v→c.tmps t=some v:=by
     intro hx t v ht hv
     have ht':t∉wr:=fun hm=>by rw [xkA.2 hm] at ht; cases ht
     rw [hw hx t (hwrm t ht'),xnh hsin ht',hv]
    have hle':S.base<c.heap.next:=Nat.lt_of_lt_of_le (by rw [xi3]; omega) hle
    obtain ⟨rs,hrs1,hrs2,hS2,hH2⟩:=hc2
    rcases xrQ hx with ⟨rfl,us,hm,he⟩ | ⟨hnx,m,y,T,us,hf,hsame,hTb,hm,he⟩
   ·-- the next round
    cases he
    obtain ⟨E3,g1,g2,g3,g4⟩:=xe2 (wr:=wr) (tm:=c0.tmps) hm hH2 hS2 (hstill (fun o h=>h) hm) hst2 (fun t v ht hv=>⟨htm (fun e=>by cases e) t v ht hv,hlt0 t v hv⟩)
    exact ih _ X2 E3 a2 w2 hi ⟨rs,hrs1,hrs2,g2,g3⟩ (fun k hk=>by rw [g1 k (by omega),hE2 k (by rw [xi3]; omega),hE1 k hk])
   ·cases he
   ·cases he
   ·-- out
    cases he
    cases hi
    obtain ⟨hex,hret⟩:=xxh hsame
    have hTs:∀ o∈T.still st,o∈st:=fun o ho=>(List.mem_filter.1 ho).1
    obtain ⟨E3,g1,g2,g3,g4⟩:=xe2 (wr:=wr) (tm:=tmOf y c0.tmps) hm hH2 hS2 (hstill hTs hm) (fun o ho=>⟨by have:=(hst2 o (hTs o ho)).1; omega,xaY (fun k hk=>by omega) (hst2 o (hTs o ho)).2⟩) (fun t v ht hv=>by
     cases y with
     | ret=>cases hv
     | normal=>exact ⟨htm (fun e=>by have:=hret.2 e; cases this) t v ht hv,xeM (by omega) _ (hlt0 t v hv)⟩
     | exit id=>exact ⟨htm (fun e=>by have:=hret.2 e; cases this) t v ht hv,xeM (by omega) _ (hlt0 t v hv)⟩)
    have hq:=xt2 (hbrs X2) hf E3 a2 w2 (fun k hk=>by rw [g1 k (by omega),hE2 k (by rw [xi3]; omega),hE1 k hk]) ⟨rs,hrs1,hrs2,g2,g3⟩ (by rw [xi3]; omega) (fun o ho hv=>by
     rcases g4 o ho with h1 | h1
     ·omega
     ·exact hst0 o (hTs o h1))
    have hq:Qx X2 y.toExit a2 w2:=hq
    rw [hex] at hq
    cases x with
    | normal=>exact absurd rfl hnx
    | exit id=>exact hq
    | ret=>exact hq
 obtain ⟨rs,hrs1,hrs2,hS0,hH0⟩:=hc0
 obtain ⟨E3,g1,g2,g3,g4⟩:=xe2 (wr:=wr) (tm:=c0.tmps) hm0 hH0 hS0 hst0 hst2 (fun t v ht hv=>⟨hv,hlt0 t v hv⟩)
 exact key n0 xs0 X0 E3 a w hn0 ⟨rs,hrs1,hrs2,g2,g3⟩ (fun k hk=>g1 k (by omega))
end
end Go.Sy
set_option linter.unusedVariables false
namespace Go.Sy
open Go.RowKit
section
variable {P:Program} {Γ:Con} {call:xhh} {yld:Nat→List AV→Heap→Tree (AV×Heap)} {X X0:List (Nat×Go.Obj)} {w0 w:World} {N:Nat} {D:List Deferred} {rnd:Option Nat} {E:Env} {H:Heap}
theorem xCK {w1:World} {l:Nat} {o:Go.Obj} {B:Nat} {wb:World} (h:Blw B wb w1) (hl:B≤l):Blw B wb (w1.putObj l o) :=
 ⟨⟨h.os,h.tape,h.output,by rw [World.putObj_size]; exact h.size,fun k hk=>by rw [World.putObj_heap_other (by omega)]; exact h.block k hk⟩,h.drawn⟩
theorem xkn (E:Env) {b:Body}:xbn (fun k=>E k=E k) b:=by
 cases b with
 | loop=>exact fun t v _=>(xeD v).2 fun _ _=>rfl
 | cells cs=>exact (xc3 _).2 fun _ _=>rfl
 | arr e sz els=>exact (xc3 _).2 fun _ _=>rfl
 | row=>trivial
 | nst=>trivial
 | sub=>trivial
 | mp=>trivial
 | mf=>trivial
 | mq=>trivial
 | fin=>trivial
 | nil=>trivial
theorem xae.put {l:Nat} {o:Go.Obj} (h:xae X E w0 H w) (hl:w0.heap.size≤l) (hX:∀ x∈X,x.1≠l) (hO:∀ o'∈H.objs,blkO (E o'.key)≠some l) (hI:∀ o'∈H.objs,¬ Inn E w o'.key o'.body l):xae X E w0 H (w.putObj l o):=by
 have hbl:∀ o'∈H.objs,∀ g,blkO (E o'.key)=some g→(w.putObj l o).heap[g]?=w.heap[g]?:=fun o' ho' g hg=>World.putObj_heap_other (fun e=>hO o' ho' (by rw [hg,e]))
 have hin:∀ o'∈H.objs,∀ g,Inn E (w.putObj l o) o'.key o'.body g→Inn E w o'.key o'.body g:=fun o' ho' g hg=>xgN (h.objs o' ho') rfl (hbl o' ho') hg
 exact ⟨xCK h.below hl,h.env,fun o' ho'=>(h.objs o' ho').keep rfl (xkn E) (hbl o' ho') (by simp) (fun g hg=>World.putObj_heap_other (fun e=>hI o' ho' (by rw [← e]; exact hg))),h.high,h.inj,h.uniq,h.lt,
  fun x hx=>⟨by rw [World.putObj_heap_other (hX x hx)]; exact (h.prot x hx).1,(h.prot x hx).2⟩,
  fun o1 ho1 b hb=>h.deep o1 ho1 b (hin o1 ho1 b hb),fun x hx o1 ho1 hb=>h.protD x hx o1 ho1 (hin o1 ho1 _ hb),
  fun o1 ho1 b hb=>h.fsh o1 ho1 b (hb.imp id fun h=>⟨h.1,hin o1 ho1 b h.2⟩)⟩
theorem xae.addX {l:Nat} {o:Go.Obj} (h:xae X E w0 H w) (hl:w.heap[l]?=some o) (hO:∀ o'∈H.objs,blkO (E o'.key)≠some l) (hI:∀ o'∈H.objs,¬ Inn E w o'.key o'.body l):xae ((l,o)::X) E w0 H w :=
 ⟨h.below,h.env,h.objs,h.high,h.inj,h.uniq,h.lt,fun x hx=>by
  rcases List.mem_cons.1 hx with rfl | hx
  ·exact ⟨hl,hO⟩
  ·exact h.prot x hx,h.deep,fun x hx=>by
  rcases List.mem_cons.1 hx with rfl | hx
  ·exact hI
  ·exact h.protD x hx,h.fsh⟩
theorem xae.dropX {y:Nat×Go.Obj} (h:xae (y::X) E w0 H w):xae X E w0 H w :=
 ⟨h.below,h.env,h.objs,h.high,h.inj,h.uniq,h.lt,fun x hx=>h.prot x (List.mem_cons_of_mem _ hx),h.deep,fun x hx=>h.protD x (List.mem_cons_of_mem _ hx),h.fsh⟩
theorem xae.dropXs {Y:List (Nat×Go.Obj)} (h:xae (Y++X) E w0 H w):xae X E w0 H w :=
 ⟨h.below,h.env,h.objs,h.high,h.inj,h.uniq,h.lt,fun x hx=>h.prot x (List.mem_append.2 (.inr hx)),h.deep,fun x hx=>h.protD x (List.mem_append.2 (.inr hx)),h.fsh⟩
theorem xae.putX {l:Nat} {o0 o:Go.Obj} (h:xae ((l,o0)::X) E w0 H w) (hl:w0.heap.size≤l) (hX:∀ x∈X,x.1≠l):xae ((l,o)::X) E w0 H (w.putObj l o):=by
 obtain ⟨p1,p2⟩:=h.prot (l,o0) (by simp)
 have p3:∀ o'∈H.objs,¬ Inn E w o'.key o'.body l:=h.protD (l,o0) (by simp)
 exact (h.dropX.put hl hX p2 p3).addX (World.putObj_heap_same (Array.getElem?_eq_some_iff.1 p1).1) p2 (fun o' ho' hi=>p3 o' ho' (xgN (h.objs o' ho') rfl (fun g hg=>World.putObj_heap_other (fun e=>p2 o' ho' (by rw [hg,e]))) hi))
theorem xae.hide {o:Obj} {l:Nat} {ob:Go.Obj} (h:xae X E w0 H w) (ho:o∈H.objs) (hown:o.own=true) (hb:blkO (E o.key)=some l) (hl:w.heap[l]?=some ob):xae ((l,ob)::X) E w0 (xwK o.key H) w∧w0.heap.size≤l∧∀ x∈X,x.1≠l:=by
 have hs:xae X E w0 (xwK o.key H) w:=h.sub (fun o' ho'=>(List.mem_filter.1 ho').1) (fun o' ho'=>h.lt o' (List.mem_filter.1 ho').1)
 refine ⟨hs.addX hl (fun o' ho'=>?_) (fun o' ho' hi=>h.deep o' (List.mem_filter.1 ho').1 l hi o ho hown hb),h.high o ho hown l hb,fun x hx e=>(h.prot x hx).2 o ho (by rw [e]; exact hb)⟩
 obtain ⟨h1,h2⟩:=List.mem_filter.1 ho'
 have hne:o.key≠o'.key:=fun e=>by rw [← e,xdh] at h2; cases h2
 exact h.inj o ho o' h1 hown hne l hb
theorem xae.show_ {l key ver:Nat} {ob:Go.Obj} {b:Body} (h:xae ((l,ob)::X) E w0 H w) (hl:w0.heap.size≤l) (hX:∀ x∈X,x.1≠l) (hE:E key=.pointer (some ⟨l,0,none⟩)) (hb:xbm E w key true b) (hk:key<H.next) (hall:xbn (fun k=>k<H.next) b)
  (hno:∀ o∈H.objs,o.key≠key) (hf:xq5 b=true:=by rfl):xae X E w0 ⟨⟨key,ver,true,b⟩::H.objs,H.next⟩ w:=by
 obtain ⟨p1,p2⟩:=h.prot (l,ob) (by simp)
 have p3:∀ o'∈H.objs,¬ Inn E w o'.key o'.body l:=h.protD (l,ob) (by simp)
 have hbl:∀ {g},blkO (E key)=some g→g=l:=fun {g} hg=>by rw [hE] at hg; cases hg; rfl
 refine ⟨h.below,h.env,?_,?_,?_,?_,?_,?_,?_,?_,?_⟩
 ·intro o ho
  rcases List.mem_cons.1 ho with rfl | ho
  ·exact hb
  ·exact h.objs o ho
 ·intro o ho hown g hg
  rcases List.mem_cons.1 ho with rfl | ho
  ·rw [hbl hg]; exact hl
  ·exact h.high o ho hown g hg
 ·intro o ho o' ho' hown hne g hg hg'
  rcases List.mem_cons.1 ho with rfl | ho<;>rcases List.mem_cons.1 ho' with rfl | ho'
  ·exact hne rfl
  ·exact p2 o' ho' (by rw [hg',hbl hg])
  ·exact p2 o ho (by rw [hg,hbl hg'])
  ·exact h.inj o ho o' ho' hown hne g hg hg'
 ·intro o ho o' ho' hk
  rcases List.mem_cons.1 ho with rfl | ho<;>rcases List.mem_cons.1 ho' with rfl | ho'
  ·rfl
  ·exact absurd hk.symm (hno o' ho')
  ·exact absurd hk (hno o ho)
  ·exact h.uniq o ho o' ho' hk
 ·intro o ho
  rcases List.mem_cons.1 ho with rfl | ho
  ·exact ⟨hk,hall⟩
  ·exact h.lt o ho
 ·intro x hx
  refine ⟨(h.prot x (List.mem_cons_of_mem _ hx)).1,fun o ho=>?_⟩
  rcases List.mem_cons.1 ho with rfl | ho
  ·intro e; exact hX x hx (hbl e)
  ·exact (h.prot x (List.mem_cons_of_mem _ hx)).2 o ho
 ·intro o ho g hg o' ho' hown hb'
  rcases List.mem_cons.1 ho with rfl | ho
  ·exact xcC hf hg
  ·rcases List.mem_cons.1 ho' with rfl | ho'
   ·rw [hbl hb'] at hg; exact p3 o ho hg
   ·exact h.deep o ho g hg o' ho' hown hb'
 ·intro x hx o ho hg
  rcases List.mem_cons.1 ho with rfl | ho
  ·exact xcC hf hg
  ·exact h.protD x (List.mem_cons_of_mem _ hx) o ho hg
 ·intro o ho g hg
  rcases List.mem_cons.1 ho with rfl | ho
  ·exact xmK hf hg
  ·exact h.fsh o ho g hg
theorem xae.alloc (h:xae X E w0 H w) (o:Go.Obj):xae X E w0 H (w.alloc o):=by
 have old:∀ k,k<w.heap.size→(w.alloc o).heap[k]?=w.heap[k]?:=fun k hk=>(xbo w o).block k hk
 have hin:∀ o'∈H.objs,∀ g,Inn E (w.alloc o) o'.key o'.body g→Inn E w o'.key o'.body g:=fun o' ho' g hg=>xgN (h.objs o' ho') rfl (fun g hg=>old g (xiX (h.objs o' ho') hg)) hg
 refine ⟨h.below.alloc h.below.size _,h.env,fun o' ho'=>(h.objs o' ho').keep rfl (xkn E) (fun g hg=>old g (xiX (h.objs o' ho') hg)) (xbo w o).size (fun g hg=>old g (xkZ (h.objs o' ho') hg)),h.high,h.inj,h.uniq,h.lt,fun x hx=>⟨?_,(h.prot x hx).2⟩,
  fun o1 ho1 b hb=>h.deep o1 ho1 b (hin o1 ho1 b hb),fun x hx o1 ho1 hb=>h.protD x hx o1 ho1 (hin o1 ho1 _ hb),fun o1 ho1 b hb=>h.fsh o1 ho1 b (hb.imp id fun h=>⟨h.1,hin o1 ho1 b h.2⟩)⟩
 rw [old x.1 (Array.getElem?_eq_some_iff.1 (h.prot x hx).1).1]
 exact (h.prot x hx).1
theorem xae.envUp {E2:Env} (h:xae X E w0 H w) (hE:∀ k,k<H.next→E2 k=E k) (henv:∀ k,(E2 k).oneCell'=true):xae X E2 w0 H w :=
 ⟨h.below,henv,fun o ho=>(h.objs o ho).keep (hE _ (h.lt o ho).1) (xaY (fun k hk=>hE k hk) (h.lt o ho).2) (fun _ _=>rfl) (Nat.le_refl _) (fun _ _=>rfl),
  fun o ho hown b hb=>h.high o ho hown b (by rw [← hE _ (h.lt o ho).1]; exact hb),
  fun o ho o' ho' hown hne b hb=>by rw [hE _ (h.lt o ho).1] at hb; rw [hE _ (h.lt o' ho').1]; exact h.inj o ho o' ho' hown hne b hb,
  h.uniq,h.lt,fun x hx=>⟨(h.prot x hx).1,fun o ho=>by rw [hE _ (h.lt o ho).1]; exact (h.prot x hx).2 o ho⟩,
  fun o ho b hb o' ho' hown=>by rw [hE _ (h.lt o' ho').1]; exact h.deep o ho b (xht (hE _ (h.lt o ho).1) hb) o' ho' hown,
  fun x hx o ho hb=>h.protD x hx o ho (xht (hE _ (h.lt o ho).1) hb),
  fun o ho b hb=>h.fsh o ho b (hb.imp (fun h1=>⟨h1.1,by rw [← hE _ (h.lt o ho).1]; exact h1.2⟩) fun h1=>⟨h1.1,xht (hE _ (h.lt o ho).1) h1.2⟩)⟩
theorem xxU {k:Nat} {l:List Obj} (h:xhl k l=false):∀ o∈l,o.key≠k:=fun o ho e=>by
 have:xhl k l=true:=xji.2 ⟨o,ho,e⟩
 rw [h] at this
 cases this
theorem xu7 {a:Act} {g:Operand} {l:Nat} {gi:FuncId} {first caps:List AV} {E E2:Env} {key:Nat} {w1:World} (hg:a.eval g=(AV.fn (.func gi) first caps).den E) (hcap:(AV.fn (.func gi) first caps).den E2=(AV.fn (.func gi) first caps).den E) (hE:E2 key=.pointer (some ⟨l,0,none⟩)) (hfun:xci P gi) :
  ∃ d,(resolve a.eval (rangeCall g l) 0).run P w1=.ok d w1∧(invoke d.target d.args).run P w1=.ok (.enter gi (AV.denL E2 (first++[.yl key]++caps)).toArray) w1:=by
 obtain ⟨fn,h1,h2,h3⟩:=hfun
 have h4:fn.body.isNone=false:=by cases hb:fn.body with
  | none=>rw [hb] at h3; cases h3
  | some _=>rfl
 have h5:(fn.name == "runtime.NumGoroutine")=false:=by simpa using h2
 rw [← hcap] at hg
 refine ⟨{ target:=.fn (.func gi) (AV.denL E2 caps).toArray,args:=(AV.denL E2 first).toArray++#[.func (.yield l) #[] #[]] },?_,?_⟩
 ·show Sem.run P (Deferred.ofValue (a.eval g) (#[Operand.const (.func (.yield l) #[] #[])].map a.eval)) w1=_
  rw [hg]
  simp [AV.den,Deferred.ofValue,Act.eval]
 ·simp only [invoke,callFunc,Sem.run_bind,run_program,Result.andThen_ok,h1,h4,h5,Bool.false_eq_true,if_false,Sem.run_pure]
  congr 2
  simp [xaJ,AV.den,hE,blk]
theorem xqw {k st:Nat} {pend:Option Code} (h:xyV (xap k H.objs)=some (st,pend)) (hH:xae X E w0 H w):∃ o,(o∈H.objs∧o.key=k∧o.own=true)∧∃ l r,E k=.pointer (some ⟨l,0,none⟩)∧w.heap[l]?=some (.loop r)∧r.state=stOf st∧r.pending=pend:=by
 unfold xyV at h
 split at h
 ·rename_i hf
  cases h
  obtain ⟨hm,hk⟩:=xan hf
  refine ⟨_,⟨hm,hk,rfl⟩,?_⟩
  obtain ⟨l,fn,tmps,dfr,h1,h2,_⟩:=hH.objs _ hm
  rw [hk] at h1
  exact ⟨l,_,h1,h2,rfl,rfl⟩
 ·rename_i hf
  cases h
  obtain ⟨hm,hk⟩:=xan hf
  refine ⟨_,⟨hm,hk,rfl⟩,?_⟩
  obtain ⟨l,r,h1,h2⟩:=hH.objs _ hm
  rw [hk] at h1
  exact ⟨l,r,h1,h2⟩
 ·cases h
theorem xrG (hcall:xiD P call) (hk:xeV P call) {res:List Nat} {rb:Bool} {f:Operand} {params:Array Tmp} {assign body:Code} {c:Cfg} {a:Act} {Q:Exit→Act→World→Prop} (hc:CfgOk X0 E w0 N c a w)
  (h:(xa2 P Γ call yld rb res N (.rangeFunc f params assign body) c).holds (xlI X0 w0 E N c Q)):(Code.rangeFunc f params assign body).wpIn (FR none) 0 P Q a w:=by
 unfold xa2 at h
 split at h
 case h_2=>exact h.elim
 rename_i gi first caps hf
 obtain ⟨hev,hfl⟩:=hc.readS hf
 have hne:call gi (first++[.yl c.heap.next]++caps) ⟨⟨c.heap.next,c.heap.next,true,.loop 0 none N c.tmps params assign body⟩::c.heap.objs,c.heap.next+1⟩≠.bad:=fun e=>by rw [e] at h; exact h
 have hfun:=hk _ _ _ hne
 obtain ⟨rs,hrs1,hrs2,hS,hH⟩:=hc
 refine wpIn_rangeFunc fun fn _=>?_
 let l:=w.heap.size+1
 let rec_:Loop:={ state:=.ready,pending:=none,fn:=fn,tmps:=a.tmps,params:=params,assign:=assign,body:=body,defers:=w.heap.size }
 let w1:=(w.alloc (.deferred (some []))).alloc (.loop rec_)
 let E2:Env:=upd E c.heap.next (.pointer (some ⟨l,0,none⟩))
 have hE2:∀ k,k<c.heap.next→E2 k=E k:=fun k hk=>xfb _ _ (by omega)
 have hE2n:E2 c.heap.next=.pointer (some ⟨l,0,none⟩):=xeA _ _ _
 have hcap:(AV.fn (.func gi) first caps).den E2=(AV.fn (.func gi) first caps).den E:=xg9 hE2 _ hfl
 obtain ⟨d,hres,hinv⟩:=xu7 (w1:=w1) hev hcap hE2n hfun
 refine ⟨l,[mark w.heap.size],w1,d,w1,gi,_,w1,run_enterLoop_outer _ _ _ _ _,hres,fun _ _=>trivial,hinv,fun h=>(by cases h),?_⟩
 have hsz1:(w.alloc (.deferred (some []))).heap.size=w.heap.size+1:=World.size_alloc _ _
 have hdef1:(w.alloc (.deferred (some []))).heap[w.heap.size]?=some (.deferred (some [])):=xbb _ _
 have hl1:w1.heap[l]?=some (.loop rec_):=by
  have:=xbb (w.alloc (.deferred (some []))) (.loop rec_)
  rw [hsz1] at this
  exact this
 have hdef:w1.heap[w.heap.size]?=some (.deferred (some [])):=by
  rw [(xbo (w.alloc (.deferred (some []))) (.loop rec_)).block w.heap.size (by rw [hsz1]; omega)]
  exact hdef1
 have hbl:∀ o∈c.heap.objs,∀ b,blkO (E o.key)=some b→b<w.heap.size:=fun o ho b hb=>xiX (hH.objs o ho) hb
 have hXl:∀ x∈xml rs X0,x.1<w.heap.size:=fun x hx=>(Array.getElem?_eq_some_iff.1 (hH.prot x hx).1).1
 have hw0:w0.heap.size≤w.heap.size:=hH.below.size
 have hH1:xae (xml (w.heap.size::rs) X0) E2 w0 ⟨⟨c.heap.next,c.heap.next,true,.loop 0 none N c.tmps params assign body⟩::c.heap.objs,c.heap.next+1⟩ w1:=by
  have h1:xae (xml rs X0) E w0 c.heap w1:=(hH.alloc _).alloc _
  have hin1:∀ o∈c.heap.objs,∀ g,Inn E w1 o.key o.body g→g<w.heap.size:=fun o ho g hg=>xkZ (hH.objs o ho) (xgN (w:=w) (hH.objs o ho) rfl (fun g hg=>by
   have:=hbl o ho g hg
   exact ((xbo (w.alloc _) _).block g (Nat.lt_of_lt_of_le this (xbo w _).size)).trans ((xbo w _).block g this)) hg)
  have h2:xae (xml (w.heap.size::rs) X0) E w0 c.heap w1:=h1.addX hdef (fun o ho e=>by have:=hbl o ho _ e; omega) (fun o ho hi=>by have:=hin1 o ho _ hi; omega)
  have h3:xae ((l,.loop rec_)::xml (w.heap.size::rs) X0) E w0 c.heap w1:=h2.addX hl1 (fun o ho e=>by have:=hbl o ho _ e; omega) (fun o ho hi=>by have:=hin1 o ho _ hi; omega)
  have h4:xae ((l,.loop rec_)::xml (w.heap.size::rs) X0) E2 w0 c.heap w1:=h3.envUp hE2 (fun k=>by
   by_cases hk:k=c.heap.next
   ·rw [hk,hE2n]; rfl
   ·show (upd E _ _ k).oneCell'=true
    rw [xfb _ _ hk]; exact hH.env k)
  have h5:xae ((l,.loop rec_)::xml (w.heap.size::rs) X0) E2 w0 ⟨c.heap.objs,c.heap.next+1⟩ w1:=h4.sub (fun o ho=>ho) (fun o ho=>⟨by have:=(h4.lt o ho).1; omega,xaY (fun k hk=>by omega) (h4.lt o ho).2⟩)
  refine h5.show_ (show w0.heap.size≤w.heap.size+1 by omega) (fun x hx=>?_) hE2n ?_ (Nat.lt_succ_self _) ?_ (fun o ho e=>by have:=(hH.lt o ho).1; omega)
  ·rcases List.mem_cons.1 hx with rfl | hx
   ·show w.heap.size≠w.heap.size+1; omega
   ·have:=hXl x hx
    show x.1≠w.heap.size+1; omega
  ·refine ⟨l,fn,a.tmps,w.heap.size,hE2n,hl1,hS.size,fun t v ht=>?_⟩
   have hpt:=hS.ok t
   have e:xao c.tmps t=.is v:=by simp [xao,ht]
   rw [e] at hpt
   rw [xg9 hE2 v hpt.2]; exact hpt.1
  ·intro t v ht
   have hpt:=hS.ok t
   have e:xao c.tmps t=.is v:=by simp [xao,ht]
   rw [e] at hpt
   exact xeM (Nat.le_succ _) v hpt.2
 have hargs:AV.ltL (c.heap.next+1) (first++[.yl c.heap.next]++caps):=by
  rw [xdM]
  intro v hv
  simp only [List.mem_append,List.mem_singleton] at hv
  rcases hv with (hv | rfl) | hv
  ·exact xeM (Nat.le_succ _) v ((xdM _ _).1 hfl.1 v hv)
  ·exact Nat.lt_succ_self _
  ·exact xeM (Nat.le_succ _) v ((xdM _ _).1 hfl.2 v hv)
 refine xjq.2 (hcall _ w0 gi _ _ E2 w1 _ hH1 hargs (xaV (fun x hx=>?_) (xbv h)))
 obtain ⟨v,H2⟩:=x
 intro E3 w3 hE3 hH3 hv3 hle3 hold3
 simp only [] at hx
 split at hx
 case h_2=>exact hx.elim
 rename_i st' pend' hend
 obtain ⟨o1,hfind,l1,r1,q1,q2,hst1,hpd1⟩:=xqw hend hH3
 split at hx
 ·exact hx.elim
 ·rename_i hst
  split at hx
  case h_2=>exact hx.elim
  rename_i x hpend
  obtain ⟨hm,hkey,how⟩:=hfind
  have hE3l:E3 c.heap.next=.pointer (some ⟨l,0,none⟩):=by rw [hE3 _ (Nat.lt_succ_self _)]; exact hE2n
  rw [hE3l] at q1
  cases q1
  subst hpd1
  have hbusy:stOf st'≠.busy:=fun e=>by
   match st',hst,e with
   | 0,_,e=>cases e
   | 1,h,_=>exact h rfl
   | 2,_,e=>cases e
   | n+3,_,e=>cases e
  refine ⟨r1.pending,_,run_endLoop q2 (by rw [hst1]; exact hbusy),?_⟩
  obtain ⟨g1,g2,g3⟩:=hH3.hide hm how (l:=l) (by rw [hkey,hE3l]; rfl) q2
  have hH4:=(g1.putX (o:=.loop { r1 with state:=.exhausted }) g2 g3).dropX
  rw [hkey] at hH4
  have hcfg:CfgOk X0 E3 w0 N ⟨c.tmps,⟨H2.objs.filter fun o=>!(Nat.beq o.key c.heap.next),H2.next⟩⟩ { a with defers:=[mark w.heap.size]++a.defers } (w3.putObj l (.loop { r1 with state:=.exhausted })):=by
   refine ⟨w.heap.size::rs,fun r hr=>?_,?_,⟨?_,hS.size,?_⟩,hH4⟩
   ·rcases List.mem_cons.1 hr with rfl | hr
    ·refine ⟨hw0,fun x hx e=>?_⟩
     have:=hXl x (List.mem_append.2 (.inr hx))
     omega
    ·exact hrs1 r hr
   ·refine List.nodup_cons.2 ⟨fun hm=>?_,hrs2⟩
    have:=hXl (w.heap.size,.deferred (some [])) (List.mem_append.2 (.inl (List.mem_map.2 ⟨_,hm,rfl⟩)))
    simp at this
   ·show mark w.heap.size::a.defers=mark w.heap.size::rs.map mark
    rw [hS.defers]
   ·have h6:xaX E3 H2.next N (rs.map mark) (xao c.tmps) a:=hS.env (fun k hk=>by rw [hE3 k (Nat.lt_succ_of_lt hk),hE2 k hk]) (Nat.le_trans (Nat.le_succ _) hle3)
    exact h6.ok
  have hq:=hx E3 { a with defers:=[mark w.heap.size]++a.defers } _ (fun k hk=>by rw [hE3 k (Nat.lt_succ_of_lt hk),hE2 k hk]) hcfg (Nat.le_trans (Nat.le_succ _) hle3) (fun o ho hv=>by
   have h1:=hold3 o (List.mem_filter.1 ho).1 (Nat.lt_succ_of_lt hv)
   rcases List.mem_cons.1 h1 with rfl | h1
   ·exact absurd hv (Nat.lt_irrefl _)
   ·exact h1)
  generalize r1.pending=pd at hpend hq ⊢
  cases pd with
  | none =>
   cases hpend
   exact hq
  | some cd =>
   cases cd with
   | exit id=>cases hpend; exact wpIn_exit hq
   | ret=>cases hpend; exact wpIn_ret hq
   | _=>cases hpend
theorem xtI {l₀:Nat} {r₀:Loop} (h:w.heap[l₀]?=some (.loop r₀)) (fn:FuncId) (tmps:Array Value) (ps:Array Tmp) (assign body:Code) :
  (Instr.enterLoop fn tmps ps assign body (some l₀)).run P w=.ok (w.heap.size,[]) (w.alloc (.loop { state:=.ready,pending:=none,fn,tmps,params:=ps,assign,body,defers:=r₀.defers })):=by
 unfold Instr.enterLoop
 simp only [Sem.run_bind,run_getLoop h,run_newObj_alloc,Result.andThen,Sem.run_pure]
theorem xmj {l0:Nat} {r0:Loop} (hl0:(l0,Go.Obj.loop r0)∈X0) (hcall:xiD P call) (hk:xeV P call) {res:List Nat} {rb:Bool} {f:Operand} {params:Array Tmp} {assign body:Code} {c:Cfg} {a:Act} {Q:Exit→Act→World→Prop} (hc:CfgOk X0 E w0 N c a w)
  (h:(xa2 P Γ call yld rb res N (.rangeFunc f params assign body) c).holds (xlI X0 w0 E N c Q)):(Code.rangeFunc f params assign body).wpIn (FR (some l0)) 0 P Q a w:=by
 unfold xa2 at h
 split at h
 case h_2=>exact h.elim
 rename_i gi first caps hf
 obtain ⟨hev,hfl⟩:=hc.readS hf
 have hne:call gi (first++[.yl c.heap.next]++caps) ⟨⟨c.heap.next,c.heap.next,true,.loop 0 none N c.tmps params assign body⟩::c.heap.objs,c.heap.next+1⟩≠.bad:=fun e=>by rw [e] at h; exact h
 have hfun:=hk _ _ _ hne
 obtain ⟨rs,hrs1,hrs2,hS,hH⟩:=hc
 have hrec:w.heap[l0]?=some (.loop r0):=(hH.prot (l0,.loop r0) (List.mem_append.2 (.inr hl0))).1
 refine wpIn_rangeFunc fun fn _=>?_
 let l:=w.heap.size
 let rec_:Loop:={ state:=.ready,pending:=none,fn:=fn,tmps:=a.tmps,params:=params,assign:=assign,body:=body,defers:=r0.defers }
 let w1:=w.alloc (.loop rec_)
 let E2:Env:=upd E c.heap.next (.pointer (some ⟨l,0,none⟩))
 have hE2:∀ k,k<c.heap.next→E2 k=E k:=fun k hk=>xfb _ _ (by omega)
 have hE2n:E2 c.heap.next=.pointer (some ⟨l,0,none⟩):=xeA _ _ _
 have hcap:(AV.fn (.func gi) first caps).den E2=(AV.fn (.func gi) first caps).den E:=xg9 hE2 _ hfl
 obtain ⟨d,hres,hinv⟩:=xu7 (w1:=w1) hev hcap hE2n hfun
 refine ⟨l,[],w1,d,w1,gi,_,w1,xtI hrec _ _ _ _ _,hres,fun _ _=>trivial,hinv,fun h=>(by cases h),?_⟩
 have hl1:w1.heap[l]?=some (.loop rec_):=xbb _ _
 have hbl:∀ o∈c.heap.objs,∀ b,blkO (E o.key)=some b→b<w.heap.size:=fun o ho b hb=>xiX (hH.objs o ho) hb
 have hXl:∀ x∈xml rs X0,x.1<w.heap.size:=fun x hx=>(Array.getElem?_eq_some_iff.1 (hH.prot x hx).1).1
 have hw0:w0.heap.size≤w.heap.size:=hH.below.size
 have hH1:xae (xml rs X0) E2 w0 ⟨⟨c.heap.next,c.heap.next,true,.loop 0 none N c.tmps params assign body⟩::c.heap.objs,c.heap.next+1⟩ w1:=by
  have h1:xae (xml rs X0) E w0 c.heap w1:=hH.alloc _
  have hin1:∀ o∈c.heap.objs,∀ g,Inn E w1 o.key o.body g→g<w.heap.size:=fun o ho g hg=>xkZ (hH.objs o ho) (xgN (w:=w) (hH.objs o ho) rfl (fun g hg=>(xbo w _).block g (hbl o ho g hg)) hg)
  have h3:xae ((l,.loop rec_)::xml rs X0) E w0 c.heap w1:=h1.addX hl1 (fun o ho e=>Nat.lt_irrefl _ (hbl o ho _ e)) (fun o ho hi=>Nat.lt_irrefl _ (hin1 o ho _ hi))
  have h4:xae ((l,.loop rec_)::xml rs X0) E2 w0 c.heap w1:=h3.envUp hE2 (fun k=>by
   by_cases hk:k=c.heap.next
   ·rw [hk,hE2n]; rfl
   ·show (upd E _ _ k).oneCell'=true
    rw [xfb _ _ hk]; exact hH.env k)
  have h5:xae ((l,.loop rec_)::xml rs X0) E2 w0 ⟨c.heap.objs,c.heap.next+1⟩ w1:=h4.sub (fun o ho=>ho) (fun o ho=>⟨by have:=(h4.lt o ho).1; omega,xaY (fun k hk=>by omega) (h4.lt o ho).2⟩)
  refine h5.show_ hw0 (fun x hx=>Nat.ne_of_lt (hXl x hx)) hE2n ?_ (Nat.lt_succ_self _) ?_ (fun o ho e=>by have:=(hH.lt o ho).1; omega)
  ·refine ⟨l,fn,a.tmps,r0.defers,hE2n,hl1,hS.size,fun t v ht=>?_⟩
   have hpt:=hS.ok t
   have e:xao c.tmps t=.is v:=by simp [xao,ht]
   rw [e] at hpt
   rw [xg9 hE2 v hpt.2]; exact hpt.1
  ·intro t v ht
   have hpt:=hS.ok t
   have e:xao c.tmps t=.is v:=by simp [xao,ht]
   rw [e] at hpt
   exact xeM (Nat.le_succ _) v hpt.2
 have hargs:AV.ltL (c.heap.next+1) (first++[.yl c.heap.next]++caps):=by
  rw [xdM]
  intro v hv
  simp only [List.mem_append,List.mem_singleton] at hv
  rcases hv with (hv | rfl) | hv
  ·exact xeM (Nat.le_succ _) v ((xdM _ _).1 hfl.1 v hv)
  ·exact Nat.lt_succ_self _
  ·exact xeM (Nat.le_succ _) v ((xdM _ _).1 hfl.2 v hv)
 refine xjq.2 (hcall _ w0 gi _ _ E2 w1 _ hH1 hargs (xaV (fun x hx=>?_) (xbv h)))
 obtain ⟨v,H2⟩:=x
 intro E3 w3 hE3 hH3 hv3 hle3 hold3
 simp only [] at hx
 split at hx
 case h_2=>exact hx.elim
 rename_i st' pend' hend
 obtain ⟨o1,hfind,l1,r1,q1,q2,hst1,hpd1⟩:=xqw hend hH3
 split at hx
 ·exact hx.elim
 ·rename_i hst
  split at hx
  case h_2=>exact hx.elim
  rename_i x hpend
  obtain ⟨hm,hkey,how⟩:=hfind
  have hE3l:E3 c.heap.next=.pointer (some ⟨l,0,none⟩):=by rw [hE3 _ (Nat.lt_succ_self _)]; exact hE2n
  rw [hE3l] at q1
  cases q1
  subst hpd1
  have hbusy:stOf st'≠.busy:=fun e=>by
   match st',hst,e with
   | 0,_,e=>cases e
   | 1,h,_=>exact h rfl
   | 2,_,e=>cases e
   | n+3,_,e=>cases e
  refine ⟨r1.pending,_,run_endLoop q2 (by rw [hst1]; exact hbusy),?_⟩
  obtain ⟨g1,g2,g3⟩:=hH3.hide hm how (l:=l) (by rw [hkey,hE3l]; rfl) q2
  have hH4:=(g1.putX (o:=.loop { r1 with state:=.exhausted }) g2 g3).dropX
  rw [hkey] at hH4
  have hcfg:CfgOk X0 E3 w0 N ⟨c.tmps,⟨H2.objs.filter fun o=>!(Nat.beq o.key c.heap.next),H2.next⟩⟩ { a with defers:=[]++a.defers } (w3.putObj l (.loop { r1 with state:=.exhausted })):=by
   refine ⟨rs,hrs1,hrs2,⟨hS.defers,hS.size,?_⟩,hH4⟩
   ·have h6:xaX E3 H2.next N (rs.map mark) (xao c.tmps) a:=hS.env (fun k hk=>by rw [hE3 k (Nat.lt_succ_of_lt hk),hE2 k hk]) (Nat.le_trans (Nat.le_succ _) hle3)
    exact h6.ok
  have hq:=hx E3 { a with defers:=[]++a.defers } _ (fun k hk=>by rw [hE3 k (Nat.lt_succ_of_lt hk),hE2 k hk]) hcfg (Nat.le_trans (Nat.le_succ _) hle3) (fun o ho hv=>by
   have h1:=hold3 o (List.mem_filter.1 ho).1 (Nat.lt_succ_of_lt hv)
   rcases List.mem_cons.1 h1 with rfl | h1
   ·exact absurd hv (Nat.lt_irrefl _)
   ·exact h1)
  generalize r1.pending=pd at hpend hq ⊢
  cases pd with
  | none =>
   cases hpend
   exact hq
  | some cd =>
   cases cd with
   | exit id=>cases hpend; exact wpIn_exit hq
   | ret=>cases hpend; exact wpIn_ret hq
   | _=>cases hpend
theorem xqT (hrb:∀ l,rnd=some l→∃ r,(l,Go.Obj.loop r)∈X0) (hcall:xiD P call) (hk:xeV P call) {res:List Nat} {rb:Bool} {f:Operand} {params:Array Tmp} {assign body:Code} {c:Cfg} {a:Act} {Q:Exit→Act→World→Prop} (hc:CfgOk X0 E w0 N c a w)
  (h:(xa2 P Γ call yld rb res N (.rangeFunc f params assign body) c).holds (xlI X0 w0 E N c Q)):(Code.rangeFunc f params assign body).wpIn (FR rnd) 0 P Q a w:=by
 cases rnd with
 | none=>exact xrG hcall hk hc h
 | some l0=>obtain ⟨r0,h0⟩:=hrb l0 rfl; exact xmj h0 hcall hk hc h
theorem xAV {key sz:Nat} {hi:Int} {H':Heap} {p:Prop} (h:xae X E w0 H w) (hx:cutK key sz hi H=some (p,H')) (hp:p):xae X (upd E H.next ((AV.vw key sz none hi).den E)) w0 H' w∧H'.next=H.next+1 ∧
  (∀ o∈H'.objs,o.ver<H.next→o∈H.objs):=by
 unfold cutK at hx
 split at hx
 case h_2=>cases hx
 rename_i k' ver e ks l hf
 split at hx
 case isFalse=>cases hx
 rename_i hsz
 have hsz:=Nat.eq_of_beq_eq_true hsz
 subst hsz
 simp only [Option.some.injEq,Prod.mk.injEq] at hx
 obtain ⟨rfl,rfl⟩:=hx
 obtain ⟨hlo,hhi⟩:=hp
 obtain ⟨hm,hk⟩:=xan hf
 simp only [] at hk
 subst hk
 have hb:xa8 w true e ks.length (E k') l.length (rowV ks l):=h.objs _ hm
 have hE:∀ k,k<H.next→upd E H.next ((AV.vw k' ks.length none hi).den E) k=E k:=fun k hk=>xfb _ _ (by omega)
 have hEn:upd E H.next ((AV.vw k' ks.length none hi).den E) H.next=(AV.vw k' ks.length none hi).den E:=xeA _ _ _
 have hn:hi.toNat≤l.length:=by omega
 have hlen:(l.take hi.toNat).length=hi.toNat:=by rw [List.length_take]; omega
 have hv:(∃ a,E k'=.slice a 0 0∧l.length=0∧(AV.vw k' ks.length none hi).den E=.slice a 0 0)∨∃ g cap cur,E k'=.slice (some ⟨g,0,none⟩) l.length cap∧w.heap[g]?=some (.cells cur e (0,0))∧l.length≤cap∧cap≤maxLen∧cur.size=cap*ks.length∧cur.toList.take (l.length*ks.length)=rowV ks l ∧
   (AV.vw k' ks.length none hi).den E=.slice (some ⟨g,0,none⟩) hi.toNat cap:=by
  rcases hb.own rfl with ⟨a,h1,h2⟩ | ⟨g,cap,cur,h1,h2,h3,h4,h5,h6⟩
  ·refine .inl ⟨a,h1,h2,?_⟩
   have:hi.toNat=0:=by omega
   simp [AV.den,h1,xfE,sliced,loN,this]
  ·refine .inr ⟨g,cap,cur,h1,h2,h3,h4,h5,h6,?_⟩
   have e5:((⟨g,0,none⟩:Addr).add 0)=⟨g,0,none⟩:=rfl
   simp [AV.den,h1,xfE,sliced,loN,e5]
 have hblk:∀ g,blkO ((AV.vw k' ks.length none hi).den E)=some g→blkO (E k')=some g:=by
  intro g hg
  rcases hv with ⟨a,h1,_,h3⟩ | ⟨g',cap,cur,h1,_,_,_,_,_,h3⟩
  ·rw [h3] at hg; rw [h1]; exact hg
  ·rw [h3] at hg; rw [h1]; exact hg
 have hs:xae X E w0 ⟨H.objs.filter (fun o=>!(Nat.beq o.key k')),H.next⟩ w:=h.sub (fun o ho=>(List.mem_filter.1 ho).1) (fun o ho=>h.lt o (List.mem_filter.1 ho).1)
 have hne:∀ o∈H.objs.filter (fun o=>!(Nat.beq o.key k')),o∈H.objs∧o.key≠k':=by
  intro o ho
  obtain ⟨h1,h2⟩:=List.mem_filter.1 ho
  exact ⟨h1,fun e=>by rw [e,xdh] at h2; cases h2⟩
 have hs2:=hs.envUp (E2:=upd E H.next ((AV.vw k' ks.length none hi).den E)) hE (fun k=>by
  by_cases hk:k=H.next
  ·rw [hk,hEn]
   rcases hv with ⟨a,_,_,h3⟩ | ⟨g',cap,cur,_,_,_,_,_,_,h3⟩<;>rw [h3]<;>rfl
  ·rw [xfb _ _ hk]; exact h.env k)
 have hrow:xa8 w true e ks.length ((AV.vw k' ks.length none hi).den E) (l.take hi.toNat).length (rowV ks (l.take hi.toNat)):=by
  refine xd6 ?_ (xbu _ _)
  rcases hv with ⟨a,h1,h2,h3⟩ | ⟨g,cap,cur,h1,h2,h3,h4,h5,h6,h7⟩
  ·exact .inl ⟨a,h3,by rw [hlen]; omega⟩
  ·refine .inr ⟨g,cap,cur,by rw [h7,hlen],h2,by rw [hlen]; omega,h4,h5,?_⟩
   rw [hlen,xrD,← h6,List.take_take,Nat.min_eq_left (Nat.mul_le_mul_right _ hn)]
 refine ⟨⟨h.below,hs2.env,?_,?_,?_,?_,?_,?_,?_,?_,?_⟩,rfl,?_⟩
 ·intro o ho
  rcases List.mem_cons.1 ho with rfl | ho
  ·show xa8 w true e ks.length (upd E H.next _ H.next) _ _
   rw [hEn]; exact hrow
  ·exact hs2.objs o ho
 ·intro o ho hown b hb'
  rcases List.mem_cons.1 ho with rfl | ho
  ·simp only [hEn] at hb'
   exact h.high _ hm rfl b (hblk b hb')
  ·exact hs2.high o ho hown b hb'
 ·intro o ho o' ho' hown hk b hb1 hb2
  rcases List.mem_cons.1 ho with rfl | ho<;>rcases List.mem_cons.1 ho' with rfl | ho'
  ·exact hk rfl
  ·simp only [hEn] at hb1
   obtain ⟨m1,m2⟩:=hne o' ho'
   rw [hE _ (h.lt o' m1).1] at hb2
   exact h.inj _ hm o' m1 rfl (Ne.symm m2) b (hblk b hb1) hb2
  ·simp only [hEn] at hb2
   obtain ⟨m1,m2⟩:=hne o ho
   rw [hE _ (h.lt o m1).1] at hb1
   exact h.inj o m1 _ hm hown m2 b hb1 (hblk b hb2)
  ·exact hs2.inj o ho o' ho' hown hk b hb1 hb2
 ·intro o ho o' ho' hk
  rcases List.mem_cons.1 ho with rfl | ho<;>rcases List.mem_cons.1 ho' with rfl | ho'
  ·rfl
  ·have:=(hs.lt o' ho').1
   simp only [] at hk this
   omega
  ·have:=(hs.lt o ho).1
   simp only [] at hk this
   omega
  ·exact hs2.uniq o ho o' ho' hk
 ·intro o ho
  rcases List.mem_cons.1 ho with rfl | ho
  ·exact ⟨Nat.lt_succ_self _,trivial⟩
  ·exact ⟨Nat.lt_succ_of_lt (hs.lt o ho).1,xaY (fun k hk=>Nat.lt_succ_of_lt hk) (hs.lt o ho).2⟩
 ·intro x hx
  refine ⟨(h.prot x hx).1,fun o ho=>?_⟩
  rcases List.mem_cons.1 ho with rfl | ho
  ·simp only [hEn]
   intro e'
   exact (h.prot x hx).2 _ hm (hblk _ e')
  ·exact (hs2.prot x hx).2 o ho
 ·intro o ho b hi o' ho' hown' hb'
  rcases List.mem_cons.1 ho with rfl | ho
  ·exact xcC rfl hi
  ·rcases List.mem_cons.1 ho' with rfl | ho'
   ·simp only [hEn] at hb'
    exact h.deep o (hne o ho).1 b (xht (hE _ (hs.lt o ho).1) hi) _ hm rfl (hblk b hb')
   ·exact hs2.deep o ho b hi o' ho' hown' hb'
 ·intro x hx o ho hi
  rcases List.mem_cons.1 ho with rfl | ho
  ·exact xcC rfl hi
  ·exact hs2.protD x hx o ho hi
 ·intro o ho b hi
  rcases List.mem_cons.1 ho with rfl | ho
  ·exact xmK rfl hi
  ·exact hs2.fsh o ho b hi
 ·intro o ho hver
  rcases List.mem_cons.1 ho with rfl | ho
  ·exact absurd hver (Nat.lt_irrefl _)
  ·exact (hne o ho).1
theorem xgH {c:Cfg} {Q:Exit→Act→World→Prop} {x:xck}:∀ {ts:List Nat} {c1:Cfg},(xmd ts c1).holds (fun c2=>xlI X0 w0 E N c Q (x,c2))→xlI X0 w0 E N c Q (x,c1)
 | [],c1,h=>h
 | t::r,c1,h=>by
  unfold xmd at h
  split at h
  ·rename_i key sz hi ht
   split at h
   ·rename_i p H hc
    have ih:=xgH (ts:=r) h.2
    intro E' a' w' hE hc1 hle hold
    have hpt:=hc1.point ht
    obtain ⟨rs,hrs1,hrs2,hS,hH⟩:=hc1
    obtain ⟨g1,g2,g3⟩:=xAV hH hc h.1
    have hle:c.heap.next≤c1.heap.next:=hle
    have hE2:∀ k,k<c1.heap.next→upd E' c1.heap.next ((AV.vw key sz none hi).den E') k=E' k:=fun k hk=>xfb _ _ (by omega)
    have hS2:=hS.env (E':=upd E' c1.heap.next ((AV.vw key sz none hi).den E')) (n':=H.next) hE2 (by rw [g2]; exact Nat.le_succ _)
    refine ih (upd E' c1.heap.next ((AV.vw key sz none hi).den E')) a' w' (fun k hk=>by rw [hE2 k (by omega)]; exact hE k hk) ⟨rs,hrs1,hrs2,⟨hS2.defers,hS2.size,fun t'=>?_⟩,g1⟩ (by rw [show (Cfg.heap ⟨upd c1.tmps t (some (.sl c1.heap.next)),H⟩).next=H.next from rfl,g2]; exact Nat.le_succ_of_le hle) (fun o ho hv=>hold o (g3 o ho (Nat.lt_of_lt_of_le hv hle)) hv)
    by_cases e:t'=t
    ·subst e
     have e1:xao (upd c1.tmps t' (some (.sl c1.heap.next))) t'=.is (.sl c1.heap.next):=by simp [xao,xeA]
     show xm3 _ H.next _ t' (xao (upd c1.tmps t' (some (.sl c1.heap.next))) t')
     rw [e1]
     refine ⟨?_,show c1.heap.next<H.next from by rw [g2]; exact Nat.lt_succ_self _⟩
     show _=upd E' c1.heap.next _ c1.heap.next
     rw [xeA]; exact hpt.1
    ·have e1:xao (upd c1.tmps t (some (.sl c1.heap.next))) t'=xao c1.tmps t':=by simp [xao,xfb _ _ e]
     show xm3 _ H.next _ t' (xao (upd c1.tmps t (some (.sl c1.heap.next))) t')
     rw [e1]
     exact hS2.ok t'
   ·exact xgH (ts:=r) h
  ·exact xgH (ts:=r) h
theorem xxf {c:Cfg} {wr:List Nat} {Q:Exit→Act→World→Prop} {r:xck×Cfg} (h:(xxg wr c r).holds (xlI X0 w0 E N c Q)):xlI X0 w0 E N c Q r:=by
 obtain ⟨x,c1⟩:=r
 cases x with
 | ret=>exact h
 | normal=>exact xgH (xbv h)
 | exit id=>exact xgH (xbv h)
theorem xhn {b:Frame} {k:List Go.Item} {cs:List Frame} {a:Act} {c:Code}:step P (lone (b.atR a (.code (.scope c)::k)) cs w)=.next (lone (b.atR a (.code c::.inScope c::k)) cs w) :=
 step_lone_go (by simp [stepG,stepG.exec,Frame.atR])
theorem xvH {b:Frame} {k:List Go.Item} {cs:List Frame} {a:Act} {c:Code}:step P (lone (b.atR a (.inScope c::k)) cs w)=.next (lone (b.atR a k) cs w) :=
 step_lone_go (by simp [stepG,stepG.exec,Frame.atR])
theorem xnZ {F:Fence} {n:Nat} {a:Act} {c:Code} {Q:Exit→Act→World→Prop} (h:c.wpIn F n P (Exit.noGoto Q) a w):(Code.scope c).wpIn F n P Q a w:=by
 intro b k cs hro hb hr
 have h0:(lone (b.atR a (.code (.scope c)::k)) cs w).fenced P F:=fenced_calm hb hr rfl
 obtain ⟨e,a₁,w₁,hq,harr⟩:=h b (.inScope c::k) cs hro hb hr
 cases e with
 | normal=>exact ⟨.normal,a₁,w₁,hq,.head h0 xhn (StepsIn.trans harr (.one (fenced_calm hb hr rfl) xvH))⟩
 | exit id=>exact ⟨.exit id,a₁,w₁,hq,fun k' hk=>.head h0 xhn (harr.1 k' (by simp [exitTo,hk])),fun hr' hk=>let ⟨k₁,h1,h2⟩:=harr.2 hr' (by simp [exitTo,hk]); ⟨k₁,h1,.head h0 xhn h2⟩⟩
 | goto l=>exact hq.elim
 | ret=>exact ⟨_,a₁,w₁,hq,.of_steps (.one h0 xhn) harr⟩
 | panic ch=>exact ⟨_,a₁,w₁,hq,.of_steps (.one h0 xhn) harr⟩
 | outgrown=>exact ⟨_,a₁,w₁,hq,.of_steps (.one h0 xhn) harr⟩
section
variable {ops:Array Oper} {Q:Exit→Act→World→Prop} {a:Act}
theorem xu4 {id:Nat} (hm:P.follows .mixedOrders=true) (I:(Nat→Bool)→Act→World→Prop)
  (hedge:∀ i o,ops[i]?=some o→∀ e∈o.after,Region.binds .any e=true→e.on<i)
  (step:∀ (S:Nat→Bool) (a:Act) (w:World) (j:Nat) (o:Oper),I S a w→S j=false→ops[j]?=some o→(∀ e∈o.after,Region.binds .any e=true→S e.on=true) →
   wpOpIn (FR rnd) 0 P ops Q j (fun a' w'=>I (fun m=>S m||Nat.beq m j) a' w') a w)
  (fin:∀ (S:Nat→Bool) (a:Act) (w:World),I S a w→(∀ j,j<ops.size→S j=true)→Q .normal a w)
  (h0:I (fun _=>false) a w.drew):(Code.region id ops true).wpIn (FR rnd) 0 P Q a w:=by
 have getD_eq:∀ (listed:Array Bool),listed.size=ops.size→∀ j,j<ops.size→listed.getD j true=listed.getD j false:=by
  intro listed hl j hj
  have:j<listed.size:=by omega
  simp [Array.getD,this]
 have ready_full:∀ (listed:Array Bool),listed.size=ops.size→Region.ready .any ops listed=[]→∀ n j,j<n→j<ops.size→listed.getD j false=true:=by
  intro listed hl hr n
  induction n with
  | zero=>intro j h; omega
  | succ n ih =>
   intro j hjn hj
   cases hb:listed.getD j false with
   | true=>rfl
   | false =>
    exfalso
    have hmem:j∈Region.ready .any ops listed:=by
     refine mem_ready.2 ⟨by rw [getD_eq listed hl j hj]; exact hb,ops[j],by simp [hj],fun e he hbi=>?_⟩
     have hlt:=hedge j ops[j] (by simp [hj]) e he hbi
     exact ih e.on (by omega) (by omega)
    rw [hr] at hmem
    cases hmem
 have key:∀ (fuel:Nat) (listed:Array Bool) (a:Act) (w:World),listed.size=ops.size→I (fun m=>listed.getD m false) a w →
   (List.range ops.size).countP (fun i=>!(listed.getD i false))≤fuel→wpAnyIn (FR rnd) 0 P .any ops Q fuel listed a w:=by
  intro fuel
  induction fuel with
  | zero =>
   intro listed a w hl hinv hcount
   have hfull:∀ j,j<ops.size→listed.getD j false=true:=by
    intro j hj
    cases hb:listed.getD j false with
    | true=>rfl
    | false =>
     exfalso
     have:0<(List.range ops.size).countP (fun i=>!(listed.getD i false)):=List.countP_pos_iff.2 ⟨j,by simpa using hj,by rw [hb]; rfl⟩
     omega
   refine ⟨?_,fin _ a w hinv hfull⟩
   rw [List.eq_nil_iff_forall_not_mem]
   intro j hj
   obtain ⟨hju,oj,hoj,_⟩:=mem_ready.1 hj
   have hlt:j<ops.size:=by
    rcases Nat.lt_or_ge j ops.size with h | h
    ·exact h
    ·simp [h] at hoj
   rw [getD_eq listed hl j hlt,hfull j hlt] at hju
   cases hju
  | succ fuel ih =>
   intro listed a w hl hinv hcount
   refine ⟨fun h=>fin _ a w hinv (fun j hj=>ready_full listed hl h (j+1) j (by omega) hj),fun j hj=>?_⟩
   obtain ⟨hju,oj,hoj,hall⟩:=mem_ready.1 hj
   have hlt:j<ops.size:=by
    rcases Nat.lt_or_ge j ops.size with h | h
    ·exact h
    ·simp [h] at hoj
   rw [getD_eq listed hl j hlt] at hju
   have hset:∀ m,(listed.setIfInBounds j true).getD m false=(listed.getD m false||Nat.beq m j):=by
    intro m
    by_cases hm:m=j
    ·subst hm
     rw [xdh]
     simp [Array.getD_eq_getD_getElem?,hl,hlt]
    ·rw [xgb hm]
     simp [Array.getD_eq_getD_getElem?,Array.getElem?_setIfInBounds_ne (fun e=>hm e.symm)]
   have hfun:(fun m=>(listed.setIfInBounds j true).getD m false)=fun m=>(listed.getD m false||Nat.beq m j):=funext hset
   refine wpOpIn_mono (fun a2 w2 hinv2=>?_) (step _ a w j oj hinv hju hoj (fun e he hb=>hall e he hb))
   refine ih _ a2 w2 (by simpa using hl) (by rw [hfun]; exact hinv2) ?_
   have:=xtR (p:=fun i=>!(listed.getD i false)) (q:=fun i=>!((listed.setIfInBounds j true).getD i false)) (l:=List.range ops.size) (j:=j)
    (fun x hx=>by
     rw [hset] at hx
     cases hb:listed.getD x false with
     | true=>rw [hb] at hx; simp at hx
     | false=>rfl) (by simpa using hlt) (by rw [hju]; rfl) (by rw [hset,xdh]; simp)
   omega
 refine wpIn_region_any hm (key ops.size _ a _ (by simp) ?_ ?_)
 ·have:(fun m=>(Array.replicate ops.size false).getD m false)=fun _=>false:=funext fun m=>xoF _ m
  rw [this]
  exact h0
 ·refine Nat.le_trans List.countP_le_length ?_
  simp
end
theorem xw1:∀ {l:List Oper} {i k:Nat},xzy l i=some k→k<i+l.length
 | [],_,_,h=>by cases h
 | o::r,i,k,h=>by
  unfold xzy at h
  split at h
  ·cases h; simp
  ·have:=xw1 h
   simp only [List.length_cons]
   omega
theorem xuP {D:List Deferred} {s:xa4} {ops:Array Oper} (hΓ:xaT P Γ) (hcall:xiD P call) (hk:xeV P call) (hyld:xug P yld) {a:Act} (hS:xaX E H.next N D s a) (hG:xld s []) (hH:xae X E w0 H w) {id:Nat} {Q:Exit→Act→World→Prop}
  (h:(xo7 P Γ call yld N ops s H).holds (Post X w0 E H N D (Q .normal))):(Code.region id ops true).wpIn (FR rnd) 0 P Q a w:=by
 unfold xo7 at h
 split at h
 ·exact h.elim
 rename_i k hk0
 split at h
 ·exact h.elim
 rename_i hc
 rw [Bool.and_eq_true] at hc
 obtain ⟨hmix,htail⟩:=hc
 split at h
 case h_2=>exact h.elim
 rename_i L hrun
 split at h
 case h_2=>exact h.elim
 rename_i hc2
 rw [Bool.and_eq_true] at hc2
 obtain ⟨hord,hctx⟩:=hc2
 obtain ⟨hneed,hpost⟩:=xls h
 obtain ⟨hmap,hchain⟩:=xkM _ _ _ _ _ hrun
 have hslots:xhe (fun x=>x<H.next) s:=by
  intro t
  have:=hS.ok t
  cases hs:s t with
  | is v=>rw [hs] at this; exact this.2
  | when g want v=>rw [hs] at this; exact this.1
  | junk=>trivial
 unfold xv9 at hord
 simp only [Bool.and_eq_true] at hord
 obtain ⟨hedgeA,hpairs⟩:=hord
 have r:Run P Γ call N (ops.toList.take k).toArray H s L:={
  hΓ:=hΓ,hcall:=hcall,hk:=hk,hops:=hmap
  at_:=fun k it hk=>xwR L 0 k [] s H it hchain hslots hk
  hslots:=hslots,nowhen:=hG,hobjs:=hH.lt
  pair:=fun j x m y hj hm _=>by
   have h1:=List.all_eq_true.1 hpairs (x,j) (List.mem_zipIdx_iff_getElem?.2 hj)
   have h2:=List.all_eq_true.1 h1 (y,m) (List.mem_zipIdx_iff_getElem?.2 hm)
   rw [Bool.and_eq_true] at h2
   exact h2.1
  alls:=fun j x m y hj hm=>by
   have h1:=List.all_eq_true.1 hpairs (x,j) (List.mem_zipIdx_iff_getElem?.2 hj)
   have h2:=List.all_eq_true.1 h1 (y,m) (List.mem_zipIdx_iff_getElem?.2 hm)
   rw [Bool.and_eq_true] at h2
   exact h2.2
  edge:=fun i o ho e he hb=>by
   have h1:=List.all_eq_true.1 hedgeA (o,i) (List.mem_zipIdx_iff_getElem?.2 (by simpa using ho))
   have h2:=Array.all_eq_true_iff_forall_mem.1 h1 e he
   rw [hb] at h2
   simpa using h2 }
 unfold xDK at htail
 simp only [Bool.and_eq_true] at htail
 obtain ⟨⟨⟨hE1,hE2⟩,hE3⟩,hE4⟩:=htail
 have hklt:k<ops.size:=by have:=xw1 hk0; simpa using this
 have hA:∀ j,j<k→(ops.toList.take k).toArray[j]?=ops[j]?:=by
  intro j hj
  simp [List.getElem?_take,hj]
 have hedge:∀ i o,ops[i]?=some o→∀ e∈o.after,Region.binds .any e=true→e.on<i:=fun i o ho e he hb=>by
  have h1:=List.all_eq_true.1 hE1 (o,i) (List.mem_zipIdx_iff_getElem?.2 (by simpa using ho))
  have h2:=Array.all_eq_true_iff_forall_mem.1 h1 e he
  rw [hb] at h2
  simpa using h2
 have hnext:∀ j o,k<j→ops[j]?=some o→∃ e∈o.after,Region.binds .any e=true∧e.on+1=j:=fun j o hj ho=>by
  have h1:=List.all_eq_true.1 hE3 (o,j) (List.mem_zipIdx_iff_getElem?.2 (by simpa using ho))
  have h0:Nat.blt k j=true:=by simpa using hj
  simp only [h0,Bool.not_true,Bool.false_or] at h1
  obtain ⟨e,he,hb⟩:∃ e∈o.after,(Region.binds .any e&&Nat.beq (e.on+1) j)=true:=by simpa only [Array.any_eq_true',] using h1
  rw [Bool.and_eq_true] at hb
  exact ⟨e,he,hb.1,Nat.eq_of_beq_eq_true hb.2⟩
 have nowhen:∀ (S:Nat→Bool) t g w v,xbq S 0 L s t≠.when g w v:=fun S=>xli L 0 s (fun t g w v h=>by have:=hG t g w v h; cases this) (fun it hit=>by simpa using List.all_eq_true.1 hctx it hit)
 have hlen:L.length=k:=by
  have:=congrArg List.length hmap
  simp at this
  omega
 have full:∀ (S:Nat→Bool) (a:Act) (w:World),(∀ i,i<k→S i=true)→Inv N D X w0 H s L E S a w→wpListIn (FR rnd) 0 P ops Q (ops.toList.drop k) a w:=by
  intro S a w hfull hinv
  obtain ⟨E',hE,hSl,hH'⟩:=hinv
  have hSt:∀ k' it,L[k']?=some it→S (0+k')=true:=fun k' it hk'=>by
   have:k'<L.length:=(List.getElem?_eq_some_iff.1 hk').1
   rw [Nat.zero_add]; exact hfull k' (by omega)
  refine xi5 hΓ hcall hk hyld ops _ ((ops.toList.take k).filterMap (·.dst)) (xbq (fun _=>true) 0 L s) ⟨xdT (fun _=>true) 0 L H.objs,xfS L H.next⟩ E' a w (fun t g w v h=>absurd h (nowhen _ t g w v)) (hSl.point fun t=>xgs L 0 (fun _=>true) S s s rfl (fun k' it hk' _=>(hSt k' it hk').symm))
   (hH'.congr fun key=>xe1 L 0 S (fun _=>true) _ _ r.fines rfl (fun k' it hk' _=>hSt k' it hk')) (xaV (fun y hy=>?_) hpost)
  intro E2 a2 w2 hE2 hS2 hH2 hle2 hold2
  have hle0:H.next≤xfS L H.next:=xgM _ _
  have hold0:Old H ⟨xdT (fun _=>true) 0 L H.objs,xfS L H.next⟩:=xoN L 0 _ H.objs (fun o ho _=>ho) (fun k' it hk' _ o ho hv=>by
   have h1:=(r.fine hk').ver o ho
   have h2:=(r.keyF hk').1
   have h3:o.ver<H.next:=hv
   omega)
  exact hy E2 a2 w2 (fun k hk=>by rw [hE2 k (show k<xfS L H.next by omega),hE k hk]) hS2 hH2 (Nat.le_trans hle0 hle2) (hold0.trans hold2 hle0)
 refine xu4 hmix (fun S a w=>((∀ m,k≤m→S m=false)∧xle (ops.toList.take k).toArray S∧Inv N D X w0 H s L E S a w)∨∃ m,k≤m∧(∀ i,S i=decide (i<m))∧wpListIn (FR rnd) 0 P ops Q (ops.toList.drop m) a w) hedge ?_ ?_ ?_
 ·intro S a w j o hI hSj hoj hall
  have tailStep:∀ m,k≤m→(∀ i,i<m→S i=true)→(∀ i,m≤i→S i=false)→wpListIn (FR rnd) 0 P ops Q (ops.toList.drop m) a w →
    wpOpIn (FR rnd) 0 P ops Q j (fun a' w'=>((∀ m',k≤m'→(S m'||Nat.beq m' j)=false)∧xle (ops.toList.take k).toArray (fun m'=>S m'||Nat.beq m' j)∧Inv N D X w0 H s L E (fun m'=>S m'||Nat.beq m' j) a' w')∨∃ m',k≤m'∧(∀ i,(S i||Nat.beq i j)=decide (i<m'))∧wpListIn (FR rnd) 0 P ops Q (ops.toList.drop m') a' w') a w:=by
   intro m hkm hlo hhi hw
   have hjm:j=m:=by
    rcases Nat.lt_trichotomy j m with h | h | h
    ·rw [hlo j h] at hSj; cases hSj
    ·exact h
    ·obtain ⟨e,he,hb,hon⟩:=hnext j o (by omega) hoj
     have:=hall e he hb
     rw [hhi e.on (by omega)] at this
     cases this
   subst hjm
   have hjl:j<ops.toList.length:=by
    have:=(Array.getElem?_eq_some_iff.1 hoj).1
    simpa using this
   have hd:ops.toList.drop j=o::ops.toList.drop (j+1):=by
    rw [List.drop_eq_getElem_cons hjl]
    congr 1
    have:=(Array.getElem?_eq_some_iff.1 hoj).2
    simpa using this
   have hS':∀ i,(S i||Nat.beq i j)=decide (i<j+1):=by
    intro i
    rcases Nat.lt_trichotomy i j with h | h | h
    ·rw [hlo i h]; simp; omega
    ·subst h; rw [xdh]; simp
    ·rw [hhi i (by omega),xgb (by omega)]; simp; omega
   rw [hd] at hw
   unfold wpListIn at hw
   unfold wpOpIn
   rw [hoj]
   simp only []
   split at hw
   ·rename_i hwn
    rw [if_pos hwn]
    exact Oper.wpIn_mono (fun a' w' h=>.inr ⟨j+1,by omega,hS',h⟩) hw
   ·rename_i hwn
    rw [if_neg hwn]
    exact ⟨hw.1,.inr ⟨j+1,by omega,hS',hw.2⟩⟩
  rcases hI with ⟨hno,hcl,hinv⟩ | ⟨m,hkm,hm,hw⟩
  ·by_cases hj:j<k
   ·have hoA:(ops.toList.take k).toArray[j]?=some o:=by rw [hA j hj]; exact hoj
    obtain ⟨it,hit,hio⟩:=r.get hoA
    subst hio
    have hg:it.o.guard=none:=by
     have hm:it.o∈ops.toList.take k:=by
      have:=List.mem_of_getElem? (l:=ops.toList.take k) (i:=j) (a:=it.o) (by simpa using hoA)
      exact this
     simpa using List.all_eq_true.1 hE4 _ hm
    have key:=r.invStep (rnd:=rnd) (S:=S) (S':=fun m=>S m||Nat.beq m j) hcl hit hSj hall (fun _=>rfl) (fun p hp=>hneed j it p hit hp) hinv (Q:=Q)
     (K:=fun a' w'=>((∀ m',k≤m'→(S m'||Nat.beq m' j)=false)∧xle (ops.toList.take k).toArray (fun m'=>S m'||Nat.beq m' j)∧Inv N D X w0 H s L E (fun m'=>S m'||Nat.beq m' j) a' w')∨∃ m',k≤m'∧(∀ i,(S i||Nat.beq i j)=decide (i<m'))∧wpListIn (FR rnd) 0 P ops Q (ops.toList.drop m') a' w')
     (fun a2 w2 hinv2=>.inl ⟨fun m' hm'=>by rw [hno m' hm',xgb (by omega)]; rfl,fun i o' ho' hSi e he hb=>by
      rcases Bool.or_eq_true _ _▸hSi with h | h
      ·show (S e.on||Nat.beq e.on j)=true; rw [hcl i o' ho' h e he hb]; rfl
      ·have hij:i=j:=Nat.eq_of_beq_eq_true h
       subst hij
       rw [hoA] at ho'
       cases ho'
       show (S e.on||Nat.beq e.on i)=true; rw [hall e he hb]; rfl,hinv2⟩)
    unfold wpOpIn at key ⊢
    rw [hoA] at key
    rw [hoj]
    simp only [] at key ⊢
    rw [if_pos (by simp [Region.wanted,hg])] at key ⊢
    exact key
   ·have hjk:j=k:=by
     rcases Nat.lt_or_ge k j with h | h
     ·obtain ⟨e,he,hb,hon⟩:=hnext j o h hoj
      have:=hall e he hb
      rw [hno e.on (by omega)] at this
      cases this
     ·omega
    subst hjk
    have hclO:xle ops S:=fun i o' ho' hSi e he hb=>by
     have hi:i<j:=by
      rcases Nat.lt_or_ge i j with h | h
      ·exact h
      ·rw [hno i h] at hSi; cases hSi
     exact hcl i o' (by rw [hA i hi]; exact ho') hSi e he hb
    have hfull:∀ i,i<j→S i=true:=fun i hi =>
     xiA hclO (j+1) j (Nat.lt_succ_self j) o hoj hall i (List.all_eq_true.1 hE2 i (by simpa using hi))
    exact tailStep j (Nat.le_refl _) hfull hno (full S a w hfull hinv)
  ·exact tailStep m hkm (fun i hi=>by rw [hm]; simp [hi]) (fun i hi=>by rw [hm]; simp; omega) hw
 ·intro S a w hI hall
  rcases hI with ⟨hno,_⟩ | ⟨m,hkm,hm,hw⟩
  ·have:=hall k hklt
   rw [hno k (Nat.le_refl _)] at this
   cases this
  ·have hms:ops.size≤m:=by
    rcases Nat.lt_or_ge m ops.size with h | h
    ·have:=hall m h
     rw [hm] at this
     simp at this
    ·exact h
   rw [List.drop_eq_nil_of_le (by simpa using hms)] at hw
   exact hw
 ·have hcl0:xle (ops.toList.take k).toArray (fun _=>false):=fun i o ho hi=>by cases hi
  refine .inl ⟨fun _ _=>rfl,hcl0,E,fun _ _=>rfl,?_,?_⟩
  ·have e:xbq (fun _=>false) 0 L s=s:=xlj _ _ _ _ (fun m _=>rfl)
   rw [e]
   exact ⟨hS.defers,hS.size,(hS.env (fun _ _=>rfl) (xgM L H.next)).ok⟩
  ·have e:xdT (fun _=>false) 0 L H.objs=H.objs:=xjc _ _ _ _ (fun m _=>rfl)
   rw [e]
   exact hH.drew.sub (fun o ho=>ho) (fun o ho=>⟨Nat.lt_of_lt_of_le (hH.lt o ho).1 (xgM L H.next),xaY (fun k hk=>Nat.lt_of_lt_of_le hk (xgM L H.next)) (hH.lt o ho).2⟩)
theorem xbN (hΓ:xaT P Γ) (hcall:xiD P call) (hk:xeV P call) (hyld:xug P yld) {res:List Nat} {rb:Bool} (hrb:∀ l,rnd=some l→∃ r,(l,Go.Obj.loop r)∈X0) :
  ∀ (code:Code) (c:Cfg) (E:Env) (a:Act) (w:World) (Q:Exit→Act→World→Prop),CfgOk X0 E w0 N c a w →
   (xa2 P Γ call yld rb res N code c).holds (xlI X0 w0 E N c Q)→code.wpIn (FR rnd) 0 P Q a w
 | .skip,c,E,a,w,Q,hc,h=>wpIn_skip (h E a w (fun _ _=>rfl) hc (Nat.le_refl _) (Old.refl _))
 | .region id ops draw,c,E,a,w,Q,hc,h=>by
  unfold xa2 at h
  obtain ⟨rs,hrs1,hrs2,hS,hH⟩:=hc
  have post:∀ x:RCfg,xlI X0 w0 E N c Q (.normal,⟨xgL x.1,x.2⟩)→Post (xml rs X0) w0 E c.heap N (rs.map mark) (Q .normal) x:=fun x hx E' a' w' hE hS hH hle hold=>hx E' a' w' hE ⟨rs,hrs1,hrs2,xC3 hS,hH⟩ hle hold
  have h2:=xbv h
  unfold xk5 at h2
  split at h2
  ·exact h2.2.elim
  cases draw with
  | false =>
   rw [if_pos rfl] at h2
   exact wpIn_region_list (xi5 hΓ hcall hk hyld ops ops.toList [] _ _ E a w (xku _) hS hH (xaV (fun x hx=>post x hx) h2))
  | true =>
   rw [if_neg (by simp)] at h2
   split at h2
   ·exact xuP hΓ hcall hk hyld hS (xku _) hH (xaV (fun x hx=>post x hx) h2)
   ·exact xrb hΓ hcall hk hS (xku _) hH (xaV (fun x hx=>post x hx) h2)
 | .seq x y,c,E,a,w,Q,hc,h=>by
  unfold xa2 at h
  refine wpIn_seq (xbN hΓ hcall hk hyld hrb x c E a w _ hc (xaV (fun r hr=>?_) (xbv h)))
  intro E' a' w' hE hc' hle hold
  obtain ⟨e,c'⟩:=r
  cases e with
  | normal=>exact xbN hΓ hcall hk hyld hrb y c' E' a' w' Q hc' (xaV (fun r2 hr2=>hr2.next hE hle hold) hr)
  | exit id=>exact hr E' a' w' hE hc' hle hold
  | ret=>exact hr E' a' w' hE hc' hle hold
 | .cond x t e,c,E,a,w,Q,hc,h=>by
  unfold xa2 at h
  split at h
  ·rename_i b hb
   have hv:=(hc.readS hb).1
   exact wpIn_cond_split hv (fun ht=>xbN hΓ hcall hk hyld hrb t c E a w Q hc (h.1 ht)) (fun hf=>xbN hΓ hcall hk hyld hrb e c E a w Q hc (h.2 hf))
  ·rename_i b hb
   have hv:=(hc.readS hb).1
   have hv:a.eval x=.bool b:=hv
   refine wpIn_cond_split hv (fun ht=>?_) (fun hf=>?_)
   ·subst ht; exact xbN hΓ hcall hk hyld hrb t c E a w Q hc h
   ·subst hf; exact xbN hΓ hcall hk hyld hrb e c E a w Q hc h
  ·exact h.elim
 | .block id body,c,E,a,w,Q,hc,h=>by
  unfold xa2 at h
  refine wpIn_block (xbN hΓ hcall hk hyld hrb body c E a w _ hc (xaV (fun r hr=>?_) (xbv h)))
  intro E' a' w' hE hc' hle hold
  obtain ⟨e,c'⟩:=r
  cases e with
  | normal=>exact hr E' a' w' hE hc' hle hold
  | exit id' =>
   simp only [] at hr
   show if id'=id then Q .normal a' w' else Q (.exit id') a' w'
   by_cases hid:id'=id
   ·subst hid
    rw [if_pos rfl]
    rw [xdh] at hr
    exact hr E' a' w' hE hc' hle hold
   ·rw [if_neg hid]
    rw [xgb hid] at hr
    exact hr E' a' w' hE hc' hle hold
  | ret=>exact hr E' a' w' hE hc' hle hold
 | .exit id,c,E,a,w,Q,hc,h=>wpIn_exit (h E a w (fun _ _=>rfl) hc (Nat.le_refl _) (Old.refl _))
 | .ret,c,E,a,w,Q,hc,h=>wpIn_ret (h E a w (fun _ _=>rfl) hc (Nat.le_refl _) (Old.refl _))
 | .loop body,c,E,a,w,Q,hc,h=>by
  unfold xa2 at h
  have hbody:∀ (c:Cfg) (E:Env) (a:Act) (w:World) (Q:Exit→Act→World→Prop),CfgOk X0 E w0 N c a w→(xa2 P Γ call yld rb res N body c).holds (xlI X0 w0 E N c Q)→body.wpIn (FR rnd) 0 P Q a w :=
   xbN hΓ hcall hk hyld hrb body
  have key:∀ (known:Cfg→Bool) (n:Nat) (c:Cfg) (E:Env) (a:Act) (w:World),CfgOk X0 E w0 N c a w →
    (xni known (xgP P res (xha (xdw body) []) fun c=>(xa2 P Γ call yld rb res N body c).bind (xxg (xha (xdw body) []) c)) (fun c=>xa2 P Γ call yld rb res N body c) n c).holds (xlI X0 w0 E N c Q)→xuh (FR rnd) 0 P body Q a w:=by
   intro known n
   induction n with
   | zero=>intro c E a w _ h; exact h.elim
   | succ n ih =>
    intro c E a w hc h
    unfold xni at h
    split at h
    ·refine xkh (hbody c E a w _ hc (xaV (fun r hr=>?_) (xbv h)))
     intro E' a' w' hE hc' hle hold
     obtain ⟨e,c'⟩:=r
     cases e with
     | normal=>exact ih c' E' a' w' hc' (xaV (fun r2 hr2=>hr2.next hE hle hold) hr)
     | exit id=>exact hr E' a' w' hE hc' hle hold
     | ret=>exact hr E' a' w' hE hc' hle hold
    ·exact xwy (fun c E a w Q hc h=>hbody c E a w Q hc (xaV (fun r hr=>xxf hr) (xbv h))) (fun c=>xdv (xcu (fun r hr=>xvS hr) (xc0 body c))) hc h
  exact xnv (key _ _ c E a w hc h)
 | .rangeFunc f params assign body,c,E,a,w,Q,hc,h=>by
  exact xqT hrb hcall hk hc h
 | .scope body,c,E,a,w,Q,hc,h=>by
  unfold xa2 at h
  refine xnZ (xbN hΓ hcall hk hyld hrb body c E a w _ hc (xaV (fun r hr=>?_) h))
  intro E' a' w' hE hc' hle hold
  obtain ⟨e,c'⟩:=r
  cases e with
  | normal=>exact hr E' a' w' hE hc' hle hold
  | exit id=>exact hr E' a' w' hE hc' hle hold
  | ret=>exact hr E' a' w' hE hc' hle hold
 | .label _,c,E,a,w,Q,hc,h=>wpIn_label (h E a w (fun _ _=>rfl) hc (Nat.le_refl _) (Old.refl _))
 | .goto _,_,_,_,_,_,_,h=>h.elim
 | .refuse _,_,_,_,_,_,_,h=>h.elim
end
end Go.Sy
set_option linter.unusedVariables false
namespace Go.Sy
open Go.RowKit
section
variable {P:Program} {Γ:Con} {call:xhh} {yld:Nat→List AV→Heap→Tree (AV×Heap)} {X X0:List (Nat×Go.Obj)} {w0 w:World} {N:Nat} {D:List Deferred} {rnd:Option Nat} {E:Env} {H:Heap}
theorem xqq {n:Nat}:∀ (ps:List Nat) (vs:List AV) (tm:Nat→Option AV) (tmps:Array Value),ps.length=vs.length→(∀ p∈ps,p<N)→N≤tmps.size→(∀ t v,tm t=some v→tmps.getD t undef=v.den E∧AV.lt n v)→AV.ltL n vs →
  N≤((ps.zip (AV.denL E vs)).foldl (fun (tmps:Array Value) (x:Nat×Value)=>tmps.setIfInBounds x.1 x.2) tmps).size ∧
  ∀ t v,xir ps vs tm t=some v→((ps.zip (AV.denL E vs)).foldl (fun (tmps:Array Value) (x:Nat×Value)=>tmps.setIfInBounds x.1 x.2) tmps).getD t undef=v.den E∧AV.lt n v
 | [],[],tm,tmps,_,_,hs,ht,_=>⟨hs,ht⟩
 | p::ps,u::vs,tm,tmps,hl,hp,hs,ht,hv=>by
  have hp0:=hp p (by simp)
  refine xqq ps vs (upd tm p (some u)) (tmps.setIfInBounds p (u.den E)) (by simpa using hl) (fun q hq=>hp q (by simp [hq])) (by simpa using hs) (fun t v htv=>?_) hv.2
  by_cases h:t=p
  ·subst h
   rw [xeA] at htv
   cases htv
   refine ⟨?_,hv.1⟩
   rw [Array.getD_eq_getD_getElem?,Array.getElem?_setIfInBounds,if_pos rfl,if_pos (by omega)]
   rfl
  ·rw [xfb _ _ h] at htv
   rw [Array.getD_eq_getD_getElem?,Array.getElem?_setIfInBounds,if_neg (fun e=>h e.symm),← Array.getD_eq_getD_getElem?]
   exact ht t v htv
 | [],_::_,_,_,hl,_,_,_,_=>by simp at hl
 | _::_,[],_,_,hl,_,_,_,_=>by simp at hl
theorem xae.putXA {A:List (Nat×Go.Obj)} {l:Nat} {o0 o:Go.Obj} (h:xae (A++(l,o0)::X) E w0 H w) (hl:w0.heap.size≤l) (hA:∀ x∈A,x.1≠l) (hX:∀ x∈X,x.1≠l):xae (A++(l,o)::X) E w0 H (w.putObj l o):=by
 obtain ⟨p1,p2⟩:=h.prot (l,o0) (List.mem_append.2 (.inr (by simp)))
 have h1:xae (A++X) E w0 H w:=⟨h.below,h.env,h.objs,h.high,h.inj,h.uniq,h.lt,fun x hx=>h.prot x (by
  rcases List.mem_append.1 hx with hx | hx
  ·exact List.mem_append.2 (.inl hx)
  ·exact List.mem_append.2 (.inr (List.mem_cons_of_mem _ hx))),h.deep,fun x hx=>h.protD x (by
  rcases List.mem_append.1 hx with hx | hx
  ·exact List.mem_append.2 (.inl hx)
  ·exact List.mem_append.2 (.inr (List.mem_cons_of_mem _ hx))),h.fsh⟩
 have p3:∀ o'∈H.objs,¬ Inn E w o'.key o'.body l:=h.protD (l,o0) (List.mem_append.2 (.inr (by simp)))
 have h2:=(h1.put (o:=o) hl (fun x hx=>by
  rcases List.mem_append.1 hx with hx | hx
  ·exact hA x hx
  ·exact hX x hx) p2 p3).addX (World.putObj_heap_same (Array.getElem?_eq_some_iff.1 p1).1) p2 (fun o' ho' hi=>p3 o' ho' (xgN (h.objs o' ho') rfl (fun g hg=>World.putObj_heap_other (fun e=>p2 o' ho' (by rw [hg,e]))) hi))
 exact ⟨h2.below,h2.env,h2.objs,h2.high,h2.inj,h2.uniq,h2.lt,fun x hx=>h2.prot x (by
  rcases List.mem_append.1 hx with hx | hx
  ·exact List.mem_cons_of_mem _ (List.mem_append.2 (.inl hx))
  ·rcases List.mem_cons.1 hx with rfl | hx
   ·exact List.mem_cons_self
   ·exact List.mem_cons_of_mem _ (List.mem_append.2 (.inr hx))),h2.deep,fun x hx=>h2.protD x (by
  rcases List.mem_append.1 hx with hx | hx
  ·exact List.mem_cons_of_mem _ (List.mem_append.2 (.inl hx))
  ·rcases List.mem_cons.1 hx with rfl | hx
   ·exact List.mem_cons_self
   ·exact List.mem_cons_of_mem _ (List.mem_append.2 (.inr hx))),h2.fsh⟩
theorem xky {v:AV} {o:Obj} {Φ:AV×Heap→Prop} (h:(xrl v o H).holds Φ):(∀ o'∈H.objs,o'.key≠o.key)∧Φ (v,⟨o::H.objs,H.next⟩):=by
 unfold xrl at h
 split at h
 ·exact h.elim
 ·rename_i hk
  exact ⟨xxU (by simpa using hk),h⟩
theorem xtF (hΓ:xaT P Γ) (hcall:xiD P call) (hk:xeV P call) (hyld:xug P yld):xug P (xtG P Γ call yld):=by
 intro X w0 key args H E w R hH hkey hargs h
 unfold xtG at h
 split at h
 case h_2=>exact h.elim
 rename_i k' ver N tm params assign body hfind
 split at h
 case isFalse=>exact h.elim
 rename_i hc
 obtain ⟨hlen,hpar⟩:=hc
 obtain ⟨hm,hkk⟩:=xan hfind
 simp only [] at hkk
 subst hkk
 obtain ⟨l,fn,tmps,dfr,q1,q2,q3,q4⟩:=hH.objs _ hm
 simp only [] at q1
 have q2:w.heap[l]?=some (.loop { state:=.ready,pending:=none,fn:=fn,tmps:=tmps,params:=params,assign:=assign,body:=body,defers:=dfr }):=q2
 have hblk:blk (E k')=l:=by rw [q1]; rfl
 rw [hblk]
 have htm:∀ t v,tm t=some v→AV.lt H.next v:=(hH.lt _ hm).2
 obtain ⟨g1,g2,g3⟩:=hH.hide hm rfl (l:=l) (by simp only []; rw [q1]; rfl) q2
 refine ⟨fn,_,assign,body,run_yield q2 (by simp [xaJ,hlen]),?_⟩
 obtain ⟨s1,s2⟩:=xqq (N:=N) (E:=E) (n:=H.next) params.toList args tm tmps (by simp [hlen]) (fun p hp=>by simpa using List.all_eq_true.1 hpar p hp) q3 (fun t v ht=>⟨q4 t v ht,htm t v ht⟩) hargs
 have hfold:(params.zip (AV.denL E args).toArray).foldl (fun (tmps:Array Value) (x:Nat×Value)=>tmps.setIfInBounds x.1 x.2) tmps=(params.toList.zip (AV.denL E args)).foldl (fun (tmps:Array Value) (x:Nat×Value)=>tmps.setIfInBounds x.1 x.2) tmps:=by
  rw [← Array.foldl_toList,Array.toList_zip]
 refine roundIn_of_wpIn (F:=FR none) trivial ?_
 show assign.wpIn (FR (some l)) 0 P _ _ w
 refine xbN (rnd:=some l) (rb:=true) (X0:=(l,.loop { state:=.ready,pending:=none,fn:=fn,tmps:=tmps,params:=params,assign:=assign,body:=body,defers:=dfr })::X) (w0:=w0) (N:=N) hΓ hcall hk hyld (fun l' e=>by cases e; exact ⟨_,List.mem_cons_self⟩) assign ⟨xir params.toList args tm,xwK k' H⟩ E _ w _ ⟨[],(fun r hr=>by cases hr),List.nodup_nil,⟨rfl,?_,fun t=>?_⟩,g1⟩ (xaV (fun x hx=>?_) (xbv h))
 ·show N≤Array.size (Array.foldl _ tmps (params.zip _))
  exact hfold▸s1
 ·show xm3 E H.next _ t (xao (xir params.toList args tm) t)
  cases ht:xir params.toList args tm t with
  | none =>
   have e:xao (xir params.toList args tm) t=.junk:=by simp [xao,ht]
   rw [e]; trivial
  | some v =>
   have e:xao (xir params.toList args tm) t=.is v:=by simp [xao,ht]
   rw [e]
   obtain ⟨r1,r2⟩:=s2 t v ht
   refine ⟨?_,r2⟩
   show Array.getD (Array.foldl _ tmps (params.zip _)) t undef=_
   exact hfold▸r1
 intro E1 a1 w1 hE1 hc1 hle1 hold1
 obtain ⟨x,c1⟩:=x
 cases x with
 | exit id=>exact hx.elim
 | ret=>exact hx.elim
 | normal =>
  obtain ⟨rs,hrs1,hrs2,hS1,hH1⟩:=hc1
  have hp1:=(hH1.prot (l,_) (List.mem_append.2 (.inr (List.mem_cons_self)))).1
  refine ⟨_,run_beginRound hp1 rfl,?_⟩
  have hrl:∀ r∈rs,r≠l:=fun r hr e=>(hrs1 r hr).2 (l,_) List.mem_cons_self e.symm
  have hH2:=hH1.putXA (A:=rs.map (fun r=>(r,Go.Obj.deferred (some [])))) (o:=.loop { state:=.busy,pending:=none,fn:=fn,tmps:=tmps,params:=params,assign:=assign,body:=body,defers:=dfr }) g2 (fun x hx=>by
   obtain ⟨r,hr,rfl⟩:=List.mem_map.1 hx
   exact hrl r hr) g3
  refine xbN (rnd:=some l) (rb:=true) (X0:=(l,.loop { state:=.busy,pending:=none,fn:=fn,tmps:=tmps,params:=params,assign:=assign,body:=body,defers:=dfr })::X) (w0:=w0) (N:=N) hΓ hcall hk hyld (fun l' e=>by cases e; exact ⟨_,List.mem_cons_self⟩) body c1 E1 a1 _ _ ⟨rs,fun r hr=>⟨(hrs1 r hr).1,fun x hx=>?_⟩,hrs2,hS1,hH2⟩ (xaV (fun y hy=>?_) (xbv hx))
  ·rcases List.mem_cons.1 hx with rfl | hx
   ·exact fun e=>hrl r hr e.symm
   ·exact (hrs1 r hr).2 x (List.mem_cons_of_mem _ hx)
  obtain ⟨y,c2⟩:=y
  intro E2 a2 w3 hE2 hc2 hle2 hold2
  obtain ⟨rs',_,_,_,hH3'⟩:=hc2
  have hH3:xae ((l,.loop { state:=.busy,pending:=none,fn:=fn,tmps:=tmps,params:=params,assign:=assign,body:=body,defers:=dfr })::X) E2 w0 c2.heap w3:=hH3'.dropXs
  have hp3:=(hH3.prot (l,_) List.mem_cons_self).1
  have hle1:H.next≤c1.heap.next:=hle1
  have hle2:c1.heap.next≤c2.heap.next:=hle2
  have hEE:∀ k,k<H.next→E2 k=E k:=fun k hk=>by rw [hE2 k (Nat.lt_of_lt_of_le hk hle1)]; exact hE1 k hk
  have hkl:E2 k'=.pointer (some ⟨l,0,none⟩):=by rw [hEE k' hkey]; exact q1
  have hl3:l<w3.heap.size:=(Array.getElem?_eq_some_iff.1 hp3).1
  have holdA:∀ o∈c2.heap.objs,o.ver<H.next→o∈H.objs:=fun o ho hv=>(List.mem_filter.1 (hold1 o (hold2 o ho (Nat.lt_of_lt_of_le hv hle1)) hv)).1
  have back:∀ (st:Nat) (pend:Option Code) (ver2:Nat) (ls:LoopState) (jump:Option Code) (rb:Bool),stOf st=ls→(∀ o'∈c2.heap.objs,o'.key≠k')→pend=jump →
    xae X E2 w0 ⟨⟨k',ver2,true,.loop st pend N tm params assign body⟩::c2.heap.objs,c2.heap.next⟩ (w3.putObj l (.loop { state:=ls,pending:=jump,fn:=fn,tmps:=tmps,params:=params,assign:=assign,body:=body,defers:=dfr })):=by
   intro st pend ver2 ls jump rb hst hno hpj
   subst hpj
   refine (hH3.putX (o:=.loop { state:=ls,pending:=pend,fn:=fn,tmps:=tmps,params:=params,assign:=assign,body:=body,defers:=dfr }) g2 g3).show_ g2 g3 hkl ?_ (by omega) ?_ hno
   ·refine ⟨l,fn,tmps,dfr,hkl,?_,q3,fun t v ht=>?_⟩
    ·rw [hst]; exact World.putObj_heap_same hl3
    ·rw [xg9 hEE v (htm t v ht)]; exact q4 t v ht
   ·intro t v ht
    exact xeM (by omega) v (htm t v ht)
  have backF:∀ (ver2:Nat) (jump:Option Code),(∀ o'∈c2.heap.objs,o'.key≠k') →
    xae X E2 w0 ⟨⟨k',ver2,true,.fin 2 jump⟩::c2.heap.objs,c2.heap.next⟩ (w3.putObj l (.loop { state:=.done,pending:=jump,fn:=fn,tmps:=tmps,params:=params,assign:=assign,body:=body,defers:=dfr })):=by
   intro ver2 jump hno
   refine (hH3.putX (o:=.loop { state:=.done,pending:=jump,fn:=fn,tmps:=tmps,params:=params,assign:=assign,body:=body,defers:=dfr }) g2 g3).show_ g2 g3 hkl ?_ (by omega) ?_ hno
   ·exact ⟨l,_,hkl,World.putObj_heap_same hl3,rfl,rfl⟩
   ·trivial
  cases y with
  | normal =>
   obtain ⟨hno,hΦ⟩:=xky hy
   have hΦ:=hΦ E2 _ hEE (back 0 none ver .ready none true rfl hno rfl) trivial (Nat.le_trans hle1 hle2) (fun o ho hv=>by
    rcases List.mem_cons.1 ho with rfl | ho
    ·exact hm
    ·exact holdA o ho hv)
   exact ⟨_,_,run_endRound none hp3,hΦ⟩
  | exit id =>
   obtain ⟨hno,hΦ⟩:=xky hy
   have hΦ:=hΦ E2 _ hEE (backF c2.heap.next (some (.exit id)) hno) trivial (Nat.le_trans hle1 hle2) (fun o ho hv=>by
    rcases List.mem_cons.1 ho with rfl | ho
    ·have:c2.heap.next<H.next:=hv
     omega
    ·exact holdA o ho hv)
   exact ⟨_,_,run_endRound (some (.exit id)) hp3,hΦ⟩
  | ret =>
   obtain ⟨hno,hΦ⟩:=xky hy
   have hΦ:=hΦ E2 _ hEE (backF c2.heap.next (some .ret) hno) trivial (Nat.le_trans hle1 hle2) (fun o ho hv=>by
    rcases List.mem_cons.1 ho with rfl | ho
    ·have:c2.heap.next<H.next:=hv
     omega
    ·exact holdA o ho hv)
   exact ⟨_,_,run_endRound (some .ret) hp3,hΦ⟩
end
end Go.Sy
