/-
 The executor is sound: regions that draw their order (the same operation in another state).
-/
import Derived.Test.YtnijhjpaplihbaaGreatSyQ
set_option linter.unusedVariables false
namespace Go.Sy
open Go.RowKit
section congr
variable {P : Program} {Γ : Con} {ρ ρ' : Operand → Option AV} {objs objs' : List Obj} {K : Nat}
theorem xjR : ∀ (l : List Operand), (∀ x ∈ l, ρ x = ρ' x) → xmM ρ l = xmM ρ' l
 | [], _ => rfl
 | x :: r, h => by
  unfold xmM
  rw [h x (by simp), xjR r (fun y hy => h y (by simp [hy]))]
theorem xmK : ∀ (l : List (Nat × Operand)), (∀ x ∈ l.map (·.2), ρ x = ρ' x) → xhW ρ l = xhW ρ' l
 | [], _ => rfl
 | (i, x) :: r, h => by
  unfold xhW
  rw [h x (by simp), xmK r (fun y hy => h y (by simp at hy ⊢; exact .inr hy))]
theorem xps {sz : Nat} : ∀ (l : List (Nat × Operand)) (j : Nat), (∀ x ∈ l.map (·.2), ρ x = ρ' x) → xi7 ρ sz j l = xi7 ρ' sz j l
 | [], _, _ => rfl
 | (i, x) :: r, j, h => by
  unfold xi7
  rw [h x (by simp), xps r (j + 1) (fun y hy => h y (by simp at hy ⊢; exact .inr hy))]
theorem xqR {t : TypeId} {len : Nat} (l : List (Nat × Operand)) (h : ∀ x ∈ l.map (·.2), ρ x = ρ' x) : xef P ρ K t len l = xef P ρ' K t len l := by
 unfold xef
 simp only [xps l 0 h]
theorem xz8 {k : NK} {v : AV} (h : ∀ key ∈ v.keys, xai key objs = xai key objs') : encK P objs K k v = encK P objs' K k v := by
 cases k with
 | c k => rfl
 | s e ks =>
  cases v with
  | sl key => simp only [encK, h key (by simp [AV.keys])]
  | val x =>
   by_cases hv : x = .slice none 0 0
   ·subst hv; rfl
   ·have e1 : ∀ os : List Obj, encK P os K (.s e ks) (.val x) = none := by
     intro os
     unfold encK
     split <;> first | rfl | (rename_i heq; cases heq; exact absurd rfl hv) | (rename_i heq; cases heq)
    rw [e1, e1]
  | _ => rfl
theorem xu2 : ∀ {ks : List NK} {vs : List AV}, (∀ key ∈ AV.keysL vs, xai key objs = xai key objs') → encE P objs K ks vs = encE P objs' K ks vs
 | [], [], _ => rfl
 | k :: ks, v :: vs, h => by
  unfold encE
  rw [xz8 (fun key hk => h key (by simp [AV.keysL, hk])), xu2 (fun key hk => h key (by simp [AV.keysL, hk]))]
 | [], _ :: _, _ => rfl
 | _ :: _, [], _ => rfl
theorem xu1 {ks : List NK} : ∀ {els : List (List AV)}, (∀ el ∈ els, ∀ key ∈ AV.keysL el, xai key objs = xai key objs') → encR P objs K ks els = encR P objs' K ks els
 | [], _ => rfl
 | el :: els, h => by
  unfold encR
  rw [xu2 (h el (by simp)), xu1 (fun el' hel => h el' (by simp [hel]))]
theorem xxV {x : Eff} (h : ∀ o ∈ x.add, ∀ e sz els, o.body = .arr e sz els → ∀ el ∈ els, ∀ key ∈ AV.keysL el, xai key objs = xai key objs') : xtY P objs K x = xtY P objs' K x := by
 unfold xtY
 split
 ·rename_i k ver e sz els v
  have := fun ks => xu1 (P := P) (K := K) (ks := ks) (h _ (List.mem_singleton.2 rfl) e sz els rfl)
  simp only [this]
 ·rfl
theorem xrg {sz : Nat} : ∀ {l : List (Nat × Operand)} {j : Nat} {els : List (List AV)}, xi7 ρ sz j l = some els → (∀ key ∈ l.flatMap (fun p => xxi (ρ p.2)), xai key objs = xai key objs') → ∀ el ∈ els, ∀ key ∈ AV.keysL el, xai key objs = xai key objs'
 | [], _, els, h, _ => by cases h; simp
 | (i, x) :: r, j, els, h, hk => by
  unfold xi7 at h
  split at h
  ·split at h
   ·rename_i v hv
    split at h
    ·split at h
     ·rename_i els' hr
      cases h
      intro el hel
      rcases List.mem_cons.1 hel with rfl | hel
      ·exact fun key hkey => hk key (by simp only [List.flatMap_cons, List.mem_append]; left; rw [hv]; exact hkey)
      ·exact xrg hr (fun key hkey => hk key (by simp only [List.flatMap_cons, List.mem_append]; exact .inr hkey)) el hel
     ·cases h
    ·cases h
   ·cases h
  ·cases h
theorem xqP {t : TypeId} {len : Nat} (l : List (Nat × Operand)) (h : ∀ x ∈ l.map (·.2), ρ x = ρ' x) (hf : ∀ key ∈ l.flatMap (fun p => xxi (ρ p.2)), xai key objs = xai key objs') :
  ((xef P ρ K t len l).map fun x => (xtY P objs K x).getD x) = (xef P ρ' K t len l).map fun x => (xtY P objs' K x).getD x := by
 rw [← xqR l h]
 cases hb : xef P ρ K t len l with
 | none => rfl
 | some x =>
  simp only [Option.map_some]
  rw [xxV]
  unfold xef at hb
  split at hb
  ·split at hb
   ·split at hb
    ·rename_i els hels
     split at hb
     ·cases hb
      intro o ho e sz els' hbody
      simp only [List.mem_singleton] at ho
      subst ho
      cases hbody
      exact xrg hels hf
     ·cases hb
    ·cases hb
   ·cases hb
  ·cases hb
theorem xlJ (x : Option Operand) (h : ∀ y, x = some y → ρ y = ρ' y) : xvM ρ x = xvM ρ' x := by
 cases x with
 | none => rfl
 | some y => simp only [xvM, h y rfl]
def xgy (objs objs' : List Obj) (v : Option AV) : Prop := ∀ key ∈ keyOf v, xai key objs = xai key objs'
theorem xyi {t : TypeId} {v : AV} (h : xgy objs objs' (some v)) : xzX P objs t v = xzX P objs' t v := by
 cases v <;> first | rfl | (simp only [xzX]; rw [h _ (by simp [keyOf])])
theorem xxe {t : TypeId} {v : AV} (h : xgy objs objs' (some v)) : xuV P objs K t v = xuV P objs' K t v := by
 cases v <;> first | rfl | (simp only [xuV]; rw [h _ (by simp [keyOf])])
theorem xuB {t : TypeId} {s x : AV} (hs : xgy objs objs' (some s)) (h : xgy objs objs' (some x)) : xnC P objs K t s x = xnC P objs' K t s x := by
 cases x with
 | sl key2 =>
  have hk2 := h key2 (by simp [keyOf])
  simp only [xnC]
  rw [hk2]
  have hk : tgtA objs s = tgtA objs' s := by
   cases s with
   | sl key => exact hs key (by simp [keyOf])
   | _ => rfl
  rw [hk]
 | _ => rfl
theorem xwD {t : TypeId} {v x : AV} (h : xgy objs objs' (some x)) : xsh P objs K t v x = xsh P objs' K t v x := by
 cases x <;> first | rfl | (simp only [xsh]; rw [h _ (by simp [keyOf])])
theorem xrR {t : TypeId} {x i : AV} (h : xgy objs objs' (some x)) : xjz P objs t x i = xjz P objs' t x i := by
 unfold xjz
 split
 ·rfl
 ·rename_i e _
  cases x with
  | sl key =>
   have hk : xai key objs = xai key objs' := h key (by simp [keyOf])
   generalize intA i = oi
   generalize xkG P e = os
   cases oi with
   | none => rfl
   | some n => cases os with
    | none => rfl
    | some s => cases s with
     | zero => rfl
     | succ s => simp only [hk]
  | vw key sz lo hi =>
   have hk : xai key objs = xai key objs' := h key (by simp [keyOf])
   generalize intA i = oi
   generalize xkG P e = os
   cases oi with
   | none => rfl
   | some n => cases os with
    | none => rfl
    | some s => cases s with
     | zero => rfl
     | succ s => simp only [hk]
  | _ => rfl
 ·rfl
theorem xrT {d : Nat} {x : AV} (h : xgy objs objs' (some x)) : xjC P objs d x = xjC P objs' d x := by
 cases x <;> first | rfl | (simp only [xjC]; rw [h _ (by simp [keyOf])])
theorem xwJ {t : TypeId} {x : AV} {lo hi : Option Int} (h : xgy objs objs' (some x)) : xsm P objs t x lo hi = xsm P objs' t x lo hi := by
 cases x with
 | sl key => simp only [xsm, xkZ]; rw [h _ (by simp [keyOf])]
 | vw key sz l0 h0 =>
  cases l0 with
  | none => simp only [xsm, xkZ]; rw [h _ (by simp [keyOf])]
  | some _ => rfl
 | _ => rfl
theorem xvv {t : TypeId} {x : AV} (h : xgy objs objs' (some x)) : xqh P objs K t x = xqh P objs' K t x := by
 cases x with
 | sl key => simp only [xqh]; rw [h _ (by simp [keyOf])]
 | val v => cases v with
  | slice a n c => cases a <;> cases n <;> cases c <;> rfl
  | _ => rfl
 | _ => rfl
theorem xvt {t : TypeId} {x : AV} {lo : Option Int} {hi mx : Int} (h : xgy objs objs' (some x)) : xqg P objs K t x lo hi mx = xqg P objs' K t x lo hi mx := by
 cases x <;> first | rfl | (simp only [xqg]; rw [h _ (by simp [keyOf])])
theorem xxE {t : TypeId} {x : AV} (h : xgy objs objs' (some x)) : xu7 P objs K t x = xu7 P objs' K t x := by
 cases x <;> first | rfl | (simp only [xu7, xnf]; rw [h _ (by simp [keyOf])])
theorem xqd {x : AV} (h : xgy objs objs' (some x)) : srcA P objs x = srcA P objs' x := by
 cases x <;> first | rfl | (simp only [srcA]; rw [h _ (by simp [keyOf])])
theorem xzE {x : AV} (h : xgy objs objs' (some x)) : tgtA objs x = tgtA objs' x := by
 cases x <;> first | rfl | (simp only [tgtA]; rw [h _ (by simp [keyOf])])
theorem xz0 {t : Option TypeDesc} {x : AV} (h : xgy objs objs' (some x)) : lenA P objs t x = lenA P objs' t x := by
 unfold lenA
 split
 ·rename_i e key
  have hk : xai key objs = xai key objs' := h key (by simp [keyOf])
  rw [hk]
 ·rfl
 ·rename_i e key sz lo hi
  have hk : xai key objs = xai key objs' := h key (by simp [keyOf])
  rw [hk]
 ·rfl
theorem xtP {t : TypeId} {s x : AV} (hs : xgy objs objs' (some s)) (h : xgy objs objs' (some x)) : xi4 P objs K t s x = xi4 P objs' K t s x := by
 unfold xi4
 rw [xqd h, xzE hs]
theorem xtN {t : TypeId} {s x : AV} (hs : xgy objs objs' (some s)) (h : xgy objs objs' (some x)) : xlu P objs K t s x = xlu P objs' K t s x := by
 cases s with
 | vw key sz lo hi =>
  simp only [xlu]
  rw [xqd h, hs _ (by simp [keyOf])]
 | _ => rfl
theorem xvU {t : TypeId} {x ix : AV} {ok : Bool} (h : xgy objs objs' (some x)) : xqA P objs t x ix ok = xqA P objs' t x ix ok := by
 cases x <;> first | rfl | (simp only [xqA]; rw [h _ (by simp [keyOf])])
theorem xrN {t : TypeId} {x ix v : AV} (h : xgy objs objs' (some x)) : xjy P objs K t x ix v = xjy P objs' K t x ix v := by
 cases x <;> first | rfl | (simp only [xjy]; rw [h _ (by simp [keyOf])])
theorem xuM : ∀ {l : List Operand} {vs : List AV}, xmM ρ l = some vs → (∀ key ∈ l.flatMap (fun x => keyOf (ρ x)), xai key objs = xai key objs') → ∀ v ∈ vs, xgy objs objs' (some v)
 | [], vs, h, _, v, hv => by cases h; cases hv
 | x :: r, vs, h, hk, v, hv => by
  unfold xmM at h
  split at h
  ·rename_i u us h1 h2
   cases h
   rcases List.mem_cons.1 hv with rfl | hv
   ·intro key hkey
    exact hk key (by simp only [List.flatMap_cons, List.mem_append]; rw [h1]; exact .inl hkey)
   ·exact xuM h2 (fun key hkey => hk key (by simp only [List.flatMap_cons, List.mem_append]; exact .inr hkey)) v hv
  ·cases h
theorem xrz (op : Op) (h : ∀ x ∈ op.operands, ρ x = ρ' x) (hf : ∀ key ∈ xte ρ op, xai key objs = xai key objs') : xhk P ρ objs K op = xhk P ρ' objs' K op := by
 unfold xhk
 split
 ·rename_i x; rw [h x (by simp [Op.operands])]
 ·rename_i x; rw [h x (by simp [Op.operands])]
 ·rfl
 ·rename_i x; rw [h x (by simp [Op.operands])]
 ·rename_i t len parts
  exact xqP parts.toList (fun x hx => h x (by
   obtain ⟨p, hp, rfl⟩ := List.mem_map.1 hx
   simp only [Op.operands, List.mem_toArray, List.mem_map]
   exact ⟨p, hp, rfl⟩)) hf
 ·rename_i t parts
  rw [xmK parts.toList (fun x hx => h x (by
   obtain ⟨p, hp, rfl⟩ := List.mem_map.1 hx
   simp only [Op.operands, List.mem_toArray, List.mem_map]
   exact ⟨p, hp, rfl⟩))]
 ·rename_i t x
  rw [← h x (by simp [Op.operands])]
  cases hx : ρ x with
  | none => rfl
  | some v =>
   simp only []
   rw [xxe (objs' := objs') (by rw [← hx]; exact hf), xyi (objs' := objs') (by rw [← hx]; exact hf)]
 ·rename_i t x y
  rw [← h x (by simp [Op.operands]), ← h y (by simp [Op.operands])]
  cases hx : ρ x with
  | none => rfl
  | some v => cases hy : ρ y with
   | none => rfl
   | some u => exact xwD (by rw [← hx]; exact hf)
 ·rename_i x; rw [h x (by simp [Op.operands])]
 ·rename_i x y _; rw [h x (by simp [Op.operands]), h y (by simp [Op.operands])]
 ·rename_i x; rw [h x (by simp [Op.operands])]
 ·rename_i x; rw [h x (by simp [Op.operands])]
 ·rename_i x; rw [h x (by simp [Op.operands])]
 ·rename_i first caps
  rw [xjR first.toList (fun x hx => h x (by simp only [Op.operands, Array.mem_append]; exact .inl (by simpa using hx))),
   xjR caps.toList (fun x hx => h x (by simp only [Op.operands, Array.mem_append]; exact .inr (by simpa using hx)))]
 ·rename_i x _
  rw [← h x (by simp [Op.operands])]
  cases hx : ρ x with
  | none => rfl
  | some v =>
   have hv : xgy objs objs' (some v) := by rw [← hx]; exact hf
   split
   ·rename_i v' fd he _
    cases he
    split
    ·exact xrT hv
    ·rfl
   ·rfl
 ·rename_i x _; rw [h x (by simp [Op.operands])]
 ·rename_i x i; rw [h x (by simp [Op.operands]), h i (by simp [Op.operands])]
 ·rename_i x i
  rw [← h x (by simp [Op.operands]), ← h i (by simp [Op.operands])]
  cases hx : ρ x with
  | none => rfl
  | some v => cases hi : ρ i with
   | none => rfl
   | some u => exact xrR (by rw [← hx]; exact hf)
 ·rename_i x _; rw [h x (by simp [Op.operands])]
 ·rename_i t x lo hi
  rw [← h x (by simp [Op.operands]), xlJ (ρ := ρ) (ρ' := ρ') lo (fun y hy => h y (by subst hy; simp [Op.operands])), xlJ (ρ := ρ) (ρ' := ρ') hi (fun y hy => h y (by subst hy; simp [Op.operands]))]
  cases hx : ρ x with
  | none => rfl
  | some v =>
   have hv : xgy objs objs' (some v) := by rw [← hx]; exact hf
   split
   ·rename_i v' lo hi he _ _
    cases he
    exact xwJ hv
   ·rfl
 ·rename_i t x lo hi mx
  rw [← h x (by simp [Op.operands]), ← h mx (by simp [Op.operands]), xlJ (ρ := ρ) (ρ' := ρ') lo (fun y hy => h y (by subst hy; simp [Op.operands])), xlJ (ρ := ρ) (ρ' := ρ') hi (fun y hy => h y (by subst hy; simp [Op.operands]))]
  have e1 : hi.bind ρ = hi.bind ρ' := by
   cases hi with
   | none => rfl
   | some y => exact h y (by simp [Op.operands])
  rw [← e1]
  cases hx : ρ x with
  | none => rfl
  | some v =>
   have hv : xgy objs objs' (some v) := by rw [← hx]; exact hf
   simp only []
   rw [xvv hv]
   simp only [xvt hv]
 ·rfl
 ·rename_i t x ix ok
  rw [← h x (by simp [Op.operands]), ← h ix (by simp [Op.operands])]
  cases hx : ρ x with
  | none => rfl
  | some v => cases hi : ρ ix with
   | none => rfl
   | some u => exact xvU (by rw [← hx]; exact hf)
 ·rename_i t x ix y
  rw [← h x (by simp [Op.operands]), ← h ix (by simp [Op.operands]), ← h y (by simp [Op.operands])]
  cases hx : ρ x with
  | none => rfl
  | some v => cases hi : ρ ix with
   | none => rfl
   | some u => cases hy : ρ y with
    | none => rfl
    | some z => exact xrN (by rw [← hx]; exact hf)
 ·rename_i b args argTypes
  rw [← xjR args.toList (fun x hx => h x (by simp only [Op.operands, Call.operands, Array.mem_append]; exact .inr (by simpa using hx)))]
  cases hvs : xmM ρ args.toList with
  | none => rfl
  | some vs =>
   have hsame := xuM (objs := objs) (objs' := objs') hvs hf
   simp only []
   split
   ·rfl
   ·rfl
   ·split
    ·rename_i x; exact xz0 (hsame x (by simp))
    ·rfl
   ·split
    ·rename_i s x t t' _
     rw [xuB (hsame s (by simp)) (hsame x (by simp)), xtP (hsame s (by simp)) (hsame x (by simp)), xtN (hsame s (by simp)) (hsame x (by simp))]
    ·rfl
   ·split
    ·rename_i x t _
     exact xxE (hsame x (by simp))
    ·rfl
   ·rfl
 ·rfl
mutual
theorem xBl : ∀ v : AV, v.weak.keys = v.keys
 | .bool _ | .int _ _ | .ptr _ _ | .fn _ _ _ | .sl _ | .ix _ _ _ _ _ | .yl _ | .vw _ _ _ _ => rfl
 | .val v => by cases v <;> rfl
 | .agg cs => by simp only [AV.weak, AV.keys, xlj cs]
 | .tup cs => by simp only [AV.weak, AV.keys, xlj cs]
theorem xlj : ∀ l : List AV, AV.keysL (AV.weakL l) = AV.keysL l
 | [] => rfl
 | a :: r => by simp only [AV.weakL, AV.keysL, xBl a, xlj r]
end
theorem xyn (v : Option AV) : xxi (v.map AV.weak) = xxi v := by
 cases v with
 | none => rfl
 | some v => cases v with
  | val u => cases u <;> rfl
  | agg cs => exact xlj cs
  | tup cs => show AV.keys (AV.tup (AV.weakL cs)) ++ [] = AV.keys (AV.tup cs) ++ []; simp only [AV.keys, xlj cs]
  | _ => rfl
theorem xyP (op : Op) (h : ∀ x ∈ op.operands, ρ x = ρ' x) (hf : ∀ key ∈ xte ρ op, xai key objs = xai key objs') : xp9 P ρ objs K op = xp9 P ρ' objs' K op := by
 have hw : ∀ x ∈ op.operands, (ρ x).map AV.weak = (ρ' x).map AV.weak := fun x hx => by rw [h x hx]
 have kw : ∀ v : Option AV, keyOf (v.map AV.weak) = keyOf v := by
  intro v
  cases v with
  | none => rfl
  | some v => cases v with
   | val u => cases u <;> rfl
   | _ => rfl
 have fw : ∀ op, xte (fun z => (ρ z).map AV.weak) op = xte ρ op := by
  intro op
  unfold xte
  split <;> simp only [kw, xyn]
 have w0 : xhk P (fun z => (ρ z).map AV.weak) objs K op = xhk P (fun z => (ρ' z).map AV.weak) objs' K op := xrz _ hw (fun key hk => by rw [fw] at hk; exact hf key hk)
 unfold xp9
 split
 ·rename_i x y _
  rw [h x (by simp [Op.operands]), h y (by simp [Op.operands]), w0]
 ·rename_i x
  rw [h x (by simp [Op.operands]), w0]
 ·rename_i x
  rw [h x (by simp [Op.operands]), w0]
 ·exact w0
 ·exact w0
 ·exact xrz _ h hf
theorem xu9 {t : Option TypeId} {k i : Nat} {acc acc' : List xfu} (h : canK P objs t k acc = some (i, acc')) :
  (∀ x ∈ acc, x ∈ acc') ∧ ((∀ x ∈ acc', ∀ k, x.key = some k → xai k objs = xai k objs') → canK P objs' t k acc = some (i, acc')) := by
 unfold canK at h ⊢
 split at h
 ·rename_i j hj
  cases h
  exact ⟨fun _ hx => hx, fun _ => rfl⟩
 ·rename_i hn
  split at h
  ·rename_i o ho
   cases h
   refine ⟨fun x hx => by simp [hx], fun hs => ?_⟩
   rw [← hs ⟨some k, o.own, match o.body with | .nil => xiu P t | b => b⟩ (List.mem_append.2 (.inr (List.mem_singleton.2 rfl))) k rfl, ho]
  ·cases h
mutual
theorem xAf : ∀ (v : AV) (t : Option TypeId) (acc : List xfu) (v' : AV) (acc' : List xfu), canV P objs t v acc = some (v', acc') →
  (∀ x ∈ acc, x ∈ acc') ∧ ((∀ x ∈ acc', ∀ k, x.key = some k → xai k objs = xai k objs') → canV P objs' t v acc = some (v', acc'))
 | .sl k, t, acc, v', acc', h => by
  unfold canV at h ⊢
  split at h
  ·rename_i i acc1 hc
   cases h
   obtain ⟨a, b⟩ := xu9 (objs' := objs') hc
   exact ⟨a, fun hs => by rw [b hs]⟩
  ·cases h
 | .ptr k off, t, acc, v', acc', h => by
  unfold canV at h ⊢
  split at h
  ·rename_i i acc1 hc
   cases h
   obtain ⟨a, b⟩ := xu9 (objs' := objs') hc
   exact ⟨a, fun hs => by rw [b hs]⟩
  ·cases h
 | .fn f first caps, t, acc, v', acc', h => by
  unfold canV at h ⊢
  split at h
  ·rename_i first' acc1 h1
   split at h
   ·rename_i caps' acc2 h2
    cases h
    obtain ⟨a, b⟩ := xjG first [] acc first' acc1 h1
    obtain ⟨a', b'⟩ := xjG caps [] acc1 caps' acc' h2
    exact ⟨fun x hx => a' x (a x hx), fun hs => by rw [b (fun x hx => hs x (a' x hx))]; simp only []; rw [b' hs]⟩
   ·cases h
  ·cases h
 | .agg cs, t, acc, v', acc', h => by
  unfold canV at h ⊢
  split at h
  ·rename_i cs' acc1 h1
   cases h
   obtain ⟨a, b⟩ := xjG cs _ acc cs' acc' h1
   exact ⟨a, fun hs => by rw [b hs]⟩
  ·cases h
 | .tup cs, t, acc, v', acc', h => by
  unfold canV at h ⊢
  split at h
  ·rename_i cs' acc1 h1
   cases h
   obtain ⟨a, b⟩ := xjG cs _ acc cs' acc' h1
   exact ⟨a, fun hs => by rw [b hs]⟩
  ·cases h
 | .yl _, t, acc, v', acc', h => by cases h
 | .ix _ _ _ _ _, t, acc, v', acc', h => by cases h
 | .vw _ _ _ _, t, acc, v', acc', h => by cases h
 | .bool b, t, acc, v', acc', h => by simp only [canV] at h ⊢; cases h; exact ⟨fun _ hx => hx, fun _ => rfl⟩
 | .int k b, t, acc, v', acc', h => by simp only [canV] at h ⊢; cases h; exact ⟨fun _ hx => hx, fun _ => rfl⟩
 | .val v, t, acc, v', acc', h => by
  by_cases hv : v = .slice none 0 0
  ·subst hv
   simp only [canV] at h ⊢
   split at h
   ·cases h; exact ⟨fun x hx => by simp [hx], fun _ => rfl⟩
   ·cases h; exact ⟨fun _ hx => hx, fun _ => rfl⟩
  ·have e : ∀ objs, canV P objs t (.val v) acc = some (.val v, acc) := by
    intro objs
    unfold canV
    split <;> first | rfl | (rename_i heq; cases heq; exact absurd rfl hv) | (rename_i heq; cases heq)
   rw [e] at h
   cases h
   exact ⟨fun _ hx => hx, fun _ => e _⟩
theorem xjG : ∀ (l : List AV) (ts : List TypeId) (acc : List xfu) (l' : List AV) (acc' : List xfu), canL P objs ts l acc = some (l', acc') →
  (∀ x ∈ acc, x ∈ acc') ∧ ((∀ x ∈ acc', ∀ k, x.key = some k → xai k objs = xai k objs') → canL P objs' ts l acc = some (l', acc'))
 | [], ts, acc, l', acc', h => by cases h; exact ⟨fun _ hx => hx, fun _ => by unfold canL; rfl⟩
 | a :: r, ts, acc, l', acc', h => by
  unfold canL at h ⊢
  split at h
  ·rename_i a' acc1 h1
   split at h
   ·rename_i r' acc2 h2
    cases h
    obtain ⟨x1, x2⟩ := xAf a _ acc a' acc1 h1
    obtain ⟨y1, y2⟩ := xjG r _ acc1 r' acc' h2
    exact ⟨fun x hx => y1 x (x1 x hx), fun hs => by rw [x2 (fun x hx => hs x (y1 x hx))]; simp only []; rw [y2 hs]⟩
   ·cases h
  ·cases h
end
theorem xrv : ∀ {es0 es : List xfu}, xi9 P es0 = some es → es.map (·.key) = es0.map (·.key)
 | [], es, h => by cases h; rfl
 | x :: r, es, h => by
  have key : ∀ b : Body, ((xi9 P r).map ({ x with body := b } :: ·)) = some es → es.map (·.key) = (x :: r).map (·.key) := by
   intro b h
   cases hr : xi9 P r with
   | none => rw [hr] at h; cases h
   | some es' => rw [hr] at h; cases h; simp [xrv hr]
  unfold xi9 at h
  obtain ⟨xk, xo, xb⟩ := x
  cases xb with
  | row e ks l => exact key _ h
  | nst e ks l => exact key _ h
  | sub e ks l => exact key _ h
  | nil => exact key _ h
  | arr e sz els =>
   simp only [] at h
   split at h
   ·exact key _ h
   ·cases h
  | cells => cases h
  | mp => cases h
  | fin => cases h
  | loop => cases h
theorem xtF {f : FuncId} {args : List AV} {ft : List Nat} {y : Eff} (h : xxH P Γ f args objs K = some (ft, y)) (hf : ∀ key ∈ ft, xai key objs = xai key objs') : xxH P Γ f args objs' K = some (ft, y) := by
 have h0 := h
 unfold xxH at h
 split at h
 case h_2 => cases h
 rename_i args' es0 hcan
 split at h
 case h_2 => cases h
 rename_i es hrows
 split at h
 case h_2 => cases h
 rename_i o' hobjs
 split at h
 case h_2 => cases h
 rename_i x hx
 split at h
 case h_2 => cases h
 rename_i y' hy
 cases h
 have hkeys := xrv hrows
 have hcan' := (xjG (objs' := objs') _ _ _ _ _ hcan).2 (fun x hx k hk => hf k (by
  have h1 : some k ∈ es0.map (·.key) := List.mem_map.2 ⟨x, hx, hk⟩
  rw [← hkeys] at h1
  obtain ⟨z, hz, hzk⟩ := List.mem_map.1 h1
  exact List.mem_filterMap.2 ⟨z, hz, hzk⟩))
 unfold xxH at h0 ⊢
 rw [hcan] at h0
 rw [hcan']
 exact h0
theorem xkO (k : Nat) : ∀ a b : List Obj, xai k (a ++ b) = match xai k a with | some o => some o | none => xai k b
 | [], b => rfl
 | x :: r, b => by
  simp only [List.cons_append, xai]
  split
  ·rfl
  ·exact xkO k r b
theorem xkN (k K : Nat) : ∀ l : List Obj, xai k (l.filter fun o => Nat.blt o.key K) = if k < K then xai k l else none
 | [] => by simp [xai]
 | x :: r => by
  have ih := xkN k K r
  rw [List.filter_cons]
  by_cases hx : Nat.blt x.key K = true
  ·rw [if_pos hx]
   simp only [xai]
   split
   ·rename_i he
    have := Nat.eq_of_beq_eq_true he
    rw [if_pos (by rw [← this]; simpa using hx)]
   ·exact ih
  ·rw [if_neg hx, ih]
   split
   ·rename_i hk
    simp only [xai]
    rw [if_neg]
    intro he
    have := Nat.eq_of_beq_eq_true he
    exact hx (by simp; omega)
   ·rfl
theorem xme : ∀ {args : List AV} {K : Nat} {args' : List AV} {add : List Obj} {ft : List Nat} {p : Option Prop}, xqW P objs K args = some (args', add, ft, p) → (∀ key ∈ ft, xai key objs = xai key objs') → xqW P objs' K args = some (args', add, ft, p) ∧ ∀ o ∈ add, K ≤ o.key
 | [], K, args', add, ft, p, h, _ => by cases h; exact ⟨rfl, by simp⟩
 | a :: r, K, args', add, ft, p, h, hf => by
  unfold xqW at h ⊢
  split at h
  ·rename_i ha
   split at h
   ·rename_i k b p1 r' add' ft' q hs hr
    cases h
    obtain ⟨i1, i2⟩ := xme hr (fun key hk => hf key (List.mem_cons_of_mem _ hk))
    have hs' : srcA P objs' a = some (k, b, p1) := by
     rw [← hs]
     refine (xqd (fun key hk => ?_)).symm
     cases a <;> simp [isVw] at ha
     rename_i key0 _ _ _
     simp only [keyOf, List.mem_singleton] at hk
     subst hk
     have : k = key := by
      simp only [srcA] at hs
      repeat' split at hs
      all_goals first | (cases hs; rfl) | cases hs
     exact hf key (by rw [this]; exact List.mem_cons_self)
    simp only [hs', i1]
    refine ⟨trivial, fun o ho => ?_⟩
    rcases List.mem_cons.1 ho with rfl | ho
    ·exact Nat.le_refl _
    ·have := i2 o ho; omega
   ·cases h
  ·rename_i ha
   split at h
   ·rename_i r' add' ft' q hr
    cases h
    obtain ⟨i1, i2⟩ := xme hr hf
    simp only [i1]
    exact ⟨trivial, i2⟩
   ·cases h
theorem xyG {f : FuncId} {args : List AV} {ft : List Nat} {y : Eff} (h : xyH P Γ f args objs K = some (ft, y)) (hf : ∀ key ∈ ft, xai key objs = xai key objs') : xyH P Γ f args objs' K = some (ft, y) := by
 unfold xyH at h ⊢
 split at h
 ·exact xtF h hf
 ·split at h
  case h_2 => cases h
  rename_i args' add ft1 p hv
  split at h
  case h_2 => cases h
  rename_i ft' x hc
  cases h
  obtain ⟨i1, i2⟩ := xme (objs' := objs') hv (fun key hk => hf key (List.mem_append.2 (.inl hk)))
  have hc' := xtF (objs' := add ++ objs'.filter fun o => Nat.blt o.key K) hc (fun key hk => by
   rw [xkO, xkO]
   cases xai key add with
   | some o => rfl
   | none =>
    simp only []
    rw [xkN, xkN]
    split
    ·rename_i hlt
     exact hf key (List.mem_append.2 (.inr (List.mem_filter.2 ⟨hk, by simpa using hlt⟩)))
    ·rfl)
  simp only [i1, hc']
theorem xsM {ctx : Ctx} {s s' : xaY} (x : Operand) (h : ∀ t, x = .tmp t → s t = s' t) : readS ctx s x = readS ctx s' x := by
 cases x with
 | tmp t => simp only [readS, h t rfl]
 | _ => rfl
theorem xx6 {ctx : Ctx} {s s' : xaY} {c a b : Operand} (h : ∀ x ∈ [c, a, b], ∀ t, x = .tmp t → s t = s' t) : xvP ctx s c a b = xvP ctx s' c a b := by
 have e : ∀ side x, x ∈ [c, a, b] → xg3 ctx s c side x = xg3 ctx s' c side x := by
  intro side x hx
  cases x with
  | tmp t => simp only [xg3, h _ hx t rfl]
  | _ => rfl
 unfold xvP xwX xAx
 rw [xsM c (h c (by simp)), e true a (by simp), e false b (by simp)]
theorem xi8 {s s' : xaY} : ∀ (m g : Nat) (want : Bool) (ctx : Ctx), xbo s m g want = some ctx → (∀ c ∈ ctx, s' c.1 = s c.1) → xbo s' m g want = some ctx
 | 0, _, _, _, h, _ => by cases h
 | m + 1, g, want, ctx, h, hs => by
  unfold xbo at h
  split at h
  ·rename_i v hg
   split at h
   case h_2 => cases h
   rename_i b hv
   cases h
   have e := hs (g, want, b) (by simp)
   unfold xbo
   simp only [e, hg, hv]
  ·rename_i g1 w1 v hg
   split at h
   case h_2 => cases h
   rename_i b hv
   cases hr : xbo s m g1 w1 with
   | none => rw [hr] at h; cases h
   | some r =>
    rw [hr] at h
    cases h
    have e := hs (g, want, b) (by simp)
    have ih := xi8 (s' := s') m g1 w1 r hr (fun c hc => hs c (List.mem_cons_of_mem _ hc))
    unfold xbo
    simp only [e, hg, hv, ih]
    rfl
  ·cases h
theorem xtd {s : xaY} {m g : Nat} {want : Bool} {ctx : Ctx} (h : xbo s m g want = some ctx) : ∃ b r, ctx = (g, want, b) :: r := by
 cases m with
 | zero => cases h
 | succ m =>
  unfold xbo at h
  split at h
  ·split at h
   ·cases h; exact ⟨_, _, rfl⟩
   ·cases h
  ·rename_i g1 w1 v _
   split at h
   case h_2 => cases h
   rename_i b _
   cases hr : xbo s m g1 w1 with
   | none => rw [hr] at h; cases h
   | some r => rw [hr] at h; cases h; exact ⟨b, r, rfl⟩
  ·cases h
end congr
end Go.Sy
