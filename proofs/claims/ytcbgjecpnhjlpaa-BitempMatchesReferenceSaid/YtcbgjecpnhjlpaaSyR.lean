/-
  The executor is sound: regions that draw their order (the same operation in another state).
-/
import Derived.Test.YtcbgjecpnhjlpaaSyQ
set_option linter.unusedVariables false
namespace Go.Sy
open Go.RowKit

section congr
variable {P : Program} {Γ : Con} {ρ ρ' : Operand → Option AV} {objs objs' : List Obj} {K : Nat}
theorem readL_congr : ∀ (l : List Operand), (∀ x ∈ l, ρ x = ρ' x) → readL ρ l = readL ρ' l
  | [], _ => rfl
  | x :: r, h => by
    unfold readL
    rw [h x (by simp), readL_congr r (fun y hy => h y (by simp [hy]))]
theorem readParts_congr : ∀ (l : List (Nat × Operand)), (∀ x ∈ l.map (·.2), ρ x = ρ' x) → readParts ρ l = readParts ρ' l
  | [], _ => rfl
  | (i, x) :: r, h => by
    unfold readParts
    rw [h x (by simp), readParts_congr r (fun y hy => h y (by simp at hy ⊢; exact .inr hy))]
theorem readEls_congr {sz : Nat} : ∀ (l : List (Nat × Operand)) (j : Nat), (∀ x ∈ l.map (·.2), ρ x = ρ' x) → readEls ρ sz j l = readEls ρ' sz j l
  | [], _, _ => rfl
  | (i, x) :: r, j, h => by
    unfold readEls
    rw [h x (by simp), readEls_congr r (j + 1) (fun y hy => h y (by simp at hy ⊢; exact .inr hy))]
theorem buildSliceA_congr {t : TypeId} {len : Nat} (l : List (Nat × Operand)) (h : ∀ x ∈ l.map (·.2), ρ x = ρ' x) : buildSliceA P ρ K t len l = buildSliceA P ρ' K t len l := by
  unfold buildSliceA
  simp only [readEls_congr l 0 h]
theorem readB_congr (x : Option Operand) (h : ∀ y, x = some y → ρ y = ρ' y) : readB ρ x = readB ρ' x := by
  cases x with
  | none => rfl
  | some y => simp only [readB, h y rfl]

/-- The same object under a value's key. -/
def SameAt (objs objs' : List Obj) (v : Option AV) : Prop := ∀ key ∈ keyOf v, findObj key objs = findObj key objs'
theorem loadA_congr {t : TypeId} {v : AV} (h : SameAt objs objs' (some v)) : loadA P objs t v = loadA P objs' t v := by
  cases v <;> first | rfl | (simp only [loadA]; rw [h _ (by simp [keyOf])])
theorem storeA_congr {t : TypeId} {v x : AV} (h : SameAt objs objs' (some x)) : storeA P objs K t v x = storeA P objs' K t v x := by
  cases x <;> first | rfl | (simp only [storeA]; rw [h _ (by simp [keyOf])])
theorem indexAddrA_congr {t : TypeId} {x i : AV} (h : SameAt objs objs' (some x)) : indexAddrA P objs t x i = indexAddrA P objs' t x i := by
  unfold indexAddrA
  split
  · rfl
  · rename_i e _
    cases x with
    | sl key =>
      have hk : findObj key objs = findObj key objs' := h key (by simp [keyOf])
      generalize intA i = oi
      generalize sizeA P e = os
      cases oi with
      | none => rfl
      | some n => cases os with
        | none => rfl
        | some s => cases s with
          | zero => rfl
          | succ s => simp only [hk]
    | vw key sz lo hi =>
      have hk : findObj key objs = findObj key objs' := h key (by simp [keyOf])
      generalize intA i = oi
      generalize sizeA P e = os
      cases oi with
      | none => rfl
      | some n => cases os with
        | none => rfl
        | some s => cases s with
          | zero => rfl
          | succ s => simp only [hk]
    | _ => rfl
  · rfl
theorem fieldAddrA_congr {d : Nat} {x : AV} (h : SameAt objs objs' (some x)) : fieldAddrA P objs d x = fieldAddrA P objs' d x := by
  cases x <;> first | rfl | (simp only [fieldAddrA]; rw [h _ (by simp [keyOf])])
theorem sliceA_congr {t : TypeId} {x : AV} {lo hi : Option Int} (h : SameAt objs objs' (some x)) : sliceA P objs t x lo hi = sliceA P objs' t x lo hi := by
  cases x with
  | sl key => simp only [sliceA, sliceRowA]; rw [h _ (by simp [keyOf])]
  | vw key sz l0 h0 =>
    cases l0 with
    | none => simp only [sliceA, sliceRowA]; rw [h _ (by simp [keyOf])]
    | some _ => rfl
  | _ => rfl
theorem slice0A_congr {t : TypeId} {x : AV} (h : SameAt objs objs' (some x)) : slice0A P objs K t x = slice0A P objs' K t x := by
  cases x with
  | sl key => simp only [slice0A]; rw [h _ (by simp [keyOf])]
  | val v => cases v with
    | slice a n c => cases a <;> cases n <;> cases c <;> rfl
    | _ => rfl
  | _ => rfl
theorem slice3A_congr {t : TypeId} {x : AV} {lo : Option Int} {hi mx : Int} (h : SameAt objs objs' (some x)) : slice3A P objs K t x lo hi mx = slice3A P objs' K t x lo hi mx := by
  cases x <;> first | rfl | (simp only [slice3A]; rw [h _ (by simp [keyOf])])
theorem clearA_congr {t : TypeId} {x : AV} (h : SameAt objs objs' (some x)) : clearA P objs K t x = clearA P objs' K t x := by
  cases x <;> first | rfl | (simp only [clearA, clearRowA]; rw [h _ (by simp [keyOf])])
theorem srcA_congr {x : AV} (h : SameAt objs objs' (some x)) : srcA P objs x = srcA P objs' x := by
  cases x <;> first | rfl | (simp only [srcA]; rw [h _ (by simp [keyOf])])
theorem tgtA_congr {x : AV} (h : SameAt objs objs' (some x)) : tgtA objs x = tgtA objs' x := by
  cases x <;> first | rfl | (simp only [tgtA]; rw [h _ (by simp [keyOf])])
theorem lenA_congr {t : Option TypeDesc} {x : AV} (h : SameAt objs objs' (some x)) : lenA P objs t x = lenA P objs' t x := by
  unfold lenA
  split
  · rename_i e key
    have hk : findObj key objs = findObj key objs' := h key (by simp [keyOf])
    rw [hk]
  · rfl
  · rename_i e key sz lo hi
    have hk : findObj key objs = findObj key objs' := h key (by simp [keyOf])
    rw [hk]
  · rfl
theorem appendOpA_congr {t : TypeId} {s x : AV} (hs : SameAt objs objs' (some s)) (h : SameAt objs objs' (some x)) : appendOpA P objs K t s x = appendOpA P objs' K t s x := by
  unfold appendOpA
  rw [srcA_congr h, tgtA_congr hs]
theorem appendVwA_congr {t : TypeId} {s x : AV} (hs : SameAt objs objs' (some s)) (h : SameAt objs objs' (some x)) : appendVwA P objs K t s x = appendVwA P objs' K t s x := by
  cases s with
  | vw key sz lo hi =>
    simp only [appendVwA]
    rw [srcA_congr h, hs _ (by simp [keyOf])]
  | _ => rfl
theorem lookupA_congr {t : TypeId} {x ix : AV} {ok : Bool} (h : SameAt objs objs' (some x)) : lookupA P objs t x ix ok = lookupA P objs' t x ix ok := by
  cases x <;> first | rfl | (simp only [lookupA]; rw [h _ (by simp [keyOf])])
theorem mapUpdateA_congr {t : TypeId} {x ix v : AV} (h : SameAt objs objs' (some x)) : mapUpdateA P objs K t x ix v = mapUpdateA P objs' K t x ix v := by
  cases x <;> first | rfl | (simp only [mapUpdateA]; rw [h _ (by simp [keyOf])])
theorem readL_same : ∀ {l : List Operand} {vs : List AV}, readL ρ l = some vs → (∀ key ∈ l.flatMap (fun x => keyOf (ρ x)), findObj key objs = findObj key objs') → ∀ v ∈ vs, SameAt objs objs' (some v)
  | [], vs, h, _, v, hv => by cases h; cases hv
  | x :: r, vs, h, hk, v, hv => by
    unfold readL at h
    split at h
    · rename_i u us h1 h2
      cases h
      rcases List.mem_cons.1 hv with rfl | hv
      · intro key hkey
        exact hk key (by simp only [List.flatMap_cons, List.mem_append]; rw [h1]; exact .inl hkey)
      · exact readL_same h2 (fun key hkey => hk key (by simp only [List.flatMap_cons, List.mem_append]; exact .inr hkey)) v hv
    · cases h

theorem absOp0_congr (op : Op) (h : ∀ x ∈ op.operands, ρ x = ρ' x) (hf : ∀ key ∈ footOf ρ op, findObj key objs = findObj key objs') : absOp0 P ρ objs K op = absOp0 P ρ' objs' K op := by
  unfold absOp0
  split
  · rename_i x; rw [h x (by simp [Op.operands])]
  · rename_i x; rw [h x (by simp [Op.operands])]
  · rfl
  · rename_i x; rw [h x (by simp [Op.operands])]
  · rename_i t len parts
    exact buildSliceA_congr parts.toList (fun x hx => h x (by
      obtain ⟨p, hp, rfl⟩ := List.mem_map.1 hx
      simp only [Op.operands, List.mem_toArray, List.mem_map]
      exact ⟨p, hp, rfl⟩))
  · rename_i t parts
    rw [readParts_congr parts.toList (fun x hx => h x (by
      obtain ⟨p, hp, rfl⟩ := List.mem_map.1 hx
      simp only [Op.operands, List.mem_toArray, List.mem_map]
      exact ⟨p, hp, rfl⟩))]
  · rename_i t x
    rw [← h x (by simp [Op.operands])]
    cases hx : ρ x with
    | none => rfl
    | some v => exact loadA_congr (by rw [← hx]; exact hf)
  · rename_i t x y
    rw [← h x (by simp [Op.operands]), ← h y (by simp [Op.operands])]
    cases hx : ρ x with
    | none => rfl
    | some v => cases hy : ρ y with
      | none => rfl
      | some u => exact storeA_congr (by rw [← hx]; exact hf)
  · rename_i x; rw [h x (by simp [Op.operands])]
  · rename_i x y _; rw [h x (by simp [Op.operands]), h y (by simp [Op.operands])]
  · rename_i x; rw [h x (by simp [Op.operands])]
  · rename_i x; rw [h x (by simp [Op.operands])]
  · rename_i x; rw [h x (by simp [Op.operands])]
  · rename_i first caps
    rw [readL_congr first.toList (fun x hx => h x (by simp only [Op.operands, Array.mem_append]; exact .inl (by simpa using hx))),
      readL_congr caps.toList (fun x hx => h x (by simp only [Op.operands, Array.mem_append]; exact .inr (by simpa using hx)))]
  · rename_i x _
    rw [← h x (by simp [Op.operands])]
    cases hx : ρ x with
    | none => rfl
    | some v =>
      have hv : SameAt objs objs' (some v) := by rw [← hx]; exact hf
      split
      · rename_i v' fd he _
        cases he
        split
        · exact fieldAddrA_congr hv
        · rfl
      · rfl
  · rename_i x _; rw [h x (by simp [Op.operands])]
  · rename_i x i; rw [h x (by simp [Op.operands]), h i (by simp [Op.operands])]
  · rename_i x i
    rw [← h x (by simp [Op.operands]), ← h i (by simp [Op.operands])]
    cases hx : ρ x with
    | none => rfl
    | some v => cases hi : ρ i with
      | none => rfl
      | some u => exact indexAddrA_congr (by rw [← hx]; exact hf)
  · rename_i x _; rw [h x (by simp [Op.operands])]
  · rename_i t x lo hi
    rw [← h x (by simp [Op.operands]), readB_congr (ρ := ρ) (ρ' := ρ') lo (fun y hy => h y (by subst hy; simp [Op.operands])), readB_congr (ρ := ρ) (ρ' := ρ') hi (fun y hy => h y (by subst hy; simp [Op.operands]))]
    cases hx : ρ x with
    | none => rfl
    | some v =>
      have hv : SameAt objs objs' (some v) := by rw [← hx]; exact hf
      split
      · rename_i v' lo hi he _ _
        cases he
        exact sliceA_congr hv
      · rfl
  · rename_i t x lo hi mx
    rw [← h x (by simp [Op.operands]), ← h mx (by simp [Op.operands]), readB_congr (ρ := ρ) (ρ' := ρ') lo (fun y hy => h y (by subst hy; simp [Op.operands])), readB_congr (ρ := ρ) (ρ' := ρ') hi (fun y hy => h y (by subst hy; simp [Op.operands]))]
    have e1 : hi.bind ρ = hi.bind ρ' := by
      cases hi with
      | none => rfl
      | some y => exact h y (by simp [Op.operands])
    rw [← e1]
    cases hx : ρ x with
    | none => rfl
    | some v =>
      have hv : SameAt objs objs' (some v) := by rw [← hx]; exact hf
      simp only []
      rw [slice0A_congr hv]
      simp only [slice3A_congr hv]
  · rfl
  · rename_i t x ix ok
    rw [← h x (by simp [Op.operands]), ← h ix (by simp [Op.operands])]
    cases hx : ρ x with
    | none => rfl
    | some v => cases hi : ρ ix with
      | none => rfl
      | some u => exact lookupA_congr (by rw [← hx]; exact hf)
  · rename_i t x ix y
    rw [← h x (by simp [Op.operands]), ← h ix (by simp [Op.operands]), ← h y (by simp [Op.operands])]
    cases hx : ρ x with
    | none => rfl
    | some v => cases hi : ρ ix with
      | none => rfl
      | some u => cases hy : ρ y with
        | none => rfl
        | some z => exact mapUpdateA_congr (by rw [← hx]; exact hf)
  · rename_i b args argTypes
    rw [← readL_congr args.toList (fun x hx => h x (by simp only [Op.operands, Call.operands, Array.mem_append]; exact .inr (by simpa using hx)))]
    cases hvs : readL ρ args.toList with
    | none => rfl
    | some vs =>
      have hsame := readL_same (objs := objs) (objs' := objs') hvs hf
      simp only []
      split
      · rfl
      · rfl
      · split
        · rename_i x; exact lenA_congr (hsame x (by simp))
        · rfl
      · split
        · rename_i s x t t' _
          rw [appendOpA_congr (hsame s (by simp)) (hsame x (by simp)), appendVwA_congr (hsame s (by simp)) (hsame x (by simp))]
        · rfl
      · split
        · rename_i x t _
          exact clearA_congr (hsame x (by simp))
        · rfl
      · rfl
  · rfl
theorem absOp_congr (op : Op) (h : ∀ x ∈ op.operands, ρ x = ρ' x) (hf : ∀ key ∈ footOf ρ op, findObj key objs = findObj key objs') : absOp P ρ objs K op = absOp P ρ' objs' K op := by
  have hw : ∀ x ∈ op.operands, (ρ x).map AV.weak = (ρ' x).map AV.weak := fun x hx => by rw [h x hx]
  have kw : ∀ v : Option AV, keyOf (v.map AV.weak) = keyOf v := by
    intro v
    cases v with
    | none => rfl
    | some v => cases v with
      | val u => cases u <;> rfl
      | _ => rfl
  have fw : ∀ op, footOf (fun z => (ρ z).map AV.weak) op = footOf ρ op := by
    intro op
    unfold footOf
    split <;> simp only [kw]
  have w0 : absOp0 P (fun z => (ρ z).map AV.weak) objs K op = absOp0 P (fun z => (ρ' z).map AV.weak) objs' K op := absOp0_congr _ hw (fun key hk => by rw [fw] at hk; exact hf key hk)
  unfold absOp
  split
  · rename_i x y _
    rw [h x (by simp [Op.operands]), h y (by simp [Op.operands]), w0]
  · rename_i x
    rw [h x (by simp [Op.operands]), w0]
  · rename_i x
    rw [h x (by simp [Op.operands]), w0]
  · exact w0
  · exact w0
  · exact absOp0_congr _ h hf

/-! ### calls by contract -/
theorem canK_congr {t : Option TypeId} {k i : Nat} {acc acc' : List Entry} (h : canK P objs t k acc = some (i, acc')) :
    (∀ x ∈ acc, x ∈ acc') ∧ ((∀ x ∈ acc', ∀ k, x.key = some k → findObj k objs = findObj k objs') → canK P objs' t k acc = some (i, acc')) := by
  unfold canK at h ⊢
  split at h
  · rename_i j hj
    cases h
    exact ⟨fun _ hx => hx, fun _ => rfl⟩
  · rename_i hn
    split at h
    · rename_i o ho
      cases h
      refine ⟨fun x hx => by simp [hx], fun hs => ?_⟩
      rw [← hs ⟨some k, o.own, match o.body with | .nil => nilBody P t | b => b⟩ (List.mem_append.2 (.inr (List.mem_singleton.2 rfl))) k rfl, ho]
    · cases h
mutual
theorem canV_congr : ∀ (v : AV) (t : Option TypeId) (acc : List Entry) (v' : AV) (acc' : List Entry), canV P objs t v acc = some (v', acc') →
    (∀ x ∈ acc, x ∈ acc') ∧ ((∀ x ∈ acc', ∀ k, x.key = some k → findObj k objs = findObj k objs') → canV P objs' t v acc = some (v', acc'))
  | .sl k, t, acc, v', acc', h => by
    unfold canV at h ⊢
    split at h
    · rename_i i acc1 hc
      cases h
      obtain ⟨a, b⟩ := canK_congr (objs' := objs') hc
      exact ⟨a, fun hs => by rw [b hs]⟩
    · cases h
  | .ptr k off, t, acc, v', acc', h => by
    unfold canV at h ⊢
    split at h
    · rename_i i acc1 hc
      cases h
      obtain ⟨a, b⟩ := canK_congr (objs' := objs') hc
      exact ⟨a, fun hs => by rw [b hs]⟩
    · cases h
  | .fn f first caps, t, acc, v', acc', h => by
    unfold canV at h ⊢
    split at h
    · rename_i first' acc1 h1
      split at h
      · rename_i caps' acc2 h2
        cases h
        obtain ⟨a, b⟩ := canL_congr first [] acc first' acc1 h1
        obtain ⟨a', b'⟩ := canL_congr caps [] acc1 caps' acc' h2
        exact ⟨fun x hx => a' x (a x hx), fun hs => by rw [b (fun x hx => hs x (a' x hx))]; simp only []; rw [b' hs]⟩
      · cases h
    · cases h
  | .agg cs, t, acc, v', acc', h => by
    unfold canV at h ⊢
    split at h
    · rename_i cs' acc1 h1
      cases h
      obtain ⟨a, b⟩ := canL_congr cs _ acc cs' acc' h1
      exact ⟨a, fun hs => by rw [b hs]⟩
    · cases h
  | .tup cs, t, acc, v', acc', h => by
    unfold canV at h ⊢
    split at h
    · rename_i cs' acc1 h1
      cases h
      obtain ⟨a, b⟩ := canL_congr cs _ acc cs' acc' h1
      exact ⟨a, fun hs => by rw [b hs]⟩
    · cases h
  | .yl _, t, acc, v', acc', h => by cases h
  | .ix _ _ _ _ _, t, acc, v', acc', h => by cases h
  | .vw _ _ _ _, t, acc, v', acc', h => by cases h
  | .bool b, t, acc, v', acc', h => by simp only [canV] at h ⊢; cases h; exact ⟨fun _ hx => hx, fun _ => rfl⟩
  | .int k b, t, acc, v', acc', h => by simp only [canV] at h ⊢; cases h; exact ⟨fun _ hx => hx, fun _ => rfl⟩
  | .val v, t, acc, v', acc', h => by
    by_cases hv : v = .slice none 0 0
    · subst hv
      simp only [canV] at h ⊢
      split at h
      · cases h; exact ⟨fun x hx => by simp [hx], fun _ => rfl⟩
      · cases h; exact ⟨fun _ hx => hx, fun _ => rfl⟩
    · have e : ∀ objs, canV P objs t (.val v) acc = some (.val v, acc) := by
        intro objs
        unfold canV
        split <;> first | rfl | (rename_i heq; cases heq; exact absurd rfl hv) | (rename_i heq; cases heq)
      rw [e] at h
      cases h
      exact ⟨fun _ hx => hx, fun _ => e _⟩
theorem canL_congr : ∀ (l : List AV) (ts : List TypeId) (acc : List Entry) (l' : List AV) (acc' : List Entry), canL P objs ts l acc = some (l', acc') →
    (∀ x ∈ acc, x ∈ acc') ∧ ((∀ x ∈ acc', ∀ k, x.key = some k → findObj k objs = findObj k objs') → canL P objs' ts l acc = some (l', acc'))
  | [], ts, acc, l', acc', h => by cases h; exact ⟨fun _ hx => hx, fun _ => by unfold canL; rfl⟩
  | a :: r, ts, acc, l', acc', h => by
    unfold canL at h ⊢
    split at h
    · rename_i a' acc1 h1
      split at h
      · rename_i r' acc2 h2
        cases h
        obtain ⟨x1, x2⟩ := canV_congr a _ acc a' acc1 h1
        obtain ⟨y1, y2⟩ := canL_congr r _ acc1 r' acc' h2
        exact ⟨fun x hx => y1 x (x1 x hx), fun hs => by rw [x2 (fun x hx => hs x (y1 x hx))]; simp only []; rw [y2 hs]⟩
      · cases h
    · cases h
end
theorem canRows_keys : ∀ {es0 es : List Entry}, canRows P es0 = some es → es.map (·.key) = es0.map (·.key)
  | [], es, h => by cases h; rfl
  | x :: r, es, h => by
    have key : ∀ b : Body, ((canRows P r).map ({ x with body := b } :: ·)) = some es → es.map (·.key) = (x :: r).map (·.key) := by
      intro b h
      cases hr : canRows P r with
      | none => rw [hr] at h; cases h
      | some es' => rw [hr] at h; cases h; simp [canRows_keys hr]
    unfold canRows at h
    obtain ⟨xk, xo, xb⟩ := x
    cases xb with
    | row e ks l => exact key _ h
    | nil => exact key _ h
    | arr e sz els =>
      simp only [] at h
      split at h
      · exact key _ h
      · cases h
    | cells => cases h
    | mp => cases h
    | fin => cases h
    | loop => cases h
theorem callK_congr {f : FuncId} {args : List AV} {ft : List Nat} {y : Eff} (h : callK P Γ f args objs K = some (ft, y)) (hf : ∀ key ∈ ft, findObj key objs = findObj key objs') : callK P Γ f args objs' K = some (ft, y) := by
  have h0 := h
  unfold callK at h
  split at h
  case h_2 => cases h
  rename_i args' es0 hcan
  split at h
  case h_2 => cases h
  rename_i es hrows
  split at h
  case h_2 => cases h
  rename_i o' hobjs
  split at h
  case h_2 => cases h
  rename_i x hx
  split at h
  case h_2 => cases h
  rename_i y' hy
  cases h
  have hkeys := canRows_keys hrows
  have hcan' := (canL_congr (objs' := objs') _ _ _ _ _ hcan).2 (fun x hx k hk => hf k (by
    have h1 : some k ∈ es0.map (·.key) := List.mem_map.2 ⟨x, hx, hk⟩
    rw [← hkeys] at h1
    obtain ⟨z, hz, hzk⟩ := List.mem_map.1 h1
    exact List.mem_filterMap.2 ⟨z, hz, hzk⟩))
  unfold callK at h0 ⊢
  rw [hcan] at h0
  rw [hcan']
  exact h0
theorem findObj_append (k : Nat) : ∀ a b : List Obj, findObj k (a ++ b) = match findObj k a with | some o => some o | none => findObj k b
  | [], b => rfl
  | x :: r, b => by
    simp only [List.cons_append, findObj]
    split
    · rfl
    · exact findObj_append k r b
theorem findObj_filter (k K : Nat) : ∀ l : List Obj, findObj k (l.filter fun o => Nat.blt o.key K) = if k < K then findObj k l else none
  | [] => by simp [findObj]
  | x :: r => by
    have ih := findObj_filter k K r
    rw [List.filter_cons]
    by_cases hx : Nat.blt x.key K = true
    · rw [if_pos hx]
      simp only [findObj]
      split
      · rename_i he
        have := Nat.eq_of_beq_eq_true he
        rw [if_pos (by rw [← this]; simpa using hx)]
      · exact ih
    · rw [if_neg hx, ih]
      split
      · rename_i hk
        simp only [findObj]
        rw [if_neg]
        intro he
        have := Nat.eq_of_beq_eq_true he
        exact hx (by simp; omega)
      · rfl
theorem viewsA_congr : ∀ {args : List AV} {K : Nat} {args' : List AV} {add : List Obj} {ft : List Nat} {p : Option Prop}, viewsA P objs K args = some (args', add, ft, p) → (∀ key ∈ ft, findObj key objs = findObj key objs') → viewsA P objs' K args = some (args', add, ft, p) ∧ ∀ o ∈ add, K ≤ o.key
  | [], K, args', add, ft, p, h, _ => by cases h; exact ⟨rfl, by simp⟩
  | a :: r, K, args', add, ft, p, h, hf => by
    unfold viewsA at h ⊢
    split at h
    · rename_i ha
      split at h
      · rename_i k b p1 r' add' ft' q hs hr
        cases h
        obtain ⟨i1, i2⟩ := viewsA_congr hr (fun key hk => hf key (List.mem_cons_of_mem _ hk))
        have hs' : srcA P objs' a = some (k, b, p1) := by
          rw [← hs]
          refine (srcA_congr (fun key hk => ?_)).symm
          cases a <;> simp [isVw] at ha
          rename_i key0 _ _ _
          simp only [keyOf, List.mem_singleton] at hk
          subst hk
          have : k = key := by
            simp only [srcA] at hs
            repeat' split at hs
            all_goals first | (cases hs; rfl) | cases hs
          exact hf key (by rw [this]; exact List.mem_cons_self)
        simp only [hs', i1]
        refine ⟨trivial, fun o ho => ?_⟩
        rcases List.mem_cons.1 ho with rfl | ho
        · exact Nat.le_refl _
        · have := i2 o ho; omega
      · cases h
    · rename_i ha
      split at h
      · rename_i r' add' ft' q hr
        cases h
        obtain ⟨i1, i2⟩ := viewsA_congr hr hf
        simp only [i1]
        exact ⟨trivial, i2⟩
      · cases h
theorem callC_congr {f : FuncId} {args : List AV} {ft : List Nat} {y : Eff} (h : callC P Γ f args objs K = some (ft, y)) (hf : ∀ key ∈ ft, findObj key objs = findObj key objs') : callC P Γ f args objs' K = some (ft, y) := by
  unfold callC at h ⊢
  split at h
  · exact callK_congr h hf
  · split at h
    case h_2 => cases h
    rename_i args' add ft1 p hv
    split at h
    case h_2 => cases h
    rename_i ft' x hc
    cases h
    obtain ⟨i1, i2⟩ := viewsA_congr (objs' := objs') hv (fun key hk => hf key (List.mem_append.2 (.inl hk)))
    have hc' := callK_congr (objs' := add ++ objs'.filter fun o => Nat.blt o.key K) hc (fun key hk => by
      rw [findObj_append, findObj_append]
      cases findObj key add with
      | some o => rfl
      | none =>
        simp only []
        rw [findObj_filter, findObj_filter]
        split
        · rename_i hlt
          exact hf key (List.mem_append.2 (.inr (List.mem_filter.2 ⟨hk, by simpa using hlt⟩)))
        · rfl)
    simp only [i1, hc']
theorem readS_congr {ctx : Ctx} {s s' : Slots} (x : Operand) (h : ∀ t, x = .tmp t → s t = s' t) : readS ctx s x = readS ctx s' x := by
  cases x with
  | tmp t => simp only [readS, h t rfl]
  | _ => rfl
theorem pickA_congr {ctx : Ctx} {s s' : Slots} {c a b : Operand} (h : ∀ x ∈ [c, a, b], ∀ t, x = .tmp t → s t = s' t) : pickA ctx s c a b = pickA ctx s' c a b := by
  have e : ∀ side x, x ∈ [c, a, b] → pickSide ctx s c side x = pickSide ctx s' c side x := by
    intro side x hx
    cases x with
    | tmp t => simp only [pickSide, h _ hx t rfl]
    | _ => rfl
  unfold pickA pickA0 shortA
  rw [readS_congr c (h c (by simp)), e true a (by simp), e false b (by simp)]
theorem guardChain_congr {s s' : Slots} : ∀ (m g : Nat) (want : Bool) (ctx : Ctx), guardChain s m g want = some ctx → (∀ c ∈ ctx, s' c.1 = s c.1) → guardChain s' m g want = some ctx
  | 0, _, _, _, h, _ => by cases h
  | m + 1, g, want, ctx, h, hs => by
    unfold guardChain at h
    split at h
    · rename_i v hg
      split at h
      case h_2 => cases h
      rename_i b hv
      cases h
      have e := hs (g, want, b) (by simp)
      unfold guardChain
      simp only [e, hg, hv]
    · rename_i g1 w1 v hg
      split at h
      case h_2 => cases h
      rename_i b hv
      cases hr : guardChain s m g1 w1 with
      | none => rw [hr] at h; cases h
      | some r =>
        rw [hr] at h
        cases h
        have e := hs (g, want, b) (by simp)
        have ih := guardChain_congr (s' := s') m g1 w1 r hr (fun c hc => hs c (List.mem_cons_of_mem _ hc))
        unfold guardChain
        simp only [e, hg, hv, ih]
        rfl
    · cases h
theorem guardChain_head {s : Slots} {m g : Nat} {want : Bool} {ctx : Ctx} (h : guardChain s m g want = some ctx) : ∃ b r, ctx = (g, want, b) :: r := by
  cases m with
  | zero => cases h
  | succ m =>
    unfold guardChain at h
    split at h
    · split at h
      · cases h; exact ⟨_, _, rfl⟩
      · cases h
    · rename_i g1 w1 v _
      split at h
      case h_2 => cases h
      rename_i b _
      cases hr : guardChain s m g1 w1 with
      | none => rw [hr] at h; cases h
      | some r => rw [hr] at h; cases h; exact ⟨b, r, rfl⟩
    · cases h
end congr
end Go.Sy
