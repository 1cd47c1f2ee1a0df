/-
  The executor is sound: regions that draw their order (the same operation in another state).
-/
import Derived.Test.YtcpikjablgbegaaSyQ
set_option linter.unusedVariables false
namespace Go.Sy
open Go.RowKit

section congr
variable {P : Program} {Γ : Con} {ρ ρ' : Operand → Option AV} {objs objs' : List Obj} {K : Nat}
theorem readL_congr : ∀ (l : List Operand), (∀ x ∈ l, ρ x = ρ' x) → readL ρ l = readL ρ' l
  | [], _ => rfl
  | x :: r, h => by
    unfold readL
    rw [h x (by simp), readL_congr r (fun y hy => h y (by simp [hy]))]
theorem readParts_congr : ∀ (l : List (Nat × Operand)), (∀ x ∈ l.map (·.2), ρ x = ρ' x) → readParts ρ l = readParts ρ' l
  | [], _ => rfl
  | (i, x) :: r, h => by
    unfold readParts
    rw [h x (by simp), readParts_congr r (fun y hy => h y (by simp at hy ⊢; exact .inr hy))]
theorem readEls_congr {sz : Nat} : ∀ (l : List (Nat × Operand)) (j : Nat), (∀ x ∈ l.map (·.2), ρ x = ρ' x) → readEls ρ sz j l = readEls ρ' sz j l
  | [], _, _ => rfl
  | (i, x) :: r, j, h => by
    unfold readEls
    rw [h x (by simp), readEls_congr r (j + 1) (fun y hy => h y (by simp at hy ⊢; exact .inr hy))]
theorem buildSliceA_congr {t : TypeId} {len : Nat} (l : List (Nat × Operand)) (h : ∀ x ∈ l.map (·.2), ρ x = ρ' x) : buildSliceA P ρ K t len l = buildSliceA P ρ' K t len l := by
  unfold buildSliceA
  simp only [readEls_congr l 0 h]
theorem readB_congr (x : Option Operand) (h : ∀ y, x = some y → ρ y = ρ' y) : readB ρ x = readB ρ' x := by
  cases x with
  | none => rfl
  | some y => simp only [readB, h y rfl]

/-- The same object under a value's key. -/
def SameAt (objs objs' : List Obj) (v : Option AV) : Prop := ∀ key ∈ keyOf v, findObj key objs = findObj key objs'
theorem loadA_congr {t : TypeId} {v : AV} (h : SameAt objs objs' (some v)) : loadA P objs t v = loadA P objs' t v := by
  cases v <;> first | rfl | (simp only [loadA]; rw [h _ (by simp [keyOf])])
theorem storeA_congr {t : TypeId} {v x : AV} (h : SameAt objs objs' (some x)) : storeA P objs K t v x = storeA P objs' K t v x := by
  cases x <;> first | rfl | (simp only [storeA]; rw [h _ (by simp [keyOf])])
theorem indexAddrA_congr {t : TypeId} {x i : AV} (h : SameAt objs objs' (some x)) : indexAddrA P objs t x i = indexAddrA P objs' t x i := by
  unfold indexAddrA
  split
  · rfl
  · rename_i e _
    cases x with
    | sl key =>
      have hk : findObj key objs = findObj key objs' := h key (by simp [keyOf])
      generalize intA i = oi
      generalize sizeA P e = os
      cases oi with
      | none => rfl
      | some n => cases os with
        | none => rfl
        | some s => cases s with
          | zero => rfl
          | succ s => simp only [hk]
    | _ => rfl
  · rfl
theorem fieldAddrA_congr {d : Nat} {x : AV} (h : SameAt objs objs' (some x)) : fieldAddrA P objs d x = fieldAddrA P objs' d x := by
  cases x <;> first | rfl | (simp only [fieldAddrA]; rw [h _ (by simp [keyOf])])
theorem sliceA_congr {t : TypeId} {x : AV} {lo hi : Option Int} (h : SameAt objs objs' (some x)) : sliceA P objs K t x lo hi = sliceA P objs' K t x lo hi := by
  cases x <;> first | rfl | (simp only [sliceA]; rw [h _ (by simp [keyOf])])
theorem lenA_congr {t : Option TypeDesc} {x : AV} (h : SameAt objs objs' (some x)) : lenA objs t x = lenA objs' t x := by
  unfold lenA
  split
  · rename_i e key
    have hk : findObj key objs = findObj key objs' := h key (by simp [keyOf])
    rw [hk]
  · rfl
  · rfl
theorem appendOpA_congr {t : TypeId} {s x : AV} (hs : SameAt objs objs' (some s)) (h : SameAt objs objs' (some x)) : appendOpA P objs K t s x = appendOpA P objs' K t s x := by
  cases x with
  | sl key2 =>
    have h2 : findObj key2 objs = findObj key2 objs' := h key2 (by simp [keyOf])
    cases s with
    | sl k =>
      have h1 : findObj k objs = findObj k objs' := hs k (by simp [keyOf])
      simp only [appendOpA, h1, h2]
    | _ => simp only [appendOpA, h2]
  | _ => rfl
theorem lookupA_congr {t : TypeId} {x ix : AV} {ok : Bool} (h : SameAt objs objs' (some x)) : lookupA P objs t x ix ok = lookupA P objs' t x ix ok := by
  cases x <;> first | rfl | (simp only [lookupA]; rw [h _ (by simp [keyOf])])
theorem mapUpdateA_congr {t : TypeId} {x ix v : AV} (h : SameAt objs objs' (some x)) : mapUpdateA P objs K t x ix v = mapUpdateA P objs' K t x ix v := by
  cases x <;> first | rfl | (simp only [mapUpdateA]; rw [h _ (by simp [keyOf])])
theorem readL_same : ∀ {l : List Operand} {vs : List AV}, readL ρ l = some vs → (∀ key ∈ l.flatMap (fun x => keyOf (ρ x)), findObj key objs = findObj key objs') → ∀ v ∈ vs, SameAt objs objs' (some v)
  | [], vs, h, _, v, hv => by cases h; cases hv
  | x :: r, vs, h, hk, v, hv => by
    unfold readL at h
    split at h
    · rename_i u us h1 h2
      cases h
      rcases List.mem_cons.1 hv with rfl | hv
      · intro key hkey
        exact hk key (by simp only [List.flatMap_cons, List.mem_append]; rw [h1]; exact .inl hkey)
      · exact readL_same h2 (fun key hkey => hk key (by simp only [List.flatMap_cons, List.mem_append]; exact .inr hkey)) v hv
    · cases h

theorem absOp0_congr (op : Op) (h : ∀ x ∈ op.operands, ρ x = ρ' x) (hf : ∀ key ∈ footOf ρ op, findObj key objs = findObj key objs') : absOp0 P ρ objs K op = absOp0 P ρ' objs' K op := by
  unfold absOp0
  split
  · rename_i x; rw [h x (by simp [Op.operands])]
  · rename_i x; rw [h x (by simp [Op.operands])]
  · rfl
  · rename_i x; rw [h x (by simp [Op.operands])]
  · rename_i t len parts
    exact buildSliceA_congr parts.toList (fun x hx => h x (by
      obtain ⟨p, hp, rfl⟩ := List.mem_map.1 hx
      simp only [Op.operands, List.mem_toArray, List.mem_map]
      exact ⟨p, hp, rfl⟩))
  · rename_i t parts
    rw [readParts_congr parts.toList (fun x hx => h x (by
      obtain ⟨p, hp, rfl⟩ := List.mem_map.1 hx
      simp only [Op.operands, List.mem_toArray, List.mem_map]
      exact ⟨p, hp, rfl⟩))]
  · rename_i t x
    rw [← h x (by simp [Op.operands])]
    cases hx : ρ x with
    | none => rfl
    | some v => exact loadA_congr (by rw [← hx]; exact hf)
  · rename_i t x y
    rw [← h x (by simp [Op.operands]), ← h y (by simp [Op.operands])]
    cases hx : ρ x with
    | none => rfl
    | some v => cases hy : ρ y with
      | none => rfl
      | some u => exact storeA_congr (by rw [← hx]; exact hf)
  · rename_i x; rw [h x (by simp [Op.operands])]
  · rename_i x y _; rw [h x (by simp [Op.operands]), h y (by simp [Op.operands])]
  · rename_i x; rw [h x (by simp [Op.operands])]
  · rename_i x; rw [h x (by simp [Op.operands])]
  · rename_i x; rw [h x (by simp [Op.operands])]
  · rename_i first caps
    rw [readL_congr first.toList (fun x hx => h x (by simp only [Op.operands, Array.mem_append]; exact .inl (by simpa using hx))),
      readL_congr caps.toList (fun x hx => h x (by simp only [Op.operands, Array.mem_append]; exact .inr (by simpa using hx)))]
  · rename_i x _
    rw [← h x (by simp [Op.operands])]
    cases hx : ρ x with
    | none => rfl
    | some v =>
      have hv : SameAt objs objs' (some v) := by rw [← hx]; exact hf
      split
      · rename_i v' fd he _
        cases he
        split
        · exact fieldAddrA_congr hv
        · rfl
      · rfl
  · rename_i x _; rw [h x (by simp [Op.operands])]
  · rename_i x i; rw [h x (by simp [Op.operands]), h i (by simp [Op.operands])]
  · rename_i x i
    rw [← h x (by simp [Op.operands]), ← h i (by simp [Op.operands])]
    cases hx : ρ x with
    | none => rfl
    | some v => cases hi : ρ i with
      | none => rfl
      | some u => exact indexAddrA_congr (by rw [← hx]; exact hf)
  · rename_i x _; rw [h x (by simp [Op.operands])]
  · rename_i t x lo hi
    rw [← h x (by simp [Op.operands]), readB_congr (ρ := ρ) (ρ' := ρ') lo (fun y hy => h y (by subst hy; simp [Op.operands])), readB_congr (ρ := ρ) (ρ' := ρ') hi (fun y hy => h y (by subst hy; simp [Op.operands]))]
    cases hx : ρ x with
    | none => rfl
    | some v =>
      have hv : SameAt objs objs' (some v) := by rw [← hx]; exact hf
      split
      · rename_i v' lo hi he _ _
        cases he
        exact sliceA_congr hv
      · rfl
  · rfl
  · rename_i t x ix ok
    rw [← h x (by simp [Op.operands]), ← h ix (by simp [Op.operands])]
    cases hx : ρ x with
    | none => rfl
    | some v => cases hi : ρ ix with
      | none => rfl
      | some u => exact lookupA_congr (by rw [← hx]; exact hf)
  · rename_i t x ix y
    rw [← h x (by simp [Op.operands]), ← h ix (by simp [Op.operands]), ← h y (by simp [Op.operands])]
    cases hx : ρ x with
    | none => rfl
    | some v => cases hi : ρ ix with
      | none => rfl
      | some u => cases hy : ρ y with
        | none => rfl
        | some z => exact mapUpdateA_congr (by rw [← hx]; exact hf)
  · rename_i b args argTypes
    rw [← readL_congr args.toList (fun x hx => h x (by simp only [Op.operands, Call.operands, Array.mem_append]; exact .inr (by simpa using hx)))]
    cases hvs : readL ρ args.toList with
    | none => rfl
    | some vs =>
      have hsame := readL_same (objs := objs) (objs' := objs') hvs hf
      simp only []
      split
      · rfl
      · rfl
      · split
        · rename_i x; exact lenA_congr (hsame x (by simp))
        · rfl
      · split
        · rename_i s x t t' _
          rw [appendOpA_congr (hsame s (by simp)) (hsame x (by simp))]
        · rfl
      · rfl
  · rfl
theorem absOp_congr (op : Op) (h : ∀ x ∈ op.operands, ρ x = ρ' x) (hf : ∀ key ∈ footOf ρ op, findObj key objs = findObj key objs') : absOp P ρ objs K op = absOp P ρ' objs' K op := by
  have hw : ∀ x ∈ op.operands, (ρ x).map AV.weak = (ρ' x).map AV.weak := fun x hx => by rw [h x hx]
  have kw : ∀ v : Option AV, keyOf (v.map AV.weak) = keyOf v := by
    intro v
    cases v with
    | none => rfl
    | some v => cases v with
      | val u => cases u <;> rfl
      | _ => rfl
  have fw : ∀ op, footOf (fun z => (ρ z).map AV.weak) op = footOf ρ op := by
    intro op
    unfold footOf
    split <;> simp only [kw]
  have w0 : absOp0 P (fun z => (ρ z).map AV.weak) objs K op = absOp0 P (fun z => (ρ' z).map AV.weak) objs' K op := absOp0_congr _ hw (fun key hk => by rw [fw] at hk; exact hf key hk)
  unfold absOp
  split
  · rename_i x y _
    rw [h x (by simp [Op.operands]), h y (by simp [Op.operands]), w0]
  · rename_i x
    rw [h x (by simp [Op.operands]), w0]
  · rename_i x
    rw [h x (by simp [Op.operands]), w0]
  · exact w0
  · exact w0
  · exact absOp0_congr _ h hf

/-! ### calls by contract -/
theorem canK_congr {t : Option TypeId} {k i : Nat} {acc acc' : List Entry} (h : canK P objs t k acc = some (i, acc')) :
    (∀ x ∈ acc, x ∈ acc') ∧ ((∀ x ∈ acc', ∀ k, x.key = some k → findObj k objs = findObj k objs') → canK P objs' t k acc = some (i, acc')) := by
  unfold canK at h ⊢
  split at h
  · rename_i j hj
    cases h
    exact ⟨fun _ hx => hx, fun _ => rfl⟩
  · rename_i hn
    split at h
    · rename_i o ho
      cases h
      refine ⟨fun x hx => by simp [hx], fun hs => ?_⟩
      rw [← hs ⟨some k, o.own, match o.body with | .nil => nilBody P t | b => b⟩ (List.mem_append.2 (.inr (List.mem_singleton.2 rfl))) k rfl, ho]
    · cases h
mutual
theorem canV_congr : ∀ (v : AV) (t : Option TypeId) (acc : List Entry) (v' : AV) (acc' : List Entry), canV P objs t v acc = some (v', acc') →
    (∀ x ∈ acc, x ∈ acc') ∧ ((∀ x ∈ acc', ∀ k, x.key = some k → findObj k objs = findObj k objs') → canV P objs' t v acc = some (v', acc'))
  | .sl k, t, acc, v', acc', h => by
    unfold canV at h ⊢
    split at h
    · rename_i i acc1 hc
      cases h
      obtain ⟨a, b⟩ := canK_congr (objs' := objs') hc
      exact ⟨a, fun hs => by rw [b hs]⟩
    · cases h
  | .ptr k off, t, acc, v', acc', h => by
    unfold canV at h ⊢
    split at h
    · rename_i i acc1 hc
      cases h
      obtain ⟨a, b⟩ := canK_congr (objs' := objs') hc
      exact ⟨a, fun hs => by rw [b hs]⟩
    · cases h
  | .fn f first caps, t, acc, v', acc', h => by
    unfold canV at h ⊢
    split at h
    · rename_i first' acc1 h1
      split at h
      · rename_i caps' acc2 h2
        cases h
        obtain ⟨a, b⟩ := canL_congr first [] acc first' acc1 h1
        obtain ⟨a', b'⟩ := canL_congr caps [] acc1 caps' acc' h2
        exact ⟨fun x hx => a' x (a x hx), fun hs => by rw [b (fun x hx => hs x (a' x hx))]; simp only []; rw [b' hs]⟩
      · cases h
    · cases h
  | .agg cs, t, acc, v', acc', h => by
    unfold canV at h ⊢
    split at h
    · rename_i cs' acc1 h1
      cases h
      obtain ⟨a, b⟩ := canL_congr cs _ acc cs' acc' h1
      exact ⟨a, fun hs => by rw [b hs]⟩
    · cases h
  | .tup cs, t, acc, v', acc', h => by
    unfold canV at h ⊢
    split at h
    · rename_i cs' acc1 h1
      cases h
      obtain ⟨a, b⟩ := canL_congr cs _ acc cs' acc' h1
      exact ⟨a, fun hs => by rw [b hs]⟩
    · cases h
  | .yl _, t, acc, v', acc', h => by cases h
  | .ix _ _ _ _ _, t, acc, v', acc', h => by cases h
  | .bool b, t, acc, v', acc', h => by simp only [canV] at h ⊢; cases h; exact ⟨fun _ hx => hx, fun _ => rfl⟩
  | .int k b, t, acc, v', acc', h => by simp only [canV] at h ⊢; cases h; exact ⟨fun _ hx => hx, fun _ => rfl⟩
  | .val v, t, acc, v', acc', h => by
    by_cases hv : v = .slice none 0 0
    · subst hv
      simp only [canV] at h ⊢
      split at h
      · cases h; exact ⟨fun x hx => by simp [hx], fun _ => rfl⟩
      · cases h; exact ⟨fun _ hx => hx, fun _ => rfl⟩
    · have e : ∀ objs, canV P objs t (.val v) acc = some (.val v, acc) := by
        intro objs
        unfold canV
        split <;> first | rfl | (rename_i heq; cases heq; exact absurd rfl hv) | (rename_i heq; cases heq)
      rw [e] at h
      cases h
      exact ⟨fun _ hx => hx, fun _ => e _⟩
theorem canL_congr : ∀ (l : List AV) (ts : List TypeId) (acc : List Entry) (l' : List AV) (acc' : List Entry), canL P objs ts l acc = some (l', acc') →
    (∀ x ∈ acc, x ∈ acc') ∧ ((∀ x ∈ acc', ∀ k, x.key = some k → findObj k objs = findObj k objs') → canL P objs' ts l acc = some (l', acc'))
  | [], ts, acc, l', acc', h => by cases h; exact ⟨fun _ hx => hx, fun _ => by unfold canL; rfl⟩
  | a :: r, ts, acc, l', acc', h => by
    unfold canL at h ⊢
    split at h
    · rename_i a' acc1 h1
      split at h
      · rename_i r' acc2 h2
        cases h
        obtain ⟨x1, x2⟩ := canV_congr a _ acc a' acc1 h1
        obtain ⟨y1, y2⟩ := canL_congr r _ acc1 r' acc' h2
        exact ⟨fun x hx => y1 x (x1 x hx), fun hs => by rw [x2 (fun x hx => hs x (y1 x hx))]; simp only []; rw [y2 hs]⟩
      · cases h
    · cases h
end
theorem canRows_keys : ∀ {es0 es : List Entry}, canRows P es0 = some es → es.map (·.key) = es0.map (·.key)
  | [], es, h => by cases h; rfl
  | x :: r, es, h => by
    have key : ∀ b : Body, ((canRows P r).map ({ x with body := b } :: ·)) = some es → es.map (·.key) = (x :: r).map (·.key) := by
      intro b h
      cases hr : canRows P r with
      | none => rw [hr] at h; cases h
      | some es' => rw [hr] at h; cases h; simp [canRows_keys hr]
    unfold canRows at h
    obtain ⟨xk, xo, xb⟩ := x
    cases xb with
    | row e ks l => exact key _ h
    | nil => exact key _ h
    | arr e sz els =>
      simp only [] at h
      split at h
      · exact key _ h
      · cases h
    | cells => cases h
    | mp => cases h
    | loop => cases h
theorem callC_congr {f : FuncId} {args : List AV} {ft : List Nat} {y : Eff} (h : callC P Γ f args objs K = some (ft, y)) (hf : ∀ key ∈ ft, findObj key objs = findObj key objs') : callC P Γ f args objs' K = some (ft, y) := by
  have h0 := h
  unfold callC at h
  split at h
  case h_2 => cases h
  rename_i args' es0 hcan
  split at h
  case h_2 => cases h
  rename_i es hrows
  split at h
  case h_2 => cases h
  rename_i o' hobjs
  split at h
  case h_2 => cases h
  rename_i x hx
  split at h
  case h_2 => cases h
  rename_i y' hy
  cases h
  have hkeys := canRows_keys hrows
  have hcan' := (canL_congr (objs' := objs') _ _ _ _ _ hcan).2 (fun x hx k hk => hf k (by
    have h1 : some k ∈ es0.map (·.key) := List.mem_map.2 ⟨x, hx, hk⟩
    rw [← hkeys] at h1
    obtain ⟨z, hz, hzk⟩ := List.mem_map.1 h1
    exact List.mem_filterMap.2 ⟨z, hz, hzk⟩))
  unfold callC at h0 ⊢
  rw [hcan] at h0
  rw [hcan']
  exact h0
theorem readS_congr {ctx : Ctx} {s s' : Slots} (x : Operand) (h : ∀ t, x = .tmp t → s t = s' t) : readS ctx s x = readS ctx s' x := by
  cases x with
  | tmp t => simp only [readS, h t rfl]
  | _ => rfl
theorem pickA_congr {ctx : Ctx} {s s' : Slots} {c a b : Operand} (h : ∀ x ∈ [c, a, b], ∀ t, x = .tmp t → s t = s' t) : pickA ctx s c a b = pickA ctx s' c a b := by
  have e : ∀ side x, x ∈ [c, a, b] → pickSide ctx s c side x = pickSide ctx s' c side x := by
    intro side x hx
    cases x with
    | tmp t => simp only [pickSide, h _ hx t rfl]
    | _ => rfl
  unfold pickA
  rw [readS_congr c (h c (by simp)), e true a (by simp), e false b (by simp)]
theorem guardChain_congr {s s' : Slots} : ∀ (m g : Nat) (want : Bool) (ctx : Ctx), guardChain s m g want = some ctx → (∀ c ∈ ctx, s' c.1 = s c.1) → guardChain s' m g want = some ctx
  | 0, _, _, _, h, _ => by cases h
  | m + 1, g, want, ctx, h, hs => by
    unfold guardChain at h
    split at h
    · rename_i v hg
      split at h
      case h_2 => cases h
      rename_i b hv
      cases h
      have e := hs (g, want, b) (by simp)
      unfold guardChain
      simp only [e, hg, hv]
    · rename_i g1 w1 v hg
      split at h
      case h_2 => cases h
      rename_i b hv
      cases hr : guardChain s m g1 w1 with
      | none => rw [hr] at h; cases h
      | some r =>
        rw [hr] at h
        cases h
        have e := hs (g, want, b) (by simp)
        have ih := guardChain_congr (s' := s') m g1 w1 r hr (fun c hc => hs c (List.mem_cons_of_mem _ hc))
        unfold guardChain
        simp only [e, hg, hv, ih]
        rfl
    · cases h
theorem guardChain_head {s : Slots} {m g : Nat} {want : Bool} {ctx : Ctx} (h : guardChain s m g want = some ctx) : ∃ b r, ctx = (g, want, b) :: r := by
  cases m with
  | zero => cases h
  | succ m =>
    unfold guardChain at h
    split at h
    · split at h
      · cases h; exact ⟨_, _, rfl⟩
      · cases h
    · rename_i g1 w1 v _
      split at h
      case h_2 => cases h
      rename_i b _
      cases hr : guardChain s m g1 w1 with
      | none => rw [hr] at h; cases h
      | some r => rw [hr] at h; cases h; exact ⟨b, r, rfl⟩
    · cases h
end congr
end Go.Sy
