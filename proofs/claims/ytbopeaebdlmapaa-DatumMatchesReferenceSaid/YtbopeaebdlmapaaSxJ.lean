/-
  The executor is sound: regions that draw their order (the schedule).
-/
import Derived.Test.YtbopeaebdlmapaaSxI
namespace Go.Sx
open Go.RowKit

section congr
variable {P : Program} {ρ ρ' : Operand → Option AV} {H H' : Heap}
theorem readL_congr : ∀ (l : List Operand), (∀ x ∈ l, ρ x = ρ' x) → readL ρ l = readL ρ' l
  | [], _ => rfl
  | x :: r, h => by
    unfold readL
    rw [h x (by simp), readL_congr r (fun y hy => h y (by simp [hy]))]
theorem readParts_congr : ∀ (l : List (Nat × Operand)), (∀ x ∈ l.map (·.2), ρ x = ρ' x) → readParts ρ l = readParts ρ' l
  | [], _ => rfl
  | (i, x) :: r, h => by
    unfold readParts
    rw [h x (by simp), readParts_congr r (fun y hy => h y (by simp at hy ⊢; exact .inr hy))]
theorem absOp0_congr (op : Op) (h : ∀ x ∈ op.operands, ρ x = ρ' x) (hf : ∀ key, footOf ρ op = some key → findObj key H.objs = findObj key H'.objs) : absOp0 P ρ H op = absOp0 P ρ' H' op := by
  unfold absOp0
  split
  · rename_i x; rw [h x (by simp [Op.operands])]
  · rename_i x; rw [h x (by simp [Op.operands])]
  · rfl
  · rename_i x; rw [h x (by simp [Op.operands])]
  · rename_i t parts
    rw [readParts_congr parts.toList (fun x hx => h x (by
      obtain ⟨p, hp, rfl⟩ := List.mem_map.1 hx
      simp only [Op.operands, List.mem_toArray, List.mem_map]
      exact ⟨p, hp, rfl⟩))]
  · rename_i t x
    have hx := h x (by simp [Op.operands])
    rw [← hx]
    split
    · rename_i key off hr
      rw [hf key (by simp [footOf, hr])]
    · rfl
  · rename_i t x y
    have hx := h x (by simp [Op.operands])
    have hy := h y (by simp [Op.operands])
    rw [← hx, ← hy]
    split
    · rename_i key off v hr hr2
      rw [hf key (by simp [footOf, hr])]
    · rfl
  · rename_i x; rw [h x (by simp [Op.operands])]
  · rename_i x y _; rw [h x (by simp [Op.operands]), h y (by simp [Op.operands])]
  · rename_i x; rw [h x (by simp [Op.operands])]
  · rename_i x; rw [h x (by simp [Op.operands])]
  · rename_i first caps
    rw [readL_congr first.toList (fun x hx => h x (by simp only [Op.operands, Array.mem_append]; exact .inl (by simpa using hx))),
      readL_congr caps.toList (fun x hx => h x (by simp only [Op.operands, Array.mem_append]; exact .inr (by simpa using hx)))]
  · rename_i x _; rw [h x (by simp [Op.operands])]
  · rename_i x _; rw [h x (by simp [Op.operands])]
  · rename_i x i; rw [h x (by simp [Op.operands]), h i (by simp [Op.operands])]
  · rename_i x i; rw [h x (by simp [Op.operands]), h i (by simp [Op.operands])]
  · rename_i x _; rw [h x (by simp [Op.operands])]
  · rename_i args _
    rw [readL_congr args.toList (fun x hx => h x (by simp only [Op.operands, Call.operands, Array.mem_append]; exact .inr (by simpa using hx)))]
  · rfl
theorem absOp_congr (op : Op) (h : ∀ x ∈ op.operands, ρ x = ρ' x) (hf : ∀ key, footOf ρ op = some key → findObj key H.objs = findObj key H'.objs) : absOp P ρ H op = absOp P ρ' H' op := by
  have hw : ∀ x ∈ op.operands, (ρ x).map AV.weak = (ρ' x).map AV.weak := fun x hx => by rw [h x hx]
  unfold absOp
  split
  · rename_i x y _
    rw [h x (by simp [Op.operands]), h y (by simp [Op.operands]), absOp0_congr (ρ := fun z => (ρ z).map AV.weak) (ρ' := fun z => (ρ' z).map AV.weak) (H := H) (H' := H') _ hw (fun key hk => by simp [footOf] at hk)]
  · rename_i x
    rw [h x (by simp [Op.operands]), absOp0_congr (ρ := fun z => (ρ z).map AV.weak) (ρ' := fun z => (ρ' z).map AV.weak) (H := H) (H' := H') _ hw (fun key hk => by simp [footOf] at hk)]
  · rw [absOp0_congr (ρ := fun z => (ρ z).map AV.weak) (ρ' := fun z => (ρ' z).map AV.weak) (H := H) (H' := H') _ hw (fun key hk => by simp [footOf] at hk)]
  · exact absOp0_congr _ h hf
theorem readS_congr {ctx : Ctx} {s s' : Slots} (x : Operand) (h : ∀ t, x = .tmp t → s t = s' t) : readS ctx s x = readS ctx s' x := by
  cases x with
  | tmp t => simp only [readS, h t rfl]
  | _ => rfl
theorem pickA_congr {ctx : Ctx} {s s' : Slots} {c a b : Operand} (h : ∀ x ∈ [c, a, b], ∀ t, x = .tmp t → s t = s' t) : pickA ctx s c a b = pickA ctx s' c a b := by
  have e : ∀ side x, x ∈ [c, a, b] → pickSide ctx s c side x = pickSide ctx s' c side x := by
    intro side x hx
    cases x with
    | tmp t => simp only [pickSide, h _ hx t rfl]
    | _ => rfl
  unfold pickA
  rw [readS_congr c (h c (by simp)), e true a (by simp), e false b (by simp)]
theorem guardChain_congr {s s' : Slots} : ∀ (m g : Nat) (want : Bool) (ctx : Ctx), guardChain s m g want = some ctx → (∀ c ∈ ctx, s' c.1 = s c.1) → guardChain s' m g want = some ctx
  | 0, _, _, _, h, _ => by cases h
  | m + 1, g, want, ctx, h, hs => by
    unfold guardChain at h
    split at h
    · rename_i v hg
      split at h
      case h_2 => cases h
      rename_i b hv
      cases h
      have e := hs (g, want, b) (by simp)
      unfold guardChain
      simp only [e, hg, hv]
    · rename_i g1 w1 v hg
      split at h
      case h_2 => cases h
      rename_i b hv
      cases hr : guardChain s m g1 w1 with
      | none => rw [hr] at h; cases h
      | some r =>
        rw [hr] at h
        cases h
        have e := hs (g, want, b) (by simp)
        have ih := guardChain_congr (s' := s') m g1 w1 r hr (fun c hc => hs c (List.mem_cons_of_mem _ hc))
        unfold guardChain
        simp only [e, hg, hv, ih]
        rfl
    · cases h
theorem guardChain_head {s : Slots} {m g : Nat} {want : Bool} {ctx : Ctx} (h : guardChain s m g want = some ctx) : ∃ b r, ctx = (g, want, b) :: r := by
  cases m with
  | zero => cases h
  | succ m =>
    unfold guardChain at h
    split at h
    · split at h
      · cases h; exact ⟨_, _, rfl⟩
      · cases h
    · rename_i g1 w1 v _
      split at h
      case h_2 => cases h
      rename_i b _
      cases hr : guardChain s m g1 w1 with
      | none => rw [hr] at h; cases h
      | some r => rw [hr] at h; cases h; exact ⟨b, r, rfl⟩
    · cases h
end congr

section run
variable {P : Program} {Γ : Con} {call : CallFn} {ro N : Nat} {ops : Array Oper} {objs0 : List Obj}

def GuardAt (ops : Array Oper) (it : Item) (s : Slots) (seen : List Nat) : Prop :=
  match it.ctx with
  | [] => it.o.guard = none
  | (g, want, b) :: r => g ∈ seen ∧ guardChain s 9 g want = some ((g, want, b) :: r) ∧ ∃ j oj, it.o.guard = some (j, want) ∧ ops[j]? = some oj ∧ oj.dst = some g
def Chain (P : Program) (Γ : Con) (call : CallFn) (ro N : Nat) (ops : Array Oper) (objs0 : List Obj) : List Item → List Nat → Slots → Heap → Prop
  | [], _, _, _ => True
  | it :: r, seen, s, H => ∃ seen', seenAdd N it.o.dst seen = some seen' ∧ it.fine ro = true ∧ GuardAt ops it s seen ∧ stepD P Γ call it.o s objs0 H it.ctx = some it ∧
      Chain P Γ call ro N ops objs0 r seen' (put s it.o.dst it.slot) ⟨it.eff H.objs, effNext it H.next⟩

theorem stepD_o {o : Oper} {s : Slots} {H : Heap} {ctx : Ctx} {it : Item} (h : stepD P Γ call o s objs0 H ctx = some it) : it.o = o ∧ it.ctx = ctx ∧ it.key = H.next := by
  unfold stepD at h
  simp only [] at h
  split at h
  · split at h
    · cases h; exact ⟨rfl, rfl, rfl⟩
    · cases h
  · split at h
    · split at h
      · cases h; exact ⟨rfl, rfl, rfl⟩
      · cases h
    · cases h
  · cases h; exact ⟨rfl, rfl, rfl⟩

theorem ctxOf_guard {o : Oper} {s : Slots} {seen : List Nat} {ctx : Ctx} (h : ctxOf ops o s seen = some ctx) {it : Item} (e1 : it.o = o) (e2 : it.ctx = ctx) : GuardAt ops it s seen := by
  unfold ctxOf at h
  unfold GuardAt
  rw [e1, e2]
  split at h
  · rename_i hg
    cases h
    exact guardOf_none hg
  · rename_i g want hg
    split at h
    · rename_i hseen
      obtain ⟨b, r, rfl⟩ := guardChain_head h
      obtain ⟨x, hx, hb⟩ := List.any_eq_true.1 hseen
      exact ⟨by rw [Nat.eq_of_beq_eq_true hb]; exact hx, h, guardOf_some hg⟩
    · cases h
  · cases h

theorem runD_chain : ∀ (l : List Oper) (seen : List Nat) (s : Slots) (H : Heap) (L : List Item), runD P Γ call ro N ops objs0 l seen s H = some L → L.map (·.o) = l ∧ Chain P Γ call ro N ops objs0 L seen s H
  | [], seen, s, H, L, h => by cases h; exact ⟨rfl, trivial⟩
  | o :: rest, seen, s, H, L, h => by
    unfold runD at h
    split at h
    · rename_i seen' ctx hseen hctx
      split at h
      · rename_i it hit
        obtain ⟨e1, e2, e3⟩ := stepD_o hit
        split at h
        · rename_i hfine
          split at h
          · rename_i l hl
            cases h
            obtain ⟨h1, h2⟩ := runD_chain rest seen' _ _ l hl
            refine ⟨by simp [h1, e1], seen', by rw [e1]; exact hseen, hfine, ctxOf_guard hctx e1 e2, by rw [e1, e2]; exact hit, by rw [e1]; exact h2⟩
          · cases h
        · cases h
      · cases h
    · cases h

theorem stepD_lt {o : Oper} {s : Slots} {H : Heap} {ctx : Ctx} {it : Item} (hs : ∀ x v c, readS c s x = some v → AV.lt H.next v)
    (hH : ∀ o ∈ H.objs, o.key < H.next ∧ AV.ltL H.next o.cells) (h : stepD P Γ call o s objs0 H ctx = some it) : it.r.lt H.next := by
  unfold stepD at h
  simp only [] at h
  split at h
  · split at h
    · rename_i v hv; cases h; exact pickA_bool hv _
    · cases h
  · split at h
    · split at h
      · rename_i r hr
        cases h
        have hfl : ∀ {r r' : R}, flatR r = some r' → r'.lt H.next := by
          intro r r' h
          cases r with
          | val v => simp only [flatR] at h; split at h
                     · rename_i hv; cases h; exact lt_mono (Nat.zero_le _) v (flat_lt v hv)
                     · cases h
          | chk p v => simp only [flatR] at h; split at h
                       · rename_i hv; cases h; exact lt_mono (Nat.zero_le _) v (flat_lt v hv)
                       · cases h
          | new _ => cases h
          | st _ _ _ => cases h
          | bad => cases h
        unfold callR at hr
        split at hr
        · exact hfl hr
        · split at hr
          · exact hfl hr
          · cases hr
      · cases h
    · cases h
  · cases h
    exact absOp_lt (fun x v hx => hs x v _ hx) hH o.op
end run
end Go.Sx
