/-
  Contracts of functions that turn their first argument, an own row, out of what the executor finds.
-/
import Derived.Test.YtcbgjecpnhjlpaaSyRc
set_option linter.unusedVariables false
namespace Go.Sy
open Go.RowKit
section
variable {P : Program} {Γ : Con} {Ξ : SeqCon}

/-- What must hold; the row 0 behind it; the value. -/
structure RowE where
  p : Option Prop
  l : List (List Int)
  v : AV
def RowE.holds (x : RowE) : Prop := match x.p with | none => True | some p => p
def mergeRE (b : Bool) (x y : RowE) : Option RowE :=
  match merge b x.v.weak y.v.weak with
  | some v => some ⟨mergeP b x.p y.p, bif b then x.l else y.l, v⟩
  | none => none
/-- A tree of results as one result. -/
def collapseR (P : Program) (e : TypeId) (ks : List CK) : Tree (AV × Heap) → Option RowE
  | .ret y => match findObj 0 y.2.objs with
    | some ⟨_, _, true, b⟩ => match rowOf P b with
      | some (e', ks', l) => if Nat.beq e' e && decide (ks' = ks) && (AV.keys y.1).isEmpty then some ⟨none, l, y.1⟩ else none
      | none => none
    | _ => none
  | .br b t e' => match collapseR P e ks t, collapseR P e ks e' with
    | some x, some y => mergeRE b x y
    | some x, none => if dead e' then some { x with p := andP (b = true) x.p } else none
    | none, some y => if dead t then some { y with p := andP (b = false) y.p } else none
    | none, none => none
  | .need p t => (collapseR P e ks t).map fun x => { x with p := andP p x.p }
  | .ask _ _ _ => none
  | .bad => none
/-- A result is what is said. -/
def FitsR (e : TypeId) (ks : List CK) (x : RowE) (y : AV × Heap) : Prop := (∀ E, y.1.den E = x.v.den E) ∧
  ∀ (X : List (Nat × Go.Obj)) (E : Env) (w0 w : World), HeapOk X E w0 y.2 w → RowOk w true e ks.length (E 0) x.l.length (rowV ks x.l)
theorem andPR_holds {p : Prop} {x : RowE} (h : ({ x with p := andP p x.p } : RowE).holds) : p ∧ x.holds := by
  have hp : match andP p x.p with | none => True | some p => p := h
  cases hx : x.p with
  | none => rw [hx] at hp; exact ⟨hp, by simp [RowE.holds, hx]⟩
  | some q => rw [hx] at hp; exact ⟨hp.1, by simp only [RowE.holds, hx]; exact hp.2⟩
theorem collapseR_sound {e : TypeId} {ks : List CK} : ∀ {t : Tree (AV × Heap)} {x : RowE}, collapseR P e ks t = some x → AV.keys x.v = [] ∧ (x.holds → t.holds (FitsR e ks x))
  | .ret y, x, h => by
    unfold collapseR at h
    split at h
    · rename_i k ver b hf
      split at h
      · rename_i e' ks' l hr
        split at h
        · rename_i hc
          rw [Bool.and_eq_true, Bool.and_eq_true] at hc
          obtain ⟨⟨h1, h2⟩, h3⟩ := hc
          have h1 := Nat.eq_of_beq_eq_true h1
          have h2 := of_decide_eq_true h2
          subst h1 h2
          cases h
          refine ⟨by simpa using h3, fun _ => ⟨fun _ => rfl, fun X E w0 w hH => ?_⟩⟩
          obtain ⟨hm, hk⟩ := findObj_mem hf
          have := rowOf_row hr (hH.objs _ hm)
          simp only [] at hk
          rw [hk] at this
          exact this
        · cases h
      · cases h
    · cases h
  | .br b t e', x, h => by
    unfold collapseR at h
    split at h
    · rename_i x1 x2 h1 h2
      obtain ⟨a1, a2⟩ := collapseR_sound h1
      obtain ⟨b1, b2⟩ := collapseR_sound h2
      unfold mergeRE at h
      split at h
      · rename_i v hv
        cases h
        have hm := merge_eq hv
        have hkw : ∀ u : AV, AV.keys u = [] → AV.keys u.weak = [] := fun u hu => by
          have := all_weak (p := fun _ => False) u ((all_keys u).2 (by rw [hu]; simp))
          have := (all_keys _).1 this
          exact List.eq_nil_iff_forall_not_mem.2 this
        refine ⟨?_, fun hp => ?_⟩
        · show AV.keys v = []
          cases b with
          | true => rw [hm.1 rfl]; exact hkw _ a1
          | false => rw [hm.2 rfl]; exact hkw _ b1
        · have hp : match mergeP b x1.p x2.p with | none => True | some p => p := hp
          have hps : (b = true → x1.holds) ∧ (b = false → x2.holds) := by
            cases hxp : x1.p with
            | none => cases hyp : x2.p with
              | none => simp [RowE.holds, hxp, hyp]
              | some q => rw [hxp, hyp] at hp; exact ⟨fun _ => by simp [RowE.holds, hxp], fun hb => by simp only [RowE.holds, hyp]; exact hp hb⟩
            | some p => cases hyp : x2.p with
              | none => rw [hxp, hyp] at hp; exact ⟨fun hb => by simp only [RowE.holds, hxp]; exact hp hb, fun _ => by simp [RowE.holds, hyp]⟩
              | some q => rw [hxp, hyp] at hp; exact ⟨fun hb => by simp only [RowE.holds, hxp]; exact hp.1 hb, fun hb => by simp only [RowE.holds, hyp]; exact hp.2 hb⟩
          refine ⟨fun hb => holds_mono (fun u hu => ⟨fun E => ?_, fun X E w0 w hH => ?_⟩) (a2 (hps.1 hb)), fun hb => holds_mono (fun u hu => ⟨fun E => ?_, fun X E w0 w hH => ?_⟩) (b2 (hps.2 hb))⟩
          · show _ = v.den E
            rw [hm.1 hb, den_weak]; exact hu.1 E
          · have := hu.2 X E w0 w hH
            rw [hb]; exact this
          · show _ = v.den E
            rw [hm.2 hb, den_weak]; exact hu.1 E
          · have := hu.2 X E w0 w hH
            rw [hb]; exact this
      · cases h
    · rename_i x1 h1 h2
      split at h
      · cases h
        obtain ⟨a1, a2⟩ := collapseR_sound h1
        refine ⟨a1, fun hp => ?_⟩
        obtain ⟨q1, q2⟩ := andPR_holds hp
        exact ⟨fun _ => a2 q2, fun hb => by rw [q1] at hb; cases hb⟩
      · cases h
    · rename_i y1 h1 h2
      split at h
      · cases h
        obtain ⟨a1, a2⟩ := collapseR_sound h2
        refine ⟨a1, fun hp => ?_⟩
        obtain ⟨q1, q2⟩ := andPR_holds hp
        exact ⟨fun hb => absurd (q1.symm.trans hb) (by simp), fun _ => a2 q2⟩
      · cases h
    · cases h
  | .need p t, x, h => by
    unfold collapseR at h
    cases hc : collapseR P e ks t with
    | none => rw [hc] at h; cases h
    | some x0 =>
      rw [hc] at h
      cases h
      obtain ⟨a1, a2⟩ := collapseR_sound hc
      refine ⟨a1, fun hp => ?_⟩
      obtain ⟨q1, q2⟩ := andPR_holds hp
      exact ⟨q1, a2 q2⟩
  | .ask _ _ _, x, h => by cases h
  | .bad, x, h => by cases h

/-! ### all blocks but one -/
def others (w : World) (b : Option Nat) : List (Nat × Go.Obj) := w.heap.toList.zipIdx.filterMap fun y => if b = some y.2 then none else some (y.2, y.1)
theorem mem_others {w : World} {b : Option Nat} {x : Nat × Go.Obj} : x ∈ others w b ↔ w.heap[x.1]? = some x.2 ∧ b ≠ some x.1 := by
  unfold others
  rw [List.mem_filterMap]
  constructor
  · rintro ⟨⟨o, k⟩, hm, h⟩
    have := (List.mk_mem_zipIdx_iff_getElem? (l := w.heap.toList) (x := o) (i := k)).1 hm
    simp only [] at h
    split at h
    · cases h
    · rename_i hb
      cases h
      exact ⟨by simpa using this, hb⟩
  · rintro ⟨h, hb⟩
    obtain ⟨k, o⟩ := x
    refine ⟨(o, k), (List.mk_mem_zipIdx_iff_getElem? (l := w.heap.toList) (x := o) (i := k)).2 (by simpa using h), ?_⟩
    simp only []
    rw [if_neg hb]
/-- The world with no block. -/
def bare (w : World) : World := { w with heap := #[] }
theorem heapOk_lone {w : World} {E : Env} {e : TypeId} {ks : List CK} {l : List (List Int)} {n : Nat} (hn : 0 < n) (hE : ∀ k, (E k).oneCell' = true) (hr : RowOk w true e ks.length (E 0) l.length (rowV ks l)) :
    HeapOk (others w (blkO (E 0))) E (bare w) ⟨[⟨0, 0, true, .row e ks l⟩], n⟩ w := by
  have mem : ∀ o : Obj, o ∈ [(⟨0, 0, true, .row e ks l⟩ : Obj)] → o = ⟨0, 0, true, .row e ks l⟩ := fun o ho => List.mem_singleton.1 ho
  refine ⟨⟨⟨rfl, rfl, rfl, Nat.zero_le _, fun k hk => absurd hk (Nat.not_lt_zero k)⟩, Nat.le_refl _⟩, hE, ?_, ?_, ?_, ?_, ?_, ?_⟩
  · intro o ho; rw [mem o ho]; exact hr
  · intro o ho _ b _; exact Nat.zero_le _
  · intro o ho o' ho' _ hne
    rw [mem o ho, mem o' ho'] at hne
    exact absurd rfl hne
  · intro o ho o' ho' _
    rw [mem o ho, mem o' ho']
  · intro o ho; rw [mem o ho]; exact ⟨hn, trivial⟩
  · intro x hx
    obtain ⟨h1, h2⟩ := mem_others.1 hx
    refine ⟨h1, fun o ho => ?_⟩
    rw [mem o ho]; exact h2
theorem chg_lone {w w' : World} {E E' : Env} {H : Heap} {e : TypeId} {n : Nat} {vs : List Value} {sz : Nat} (hE : E' 0 = E 0) (hH : HeapOk (others w (blkO (E 0))) E' (bare w) H w') (hr : RowOk w' true e sz (E' 0) n vs) :
    Chg w w' (blkO (E 0)).toList := by
  have hb := hH.below
  have keep : ∀ k, k < w.heap.size → blkO (E 0) ≠ some k → w'.heap[k]? = w.heap[k]? := fun k hk hne => by
    have h1 : w.heap[k]? = some w.heap[k] := Array.getElem?_eq_getElem hk
    have := (hH.prot (k, w.heap[k]) (mem_others.2 ⟨h1, hne⟩)).1
    simp only [] at this
    rw [this, h1]
  refine ⟨hb.drawn, hb.os, hb.tape, hb.output, ?_, fun k hk hn => keep k hk fun e => hn (by rw [e]; simp)⟩
  rcases Nat.eq_zero_or_pos w.heap.size with h0 | h0
  · omega
  · by_cases hl : blkO (E 0) = some (w.heap.size - 1)
    · have := hr.reads.blk _ (by rw [hE]; exact hl)
      omega
    · have h1 := keep (w.heap.size - 1) (by omega) hl
      rw [Array.getElem?_eq_getElem (show w.heap.size - 1 < w.heap.size by omega)] at h1
      have := (Array.getElem?_eq_some_iff.1 h1).1
      omega

/-- One contract more: F turns its first argument, an own row; the other arguments' shapes; what it does, by the leaves. -/
def extR (P : Program) (Γ : Con) (F : FuncId) (zs : List AV) (e : TypeId) (ks : List CK) (eff : List U → Option RowE) : Con := fun f args objs =>
  if Nat.beq f F then
    match args, objs with
    | .sl 0 :: rest, [⟨0, 0, true, .row e' ks' l⟩] =>
      if Nat.beq e' e && decide (ks' = ks) && Nat.beq rest.length zs.length then
        match (conSpec (.sl 0 :: zs) [⟨0, 0, true, .row e ks []⟩]).match_ P [] 1 ⟨fun t => (AV.sl 0 :: rest)[t]?, ⟨[⟨0, 0, true, .row e ks l⟩], 1⟩⟩ with
        | some us => (eff us).map fun y => ⟨y.p, [0], 0, [⟨0, 0, true, .row e ks y.l⟩], y.v⟩
        | none => none
      else none
    | _, _ => none
  else Γ f args objs
/-- A CONTRACT OF A FUNCTION THAT TURNS AN OWN ROW, OUT OF WHAT THE EXECUTOR FINDS. -/
theorem conOk_extR (hΞ : SeqOk P Ξ) {Γ' : Con} (hΓ' : ConOk P Γ') (hΓ : ConOk P Γ) {n : Nat} {F : FuncId} {zs : List AV} {e : TypeId} {ks : List CK} {eff : List U → Option RowE}
    (hargs : AV.keysL zs = []) (hfun : CallFun P F)
    (hcol : ∀ us x, eff us = some x → AV.keys x.v = [] ∧ (x.holds → ∃ zs' l p, fillL us (.sl 0 :: zs) 0 = zs' ∧ (fillObjs 1 us [⟨0, 0, true, .row e ks []⟩] zs'.2).1 = [⟨0, 1, true, .row e ks l⟩] ∧ collapseR P e ks (execFn P Γ Ξ n F zs'.1 ⟨[⟨0, 1, true, .row e ks l⟩], 1⟩) = some { x with p := p } ∧ RowE.holds { x with p := p })) : ConOk P (extR P Γ' F zs e ks eff) := by
  intro f args objs x h
  unfold extR at h
  split at h
  case isFalse => exact hΓ' f args objs x h
  rename_i hf
  have hf : f = F := Nat.eq_of_beq_eq_true hf
  subst hf
  split at h
  case h_2 => cases h
  rename_i rest e' ks' l
  split at h
  case isFalse => cases h
  rename_i hc
  rw [Bool.and_eq_true, Bool.and_eq_true] at hc
  obtain ⟨⟨h1, h2⟩, h3⟩ := hc
  have h1 := Nat.eq_of_beq_eq_true h1
  have h2 := of_decide_eq_true h2
  have h3 := Nat.eq_of_beq_eq_true h3
  subst h1 h2
  split at h
  case h_2 => cases h
  rename_i us hm
  cases hy : eff us with
  | none => rw [hy] at h; cases h
  | some y =>
  rw [hy] at h
  cases h
  obtain ⟨hk0, hcol'⟩ := hcol us y hy
  refine ⟨fun hn => absurd hn (by simp), fun _ => ⟨rest, e', ks', l, y.l, ⟨rfl, rfl, rfl, fun k hk => ?_, hfun, fun hp E w hE hr => ?_⟩⟩⟩
  · rw [show AV.keys y.v = [] from hk0] at hk; cases hk
  have hp : y.holds := hp
  obtain ⟨zs', l0, p, q1, q2, q3, q4⟩ := hcol' hp
  obtain ⟨r1, r2⟩ := collapseR_sound q3
  obtain ⟨M, hM⟩ := bound_keys (AV.keysL (AV.sl 0 :: rest))
  have hM0 : 0 < M := hM 0 (by simp [AV.keysL, AV.keys])
  have hH := heapOk_lone (n := M) hM0 hE hr
  have hS : SlotsOk E M 0 [] (toSlots fun t => (AV.sl 0 :: rest)[t]?) { tmps := (AV.denL E (.sl 0 :: rest)).toArray, defers := [] } := by
    refine ⟨rfl, Nat.zero_le _, fun t => ?_⟩
    cases ht : (AV.sl 0 :: rest)[t]? with
    | none =>
      have e : toSlots (fun t => (AV.sl 0 :: rest)[t]?) t = .junk := by simp only [toSlots, ht]
      rw [e]; trivial
    | some v =>
      have e : toSlots (fun t => (AV.sl 0 :: rest)[t]?) t = .is v := by simp only [toSlots, ht]
      rw [e]
      refine ⟨?_, (ltL_all _ _).1 ((allL_keys _).2 hM) v (List.mem_of_getElem? ht)⟩
      rw [Array.getD_eq_getD_getElem?, denL_map]
      simp only [List.getElem?_toArray, List.getElem?_map, ht, Option.map_some, Option.getD_some]
  have hm' : (conSpec (.sl 0 :: zs) [⟨0, 0, true, .row e' ks' []⟩]).match_ P [] 1 ⟨fun t => (AV.sl 0 :: rest)[t]?, ⟨[⟨0, 0, true, .row e' ks' l⟩], M⟩⟩ = some us := hm
  obtain ⟨E2, g1, g2, g3, g4⟩ := match_sound (wr := []) (tm := fun _ => none) hm' hH hS (fun o ho => by cases ho) (fun o ho => by cases ho) (fun t v _ hv => by cases hv)
  have hz := fill_zip us (.sl 0 :: zs) 0 0
  rw [q1] at hz
  have hgs : ∀ t v, zs'.1[t]? = some v → ((conSpec (.sl 0 :: zs) [⟨0, 0, true, .row e' ks' []⟩]).gen [] [] (fun _ => none) us).tmps t = some v := by
    intro t v ht
    have e : ((conSpec (.sl 0 :: zs) [⟨0, 0, true, .row e' ks' []⟩]).gen [] [] (fun _ => none) us).tmps t = (match lookupT t (fillSlots us ((AV.sl 0 :: zs).zipIdx.map fun x => (x.2, x.1)) 0).1 with | some v => some v | none => if ([] : List Nat).any (Nat.beq t) then none else none) := rfl
    rw [e, hz]
    have := lookup_zip zs'.1 0 t
    rw [Nat.zero_add] at this
    rw [this, ht]
  have hlen : zs'.1.length = (AV.sl 0 :: zs).length := by rw [← q1]; exact fillL_length us (.sl 0 :: zs) 0
  have hlen2 : zs'.1.length = (AV.sl 0 :: rest).length := by rw [hlen]; simp [h3]
  have hden : AV.denL E2 zs'.1 = AV.denL E (.sl 0 :: rest) := by
    apply List.ext_getElem?
    intro t
    rw [denL_map, denL_map, List.getElem?_map, List.getElem?_map]
    cases ht : zs'.1[t]? with
    | none =>
      have h1 := List.getElem?_eq_none_iff.1 ht
      rw [List.getElem?_eq_none (by omega)]
      rfl
    | some v =>
      have h1 := (List.getElem?_eq_some_iff.1 ht).1
      have hpt := g2.ok t
      have e : toSlots ((conSpec (.sl 0 :: zs) [⟨0, 0, true, .row e' ks' []⟩]).gen [] [] (fun _ => none) us).tmps t = .is v := by simp only [toSlots, hgs t v ht]
      rw [e] at hpt
      have h2 : (AV.sl 0 :: rest)[t]? = some (AV.sl 0 :: rest)[t] := List.getElem?_eq_getElem (by omega)
      rw [h2]
      have h3 := hpt.1
      simp only [Array.getD_eq_getD_getElem?, denL_map] at h3
      simp only [List.getElem?_toArray, List.getElem?_map, h2, Option.map_some, Option.getD_some] at h3
      simp only [Option.map_some, h3]
  have hHc : HeapOk (others w (blkO (E 0))) E2 (bare w) ⟨[⟨0, 1, true, .row e' ks' l0⟩], 1⟩ w := by
    refine g3.sub (fun o ho => ?_) (fun o ho => ?_)
    · have e : ((conSpec (.sl 0 :: zs) [⟨0, 0, true, .row e' ks' []⟩]).gen [] [] (fun _ => none) us).heap.objs = (fillObjs 1 us [⟨0, 0, true, .row e' ks' []⟩] (fillSlots us ((AV.sl 0 :: zs).zipIdx.map fun x => (x.2, x.1)) 0).2).1 ++ [] ++ [] := rfl
      rw [e, hz, List.append_nil, List.append_nil]
      simp only [q2]
      exact ho
    · rw [List.mem_singleton.1 ho]; exact ⟨Nat.zero_lt_one, trivial⟩
  have hkeys : AV.keysL zs'.1 = [0] := by
    rw [← q1, fillL_keys]
    simp [AV.keysL, AV.keys, hargs]
  rw [← hden]
  refine callOk_execFn hΓ hΞ n _ (bare w) f _ _ E2 w _ hHc ((allL_keys _).2 fun k hk => ?_) (holds_mono (fun z hz => ?_) (r2 q4))
  · rw [hkeys] at hk
    have := List.mem_singleton.1 hk
    show k < 1
    omega
  · intro E1 w' hE1 hH' _ _ _
    have e0 : E1 0 = E 0 := (hE1 0 Nat.zero_lt_one).trans (g1 0 (show 0 < 1 by decide))
    have hrow := hz.2 _ E1 _ w' hH'
    have hrow' := hrow
    rw [e0] at hrow
    refine ⟨?_, hrow, chg_lone e0 hH' hrow'⟩
    rw [hz.1 E1]
    congr 1
    exact den_congr_all (p := fun _ => False) (fun k hk => hk.elim) _ ((all_keys _).2 (by rw [show AV.keys y.v = [] from hk0]; simp))
/-- No contract yet: what must hold never does. -/
theorem conOk_extR0 {Γ' : Con} (hΓ' : ConOk P Γ') {F : FuncId} {zs : List AV} {e : TypeId} {ks : List CK} {eff : List U → Option RowE} (hfun : CallFun P F) (h : ∀ us x, eff us = some x → AV.keys x.v = [] ∧ ¬ x.holds) : ConOk P (extR P Γ' F zs e ks eff) := by
  intro f args objs x hx
  unfold extR at hx
  split at hx
  case isFalse => exact hΓ' f args objs x hx
  rename_i hf
  have hf : f = F := Nat.eq_of_beq_eq_true hf
  subst hf
  split at hx
  case h_2 => cases hx
  rename_i rest e' ks' l
  split at hx
  case isFalse => cases hx
  rename_i hc
  rw [Bool.and_eq_true, Bool.and_eq_true] at hc
  obtain ⟨⟨h1, h2⟩, h3⟩ := hc
  have h1 := Nat.eq_of_beq_eq_true h1
  have h2 := of_decide_eq_true h2
  subst h1 h2
  split at hx
  case h_2 => cases hx
  rename_i us hm
  cases hy : eff us with
  | none => rw [hy] at hx; cases hx
  | some y =>
  rw [hy] at hx
  cases hx
  obtain ⟨hk0, hn⟩ := h us y hy
  refine ⟨fun hn => absurd hn (by simp), fun _ => ⟨rest, e', ks', l, y.l, ⟨rfl, rfl, rfl, fun k hk => ?_, hfun, fun hp E w hE hr => ?_⟩⟩⟩
  · rw [show AV.keys y.v = [] from hk0] at hk; cases hk
  · have hp : y.holds := hp
    exact absurd hp hn
/-- What a recursive function is taken to do: three numbers and the row. -/
def rowE3 (pr : Int → Int → Int → List (List Int) → Prop) (g : Int → Int → Int → List (List Int) → List (List Int)) : List U → Option RowE
  | [.i a, .i m, .i b, .r l] => some ⟨some (pr a m b l), g a m b l, .tup []⟩
  | _ => none
end
end Go.Sy
