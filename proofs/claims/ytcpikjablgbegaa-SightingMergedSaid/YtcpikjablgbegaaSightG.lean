/-
  Merged reports: what is among them, and what is told.
-/
import Derived.Test.YtcpikjablgbegaaSightP
namespace Go.Proofs.Ytcpikjablgbegaa
open Go Go.Sy

theorem sameKey_symm {a b : List Int} : sameKey a b = sameKey b a := by
  unfold sameKey
  rw [Bool.eq_iff_iff]
  simp only [Bool.and_eq_true, beq_iff_eq]
  constructor <;> rintro ⟨h1, h2⟩ <;> exact ⟨h1.symm, h2.symm⟩
theorem sameKey_refl (a : List Int) : sameKey a a = true := by simp [sameKey]
theorem sameKey_trans {a b c : List Int} (h1 : sameKey a b = true) (h2 : sameKey b c = true) : sameKey a c = true := by
  unfold sameKey at *
  simp only [Bool.and_eq_true, beq_iff_eq] at *
  exact ⟨h2.1.trans h1.1, h2.2.trans h1.2⟩
/-- Behind i reports. -/
def mst (l : List (List Int)) (i : Nat) : List (List Int) × List (List Int) := mrgs 0 (l.take i) ([], [])
theorem mst_succ {l : List (List Int)} {i : Nat} (h : i < l.length) : mst l (i + 1) = mrg i (l.getD i []) (mst l i) := by
  unfold mst
  rw [take_succ' h, mrgs_append]
  simp only [mrgs, List.length_take, Nat.zero_add, Nat.min_eq_left (show i ≤ l.length by omega)]
structure MOk (l : List (List Int)) (i : Nat) : Prop where
  apart : (mst l i).1.Pairwise fun a b => sameKey a b = false
  each : ∀ j, j < i → ∃ o, (mst l i).1.find? (sameKey (l.getD j [])) = some o ∧ ([(j : Int)] ∈ (mst l i).2 ↔ same13 o (l.getD j []) = false) ∧ (o = l.getD j [] ∨ ∃ e ∈ l.take j, sameKey (l.getD j []) e = true)
  from_ : ∀ e ∈ (mst l i).1, e ∈ l.take i
  idx : ∀ e ∈ (mst l i).2, ∃ j : Nat, j < i ∧ e = [(j : Int)]
theorem mem_take_succ {l : List (List Int)} {i : Nat} (h : i < l.length) {e : List Int} : e ∈ l.take (i + 1) ↔ e ∈ l.take i ∨ e = l.getD i [] := by
  rw [take_succ' h, List.mem_append, List.mem_singleton]
theorem mok (l : List (List Int)) (h13 : ∀ e ∈ l, e.length = 13) : ∀ i, i ≤ l.length → MOk l i
  | 0, _ => ⟨by simp [mst, mrgs], fun j hj => by omega, by simp [mst, mrgs], by simp [mst, mrgs]⟩
  | i + 1, hi => by
    have ih := mok l h13 i (by omega)
    have hs := mst_succ (show i < l.length from hi)
    have hr : (l.getD i []).length = 13 := h13 _ (getD_mem hi)
    have notin : [(i : Int)] ∉ (mst l i).2 := fun h => by
      obtain ⟨j, hj, e⟩ := ih.idx _ h
      have e : (i : Int) = j := by simpa using e
      omega
    unfold mrg at hs
    cases hf : (mst l i).1.find? (sameKey (l.getD i [])) with
    | none =>
      rw [hf] at hs
      have hno : ∀ a ∈ (mst l i).1, sameKey (l.getD i []) a = false := fun a ha => by simpa using List.find?_eq_none.1 hf a ha
      refine ⟨?_, ?_, ?_, ?_⟩
      · rw [hs]
        refine List.pairwise_append.2 ⟨ih.apart, List.pairwise_singleton _ _, fun a ha b hb => ?_⟩
        rw [List.mem_singleton.1 hb, sameKey_symm]
        exact hno a ha
      · intro j hj
        by_cases e : j = i
        · subst e
          refine ⟨l.getD j [], ?_, ?_, .inl rfl⟩
          · rw [hs, List.find?_append, hf]
            simp [sameKey_refl]
          · rw [hs, same13_is hr hr]
            simp [notin]
        · obtain ⟨o, h1, h2, h3⟩ := ih.each j (by omega)
          refine ⟨o, by rw [hs, List.find?_append, h1]; rfl, by rw [hs]; exact h2, h3⟩
      · intro e he
        rw [hs] at he
        rw [mem_take_succ hi]
        rcases List.mem_append.1 he with he | he
        · exact .inl (ih.from_ e he)
        · exact .inr (List.mem_singleton.1 he)
      · intro e he
        rw [hs] at he
        obtain ⟨j, hj, e⟩ := ih.idx _ he
        exact ⟨j, by omega, e⟩
    | some o =>
      rw [hf] at hs
      have ho := List.mem_of_find?_eq_some hf
      have hok : sameKey (l.getD i []) o = true := List.find?_some hf
      have hs1 : (mst l (i + 1)).1 = (mst l i).1 := by rw [hs]; simp only []; cases same13 o (l.getD i []) <;> rfl
      have hs2 : (mst l (i + 1)).2 = bif !same13 o (l.getD i []) then (mst l i).2 ++ [[(i : Int)]] else (mst l i).2 := by rw [hs]; simp only []; cases same13 o (l.getD i []) <;> rfl
      refine ⟨by rw [hs1]; exact ih.apart, ?_, ?_, ?_⟩
      · intro j hj
        by_cases e : j = i
        · subst e
          refine ⟨o, by rw [hs1]; exact hf, ?_, .inr ⟨o, ih.from_ o ho, hok⟩⟩
          rw [hs2]
          cases same13 o (l.getD j []) with
          | true => simp [notin]
          | false => simp
        · obtain ⟨o', h1, h2, h3⟩ := ih.each j (by omega)
          refine ⟨o', by rw [hs1]; exact h1, ?_, h3⟩
          rw [hs2, ← h2]
          cases same13 o (l.getD i []) with
          | true => rfl
          | false =>
            simp only [Bool.not_false, cond_true, List.mem_append, List.mem_singleton]
            refine ⟨fun h => h.elim id fun h => ?_, .inl⟩
            have h : (j : Int) = i := by simpa using h
            omega
      · intro e he
        rw [hs1] at he
        rw [mem_take_succ hi]
        exact .inl (ih.from_ e he)
      · intro e he
        rw [hs2] at he
        have old : e ∈ (mst l i).2 → ∃ j : Nat, j < i + 1 ∧ e = [(j : Int)] := fun he => by
          obtain ⟨j, hj, e⟩ := ih.idx _ he
          exact ⟨j, by omega, e⟩
        cases hc : same13 o (l.getD i []) with
        | true => rw [hc] at he; exact old he
        | false =>
          rw [hc] at he
          rcases List.mem_append.1 he with he | he
          · exact old he
          · exact ⟨i, by omega, List.mem_singleton.1 he⟩
theorem mst_all (l : List (List Int)) : mst l l.length = mrgs 0 l ([], []) := by unfold mst; rw [List.take_length]
/-- Reports none of which are the same sighting stay as they are. -/
theorem mst_apart {m : List (List Int)} (h : m.Pairwise fun a b => sameKey a b = false) : ∀ i, i ≤ m.length → mst m i = (m.take i, [])
  | 0, _ => by simp [mst, mrgs]
  | i + 1, hi => by
    have ih := mst_apart h i (by omega)
    rw [mst_succ hi, ih]
    unfold mrg
    have hno : (m.take i).find? (sameKey (m.getD i [])) = none := by
      rw [List.find?_eq_none]
      intro a ha
      obtain ⟨j, hj, rfl⟩ := List.getElem_of_mem ha
      have hj' : j < i := by simp at hj; omega
      have := List.pairwise_iff_getElem.1 h j i (by omega) hi hj'
      rw [List.getElem_take, sameKey_symm, List.getD_eq_getElem?_getD, List.getElem?_eq_getElem hi]
      simpa using this
    simp only [hno]
    rw [take_succ' hi]
theorem mrgs_apart {m : List (List Int)} (h : m.Pairwise fun a b => sameKey a b = false) : mrgs 0 m ([], []) = (m, []) := by
  rw [← mst_all, mst_apart h _ (Nat.le_refl _), List.take_length]
/-- Ahead of it there is none like it. -/
theorem fnd_ahead {m : List (List Int)} (h : m.Pairwise fun a b => sameKey a b = false) {i : Nat} (hi : i < m.length) : fnd (m.take i) (m.getD i []) = -1 := by
  rcases @find_fnd (m.take i) (m.getD i []) with ⟨_, h2⟩ | ⟨k, hk, h1, _⟩
  · exact h2
  · exfalso
    have hk' : k < i := by simp at hk; omega
    have := List.pairwise_iff_getElem.1 h k i (by omega) hi hk'
    have h3 := List.find?_some h1
    have e1 : (m.take i).getD k [] = m[k] := by
      rw [List.getD_eq_getElem?_getD, List.getElem?_eq_getElem hk, List.getElem_take]; rfl
    have e2 : m.getD i [] = m[i] := by rw [List.getD_eq_getElem?_getD, List.getElem?_eq_getElem hi]; rfl
    rw [e1, e2, sameKey_symm] at h3
    rw [this] at h3
    cases h3

/-! ### the law -/
theorem condF {α : Type} {c : Bool} (h : c = false) (a b : α) : (bif c then a else b) = b := by rw [h]; rfl
theorem find13_is (e : List Int) (l : List (List Int)) (hl : l.length < 4611686018427387904) : ref24_Find_pre (e.getD 0 0) (e.getD 1 0) (e.getD 2 0) (e.getD 3 0) (e.getD 4 0) (e.getD 5 0) (e.getD 6 0) (e.getD 7 0) (e.getD 8 0) (e.getD 9 0) (e.getD 10 0) (e.getD 11 0) (e.getD 12 0) l ∧ find13 e l = fnd l e := find_is _ _ _ _ _ _ _ _ _ _ _ _ _ l hl
theorem mergedl2_is (list : List (List Int)) (y1 : List U) (hl : (sighting_Merge_1 list).length ≤ 60) :
    loopOk (law24_SightingMerged_l2_step list y1) (law24_SightingMerged_l2_init list y1) ∧ gb (law24_SightingMerged_l2 list y1).snd 0 = (sighting_Merge_1 list).any fun e => e.getD 0 0 == gi y1 2 := by
  have key := loop_fold (step := law24_SightingMerged_l2_step list y1) (sighting_Merge_1 list).length (fun i s => [.b s, .i i]) (fun i s => s || ((sighting_Merge_1 list).getD i []).getD 0 0 == gi y1 2) (fun _ _ => True) 1 (fun s => [.b s, .i (sighting_Merge_1 list).length])
    (fun _ _ _ _ => trivial)
    (fun i s hi _ => by
      unfold law24_SightingMerged_l2_step
      simp only [gi_1, gi_z, gb_z, dlt hi, guardP_pos (inR_of hi), Int.toNat_natCast, wrap_succ (show i < 4611686018427387904 by omega)])
    (fun s _ => by
      unfold law24_SightingMerged_l2_step
      simp only [gi_1, gi_z, gb_z, dnlt]) (s := false) trivial
  refine ⟨key.1, ?_⟩
  have e : law24_SightingMerged_l2 list y1 = _ := key.2.1
  rw [e]
  simp only [gb_z]
  have up : ∀ i, i ≤ (sighting_Merge_1 list).length → upto (fun i s => s || ((sighting_Merge_1 list).getD i []).getD 0 0 == gi y1 2) i false = ((sighting_Merge_1 list).take i).any fun e => e.getD 0 0 == gi y1 2 := by
    intro i
    induction i with
    | zero => intro _; simp [upto]
    | succ i ih => intro h; rw [upto, ih (by omega), take_succ' (by omega), List.any_append]; simp
  rw [up _ (Nat.le_refl _), List.take_length]
theorem stay (n : Nat) : upto (fun (_ : Nat) (s : Bool) => s) n true = true := by
  induction n with
  | zero => rfl
  | succ n ih => exact ih
theorem sightingMerged_ok (list : List (List Int)) (h13 : El13 list) : law24_SightingMerged_0 list = true ∧ law24_SightingMerged_pre list := by
  unfold law24_SightingMerged_0 law24_SightingMerged_pre
  rw [head_true]
  cases hv : sighting_valid_0 list with
  | false =>
    have w2 : sighting_Merge_2 list = 1 := by unfold sighting_Merge_2; rw [hv]; rfl
    rw [w2]
    refine ⟨by simp, head_pre, smerge_pre list h13, fun h => ?_⟩
    simp at h
  | true =>
    have hv' := hv
    rw [(valid_is list).2] at hv'
    simp only [Bool.and_eq_true, decide_eq_true_eq, List.all_eq_true] at hv'
    have w2 : sighting_Merge_2 list = 0 := by unfold sighting_Merge_2; rw [hv]; rfl
    have w0 : sighting_Merge_0 list = (mst list list.length).1 := by rw [(smerge_0 list h13).1, hv, mst_all]; rfl
    have w1 : sighting_Merge_1 list = (mst list list.length).2 := by rw [(smerge_0 list h13).2, hv, mst_all]; rfl
    have hk := mok list h13.len list.length (Nat.le_refl _)
    have hmi := mrgs_MI0 h13.len
    rw [← mst_all] at hmi
    have hsub : ∀ e ∈ sighting_Merge_0 list, e ∈ list := fun e he => by
      rw [w0] at he
      have := hk.from_ e he
      rwa [List.take_length] at this
    have hm13 : El13 (sighting_Merge_0 list) := fun e he => h13 e (hsub e he)
    have hlen : (sighting_Merge_0 list).length ≤ list.length := by rw [w0]; exact hmi.1
    have hlen1 : (sighting_Merge_1 list).length ≤ 60 := by rw [w1]; have := hmi.2.1; omega
    have hap : (sighting_Merge_0 list).Pairwise fun a b => sameKey a b = false := by rw [w0]; exact hk.apart
    have hvm : sighting_valid_0 (sighting_Merge_0 list) = true := by
      rw [(valid_is _).2]
      simp only [Bool.and_eq_true, decide_eq_true_eq, List.all_eq_true]
      exact ⟨by omega, fun e he => hv'.2 e (hsub e he)⟩
    have a0 : sighting_Merge_0 (sighting_Merge_0 list) = sighting_Merge_0 list := by rw [(smerge_0 _ hm13).1, hvm, mrgs_apart hap]; rfl
    have a1 : sighting_Merge_1 (sighting_Merge_0 list) = [] := by rw [(smerge_0 _ hm13).2, hvm, mrgs_apart hap]; rfl
    have a2 : sighting_Merge_2 (sighting_Merge_0 list) = 0 := by unfold sighting_Merge_2; rw [hvm]; rfl
    have hbig : (sighting_Merge_0 list).length < 4611686018427387904 := by omega
    -- the first loop
    have l0 := loop_fold (step := law24_SightingMerged_l0_step list) (sighting_Merge_0 list).length (fun i s => [.b s, .i i]) (fun _ s => s) (fun _ s => s = true) 1 (fun s => [.b s, .i (sighting_Merge_0 list).length])
      (fun _ _ _ h => h)
      (fun i s hi hs => by
        subst hs
        have ht : ((sighting_Merge_0 list).take i).length < 4611686018427387904 := by rw [List.length_take]; omega
        have hc : cutV (sighting_Merge_0 list) none (i : Int) = (sighting_Merge_0 list).take i := by simp [cutV, loN]
        have hF : find13 ((sighting_Merge_0 list).getD i []) (cutV (sighting_Merge_0 list) none (i : Int)) = -1 := by rw [hc, (find13_is _ _ ht).2, fnd_ahead hap hi]
        have hP := (find13_is ((sighting_Merge_0 list).getD i []) _ ht).1
        rw [← hc] at hP
        unfold law24_SightingMerged_l0_step
        refine (dlt hi _ _).trans ?_
        refine (guardP_pos (inR_of hi) _).trans ((guardP_pos (inR_of hi) _).trans ?_)
        refine (guardP_pos (fun _ => (⟨by omega, by omega⟩ : (0 : Int) ≤ (i : Int) ∧ (i : Int) ≤ ((sighting_Merge_0 list).length : Int))) _).trans ?_
        refine (guardP_pos (fun _ => ⟨(⟨by simp [loN], by omega⟩ : cutOk (sighting_Merge_0 list) none (i : Int)), hP⟩) _).trans ?_
        have hval : (true && decide (find13 ((sighting_Merge_0 list).getD i []) (cutV (sighting_Merge_0 list) none (i : Int)) < 0)) = true := by rw [hF]; rfl
        have hw : IntKind.i64.wrap ((i : Int) + 1) = ((i + 1 : Nat) : Int) := wrap_succ (by omega)
        refine Eq.trans ?_ (congrArg (fun z : Bool × Int => some ((0 : Nat), [U.b z.1, U.i z.2])) (Prod.ext hval hw : ((_, _) : Bool × Int) = (true, ((i + 1 : Nat) : Int))))
        rfl)
      (fun s _ => by
        unfold law24_SightingMerged_l0_step
        exact dnlt _ _ _) (s := true) rfl
    have i0 : law24_SightingMerged_l0_init list = [.b true, .i 0] := by unfold law24_SightingMerged_l0_init; rw [head_true]
    have e0 : law24_SightingMerged_l0 list = (2, [.b true, .i (sighting_Merge_0 list).length]) := by
      unfold law24_SightingMerged_l0
      rw [i0]
      have := l0.2.1
      rw [stay] at this
      exact this
    -- the second loop
    have l1 := loop_fold (step := law24_SightingMerged_l1_step list) list.length (fun i s => [.b false, .b s, .i i]) (fun _ s => s) (fun _ s => s = true) 2 (fun s => [.b false, .b s, .i list.length])
      (fun _ _ _ h => h)
      (fun i s hi hs => by
        subst hs
        obtain ⟨o, o1, o2, o3⟩ := hk.each i hi
        rw [← w0] at o1
        rw [← w1] at o2
        have hr13 : (list.getD i []).length = 13 := h13.len _ (getD_mem hi)
        have hF0 := (find13_is (list.getD i []) _ hbig).2
        have hP0 := (find13_is (list.getD i []) _ hbig).1
        have l2 := mergedl2_is list [.b false, .b true, .i i] hlen1
        have hT : gb (law24_SightingMerged_l2 list [.b false, .b true, .i i]).snd 0 = !same13 o (list.getD i []) := by
          rw [l2.2]
          have : ((sighting_Merge_1 list).any fun e => e.getD 0 0 == (i : Int)) = decide ([(i : Int)] ∈ sighting_Merge_1 list) := by
            rw [Bool.eq_iff_iff, List.any_eq_true, decide_eq_true_eq]
            constructor
            · rintro ⟨e, he, h⟩
              have h1 : e.length = 1 := hmi.2.2.2 e (by rw [← w1]; exact he)
              match e, h1, he, h with
              | [a], _, he, h => simp at h; rw [← h]; exact he
            · intro h; exact ⟨_, h, by simp⟩
          refine this.trans ?_
          rw [Bool.eq_iff_iff, decide_eq_true_eq, o2]
          cases same13 o (list.getD i []) <;> simp
        rcases @find_fnd (sighting_Merge_0 list) (list.getD i []) with ⟨n1, _⟩ | ⟨k, hkk, k1, k2⟩
        · rw [o1] at n1; cases n1
        rw [o1] at k1
        cases k1
        rw [k2] at hF0
        have ht : (list.take i).length < 4611686018427387904 := by rw [List.length_take]; omega
        have hc : cutV list none (i : Int) = list.take i := by simp [cutV, loN]
        have hP := (find13_is (list.getD i []) _ ht).1
        rw [← hc] at hP
        have hF1 : same13 ((sighting_Merge_0 list).getD k []) (list.getD i []) = true ∨ 0 ≤ find13 (list.getD i []) (cutV list none (i : Int)) := by
          rcases o3 with o3 | ⟨e, he, hs⟩
          · left; rw [o3, same13_is hr13 hr13]; simp
          · right
            rw [hc, (find13_is _ _ ht).2]
            rcases @find_fnd (list.take i) (list.getD i []) with ⟨n1, _⟩ | ⟨k', _, _, k2'⟩
            · have := List.find?_eq_none.1 n1 e he
              rw [hs] at this; simp at this
            · omega
        unfold law24_SightingMerged_l1_step
        refine (dlt hi _ _).trans ?_
        refine (guardP_pos (inR_of hi) _).trans ((guardP_pos (inR_of hi) _).trans ?_)
        refine (guardP_pos l2.1 _).trans ?_
        refine (guardP_pos hP0 _).trans ?_
        refine (condF (show decide (find13 (list.getD i []) (sighting_Merge_0 list) < 0) = false from decide_eq_false (by rw [hF0]; omega)) _ _).trans ?_
        have hin : inR (find13 (list.getD i []) (sighting_Merge_0 list)) (sighting_Merge_0 list) := by rw [hF0]; exact inR_of hkk
        refine (guardP_pos (fun _ => hin) _).trans ((guardP_pos (fun _ => hin) _).trans ?_)
        refine (guardP_pos (fun _ _ => (⟨by omega, by omega⟩ : (0 : Int) ≤ (i : Int) ∧ (i : Int) ≤ (list.length : Int))) _).trans ?_
        refine (guardP_pos (fun _ _ => ⟨(⟨by simp [loN], by omega⟩ : cutOk list none (i : Int)), hP⟩) _).trans ?_
        have hval : (true && gb (law24_SightingMerged_l2 list [.b false, .b true, .i i]).snd 0 == !same13 ((sighting_Merge_0 list).getD (find13 (list.getD i []) (sighting_Merge_0 list)).toNat []) (list.getD i []) &&
            (!gb (law24_SightingMerged_l2 list [.b false, .b true, .i i]).snd 0 || decide (find13 (list.getD i []) (cutV list none (i : Int)) ≥ 0))) = true := by
          rw [hF0, hT, Int.toNat_natCast]
          rcases hF1 with h | h
          · rw [h]; rfl
          · rw [decide_eq_true (show find13 (list.getD i []) (cutV list none (i : Int)) ≥ 0 from h)]
            simp
        have hw : IntKind.i64.wrap ((i : Int) + 1) = ((i + 1 : Nat) : Int) := wrap_succ (by omega)
        refine Eq.trans ?_ (congrArg (fun z : Bool × Int => some ((0 : Nat), [U.b false, U.b z.1, U.i z.2])) (Prod.ext hval hw : ((_, _) : Bool × Int) = (true, ((i + 1 : Nat) : Int))))
        rfl)
      (fun s _ => by
        unfold law24_SightingMerged_l1_step
        exact dnlt _ _ _) (s := true) rfl
    have i1 : law24_SightingMerged_l1_init list = [.b false, .b true, .i 0] := by unfold law24_SightingMerged_l1_init; rw [e0]; rfl
    have e1 : law24_SightingMerged_l1 list = (3, [.b false, .b true, .i list.length]) := by
      unfold law24_SightingMerged_l1
      rw [i1]
      have := l1.2.1
      rw [stay] at this
      exact this
    have n60 : decide ((list.length : Int) > 60) = false := by simp; omega
    refine ⟨?_, head_pre, smerge_pre list h13, fun _ => ⟨?_, ?_, fun _ => ⟨smerge_pre _ hm13, fun _ => (same_is _ _ hbig).1⟩⟩⟩
    · rw [w2, n60, e1, a0, a1, a2, same_eq hbig hm13.len hm13.len]
      simp [Nat.beq, gb_1, gb_z]
      omega
    · rw [i0]; exact l0.1
    · rw [i1]; exact l1.1
end Go.Proofs.Ytcpikjablgbegaa
