/-
  Histories: rows that do not overlap; they are determined by what holds.
-/
import Derived.Test.YtcbgjecpnhjlpaaBitempL
import Derived.Test.YtcbgjecpnhjlpaaSySo
import Derived.Test.YtcbgjecpnhjlpaaBitemp2D
set_option linter.unusedVariables false
namespace Go.Proofs.Ytcbgjecpnhjlpaa
open Go Go.Sy

/-- A row of a history. -/
def HR (i k : Int) (x : List Int) : Prop := x.length = 5 ∧ it x = i ∧ kn x = k ∧ VA (va x) ∧ TM (fr x) ∧ TM (un x) ∧ fr x < un x
/-- Rows that rise. -/
def HI (i k : Int) (h : List (List Int)) : Prop := (∀ x ∈ h, HR i k x) ∧ h.Pairwise (fun a b => un a ≤ fr b)
def hasV (h : List (List Int)) (t v : Int) : Prop := ∃ x ∈ h, fr x ≤ t ∧ t < un x ∧ va x = v
def CR (a b : List Int) : Prop := un a < fr b ∨ (un a = fr b ∧ va a ≠ va b)
/-- A history. -/
def CAN (i k : Int) (h : List (List Int)) : Prop := (∀ x ∈ h, HR i k x) ∧ h.Pairwise CR
theorem CAN.hi {i k : Int} {h : List (List Int)} (hc : CAN i k h) : HI i k h := ⟨hc.1, hc.2.imp fun {a b} h => by unfold CR at h; omega⟩
theorem hi_len {h : List (List Int)} : ∀ {c : Int}, c ≤ 10000000 → (∀ x ∈ h, c ≤ fr x ∧ fr x < un x ∧ un x ≤ 10000000) → h.Pairwise (fun a b => un a ≤ fr b) → (h.length : Int) + c ≤ 10000000 := by
  induction h with
  | nil => intro c hc _ _; simpa using hc
  | cons x r ih =>
    intro c hc hx hp
    have hp1 := List.pairwise_cons.1 hp
    have h0 := hx x (by simp)
    have := ih (c := un x) (by omega) (fun y hy => ⟨hp1.1 y hy, (hx y (by simp [hy])).2⟩) hp1.2
    simp only [List.length_cons]
    omega
theorem HI.len {i k : Int} {h : List (List Int)} (hh : HI i k h) : h.length ≤ 10000000 := by
  have := hi_len (c := 0) (by omega) (fun x hx => by obtain ⟨_, _, _, _, h1, h2, h3⟩ := hh.1 x hx; unfold TM at h1 h2; omega) hh.2
  omega

/-! ### joining -/
def jn2 : List Int → List (List Int) → List (List Int)
  | cur, [] => [cur]
  | cur, r :: rs => if un cur = fr r ∧ va cur = va r then jn2 [it cur, va cur, fr cur, un r, kn cur] rs else cur :: jn2 (n5 r) rs
def jnL : List (List Int) → List (List Int)
  | [] => []
  | r :: rs => jn2 (n5 r) rs
theorem setEl_3 {c : List Int} (h : c.length = 5) (x : Int) : setEl 5 c 3 [x] = [it c, va c, fr c, x, kn c] := by
  match c, h with
  | [a, b, c, d, e], _ => rfl
theorem join_is (h : List (List Int)) (hl : h.length ≤ 1000000000000) : bitemp_join_pre h ∧ bitemp_join_0 h = jnL h := by
  have key := loop_for (step := bitemp_join_l0_step h) h.length (fun i xs => ∃ out : List (List Int), xs = [.i (i : Int), .r out] ∧ out.length ≤ i ∧ ((i = 0 ∧ out = []) ∨ ∃ pre cur, cur.length = 5 ∧ out = pre ++ [cur] ∧ jnL h = pre ++ jn2 cur (h.drop i)))
    (fun res => res = (3, [.i (h.length : Int), .r (jnL h)]))
    (fun i xs hi ⟨out, e, hlen, hinv⟩ => by
      subst e
      have hx : bitemp_join_s2 h [U.i (i : Int), U.r out] = out ++ [n5 (h.getD i [])] := by
        unfold bitemp_join_s2 bitemp_join_s1
        simp only [gi_1, gi_z, gr_1, gr_z, Int.toNat_natCast]
        rfl
      have hd : h.drop i = h.getD i [] :: h.drop (i + 1) := drop_cons' hi
      have hfit : fitsA 40 (out.length + [(h.getD i []).getD 0 0 :: (h.getD i []).getD 1 0 :: bitemp_join_s1 h [U.i (i : Int), U.r out]].length) := by
        unfold fitsA maxLen; simp only [List.length_cons, List.length_nil]; omega
      refine .inl ?_
      unfold bitemp_join_l0_step
      simp only [gi_1, gi_z, gr_1, gr_z, dlt hi, guardP_pos (inR_of hi), Int.toNat_natCast, wrap_succ (show i < 4611686018427387904 by omega), hx]
      rcases hinv with ⟨rfl, rfl⟩ | ⟨pre, cur, hc5, rfl, hj⟩
      · have hz : decide ((([] : List (List Int)).length : Int) > 0) = false := by simp
        simp only [hz, Bool.false_and, cond_false]
        rw [guardP_pos (fun h => (by cases h)), guardP_pos (fun h => (by cases h)), guardP_pos (fun h => (by cases h)), guardP_pos (fun h => (by cases h)), guardP_pos (fun h => (by cases h)), guardP_pos (fun h => (by cases h)), guardP_pos hfit]
        refine ⟨_, rfl, _, rfl, by simp, .inr ⟨[], n5 (h.getD 0 []), rfl, rfl, ?_⟩⟩
        have h0 : h = h.getD 0 [] :: h.drop 1 := by simpa using hd
        conv => lhs; rw [h0]
        rfl
      · have hz : decide (((pre ++ [cur]).length : Int) > 0) = true := by simp
        have hw : IntKind.i64.wrap (((pre ++ [cur]).length : Int) - 1) = ((pre.length : Nat) : Int) := by rw [i64_wrap (by simp at hlen ⊢; omega)]; simp
        have hin : inR ((pre.length : Nat) : Int) (pre ++ [cur]) := inR_of (by simp)
        have hg : (pre ++ [cur]).getD pre.length [] = cur := by simp [List.getD_eq_getElem?_getD]
        have hset : bitemp_join_s0 h [U.i (i : Int), U.r (pre ++ [cur])] = [it cur, va cur, fr cur, un (h.getD i []), kn cur] := by
          unfold bitemp_join_s0
          simp only [gi_1, gi_z, gr_1, gr_z, hw, Int.toNat_natCast, hg]
          exact setEl_3 hc5 _
        simp only [hz, hw, Bool.true_and, Int.toNat_natCast, hg, hset]
        rw [guardP_pos (fun _ => hin), guardP_pos (fun _ => hin), guardP_pos (fun _ => hin), guardP_pos (fun _ => hin), guardP_pos (fun _ => hin), guardP_pos (fun _ => hin)]
        rw [hd] at hj
        by_cases hc : un cur = fr (h.getD i []) ∧ va cur = va (h.getD i [])
        · have hb : ((cur.getD 3 0 == (h.getD i []).getD 2 0) && (cur.getD 1 0 == (h.getD i []).getD 1 0)) = true := by simp; exact hc
          rw [hb, cond_true, guardP_pos hin, guardP_pos hin, guardP_pos hin]
          refine ⟨_, rfl, _, rfl, by simp at hlen ⊢; omega, .inr ⟨pre, [it cur, va cur, fr cur, un (h.getD i []), kn cur], rfl, by simp, ?_⟩⟩
          rw [hj]
          show pre ++ (if _ then _ else _) = _
          rw [if_pos hc]
        · have hb : ((cur.getD 3 0 == (h.getD i []).getD 2 0) && (cur.getD 1 0 == (h.getD i []).getD 1 0)) = false := by
            rw [Bool.eq_false_iff]; intro h; simp at h; exact hc h
          rw [hb, cond_false, guardP_pos hfit]
          refine ⟨_, rfl, _, rfl, by simp at hlen ⊢; omega, .inr ⟨pre ++ [cur], n5 (h.getD i []), rfl, rfl, ?_⟩⟩
          rw [hj]
          show pre ++ (if _ then _ else _) = _
          rw [if_neg hc]
          simp)
    (fun xs ⟨out, e, hlen, hinv⟩ => by
      subst e
      refine ⟨2, [.i (h.length : Int), .r out], ?_, ?_⟩
      · unfold bitemp_join_l0_step
        simp only [gi_1, gi_z, gr_1, gr_z, dnlt]
      · have : out = jnL h := by
          rcases hinv with ⟨h0, rfl⟩ | ⟨pre, cur, _, rfl, hj⟩
          · rw [List.length_eq_zero_iff.1 h0]; rfl
          · rw [hj, List.drop_length]; rfl
        rw [this])
    (xs := bitemp_join_l0_init h) ⟨[], rfl, by simp, .inl ⟨rfl, rfl⟩⟩
  refine ⟨key.1, ?_⟩
  unfold bitemp_join_0 bitemp_join_l0
  rw [key.2]
  rfl
theorem jn2_is {i k : Int} : ∀ (rs : List (List Int)) (cur : List Int), HI i k (cur :: rs) → ∃ hd tl, jn2 cur rs = hd :: tl ∧ fr hd = fr cur ∧ va hd = va cur ∧ CAN i k (hd :: tl) ∧ (∀ y ∈ tl, fr cur < fr y) ∧ ∀ t v, hasV (hd :: tl) t v ↔ hasV (cur :: rs) t v := by
  intro rs
  induction rs with
  | nil =>
    intro cur h
    refine ⟨cur, [], rfl, rfl, rfl, ⟨h.1, List.pairwise_singleton _ _⟩, by simp, fun t v => Iff.rfl⟩
  | cons r rs ih =>
    intro cur h
    have hcur := h.1 cur (by simp)
    have hr := h.1 r (by simp)
    have hp := List.pairwise_cons.1 h.2
    have hp2 := List.pairwise_cons.1 hp.2
    have h1 := hp.1 r (by simp)
    obtain ⟨c1, c2, c3, c4, c5, c6, c7⟩ := hcur
    obtain ⟨r1, r2, r3, r4, r5, r6, r7⟩ := hr
    unfold jn2
    by_cases hc : un cur = fr r ∧ va cur = va r
    · rw [if_pos hc]
      have hh : HI i k ([it cur, va cur, fr cur, un r, kn cur] :: rs) := by
        refine ⟨fun x hx => ?_, List.pairwise_cons.2 ⟨fun y hy => hp2.1 y hy, hp2.2⟩⟩
        rcases List.mem_cons.1 hx with rfl | hx
        · exact ⟨rfl, c2, c3, c4, c5, r6, by show fr cur < un r; omega⟩
        · exact h.1 x (by simp [hx])
      obtain ⟨hd, tl, g1, g2, g3, g4, g5, g6⟩ := ih _ hh
      refine ⟨hd, tl, g1, g2, g3, g4, g5, fun t v => (g6 t v).trans ⟨?_, ?_⟩⟩
      · rintro ⟨x, hx, hx1, hx2, hx3⟩
        rcases List.mem_cons.1 hx with rfl | hx
        · have hx1 : fr cur ≤ t := hx1
          have hx2 : t < un r := hx2
          have hx3 : va cur = v := hx3
          by_cases ht : t < un cur
          · exact ⟨cur, by simp, hx1, ht, hx3⟩
          · exact ⟨r, by simp, by omega, hx2, by rw [← hc.2]; exact hx3⟩
        · exact ⟨x, by simp [hx], hx1, hx2, hx3⟩
      · rintro ⟨x, hx, hx1, hx2, hx3⟩
        rcases List.mem_cons.1 hx with rfl | hx
        · exact ⟨_, List.mem_cons_self, hx1, (show t < un r by omega), hx3⟩
        · rcases List.mem_cons.1 hx with rfl | hx
          · exact ⟨_, List.mem_cons_self, (show fr cur ≤ t by omega), hx2, (show va cur = v by rw [hc.2]; exact hx3)⟩
          · exact ⟨x, List.mem_cons_of_mem _ hx, hx1, hx2, hx3⟩
    · rw [if_neg hc, n5_eq r1]
      obtain ⟨hd, tl, g1, g2, g3, g4, g5, g6⟩ := ih r ⟨fun x hx => h.1 x (List.mem_cons_of_mem _ hx), hp.2⟩
      refine ⟨cur, hd :: tl, by rw [g1], rfl, rfl, ⟨fun x hx => ?_, List.pairwise_cons.2 ⟨fun y hy => ?_, g4.2⟩⟩, fun y hy => ?_, fun t v => ?_⟩
      · rcases List.mem_cons.1 hx with rfl | hx
        · exact h.1 _ (by simp)
        · exact g4.1 x hx
      · rcases List.mem_cons.1 hy with rfl | hy
        · by_cases e : un cur = fr y
          · exact .inr ⟨e, fun e2 => hc ⟨by rw [e, g2], by rw [e2, g3]⟩⟩
          · exact .inl (by omega)
        · have := g5 y hy
          exact .inl (by omega)
      · rcases List.mem_cons.1 hy with rfl | hy
        · omega
        · have := g5 y hy
          omega
      · constructor
        · rintro ⟨x, hx, hx1⟩
          rcases List.mem_cons.1 hx with rfl | hx
          · exact ⟨x, by simp, hx1⟩
          · obtain ⟨y, hy, hy1⟩ := (g6 t v).1 ⟨x, hx, hx1⟩
            exact ⟨y, List.mem_cons_of_mem _ hy, hy1⟩
        · rintro ⟨x, hx, hx1⟩
          rcases List.mem_cons.1 hx with rfl | hx
          · exact ⟨x, by simp, hx1⟩
          · obtain ⟨y, hy, hy1⟩ := (g6 t v).2 ⟨x, hx, hx1⟩
            exact ⟨y, List.mem_cons_of_mem _ hy, hy1⟩
theorem jnL_is {i k : Int} {h : List (List Int)} (hh : HI i k h) : CAN i k (jnL h) ∧ ∀ t v, hasV (jnL h) t v ↔ hasV h t v := by
  cases h with
  | nil => exact ⟨⟨by simp [jnL], List.Pairwise.nil⟩, fun t v => Iff.rfl⟩
  | cons r rs =>
    have e : jnL (r :: rs) = jn2 r rs := by
      show jn2 (n5 r) rs = jn2 r rs
      rw [n5_eq (hh.1 r (by simp)).1]
    obtain ⟨hd, tl, g1, g2, g3, g4, g5, g6⟩ := jn2_is rs r hh
    rw [e, g1]
    exact ⟨g4, g6⟩

/-! ### covering -/
def pcs (a b : Int) (x : List Int) : List (List Int) := (if fr x < imin (un x) a then [[it x, va x, fr x, imin (un x) a, kn x]] else []) ++ (if imax (fr x) b < un x then [[it x, va x, imax (fr x) b, un x, kn x]] else [])
theorem pcs_len (a b : Int) (x : List Int) : (pcs a b x).length ≤ 2 := by
  unfold pcs; split <;> split <;> simp
theorem flat_len (a b : Int) : ∀ h : List (List Int), (h.flatMap (pcs a b)).length ≤ 2 * h.length
  | [] => by simp
  | x :: h => by
    have := flat_len a b h
    have := pcs_len a b x
    simp only [List.flatMap_cons, List.length_append, List.length_cons]
    omega
theorem flat_snoc (a b : Int) (l : List (List Int)) (x : List Int) : (l ++ [x]).flatMap (pcs a b) = l.flatMap (pcs a b) ++ pcs a b x := by
  simp [List.flatMap_append]
theorem cover_is (r0 r1 a b r4 : Int) (h : List (List Int)) (hl : h.length ≤ 10000000) (hn : ((h.flatMap (pcs a b) ++ [[r0, r1, a, b, r4]]).map fun r => r.getD 2 0).Nodup) :
    bitemp_cover_pre r0 r1 a b r4 h ∧ bitemp_cover_0 r0 r1 a b r4 h = sortRows 5 [2] (h.flatMap (pcs a b) ++ [[r0, r1, a, b, r4]]) := by
  have key := loop_for (step := bitemp_cover_l0_step r0 r1 a b r4 h) h.length (fun i xs => xs = [.i (i : Int), .r ((h.take i).flatMap (pcs a b))]) (fun res => res = (5, [.i (h.length : Int), .r (h.flatMap (pcs a b))]))
    (fun i xs hi e => by
      subst e
      refine .inl ⟨_, ?_, rfl⟩
      have hlen := flat_len a b (h.take i)
      rw [List.length_take] at hlen
      rw [take_succ' hi, flat_snoc]
      generalize (h.take i).flatMap (pcs a b) = out at hlen
      have e1 : bitemp_cover_s1 r0 r1 a b r4 h [U.i (i : Int), U.r out] = out ++ [[it (h.getD i []), va (h.getD i []), fr (h.getD i []), imin (un (h.getD i [])) a, kn (h.getD i [])]] := by
        unfold bitemp_cover_s1 bitemp_cover_s0
        simp only [gi_1, gi_z, gr_1, gr_z, Int.toNat_natCast]
      have e3 : bitemp_cover_s3 r0 r1 a b r4 h [U.i (i : Int), U.r out] = out ++ [[it (h.getD i []), va (h.getD i []), fr (h.getD i []), imin (un (h.getD i [])) a, kn (h.getD i [])]] ++ [[it (h.getD i []), va (h.getD i []), imax (fr (h.getD i [])) b, un (h.getD i []), kn (h.getD i [])]] := by
        unfold bitemp_cover_s3 bitemp_cover_s2
        rw [e1]
        simp only [gi_1, gi_z, gr_1, gr_z, Int.toNat_natCast]
      have e4 : bitemp_cover_s4 r0 r1 a b r4 h [U.i (i : Int), U.r out] = out ++ [[it (h.getD i []), va (h.getD i []), imax (fr (h.getD i [])) b, un (h.getD i []), kn (h.getD i [])]] := by
        unfold bitemp_cover_s4 bitemp_cover_s2
        simp only [gi_1, gi_z, gr_1, gr_z, Int.toNat_natCast]
      have hfit : ∀ (c : Nat) (x : List Int), c ≤ 40000000 → fitsA 40 (c + [x].length) := fun c x hc => by
        unfold fitsA maxLen; simp only [List.length_cons, List.length_nil]; omega
      unfold bitemp_cover_l0_step
      simp only [gi_1, gi_z, gr_1, gr_z, dlt hi, guardP_pos (inR_of hi), Int.toNat_natCast, wrap_succ (show i < 4611686018427387904 by omega), e1, e3, e4]
      unfold pcs
      by_cases c1 : fr (h.getD i []) < imin (un (h.getD i [])) a
      · rw [decide_eq_true c1, cond_true, guardP_pos (hfit _ _ (by omega)), if_pos c1]
        by_cases c2 : imax (fr (h.getD i [])) b < un (h.getD i [])
        · rw [decide_eq_true c2, cond_true, guardP_pos (hfit _ _ (by simp; omega)), if_pos c2, List.append_assoc]
        · rw [decide_eq_false c2, cond_false, if_neg c2, List.append_nil]
      · rw [decide_eq_false c1, cond_false, if_neg c1]
        by_cases c2 : imax (fr (h.getD i [])) b < un (h.getD i [])
        · rw [decide_eq_true c2, cond_true, guardP_pos (hfit _ _ (by omega)), if_pos c2, List.nil_append]
        · rw [decide_eq_false c2, cond_false, if_neg c2, List.append_nil, List.append_nil])
    (fun xs e => by
      subst e
      refine ⟨4, [.i (h.length : Int), .r (h.flatMap (pcs a b))], ?_, rfl⟩
      unfold bitemp_cover_l0_step
      simp only [gi_1, gi_z, gr_1, gr_z, dnlt, List.take_length])
    (xs := bitemp_cover_l0_init r0 r1 a b r4 h) rfl
  have e : bitemp_cover_l0 r0 r1 a b r4 h = (5, [.i (h.length : Int), .r (h.flatMap (pcs a b))]) := key.2
  unfold bitemp_cover_pre bitemp_cover_0
  rw [e]
  have eg : gr ((5, [U.i (h.length : Int), U.r (h.flatMap (pcs a b))]) : Nat × List U).2 1 = h.flatMap (pcs a b) := by simp only [gr_1, gr_z]
  rw [eg]
  have hlen := flat_len a b h
  refine ⟨⟨key.1, ?_, by simp, by simp only [List.length_append, List.length_cons, List.length_nil]; omega, hn⟩, rfl⟩
  unfold fitsA maxLen; simp only [List.length_cons, List.length_nil]; omega
def DJ (a b : List Int) : Prop := un a ≤ fr b ∨ un b ≤ fr a
theorem pcs_mem {i k a b : Int} {x y : List Int} (hx : HR i k x) (hy : y ∈ pcs a b x) : HR i k y ∧ va y = va x ∧ fr x ≤ fr y ∧ un y ≤ un x ∧ (un y ≤ a ∨ b ≤ fr y) := by
  obtain ⟨c1, c2, c3, c4, c5, c6, c7⟩ := hx
  unfold pcs at hy
  rw [imin_eq, imax_eq] at hy
  unfold TM at c5 c6
  rcases List.mem_append.1 hy with hy | hy
  · by_cases hc : fr x < (if un x ≤ a then un x else a)
    · rw [if_pos hc] at hy
      simp only [List.mem_singleton] at hy
      subst hy
      refine ⟨⟨rfl, c2, c3, c4, c5, ?_, hc⟩, rfl, Int.le_refl _, ?_, .inl ?_⟩
      · show TM (if un x ≤ a then un x else a)
        unfold TM
        by_cases h1 : un x ≤ a
        · rw [if_pos h1] at hc ⊢; omega
        · rw [if_neg h1] at hc ⊢; omega
      · show (if un x ≤ a then un x else a) ≤ un x
        split <;> omega
      · show (if un x ≤ a then un x else a) ≤ a
        split <;> omega
    · rw [if_neg hc] at hy; cases hy
  · by_cases hc : (if fr x ≤ b then b else fr x) < un x
    · rw [if_pos hc] at hy
      simp only [List.mem_singleton] at hy
      subst hy
      refine ⟨⟨rfl, c2, c3, c4, ?_, c6, hc⟩, rfl, ?_, Int.le_refl _, .inr ?_⟩
      · show TM (if fr x ≤ b then b else fr x)
        unfold TM
        by_cases h1 : fr x ≤ b
        · rw [if_pos h1] at hc ⊢; omega
        · rw [if_neg h1] at hc ⊢; omega
      · show fr x ≤ (if fr x ≤ b then b else fr x)
        split <;> omega
      · show b ≤ (if fr x ≤ b then b else fr x)
        split <;> omega
    · rw [if_neg hc] at hy; cases hy
theorem pcs_has {a b t : Int} {x : List Int} (h1 : fr x ≤ t) (h2 : t < un x) (h3 : t < a ∨ b ≤ t) : ∃ y ∈ pcs a b x, fr y ≤ t ∧ t < un y ∧ va y = va x := by
  unfold pcs
  rw [imin_eq, imax_eq]
  rcases h3 with h3 | h3
  · have hc : fr x < (if un x ≤ a then un x else a) := by split <;> omega
    refine ⟨[it x, va x, fr x, (if un x ≤ a then un x else a), kn x], List.mem_append.2 (.inl (by rw [if_pos hc]; simp)), h1, ?_, rfl⟩
    show t < (if un x ≤ a then un x else a)
    split <;> omega
  · have hc : (if fr x ≤ b then b else fr x) < un x := by split <;> omega
    refine ⟨[it x, va x, (if fr x ≤ b then b else fr x), un x, kn x], List.mem_append.2 (.inr (by rw [if_pos hc]; simp)), ?_, h2, rfl⟩
    show (if fr x ≤ b then b else fr x) ≤ t
    split <;> omega
theorem DJ.symm {a b : List Int} (h : DJ a b) : DJ b a := h.elim .inr .inl
theorem flat_dj {i k a b : Int} {h : List (List Int)} (hab : a < b) (hh : HI i k h) (r0 r1 r4 : Int) : (h.flatMap (pcs a b) ++ [[r0, r1, a, b, r4]]).Pairwise DJ := by
  refine List.pairwise_append.2 ⟨List.pairwise_flatMap.2 ⟨fun x hx => ?_, ?_⟩, List.pairwise_singleton _ _, fun y hy z hz => ?_⟩
  · unfold pcs
    rw [imin_eq, imax_eq]
    refine List.pairwise_append.2 ⟨?_, ?_, fun y hy z hz => .inl ?_⟩
    · by_cases hc : fr x < (if un x ≤ a then un x else a)
      · rw [if_pos hc]; simp
      · rw [if_neg hc]; simp
    · by_cases hc : (if fr x ≤ b then b else fr x) < un x
      · rw [if_pos hc]; simp
      · rw [if_neg hc]; simp
    · by_cases hc : fr x < (if un x ≤ a then un x else a)
      · rw [if_pos hc] at hy
        by_cases hc2 : (if fr x ≤ b then b else fr x) < un x
        · rw [if_pos hc2] at hz
          simp only [List.mem_singleton] at hy hz
          subst hy; subst hz
          show (if un x ≤ a then un x else a) ≤ (if fr x ≤ b then b else fr x)
          split <;> split <;> omega
        · rw [if_neg hc2] at hz; cases hz
      · rw [if_neg hc] at hy; cases hy
  · refine hh.2.imp_of_mem fun {x y} hx hy hxy => ?_
    intro u hu w hw
    have h1 := pcs_mem (hh.1 x hx) hu
    have h2 := pcs_mem (hh.1 y hy) hw
    exact .inl (by omega)
  · simp only [List.mem_singleton] at hz
    subst hz
    obtain ⟨x, hx, hy⟩ := List.mem_flatMap.1 hy
    have h1 := pcs_mem (hh.1 x hx) hy
    show un y ≤ a ∨ b ≤ fr y
    exact h1.2.2.2.2
theorem leL_fr {a b : List Int} (h : leL [2] a b = true) : fr a ≤ fr b := by
  unfold leL at h
  show a.getD 2 0 ≤ b.getD 2 0
  split at h
  · omega
  · have := of_decide_eq_true h; omega
theorem cover_hi {i k : Int} {h : List (List Int)} {r : List Int} (hh : HI i k h) (hr : HR i k r) : bitemp_cover_pre (it r) (va r) (fr r) (un r) k h ∧ HI i k (bitemp_cover_0 (it r) (va r) (fr r) (un r) k h) ∧
    ∀ t v, hasV (bitemp_cover_0 (it r) (va r) (fr r) (un r) k h) t v ↔ if fr r ≤ t ∧ t < un r then v = va r else hasV h t v := by
  obtain ⟨c1, c2, c3, c4, c5, c6, c7⟩ := id hr
  have hdj := flat_dj c7 hh (it r) (va r) k
  have hm : ∀ y ∈ h.flatMap (pcs (fr r) (un r)) ++ [[it r, va r, fr r, un r, k]], HR i k y := by
    intro y hy
    rcases List.mem_append.1 hy with hy | hy
    · obtain ⟨x, hx, hy⟩ := List.mem_flatMap.1 hy
      exact (pcs_mem (hh.1 x hx) hy).1
    · simp only [List.mem_singleton] at hy
      subst hy
      exact ⟨rfl, c2, rfl, c4, c5, c6, c7⟩
  have hn : ((h.flatMap (pcs (fr r) (un r)) ++ [[it r, va r, fr r, un r, k]]).map fun r => r.getD 2 0).Nodup := by
    rw [List.nodup_iff_pairwise_ne, List.pairwise_map]
    refine hdj.imp_of_mem fun {x y} hx hy hxy => ?_
    have h1 := (hm x hx).2.2.2.2.2.2
    have h2 := (hm y hy).2.2.2.2.2.2
    show fr x ≠ fr y
    rcases hxy with h | h <;> omega
  obtain ⟨hp, he⟩ := cover_is (it r) (va r) (fr r) (un r) k h hh.len hn
  have hnorm : (h.flatMap (pcs (fr r) (un r)) ++ [[it r, va r, fr r, un r, k]]).map (norm 5) = h.flatMap (pcs (fr r) (un r)) ++ [[it r, va r, fr r, un r, k]] := map_norm fun y hy => (hm y hy).1
  rw [he]
  unfold sortRows
  rw [hnorm]
  have hmem : ∀ y, y ∈ isort (leL [2]) (h.flatMap (pcs (fr r) (un r)) ++ [[it r, va r, fr r, un r, k]]) ↔ y ∈ h.flatMap (pcs (fr r) (un r)) ++ [[it r, va r, fr r, un r, k]] := fun y => isort_mem
  refine ⟨hp, ⟨fun y hy => hm y ((hmem y).1 hy), ?_⟩, fun t v => ?_⟩
  · have h1 := isort_sorted (le := leL [2]) (leL_total _) (leL_trans _) (h.flatMap (pcs (fr r) (un r)) ++ [[it r, va r, fr r, un r, k]])
    have h2 := ((isort_perm (le := leL [2]) (h.flatMap (pcs (fr r) (un r)) ++ [[it r, va r, fr r, un r, k]])).pairwise_iff (R := DJ) (fun {a b} h => h.symm)).2 hdj
    refine (h1.and h2).imp_of_mem fun {x y} hx hy hxy => ?_
    have g1 := leL_fr hxy.1
    have g2 := (hm x ((hmem x).1 hx)).2.2.2.2.2.2
    have g3 := (hm y ((hmem y).1 hy)).2.2.2.2.2.2
    rcases hxy.2 with h | h
    · exact h
    · omega
  · constructor
    · rintro ⟨y, hy, hy1, hy2, hy3⟩
      rcases List.mem_append.1 ((hmem y).1 hy) with hy | hy
      · obtain ⟨x, hx, hy⟩ := List.mem_flatMap.1 hy
        obtain ⟨_, g2, g3, g4, g5⟩ := pcs_mem (hh.1 x hx) hy
        rw [if_neg (by omega)]
        exact ⟨x, hx, by omega, by omega, by rw [← g2]; exact hy3⟩
      · simp only [List.mem_singleton] at hy
        subst hy
        rw [if_pos ⟨hy1, hy2⟩]
        exact hy3.symm
    · intro h0
      split at h0
      · rename_i hc
        subst h0
        exact ⟨[it r, va r, fr r, un r, k], (hmem _).2 (by simp), hc.1, hc.2, rfl⟩
      · rename_i hc
        obtain ⟨x, hx, g1, g2, g3⟩ := h0
        obtain ⟨y, hy, hy1, hy2, hy3⟩ := pcs_has (a := fr r) (b := un r) g1 g2 (by omega)
        exact ⟨y, (hmem y).2 (List.mem_append.2 (.inl (List.mem_flatMap.2 ⟨x, hx, hy⟩))), hy1, hy2, by rw [hy3, g3]⟩

/-! ### the history of an item -/
/-- What holds at a time, as it was known at a time. -/
def HV (l : List (List Int)) (i t k v : Int) : Prop := ∃ r, HO l i t k = some r ∧ va r = v
theorem history_is (i k : Int) (l : List (List Int)) (hl : VR l) : bitemp_history_pre i k l ∧ CAN i k (bitemp_history_0 i k l) ∧ ∀ t v, hasV (bitemp_history_0 i k l) t v ↔ HV l i t k v := by
  have hlen : l.length ≤ 200 := hl.1
  have key := loop_for (step := bitemp_history_l0_step i k l) l.length (fun j xs => ∃ h, xs = [.i (j : Int), .r h] ∧ HI i k h ∧ ∀ t v, hasV h t v ↔ HV (l.take j) i t k v)
    (fun res => ∃ h, res = (3, [.i (l.length : Int), .r h]) ∧ HI i k h ∧ ∀ t v, hasV h t v ↔ HV l i t k v)
    (fun j xs hj ⟨h, e, hh, hv⟩ => by
      subst e
      refine .inl ?_
      have hro := hl.2.1 _ (getD_mem hj)
      unfold bitemp_history_l0_step bitemp_history_s0
      simp only [gi_1, gi_z, gr_1, gr_z, dlt hj, guardP_pos (inR_of hj), Int.toNat_natCast, wrap_succ (show j < 4611686018427387904 by omega)]
      by_cases hc : it (l.getD j []) = i ∧ kn (l.getD j []) ≤ k
      · have hb : (((l.getD j []).getD 0 0 == i && decide ((l.getD j []).getD 4 0 ≤ k)) == true) = true := by simp; exact hc
        have hr : HR i k [it (l.getD j []), va (l.getD j []), fr (l.getD j []), un (l.getD j []), k] := ⟨rfl, hc.1, rfl, hro.2.1, hro.2.2.1, hro.2.2.2.1, hro.2.2.2.2.1⟩
        obtain ⟨g1, g2, g3⟩ := cover_hi hh hr
        have g1' : bitemp_cover_pre ((l.getD j []).getD 0 0) ((l.getD j []).getD 1 0) ((l.getD j []).getD 2 0) ((l.getD j []).getD 3 0) k h := g1
        rw [hb, cond_true, guardP_pos g1']
        refine ⟨_, rfl, _, rfl, g2, fun t v => ?_⟩
        refine (g3 t v).trans ?_
        rw [take_succ' hj]
        unfold HV
        rw [HO_snoc]
        show (if fr (l.getD j []) ≤ t ∧ t < un (l.getD j []) then v = va (l.getD j []) else hasV h t v) ↔ _
        by_cases ht : fr (l.getD j []) ≤ t ∧ t < un (l.getD j [])
        · have hs : says i t k (l.getD j []) = true := by unfold says; simp; exact ⟨⟨hc, ht.1⟩, ht.2⟩
          rw [if_pos ht, if_pos hs]
          constructor
          · rintro rfl; exact ⟨_, rfl, rfl⟩
          · rintro ⟨r, hr, rfl⟩; cases hr; rfl
        · have hs : ¬ says i t k (l.getD j []) = true := fun h => by
            unfold says at h
            simp only [Bool.and_eq_true, decide_eq_true_eq, beq_iff_eq] at h
            exact ht ⟨h.1.2, h.2⟩
          rw [if_neg ht, if_neg hs]
          exact hv t v
      · have hb : (((l.getD j []).getD 0 0 == i && decide ((l.getD j []).getD 4 0 ≤ k)) == true) = false := by
          rw [Bool.eq_false_iff]; intro h; simp at h; exact hc h
        rw [hb, cond_false]
        refine ⟨_, rfl, _, rfl, hh, fun t v => (hv t v).trans ?_⟩
        rw [take_succ' hj]
        unfold HV
        rw [HO_snoc, if_neg]
        unfold says
        intro h
        simp at h
        exact hc ⟨h.1.1.1, h.1.1.2⟩)
    (fun xs ⟨h, e, hh, hv⟩ => by
      subst e
      refine ⟨2, [.i (l.length : Int), .r h], ?_, h, rfl, hh, fun t v => by rw [hv t v, List.take_length]⟩
      unfold bitemp_history_l0_step
      simp only [gi_1, gi_z, gr_1, gr_z, dnlt])
    (xs := bitemp_history_l0_init i k l) ⟨[], rfl, ⟨by simp, List.Pairwise.nil⟩, fun t v => ⟨fun ⟨x, hx, _⟩ => (by cases hx), fun ⟨r, hr, _⟩ => (by cases hr)⟩⟩
  obtain ⟨hok, h, he, hh, hv⟩ := key
  have e : bitemp_history_l0 i k l = (3, [.i (l.length : Int), .r h]) := he
  unfold bitemp_history_pre bitemp_history_0
  rw [e]
  have eg : gr ((3, [U.i (l.length : Int), U.r h]) : Nat × List U).2 1 = h := by simp only [gr_1, gr_z]
  rw [eg]
  have hj := join_is h (by have := hh.len; omega)
  have hc := jnL_is hh
  rw [hj.2]
  exact ⟨⟨hok, hj.1⟩, hc.1, fun t v => (hc.2 t v).trans (hv t v)⟩
/-- The arguments of History are valid. -/
def IOK (l : List (List Int)) (i k : Int) : Prop := VR l ∧ IT i ∧ TM k
instance (l : List (List Int)) (i k : Int) : Decidable (IOK l i k) := by unfold IOK; infer_instance
theorem iok_b (l : List (List Int)) (i k : Int) : (!bitemp_Valid_0 l || !bitemp_isItem_0 i || !bitemp_isTime_0 k) = !decide (IOK l i k) := by
  rw [(valid_is l).2, isItem_eq, isTime_eq, Bool.eq_iff_iff]
  unfold IOK
  simp
  by_cases h : VR l <;> by_cases h2 : IT i <;> simp [h, h2]
theorem History_is (i k : Int) (l : List (List Int)) : bitemp_History_pre i k l ∧ bitemp_History_0 i k l = (if IOK l i k then bitemp_history_0 i k l else []) ∧ bitemp_History_1 i k l = if IOK l i k then 0 else 1 := by
  unfold bitemp_History_pre bitemp_History_0 bitemp_History_1
  rw [iok_b]
  by_cases h : IOK l i k
  · rw [decide_eq_true h, if_pos h, if_pos h]
    exact ⟨⟨(valid_is l).1, fun _ => (history_is i k l h.1).1⟩, rfl, rfl⟩
  · rw [decide_eq_false h, if_neg h, if_neg h]
    exact ⟨⟨(valid_is l).1, fun h => (by cases h)⟩, rfl, rfl⟩

/-! ### a history is determined by what holds -/
theorem hasV_one {i k : Int} {h : List (List Int)} (hc : CAN i k h) {t v v' : Int} (h1 : hasV h t v) (h2 : hasV h t v') : v = v' := by
  obtain ⟨x, hx, x1, x2, rfl⟩ := h1
  obtain ⟨y, hy, y1, y2, rfl⟩ := h2
  obtain ⟨a, ha, rfl⟩ := getD_of_mem hx
  obtain ⟨b, hb, rfl⟩ := getD_of_mem hy
  rcases Nat.lt_trichotomy a b with h | h | h
  · have := pairwise_getD hc.hi.2 h hb; omega
  · rw [h]
  · have := pairwise_getD hc.hi.2 h ha; omega
theorem can_eq {i k : Int} : ∀ {a b : List (List Int)}, CAN i k a → CAN i k b → (∀ t v, hasV a t v ↔ hasV b t v) → a = b := by
  intro a
  induction a with
  | nil =>
    intro b _ hb h
    cases b with
    | nil => rfl
    | cons y s =>
      obtain ⟨x, hx, _⟩ := (h (fr y) (va y)).2 ⟨y, by simp, Int.le_refl _, (hb.1 y (by simp)).2.2.2.2.2.2, rfl⟩
      cases hx
  | cons x r ih =>
    intro b ha hb h
    cases b with
    | nil =>
      obtain ⟨y, hy, _⟩ := (h (fr x) (va x)).1 ⟨x, by simp, Int.le_refl _, (ha.1 x (by simp)).2.2.2.2.2.2, rfl⟩
      cases hy
    | cons y s =>
      have hx := ha.1 x (by simp)
      have hy := hb.1 y (by simp)
      have hx7 := hx.2.2.2.2.2.2
      have hy7 := hy.2.2.2.2.2.2
      have pa := List.pairwise_cons.1 ha.hi.2
      have pb := List.pairwise_cons.1 hb.hi.2
      have ca := List.pairwise_cons.1 ha.2
      have cb := List.pairwise_cons.1 hb.2
      have vx : hasV (x :: r) (fr x) (va x) := ⟨x, by simp, Int.le_refl _, hx7, rfl⟩
      have vy : hasV (y :: s) (fr y) (va y) := ⟨y, by simp, Int.le_refl _, hy7, rfl⟩
      have e1 : fr y ≤ fr x := by
        obtain ⟨z, hz, z1, z2, _⟩ := (h _ _).1 vx
        rcases List.mem_cons.1 hz with rfl | hz
        · exact z1
        · have := pb.1 z hz; omega
      have e2 : fr x ≤ fr y := by
        obtain ⟨z, hz, z1, z2, _⟩ := (h _ _).2 vy
        rcases List.mem_cons.1 hz with rfl | hz
        · exact z1
        · have := pa.1 z hz; omega
      have e3 : fr x = fr y := by omega
      have e4 : va x = va y := hasV_one hb ((h _ _).1 vx) (by rw [e3]; exact vy)
      have e5 : ¬ un x < un y := by
        intro hlt
        obtain ⟨z, hz, z1, z2, z3⟩ := (h (un x) (va y)).2 ⟨y, by simp, by omega, hlt, rfl⟩
        rcases List.mem_cons.1 hz with rfl | hz
        · omega
        · rcases ca.1 z hz with h1 | ⟨h1, h2⟩
          · omega
          · exact h2 (by rw [e4, z3])
      have e6 : ¬ un y < un x := by
        intro hlt
        obtain ⟨z, hz, z1, z2, z3⟩ := (h (un y) (va x)).1 ⟨x, by simp, by omega, hlt, rfl⟩
        rcases List.mem_cons.1 hz with rfl | hz
        · omega
        · rcases cb.1 z hz with h1 | ⟨h1, h2⟩
          · omega
          · exact h2 (by rw [← e4, z3])
      have e7 : un x = un y := by omega
      have exy : x = y := by
        rw [← n5_eq hx.1, ← n5_eq hy.1]
        unfold n5
        rw [e3, e4, e7, hx.2.1, hy.2.1, hx.2.2.1, hy.2.2.1]
      subst exy
      congr 1
      refine ih ⟨fun z hz => ha.1 z (by simp [hz]), ca.2⟩ ⟨fun z hz => hb.1 z (by simp [hz]), cb.2⟩ fun t v => ⟨?_, ?_⟩
      · rintro ⟨z, hz, z1, z2, z3⟩
        have := pa.1 z hz
        obtain ⟨w, hw, w1, w2, w3⟩ := (h t v).1 ⟨z, by simp [hz], z1, z2, z3⟩
        rcases List.mem_cons.1 hw with rfl | hw
        · omega
        · exact ⟨w, hw, w1, w2, w3⟩
      · rintro ⟨z, hz, z1, z2, z3⟩
        have := pb.1 z hz
        obtain ⟨w, hw, w1, w2, w3⟩ := (h t v).2 ⟨z, by simp [hz], z1, z2, z3⟩
        rcases List.mem_cons.1 hw with rfl | hw
        · omega
        · exact ⟨w, hw, w1, w2, w3⟩
end Go.Proofs.Ytcbgjecpnhjlpaa
