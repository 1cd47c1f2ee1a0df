/-
  The executor's operations are sound: what an operation does to abstract values, the model's operation does to what they stand for.
-/
import Derived.Test.YtbopeaebdlmapaaSxA
namespace Go.Sx
open Go.RowKit

theorem denL_map (E : Env) : ∀ l : List AV, AV.denL E l = l.map (AV.den E)
  | [] => rfl
  | a :: r => by simp [AV.denL, denL_map E r]
theorem allL_iff (p : Nat → Prop) : ∀ l : List AV, AV.allL p l ↔ ∀ a ∈ l, AV.all p a
  | [] => by simp [AV.allL]
  | a :: r => by simp [AV.allL, allL_iff p r]
theorem ltL_all (n : Nat) : ∀ l : List AV, AV.ltL n l ↔ ∀ a ∈ l, AV.lt n a := allL_iff _

mutual
theorem den_congr_all {E E' : Env} {p : Nat → Prop} (h : ∀ k, p k → E' k = E k) : ∀ v : AV, AV.all p v → v.den E' = v.den E
  | .bool _, _ => rfl
  | .int _ _, _ => rfl
  | .ptr key off, hv => by simp [AV.den, h key hv]
  | .val _, _ => rfl
  | .fn f a b, hv => by simp [AV.den, denL_congr_all h a hv.1, denL_congr_all h b hv.2]
  | .agg cs, hv => by simp [AV.den, denL_congr_all h cs hv]
  | .tup cs, hv => by simp [AV.den, denL_congr_all h cs hv]
theorem denL_congr_all {E E' : Env} {p : Nat → Prop} (h : ∀ k, p k → E' k = E k) : ∀ l : List AV, AV.allL p l → AV.denL E' l = AV.denL E l
  | [], _ => rfl
  | a :: r, hl => by simp [AV.denL, den_congr_all h a hl.1, denL_congr_all h r hl.2]
end
theorem den_congr {E E' : Env} {n : Nat} (h : ∀ k, k < n → E' k = E k) (v : AV) (hv : AV.lt n v) : v.den E' = v.den E := den_congr_all h v hv
theorem denL_congr {E E' : Env} {n : Nat} (h : ∀ k, k < n → E' k = E k) (l : List AV) (hl : AV.ltL n l) : AV.denL E' l = AV.denL E l := denL_congr_all h l hl

mutual
theorem all_imp {p q : Nat → Prop} (h : ∀ k, p k → q k) : ∀ v : AV, AV.all p v → AV.all q v
  | .bool _, _ => trivial
  | .int _ _, _ => trivial
  | .ptr key _, hv => h key hv
  | .val _, _ => trivial
  | .fn _ a b, hv => ⟨allL_imp h a hv.1, allL_imp h b hv.2⟩
  | .agg cs, hv => allL_imp h cs hv
  | .tup cs, hv => allL_imp h cs hv
theorem allL_imp {p q : Nat → Prop} (h : ∀ k, p k → q k) : ∀ l : List AV, AV.allL p l → AV.allL q l
  | [], _ => trivial
  | a :: r, hl => ⟨all_imp h a hl.1, allL_imp h r hl.2⟩
end
theorem lt_mono {n m : Nat} (h : n ≤ m) (v : AV) (hv : AV.lt n v) : AV.lt m v := all_imp (fun _ hk => Nat.lt_of_lt_of_le hk h) v hv
theorem ltL_mono {n m : Nat} (h : n ≤ m) (l : List AV) (hl : AV.ltL n l) : AV.ltL m l := allL_imp (fun _ hk => Nat.lt_of_lt_of_le hk h) l hl

mutual
theorem flat_lt : ∀ v : AV, v.flat = true → AV.lt 0 v
  | .bool _, _ => trivial
  | .int _ _, _ => trivial
  | .ptr key off, hv => by cases hv
  | .val _, _ => trivial
  | .fn f a b, hv => by
    have hv : (AV.flatL a && AV.flatL b) = true := hv
    rw [Bool.and_eq_true] at hv
    exact ⟨flatL_lt a hv.1, flatL_lt b hv.2⟩
  | .agg cs, hv => flatL_lt cs hv
  | .tup cs, hv => flatL_lt cs hv
theorem flatL_lt : ∀ l : List AV, AV.flatL l = true → AV.ltL 0 l
  | [], _ => trivial
  | a :: r, hl => by
    have hl : (AV.flat a && AV.flatL r) = true := hl
    rw [Bool.and_eq_true] at hl
    exact ⟨flat_lt a hl.1, flatL_lt r hl.2⟩
end
theorem flat_den {v : AV} (h : v.flat = true) (E E' : Env) : v.den E' = v.den E := den_congr (n := 0) (fun k hk => by omega) v (flat_lt v h)

theorem den_ofScalar (E : Env) (v : Value) : (ofScalar v).den E = v := rfl
theorem den_ofValue (E : Env) (v : Value) : (ofValue v).den E = v := by
  cases v with
  | agg cs =>
    simp only [ofValue, AV.den, denL_map, List.map_map]
    have : (cs.toList.map (AV.den E ∘ ofScalar)) = cs.toList := by
      conv => rhs; rw [← List.map_id cs.toList]
      exact List.map_congr_left fun v _ => den_ofScalar E v
    rw [this]
  | _ => rfl
theorem lt_ofScalar (n : Nat) (v : Value) : AV.lt n (ofScalar v) := trivial
theorem lt_ofValue (n : Nat) (v : Value) : AV.lt n (ofValue v) := by
  cases v with
  | agg cs =>
    show AV.ltL n _
    rw [ltL_all]
    intro a ha
    obtain ⟨x, _, rfl⟩ := List.mem_map.1 ha
    exact lt_ofScalar n x
  | _ => trivial

/-! ### known values -/
mutual
theorem den_weak (E : Env) : ∀ v : AV, v.weak.den E = v.den E
  | .bool _ | .int _ _ | .ptr _ _ | .fn _ _ _ => rfl
  | .val v => by cases v <;> rfl
  | .agg cs => by simp only [AV.weak, AV.den, denL_weak E cs]
  | .tup cs => by simp only [AV.weak, AV.den, denL_weak E cs]
theorem denL_weak (E : Env) : ∀ l : List AV, AV.denL E (AV.weakL l) = AV.denL E l
  | [] => rfl
  | a :: r => by simp only [AV.weakL, AV.denL, den_weak E a, denL_weak E r]
end
mutual
theorem all_weak {p : Nat → Prop} : ∀ v : AV, AV.all p v → AV.all p v.weak
  | .bool _, h | .int _ _, h | .ptr _ _, h | .fn _ _ _, h => h
  | .val v, _ => by cases v <;> trivial
  | .agg cs, h => allL_weak cs h
  | .tup cs, h => allL_weak cs h
theorem allL_weak {p : Nat → Prop} : ∀ l : List AV, AV.allL p l → AV.allL p (AV.weakL l)
  | [], _ => trivial
  | a :: r, h => ⟨all_weak a h.1, allL_weak r h.2⟩
end
mutual
theorem flat_weak : ∀ v : AV, v.weak.flat = v.flat
  | .bool _ | .int _ _ | .ptr _ _ | .fn _ _ _ => rfl
  | .val v => by cases v <;> rfl
  | .agg cs => flatL_weak cs
  | .tup cs => flatL_weak cs
theorem flatL_weak : ∀ l : List AV, AV.flatL (AV.weakL l) = AV.flatL l
  | [] => rfl
  | a :: r => by simp only [AV.weakL, AV.flatL, flat_weak a, flatL_weak r]
end
mutual
theorem weak_weak : ∀ v : AV, v.weak.weak = v.weak
  | .bool _ | .int _ _ | .ptr _ _ | .fn _ _ _ => rfl
  | .val v => by cases v <;> rfl
  | .agg cs => by simp only [AV.weak, weakL_weak cs]
  | .tup cs => by simp only [AV.weak, weakL_weak cs]
theorem weakL_weak : ∀ l : List AV, AV.weakL (AV.weakL l) = AV.weakL l
  | [] => rfl
  | a :: r => by simp only [AV.weakL, weak_weak a, weakL_weak r]
end
theorem den_strong (E : Env) (v : AV) : v.strong.den E = v.den E := by cases v <;> rfl
theorem lt_strong {p : Nat → Prop} {v : AV} (h : AV.all p v) : AV.all p v.strong := by cases v <;> first | trivial | exact h

theorem cells_den {v : AV} (h : v.plainCells = true) (E : Env) : (v.den E).cells = (AV.denL E v.cells).toArray := by
  cases v with
  | val x => cases x <;> first | rfl | cases h
  | _ => simp [AV.cells, AV.denL, AV.den, Value.cells]
theorem lt_cells {n : Nat} {v : AV} (h : AV.lt n v) : AV.ltL n v.cells := by
  cases v with
  | agg cs => exact h
  | _ => exact ⟨h, trivial⟩

theorem beq_ne {k m : Nat} (h : k ≠ m) : Nat.beq k m = false := by
  cases hb : Nat.beq k m with
  | false => rfl
  | true => exact absurd (Nat.eq_of_beq_eq_true hb) h
theorem beq_self (k : Nat) : Nat.beq k k = true := by
  cases hb : Nat.beq k k with
  | true => rfl
  | false => exact absurd rfl (Nat.ne_of_beq_eq_false hb)

/-- What the heap holds of the boxes. Those from 'ro' on lie above all that was there in w0 (they may be written); the others are only read. -/
structure HeapOk (ro : Nat) (E : Env) (w0 : World) (H : Heap) (w : World) : Prop where
  below : Below w0.heap.size w0 w
  objs : ∀ o ∈ H.objs, (ro ≤ o.key → w0.heap.size ≤ E o.key) ∧ ∃ T, w.heap[E o.key]? = some (.cells (AV.denL E o.cells).toArray T (0, 0))
  inj : ∀ o ∈ H.objs, ∀ o' ∈ H.objs, E o.key = E o'.key → o = o'
  lt : ∀ o ∈ H.objs, o.key < H.next ∧ AV.ltL H.next o.cells

theorem findObj_mem {key : Nat} : ∀ {l : List Obj} {o : Obj}, findObj key l = some o → o ∈ l ∧ o.key = key
  | [], o, h => by cases h
  | x :: r, o, h => by
    unfold findObj at h
    split at h
    · rename_i hb
      cases h
      exact ⟨List.mem_cons_self, by simpa using hb⟩
    · obtain ⟨h1, h2⟩ := findObj_mem h
      exact ⟨List.mem_cons_of_mem _ h1, h2⟩

section ops
variable {P : Program} {E : Env} {w0 w : World} {H : Heap} {ρ : Operand → Option AV} {e : Operand → Value}

theorem run_sizeA {t : TypeId} {n : Nat} (h : sizeA P t = some n) (w : World) : (sizeOf t).run P w = .ok n w := by
  unfold sizeA at h
  cases hi : P.info? t with
  | none => simp [hi] at h
  | some i => simp [hi] at h; simp [sizeOf, typeInfo, hi, h]
theorem run_isAggA {t : TypeId} {b : Bool} (h : isAggA P t = some b) (w : World) : (isAgg t).run P w = .ok b w := by
  unfold isAggA at h
  cases hu : P.underlying t with
  | none => simp [hu] at h
  | some d =>
    simp only [hu, Option.map_some, Option.some.injEq] at h
    subst h
    simp only [isAgg, Sem.run_bind, run_underlying hu, Result.andThen_ok]
    cases d <;> rfl
theorem run_zeroA {t : TypeId} {z : AV} (h : zeroA P t = some z) (E : Env) (w : World) : (zeroValue t).run P w = .ok (z.den E) w := by
  unfold zeroA at h
  cases hi : P.info? t with
  | none => simp [hi] at h
  | some i =>
    simp only [hi] at h
    cases hz : i.zero with
    | none => simp [hz] at h
    | some v =>
      simp only [hz, Option.map_some, Option.some.injEq] at h
      subst h
      simp [zeroValue, typeInfo, hi, hz, den_ofValue]
theorem lt_zeroA {t : TypeId} {z : AV} (h : zeroA P t = some z) (n : Nat) : AV.lt n z := by
  unfold zeroA at h
  cases hi : P.info? t with
  | none => simp [hi] at h
  | some i =>
    simp only [hi] at h
    cases hz : i.zero with
    | none => simp [hz] at h
    | some v => simp only [hz, Option.map_some, Option.some.injEq] at h; subst h; exact lt_ofValue n v
theorem plain_ofValue (v : Value) : (ofValue v).plainCells = true := by
  cases v <;> rfl

theorem run_partA {t : TypeId} {cs : List AV} {off : Nat} {v : AV} (h : partA P t cs off = some v) (E : Env) (w : World) :
    (part t (AV.denL E cs).toArray off).run P w = .ok (v.den E) w := by
  unfold partA at h
  split at h
  · rename_i n ha hs
    split at h
    · rename_i hl
      cases h
      simp only [part, Sem.run_bind, run_isAggA ha, Result.andThen_ok, if_true, run_sizeA hs]
      simp [denL_map, AV.den, List.map_drop, List.map_take]
    · cases h
  · rename_i n ha hs
    have hc : (AV.denL E cs).toArray[off]? = some (v.den E) := by simp [denL_map, h]
    simp [part, run_isAggA ha, hc]
  · cases h
theorem lt_partA {t : TypeId} {cs : List AV} {off n : Nat} {v : AV} (h : partA P t cs off = some v) (hl : AV.ltL n cs) : AV.lt n v := by
  rw [ltL_all] at hl
  unfold partA at h
  split at h
  · split at h
    · cases h
      show AV.ltL n _
      rw [ltL_all]
      exact fun a ha => hl a (List.mem_of_mem_drop (List.mem_of_mem_take ha))
    · cases h
  · exact hl v (List.mem_of_getElem? h)
  · cases h

/-! ### build -/
theorem foldl_set (off : Nat) : ∀ (vs : List Value) (k : Nat) (cs : Array Value), off + k + vs.length ≤ cs.size →
    ((vs.zipIdx k).foldl (fun (cs : Array Value) (c, j) => cs.setIfInBounds (off + j) c) cs).toList = cs.toList.take (off + k) ++ vs ++ cs.toList.drop (off + k + vs.length)
  | [], k, cs, _ => by simp
  | v :: r, k, cs, h => by
    simp only [List.zipIdx_cons, List.foldl_cons]
    rw [foldl_set off r (k + 1) _ (by simp at h ⊢; omega)]
    have e := list_seg_step cs.toList (off + k) v r (by simp at h ⊢; omega)
    simpa [Array.toList_setIfInBounds, Nat.add_assoc] using e
theorem fill_sound (E : Env) {place : Nat → Option (Nat × Nat)} : ∀ (ps : List (Nat × AV)) (cs out : List AV), fillA place ps cs = some out →
    Instr.fill place (AV.denL E cs).toArray (ps.map fun p => (p.1, p.2.den E)) = some (AV.denL E out).toArray
  | [], cs, out, h => by cases h; rfl
  | (i, v) :: rest, cs, out, h => by
    unfold fillA at h
    cases hp : place i with
    | none => simp [hp] at h
    | some on =>
      obtain ⟨off, n⟩ := on
      simp only [hp] at h
      split at h
      · rename_i hc
        obtain ⟨h1, h2, h3⟩ := hc
        have ih := fill_sound E rest _ out h
        simp only [List.map_cons, Instr.fill, hp]
        rw [cells_den h3 E]
        have hs : ((AV.denL E v.cells).toArray.size ≠ n || decide (off + (AV.denL E v.cells).toArray.size > (AV.denL E cs).toArray.size)) = false := by
          simp [denL_map, h1]; omega
        rw [if_neg (by rw [hs]; exact Bool.false_ne_true)]
        rw [← ih]
        congr 1
        apply Array.ext'
        have := foldl_set off (AV.denL E v.cells) 0 (AV.denL E cs).toArray (by simp [denL_map]; omega)
        simp only [Nat.add_zero] at this
        have e2 : ((AV.denL E v.cells).toArray.zipIdx.foldl (fun (cs : Array Value) x => match x with | (c, j) => cs.setIfInBounds (off + j) c) (AV.denL E cs).toArray).toList = (AV.denL E cs).take off ++ AV.denL E v.cells ++ (AV.denL E cs).drop (off + (AV.denL E v.cells).length) := by
          rw [← Array.foldl_toList, Array.toList_zipIdx]
          exact this
        refine e2.trans ?_
        simp [setFrom, denL_map]
      · cases h
theorem allL_setFrom {p : Nat → Prop} {off : Nat} {cs vs : List AV} (h : AV.allL p cs) (hv : AV.allL p vs) : AV.allL p (setFrom cs off vs) := by
  rw [allL_iff] at *
  intro a ha
  simp only [setFrom, List.mem_append] at ha
  rcases ha with (ha | ha) | ha
  · exact h a (List.mem_of_mem_take ha)
  · exact hv a ha
  · exact h a (List.mem_of_mem_drop ha)
theorem lt_setFrom {n off : Nat} {cs vs : List AV} (h : AV.ltL n cs) (hv : AV.ltL n vs) : AV.ltL n (setFrom cs off vs) := allL_setFrom h hv
theorem lt_fill {n : Nat} {place : Nat → Option (Nat × Nat)} : ∀ (ps : List (Nat × AV)) (cs out : List AV), fillA place ps cs = some out → (∀ p ∈ ps, AV.lt n p.2) → AV.ltL n cs → AV.ltL n out
  | [], cs, out, h, _, hc => by cases h; exact hc
  | (i, v) :: rest, cs, out, h, hp, hc => by
    unfold fillA at h
    split at h
    · cases h
    · split at h
      · exact lt_fill rest _ out h (fun p hp' => hp p (by simp [hp'])) (lt_setFrom hc (lt_cells (hp (i, v) (by simp))))
      · cases h
theorem readParts_sound (hρ : ∀ x v, ρ x = some v → e x = v.den E) : ∀ (l : List (Nat × Operand)) (ps : List (Nat × AV)), readParts ρ l = some ps → (l.map fun p => (p.1, e p.2)) = ps.map fun p => (p.1, p.2.den E)
  | [], ps, h => by cases h; rfl
  | (i, x) :: r, ps, h => by
    unfold readParts at h
    split at h
    · rename_i v vs h1 h2
      cases h
      simp [hρ x v h1, readParts_sound hρ r vs h2]
    · cases h
theorem readParts_all {Q : AV → Prop} (hρ : ∀ x v, ρ x = some v → Q v) : ∀ (l : List (Nat × Operand)) (ps : List (Nat × AV)), readParts ρ l = some ps → ∀ p ∈ ps, Q p.2
  | [], ps, h => by cases h; simp
  | (i, x) :: r, ps, h => by
    unfold readParts at h
    split at h
    · rename_i v vs h1 h2
      cases h
      intro p hp
      rcases List.mem_cons.1 hp with rfl | hp
      · exact hρ x v h1
      · exact readParts_all hρ r vs h2 p hp
    · cases h
theorem readL_sound (hρ : ∀ x v, ρ x = some v → e x = v.den E) : ∀ (l : List Operand) (vs : List AV), readL ρ l = some vs → l.map e = AV.denL E vs
  | [], vs, h => by cases h; rfl
  | x :: r, vs, h => by
    unfold readL at h
    split at h
    · rename_i v ws h1 h2
      cases h
      simp [AV.denL, hρ x v h1, readL_sound hρ r ws h2]
    · cases h
theorem readL_all {Q : AV → Prop} (hρ : ∀ x v, ρ x = some v → Q v) : ∀ (l : List Operand) (vs : List AV), readL ρ l = some vs → ∀ v ∈ vs, Q v
  | [], vs, h => by cases h; simp
  | x :: r, vs, h => by
    unfold readL at h
    split at h
    · rename_i v ws h1 h2
      cases h
      intro p hp
      rcases List.mem_cons.1 hp with rfl | hp
      · exact hρ x p h1
      · exact readL_all hρ r ws h2 p hp
    · cases h

/-! ### loads and stores -/
theorem run_load_obj {t : TypeId} {cs : List AV} {b off : Nat} {T : TypeId} {v : AV} (hb : w.heap[b]? = some (.cells (AV.denL E cs).toArray T (0, 0))) (h : partA P t cs off = some v) :
    (loadVar t ⟨b, off, none⟩).run P w = .ok (v.den E) w := by
  have hadd : ∀ i, (⟨b, off, none⟩ : Addr).add i = ⟨b, off + i, none⟩ := fun i => by unfold Addr.add; split <;> simp_all
  unfold partA at h
  split at h
  · rename_i n ha hs
    split at h
    · rename_i hl
      cases h
      have hlen : ((AV.denL E cs).drop off |>.take n).length = n := by simp [denL_map]; omega
      have hr := run_loadCells_list (P := P) w ⟨b, off, none⟩ ((AV.denL E cs).drop off |>.take n) (fun j u hj => by
        rw [hadd]
        simp only [List.getElem?_take, List.getElem?_drop] at hj
        split at hj
        · simp [World.cell?, hb, hj]
        · cases hj)
      rw [hlen] at hr
      simp only [loadVar, Sem.run_bind, run_isAggA ha, Result.andThen_ok, if_true, run_sizeA hs, hr]
      simp [AV.den, denL_map, List.map_drop, List.map_take]
    · cases h
  · rename_i n ha hs
    have hc : w.cell? ⟨b, off, none⟩ = some (v.den E) := by simp [World.cell?, hb, denL_map, h]
    simp [loadVar, run_isAggA ha, hc, run_load]
  · cases h

theorem scalar_one {v : AV} (h : v.scalar = true) (E : Env) : (v.den E).oneCell' = true := by
  cases v with
  | val x => cases x <;> first | rfl | cases h
  | agg _ => cases h
  | tup _ => cases h
  | _ => rfl
theorem plain_of_scalars {v : AV} (h : v.cells.all AV.scalar = true) : v.plainCells = true := by
  cases v with
  | val x => cases x <;> first | rfl | (simp [AV.cells, AV.scalar] at h)
  | _ => rfl
theorem mem_putObj {key off : Nat} {vs : List AV} {l : List Obj} {o : Obj} (h : o ∈ putObj key off vs l) : ∃ o' ∈ l, o'.key = o.key ∧ ((o'.key ≠ key ∧ o = o') ∨ (o'.key = key ∧ o.cells = setFrom o'.cells off vs)) := by
  obtain ⟨o', hm, rfl⟩ := List.mem_map.1 h
  refine ⟨o', hm, ?_, ?_⟩
  · split <;> rfl
  · split
    · rename_i hb; exact .inr ⟨Nat.eq_of_beq_eq_true hb, rfl⟩
    · rename_i hb; exact .inl ⟨fun e => hb (by rw [e]; exact beq_self key), rfl⟩
end ops

end Go.Sx
