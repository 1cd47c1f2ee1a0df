/-
  Contracts of functions that turn a row in place: the library's sorts.
-/
import Derived.Test.YtcbgjecpnhjlpaaSyH
import Derived.Shelf.GgSortFunc.InsertionK
set_option linter.unusedVariables false
namespace Go.Sy
open Go.RowKit Go.Proofs Go.Sort
section
variable {P : Program} {Γ : Con} {w : World}

/-- The closure that is handed over. -/
def restIs (cl : Option FuncId) : List AV → Bool
  | [] => cl.isNone
  | [.fn (.func g) [] []] => (match cl with | some g' => Nat.beq g g' | none => false)
  | [.val (.func (.func g) ⟨[]⟩ ⟨[]⟩)] => (match cl with | some g' => Nat.beq g g' | none => false)
  | _ => false
/-- The closure's value. -/
def restV : Option FuncId → List Value
  | none => []
  | some g => [.func (.func g) #[] #[]]
theorem restIs_den {cl : Option FuncId} {rest : List AV} (h : restIs cl rest = true) (E : Env) : AV.denL E rest = restV cl := by
  unfold restIs at h
  split at h
  · cases cl with
    | none => rfl
    | some g => cases h
  · split at h
    · rw [Nat.eq_of_beq_eq_true h]; rfl
    · cases h
  · split at h
    · rw [Nat.eq_of_beq_eq_true h]; rfl
    · cases h
  · cases h
/-- One contract more: F turns its first argument, a row. -/
def conR (Γ : Con) (F : FuncId) (cl : Option FuncId) (e : TypeId) (ks : List CK) (pr : List (List Int) → Option Prop) (g : List (List Int) → List (List Int)) (v : List (List Int) → AV) : Con := fun f args objs =>
  match Nat.beq f F, args, objs with
  | true, .sl 0 :: rest, [⟨0, 0, true, .row e' ks' l⟩] =>
    if restIs cl rest && Nat.beq e' e && decide (ks' = ks) then some ⟨pr l, [0], 0, [⟨0, 0, true, .row e ks (g l)⟩], v l⟩ else Γ f args objs
  | _, _, _ => Γ f args objs
/-- What such a function does. -/
def Turns (P : Program) (F : FuncId) (cl : Option FuncId) (e : TypeId) (ks : List CK) (pr : List (List Int) → Option Prop) (g : List (List Int) → List (List Int)) (v : List (List Int) → AV) : Prop :=
  ∀ (l : List (List Int)) (rv : Value) (w : World), (∀ p, pr l = some p → p) → rv.oneCell' = true → RowOk w true e ks.length rv l.length (rowV ks l) →
    Calls P F (rv :: restV cl).toArray w fun ex w' => ex = .returned ((v l).den fun _ => rv) ∧ RowOk w' true e ks.length rv (g l).length (rowV ks (g l)) ∧ Chg w w' (blkO rv).toList
theorem conOk_conR (hΓ : ConOk P Γ) {F : FuncId} {cl : Option FuncId} {e : TypeId} {ks : List CK} {pr : List (List Int) → Option Prop} {g : List (List Int) → List (List Int)} {v : List (List Int) → AV} (hv : ∀ l, ∀ k ∈ AV.keys (v l), k = 0) (hf : CallFun P F) (h : Turns P F cl e ks pr g v) : ConOk P (conR Γ F cl e ks pr g v) := by
  intro f args objs x hx
  unfold conR at hx
  split at hx
  · rename_i rest e' ks' l hb
    split at hx
    · rename_i hc
      simp only [Bool.and_eq_true] at hc
      obtain ⟨⟨h1, h2⟩, h3⟩ := hc
      have h2 := Nat.eq_of_beq_eq_true h2
      have h3 := of_decide_eq_true h3
      subst h2 h3
      have hb := Nat.eq_of_beq_eq_true hb
      subst hb
      cases hx
      refine ⟨fun hn => absurd hn (by simp), fun _ => ⟨_, _, _, l, g l, ⟨rfl, rfl, rfl, hv l, hf, fun hp E w hE hr => ?_⟩⟩⟩
      have := h l (E 0) w (fun p hp' => by
        have hp : Eff.holds ⟨pr l, [0], 0, [⟨0, 0, true, .row _ _ (g l)⟩], v l⟩ := hp
        unfold Eff.holds at hp
        simp only [hp'] at hp
        exact hp) (hE 0) hr
      have e1 : (AV.denL E (.sl 0 :: _)).toArray = (E 0 :: restV cl).toArray := congrArg List.toArray (congrArg (E 0 :: ·) (restIs_den h1 E))
      rw [e1]
      have e2 : (v l).den E = (v l).den fun _ => E 0 := den_congr_all (p := fun k => k = 0) (fun k hk => by rw [hk]) _ ((all_keys _).2 (hv l))
      rw [e2]
      exact this
    · exact hΓ _ _ _ _ hx
  · exact hΓ _ _ _ _ hx

/-- One contract more: F(nil, n) is an empty own row with room (slices.Grow). -/
def conGrow (Γ : Con) (F : FuncId) (e : TypeId) (ks : List CK) (bytes : Nat) : Con := fun f args objs =>
  match Nat.beq f F, args, objs with
  | true, [.val (.slice none 0 0), .int .i64 n], [] => some ⟨some (0 ≤ n ∧ n.toNat * bytes ≤ 140737488355328 ∧ n.toNat ≤ 4611686018427387904), [], 1, [⟨0, 0, true, .row e ks []⟩], .sl 0⟩
  | _, _, _ => Γ f args objs
/-- What such a function does. -/
def Grows (P : Program) (F : FuncId) (e : TypeId) (ks : List CK) (bytes : Nat) : Prop :=
  ∀ (n : Nat) (w : World), n * bytes ≤ 140737488355328 → n ≤ 4611686018427387904 → Calls P F #[.slice none 0 0, .int .i64 n] w fun ex w' => ∃ v, ex = .returned v ∧ v.oneCell' = true ∧ OwnRow w' e ks.length v 0 [] ∧ Blw w.heap.size w w' ∧ ∀ b, blkO v = some b → w.heap.size ≤ b
theorem conOk_conGrow (hΓ : ConOk P Γ) {F : FuncId} {e : TypeId} {ks : List CK} {bytes : Nat} (hf : CallFun P F) (h : Grows P F e ks bytes) : ConOk P (conGrow Γ F e ks bytes) := by
  intro f args objs x hx
  unfold conGrow at hx
  split at hx
  · rename_i n hb
    have hb := Nat.eq_of_beq_eq_true hb
    subst hb
    cases hx
    refine ⟨fun _ => ⟨hf, ⟨rfl, by simp, by simp, by simp [flatBody], Nat.zero_lt_one, by simp⟩, fun hp E w hpre => ?_⟩, fun hn => absurd rfl hn⟩
    obtain ⟨h1, h2, h3⟩ : 0 ≤ n ∧ n.toNat * bytes ≤ 140737488355328 ∧ n.toNat ≤ 4611686018427387904 := hp
    have := h n.toNat w h2 h3
    rw [Int.toNat_of_nonneg h1] at this
    refine this.mono ?_
    rintro ex w' ⟨v, rfl, g1, g2, g3, g4⟩
    refine ⟨fun k => if k = 0 then v else E k, rfl, ⟨fun k hk => absurd hk (Nat.not_lt_zero k), fun k => ?_, g3, ?_, ?_, ?_⟩⟩
    · show (if k = 0 then v else E k).oneCell' = true
      split
      · exact g1
      · exact hpre.env k
    · intro o ho
      simp only [List.mem_singleton] at ho
      subst ho
      exact ownRow_reads g2 (by simp [rowV])
    · intro o ho b hb
      simp only [List.mem_singleton] at ho
      subst ho
      exact g4 b hb
    · intro o ho o' ho' hne
      simp only [List.mem_singleton] at ho ho'
      subst ho; subst ho'
      exact absurd rfl hne
  · exact hΓ _ _ _ _ hx

/-! ### an own row, as the library's sorts speak of it -/
variable {e : TypeId} {ks : List CK} {l : List (List Int)} {v : Value} {α : Type} [Inhabited α]
theorem getElem!_map {d : Array α} {enc : α → Value} {vs : List Value} (hd : d.toList.map enc = vs) {j : Nat} (hj : j < d.size) : vs[j]? = some (enc d[j]!) := by
  rw [← hd, List.getElem?_map, getElem!_pos d j hj]
  simp [hj]
theorem put_list (enc : α → Value) (d : Array α) (cur : Array Value) (h : d.size ≤ cur.size) : (putCells enc 0 d cur).toList.take d.size = d.toList.map enc := by
  apply List.ext_getElem?
  intro j
  rw [List.getElem?_take]
  split
  · rename_i hj
    rw [getElem!_map rfl hj]
    simp [putCells, hj, show j < cur.size by omega]
  · rename_i hj
    rw [List.getElem?_eq_none (by simp; omega)]
/-- An own row is empty, or its elements lie from the start of a block. -/
theorem own_cases (h : RowOk w true e ks.length v l.length (rowV ks l)) : (∃ a, v = .slice a 0 0 ∧ l = []) ∨
    ∃ b cap, cap ≠ 0 ∧ v = .slice (some ⟨b, 0, none⟩) l.length cap ∧ blkO v = some b ∧ b < w.heap.size ∧ l.length ≤ maxLen ∧ l.length ≤ cap ∧
      (∀ (β : Type) (_ : Inhabited β) (enc : β → Value) (d : Array β), d.toList.map enc = rowV ks l → Holds enc w b 0 d) ∧
      ∀ (β : Type) (_ : Inhabited β) (enc : β → Value) (d : Array β) (l' : List (List Int)) (m : Nat) (os : Array Go.Obj), l'.length = l.length → (rowV ks l').length = l'.length * ks.length → d.toList.map enc = rowV ks l' →
        RowOk (grow (Go.Sort.putRow enc (Sort.ahead w m) b 0 d) os) true e ks.length v l'.length (rowV ks l') ∧ Chg w (grow (Go.Sort.putRow enc (Sort.ahead w m) b 0 d) os) [b] := by
  rcases h.own rfl with ⟨a, h1, h2⟩ | ⟨b, cap, cur, h1, h2, h3, h4, h5, h6⟩
  · exact .inl ⟨a, by rw [h1], List.length_eq_zero_iff.1 h2⟩
  · by_cases hc : cap = 0
    · subst hc
      have : l.length = 0 := by omega
      exact .inl ⟨_, by rw [h1, this], List.length_eq_zero_iff.1 this⟩
    · have hb : blkO v = some b := by rw [h1]; simp [blkO, hc]
      have hlt := h.reads.blk b hb
      have hle : l.length * ks.length ≤ cur.size := by rw [h5]; exact Nat.mul_le_mul_right _ h3
      refine .inr ⟨b, cap, hc, h1, hb, hlt, Nat.le_trans h3 h4, h3, fun β _ enc d hd j hj => ?_, fun β _ enc d l' m os hl hlen hd => ?_⟩
      · have hsz : d.size = (rowV ks l).length := by rw [← hd]; simp
        have hjc : j < cur.size := by rw [hsz, h.len] at hj; omega
        have := getElem!_map hd hj
        rw [← h6, List.getElem?_take] at this
        split at this
        · refine ⟨?_, ?_⟩
          · simp only [World.cell?, Nat.zero_add, h2]
            simpa using this
          · simp only [World.frozen?, Nat.zero_add, h2]
            simp
        · cases this
      · have hsz : d.size = l'.length * ks.length := by rw [← hlen, ← hd]; simp
        have hw : (grow (Go.Sort.putRow enc (Sort.ahead w m) b 0 d) os).heap[b]? = some (.cells (putCells enc 0 d cur) e (0, 0)) := by
          have e1 : (Go.Sort.putRow enc (Sort.ahead w m) b 0 d).heap[b]? = some (.cells (putCells enc 0 d cur) e (0, 0)) := by
            simp [Go.Sort.putRow, mapBlock, Sort.ahead, Array.getElem?_modify, h2, onCells]
          have e2 : b < (Go.Sort.putRow enc (Sort.ahead w m) b 0 d).heap.size := by simpa [Go.Sort.putRow, mapBlock, Sort.ahead] using hlt
          show ((Go.Sort.putRow enc (Sort.ahead w m) b 0 d).heap ++ os)[b]? = _
          rw [Array.getElem?_append_left e2]
          exact e1
        refine ⟨ownRow_reads (.inr ⟨b, cap, _, by rw [h1, hl], hw, by rw [hl]; exact h3, h4, by simp [putCells, h5], ?_⟩) hlen, ?_⟩
        · rw [← hsz, ← hd]
          exact put_list enc d cur (by rw [hsz, hl]; exact hle)
        · refine ⟨Nat.le_add_right _ _, rfl, rfl, rfl, by simp [grow, putRow, mapBlock, Sort.ahead], fun k hk hn => ?_⟩
          have hne : b ≠ k := fun h => hn (by simp [h])
          show ((Go.Sort.putRow enc (Sort.ahead w m) b 0 d).heap ++ os)[k]? = _
          rw [Array.getElem?_append_left (by simpa [Go.Sort.putRow, mapBlock, Sort.ahead] using hk)]
          simp [Go.Sort.putRow, mapBlock, Sort.ahead, Array.getElem?_modify, hne]
theorem flat_list (ks : List CK) (l : List (List Int)) : (flatK (elV ks 0) ks.length l.toArray).toList.map id = rowV ks l := by
  rw [List.map_id]
  apply List.ext_getElem?
  intro t
  by_cases ht : t < l.length * ks.length
  · have h0 : 0 < ks.length := by
      rcases Nat.eq_zero_or_pos ks.length with h | h
      · rw [h] at ht; omega
      · exact h
    have hq : t / ks.length < l.length := (Nat.div_lt_iff_lt_mul h0).2 ht
    have hm : t % ks.length < ks.length := Nat.mod_lt _ h0
    have e1 : (flatK (elV ks 0) ks.length l.toArray).toList[t]? = some (elV ks 0 l[t / ks.length])[t % ks.length]! := by
      have := get_flatK (elV ks 0) ks.length l.toArray t (by simpa using ht)
      rw [getElem!_pos _ t (by simpa using ht)] at this
      rw [Array.getElem?_toList, Array.getElem?_eq_getElem (by simpa using ht), this]
      congr 2
      simp [getElem!_pos l.toArray (t / ks.length) (by simpa using hq)]
    rw [e1]
    clear e1
    have key : ∀ (l : List (List Int)) (q : Nat) (hq : q < l.length) (c : Nat), c < ks.length → (rowV ks l)[q * ks.length + c]? = some (elV ks 0 l[q])[c]! := by
      intro l
      induction l with
      | nil => intro q hq; simp at hq
      | cons x l ih =>
        intro q hq c hc
        have e : rowV ks (x :: l) = elV ks 0 x ++ rowV ks l := rfl
        rw [e]
        cases q with
        | zero =>
          rw [Nat.zero_mul, Nat.zero_add, List.getElem?_append_left (by rw [elV_length]; exact hc)]
          rw [List.getElem?_eq_getElem (by rw [elV_length]; exact hc), getElem!_pos _ _ (by simpa [elV_length] using hc)]
          rfl
        | succ q =>
          rw [List.getElem?_append_right (by rw [elV_length, Nat.add_mul]; omega), elV_length, show (q + 1) * ks.length + c - ks.length = q * ks.length + c by rw [Nat.add_mul]; omega]
          exact ih q (by simpa using hq) c hc
    have := key l (t / ks.length) hq (t % ks.length) hm
    rw [Nat.div_add_mod'] at this
    exact this.symm
  · rw [List.getElem?_eq_none (by simpa using ht), List.getElem?_eq_none (by rw [rowV_length]; omega)]
end
end Go.Sy
