/-
  Loops as values: what the rounds come to.
-/
import Derived.Test.YtcbgjecpnhjlpaaSyX
namespace Go.Sy
theorem iterO_det {step : List U → Option (Nat × List U)} : ∀ {n m : Nat} {xs : List U} {r r' : Nat × List U}, iterO step n xs = some r → iterO step m xs = some r' → r = r'
  | 0, _, _, _, _, h, _ => by cases h
  | _ + 1, 0, _, _, _, _, h => by cases h
  | n + 1, m + 1, xs, r, r', h, h' => by
    unfold iterO at h h'
    cases hs : step xs with
    | none => rw [hs] at h; cases h
    | some y =>
      obtain ⟨k, ys⟩ := y
      rw [hs] at h h'
      cases k with
      | zero => exact iterO_det h h'
      | succ k => cases h; cases h'; rfl
theorem loop_is {step : List U → Option (Nat × List U)} {n : Nat} {xs : List U} {r : Nat × List U} (h : iterO step n xs = some r) : loopOk step xs ∧ loopGet step xs = r := by
  have hok : loopOk step xs := ⟨n, r, h⟩
  obtain ⟨m, hm⟩ := loopGet_spec hok
  exact ⟨hok, iterO_det hm h⟩
/-- One round more. -/
theorem iter_next {step : List U → Option (Nat × List U)} {n : Nat} {xs ys : List U} {r : Nat × List U} (hs : step xs = some (0, ys)) (h : iterO step n ys = some r) : iterO step (n + 1) xs = some r := by
  unfold iterO; rw [hs]; exact h
theorem iter_out {step : List U → Option (Nat × List U)} {xs ys : List U} {m : Nat} (hs : step xs = some (m + 1, ys)) : iterO step 1 xs = some (m + 1, ys) := by
  unfold iterO; rw [hs]
theorem guardP_true {α : Type} {p : Prop} {o : Option α} (hp : p) : guardP p o = o := guardP_pos hp o
end Go.Sy
