/- Several texts in one (wip/merge.py): XBitempU XBitempV XBitempT XBitempZ. -/
import Derived.Test.YtcbgjecpnhjlpaaRows
import Derived.Test.YtcbgjecpnhjlpaaSyRx
import Derived.Test.YtcbgjecpnhjlpaaBitemp1
import Derived.Test.YtcbgjecpnhjlpaaBitempC
import Derived.Test.YtcbgjecpnhjlpaaBitempUD
import Derived.Test.YtcbgjecpnhjlpaaBitempW
/-! Written by program (wip/sygen.py): the contracts of the Go functions. -/
set_option maxRecDepth 100000
set_option linter.unusedVariables false
namespace Go.Proofs.Ytcbgjecpnhjlpaa
open Go Go.Sy
theorem ins_col (a : Int) (b : Int) (data : List (List Int)) : collapseR Try.prog 24 [.int .i64, .int .i64, .int .i64, .int .i64, .int .i64] (execFn Try.prog (B17) noSeq 9 71 [.sl 0, .int .i64 a, .int .i64 b, .fn (.func 56) [] []] ⟨[⟨0, 1, true, .row 24 [.int .i64, .int .i64, .int .i64, .int .i64, .int .i64] data⟩], 1⟩) = some ⟨some (ins_pre a b data), (ins_0 a b data), .tup []⟩ := by kernel_rfl
noncomputable def ins_eff : List U → Option RowE
  | [.i a, .i b, .r data] => some ⟨some (ins_pre a b data), (ins_0 a b data), .tup []⟩
  | _ => Option.none
noncomputable def M18 : Con := extR Try.prog (B17) 71 [.int .i64 0, .int .i64 0, .fn (.func 56) [] []] 24 [.int .i64, .int .i64, .int .i64, .int .i64, .int .i64] ins_eff
theorem M18_ok : ConOk Try.prog M18 := conOk_extR noSeq_ok B17_ok B17_ok (n := 9) rfl ⟨_, Try.func71, by decide, rfl⟩ fun us x h => by
  unfold ins_eff at h
  split at h
  · cases h; exact ⟨rfl, fun hp => ⟨_, _, some (ins_pre _ _ _), rfl, rfl, ins_col _ _ _, hp⟩⟩
  · cases h
theorem swr_col (a : Int) (b : Int) (n : Int) (data : List (List Int)) : collapseR Try.prog 24 [.int .i64, .int .i64, .int .i64, .int .i64, .int .i64] (execFn Try.prog (M18) noSeq 9 86 [.sl 0, .int .i64 a, .int .i64 b, .int .i64 n, .fn (.func 56) [] []] ⟨[⟨0, 1, true, .row 24 [.int .i64, .int .i64, .int .i64, .int .i64, .int .i64] data⟩], 1⟩) = some ⟨some (swr_pre a b n data), (swr_0 a b n data), .tup []⟩ := by kernel_rfl
noncomputable def swr_eff : List U → Option RowE
  | [.i a, .i b, .i n, .r data] => some ⟨some (swr_pre a b n data), (swr_0 a b n data), .tup []⟩
  | _ => Option.none
noncomputable def M19 : Con := extR Try.prog (M18) 86 [.int .i64 0, .int .i64 0, .int .i64 0, .fn (.func 56) [] []] 24 [.int .i64, .int .i64, .int .i64, .int .i64, .int .i64] swr_eff
theorem M19_ok : ConOk Try.prog M19 := conOk_extR noSeq_ok M18_ok M18_ok (n := 9) rfl ⟨_, Try.func86, by decide, rfl⟩ fun us x h => by
  unfold swr_eff at h
  split at h
  · cases h; exact ⟨rfl, fun hp => ⟨_, _, some (swr_pre _ _ _ _), rfl, rfl, swr_col _ _ _ _, hp⟩⟩
  · cases h
theorem rot_col (a : Int) (m : Int) (b : Int) (data : List (List Int)) : collapseR Try.prog 24 [.int .i64, .int .i64, .int .i64, .int .i64, .int .i64] (execFn Try.prog (M19) noSeq 9 76 [.sl 0, .int .i64 a, .int .i64 m, .int .i64 b, .fn (.func 56) [] []] ⟨[⟨0, 1, true, .row 24 [.int .i64, .int .i64, .int .i64, .int .i64, .int .i64] data⟩], 1⟩) = some ⟨some (rot_pre a m b data), (rot_0 a m b data), .tup []⟩ := by kernel_rfl
noncomputable def rot_eff : List U → Option RowE
  | [.i a, .i m, .i b, .r data] => some ⟨some (rot_pre a m b data), (rot_0 a m b data), .tup []⟩
  | _ => Option.none
noncomputable def M20 : Con := extR Try.prog (M19) 76 [.int .i64 0, .int .i64 0, .int .i64 0, .fn (.func 56) [] []] 24 [.int .i64, .int .i64, .int .i64, .int .i64, .int .i64] rot_eff
theorem M20_ok : ConOk Try.prog M20 := conOk_extR noSeq_ok M19_ok M19_ok (n := 9) rfl ⟨_, Try.func76, by decide, rfl⟩ fun us x h => by
  unfold rot_eff at h
  split at h
  · cases h; exact ⟨rfl, fun hp => ⟨_, _, some (rot_pre _ _ _ _), rfl, rfl, rot_col _ _ _ _, hp⟩⟩
  · cases h
end Go.Proofs.Ytcbgjecpnhjlpaa

/-! Written by program (wip/sygen.py): the contracts of the Go functions. -/
set_option maxRecDepth 100000
set_option linter.unusedVariables false
namespace Go.Proofs.Ytcbgjecpnhjlpaa
open Go Go.Sy
theorem sm_col (pr : Int → Int → Int → List (List Int) → Prop) (g : Int → Int → Int → List (List Int) → List (List Int)) (a : Int) (m : Int) (b : Int) (data : List (List Int)) : collapseR Try.prog 24 [.int .i64, .int .i64, .int .i64, .int .i64, .int .i64] (execFn Try.prog (extR Try.prog M20 72 [.int .i64 0, .int .i64 0, .int .i64 0, .fn (.func 56) [] []] 24 [.int .i64, .int .i64, .int .i64, .int .i64, .int .i64] (rowE3 pr g)) noSeq 9 72 [.sl 0, .int .i64 a, .int .i64 m, .int .i64 b, .fn (.func 56) [] []] ⟨[⟨0, 1, true, .row 24 [.int .i64, .int .i64, .int .i64, .int .i64, .int .i64] data⟩], 1⟩) = some ⟨some (sm_pre pr g a m b data), (sm_0 pr g a m b data), .tup []⟩ := by kernel_rfl
end Go.Proofs.Ytcbgjecpnhjlpaa

/-! Written by program (wip/sygen.py): the contracts of the Go functions. -/
set_option maxRecDepth 100000
set_option linter.unusedVariables false
namespace Go.Proofs.Ytcbgjecpnhjlpaa
open Go Go.Sy
theorem sst_col (pr : Int → Int → Int → List (List Int) → Prop) (g : Int → Int → Int → List (List Int) → List (List Int)) (x : List (List Int)) : collapseR Try.prog 24 [.int .i64, .int .i64, .int .i64, .int .i64, .int .i64] (execFn Try.prog (extR Try.prog M20 72 [.int .i64 0, .int .i64 0, .int .i64 0, .fn (.func 56) [] []] 24 [.int .i64, .int .i64, .int .i64, .int .i64, .int .i64] (rowE3 pr g)) noSeq 9 55 [.sl 0, .fn (.func 56) [] []] ⟨[⟨0, 1, true, .row 24 [.int .i64, .int .i64, .int .i64, .int .i64, .int .i64] x⟩], 1⟩) = some ⟨some (sst_pre pr g x), (sst_0 pr g x), .tup []⟩ := by kernel_rfl
end Go.Proofs.Ytcbgjecpnhjlpaa

/-!
  slices.SortStableFunc at []api.Row, by bitemp's comparison: its contract. slices.SortFunc's.
-/
set_option linter.unusedVariables false
set_option maxRecDepth 100000
namespace Go.Proofs.Ytcbgjecpnhjlpaa
open Go Go.Sy

abbrev ksR : List CK := [.int .i64, .int .i64, .int .i64, .int .i64, .int .i64]
abbrev zsM : List AV := [.int .i64 0, .int .i64 0, .int .i64 0, .fn (.func 56) [] []]
/-- The contracts with the merge's, so many calls deep. -/
noncomputable def BM (n : Nat) : Con := extR Try.prog M20 72 zsM 24 ksR (rowE3 (smp n) (smg n))
theorem BM_ok : ∀ n, ConOk Try.prog (BM n)
  | 0 => conOk_extR0 M20_ok ⟨_, Try.func72, by decide, rfl⟩ fun us x h => by
      unfold rowE3 at h
      split at h
      · cases h; exact ⟨rfl, fun hp => hp⟩
      · cases h
  | n + 1 => conOk_extR noSeq_ok M20_ok (BM_ok n) (n := 9) rfl ⟨_, Try.func72, by decide, rfl⟩ fun us x h => by
      unfold rowE3 at h
      split at h
      · cases h; exact ⟨rfl, fun hp => ⟨_, _, some (smp (n + 1) _ _ _ _), rfl, rfl, sm_col _ _ _ _ _ _, hp⟩⟩
      · cases h
theorem stable_turns : Turns Try.prog 55 (some 56) 24 ksR (fun l => some (l.length < 1152921504606846976)) (stabRows 5 4) (fun _ => .tup []) := by
  intro l v w hp hv hr
  have hlt : l.length < 1152921504606846976 := hp _ rfl
  have hn : rowV ksR (l.map (norm 5)) = rowV ksR l := rowV_norm ksR l
  have h5 : All5 (l.map (norm 5)) := by
    intro r hr
    obtain ⟨x, _, rfl⟩ := List.mem_map.1 hr
    exact norm_length 5 x
  have hr' : RowOk w true 24 ksR.length v (l.map (norm 5)).length (rowV ksR (l.map (norm 5))) := by rw [hn, List.length_map]; exact hr
  obtain ⟨q1, q2⟩ := sst_all h5 (by rw [List.length_map]; exact hlt)
  let eff : List U → Option RowE := fun us => match us with
    | [.r x] => some ⟨some (sst_pre (smp (l.map (norm 5)).length) (smg (l.map (norm 5)).length) x), sst_0 (smp (l.map (norm 5)).length) (smg (l.map (norm 5)).length) x, .tup []⟩
    | _ => none
  have hok : ConOk Try.prog (extR Try.prog (BM (l.map (norm 5)).length) 55 [.fn (.func 56) [] []] 24 ksR eff) :=
    conOk_extR noSeq_ok (BM_ok _) (BM_ok _) (n := 9) rfl ⟨_, Try.func55, by decide, rfl⟩ fun us x h => by
      simp only [eff] at h
      split at h
      · cases h; exact ⟨rfl, fun hp => ⟨_, _, some (sst_pre _ _ _), rfl, rfl, sst_col _ _ _, hp⟩⟩
      · cases h
  have hD : extR Try.prog (BM (l.map (norm 5)).length) 55 [.fn (.func 56) [] []] 24 ksR eff 55 [.sl 0, .fn (.func 56) [] []] [⟨0, 0, true, .row 24 ksR (l.map (norm 5))⟩] =
      some ⟨some (sst_pre (smp (l.map (norm 5)).length) (smg (l.map (norm 5)).length) (l.map (norm 5))), [0], 0, [⟨0, 0, true, .row 24 ksR (sst_0 (smp (l.map (norm 5)).length) (smg (l.map (norm 5)).length) (l.map (norm 5)))⟩], .tup []⟩ := rfl
  obtain ⟨rest, e', ks', l0, l', hc⟩ := (hok _ _ _ _ hD).2 (by simp)
  obtain ⟨c1, c2, c3, c4, c5, c6⟩ := hc
  cases c2
  cases c3
  cases c1
  have := c6 q1 (fun _ => v) w (fun _ => hv) hr'
  refine this.mono ?_
  rintro e w' ⟨rfl, g1, g2⟩
  refine ⟨rfl, ?_, g2⟩
  have e2 : stabRows 5 4 l = sst_0 (smp (l.map (norm 5)).length) (smg (l.map (norm 5)).length) (l.map (norm 5)) := q2.symm
  rw [e2]
  exact g1
end Go.Proofs.Ytcbgjecpnhjlpaa
