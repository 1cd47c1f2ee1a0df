/-
  A valid datum has a determinant that is above 0: what the divisions by it need.
-/
import Derived.Test.YtbopeaebdlmapaaDatumD
import Derived.Test.YtbopeaebdlmapaaRef04D
namespace Go.Proofs.Ytbopeaebdlmapaa
open Go Go.Sx
theorem det_of_valid {a b c d e f r : Int} (h : datum_Valid_0 a b c d e f r = true) : 250000000000 ≤ datum_det_0 a b c d e f r ∧ datum_det_0 a b c d e f r < 9223372036854775808 := by
  constructor
  · unfold datum_Valid_0 at h
    by_cases hc : 250000000000 ≤ datum_det_0 a b c d e f r
    · exact hc
    · exfalso
      have hc' : decide (datum_det_0 a b c d e f r ≥ 250000000000) = false := by simp; omega
      rw [hc'] at h
      simp at h
  · unfold datum_det_0
    rw [IntKind.wrap_i64]
    omega
theorem rdet_of_valid {a b c d e f r : Int} (h : ref04_Valid_0 a b c d e f r = true) : 250000000000 ≤ ref04_Det_0 a b c d e f r ∧ ref04_Det_0 a b c d e f r < 9223372036854775808 := by
  constructor
  · unfold ref04_Valid_0 at h
    by_cases hc : 250000000000 ≤ ref04_Det_0 a b c d e f r
    · exact hc
    · exfalso
      have hc' : decide (ref04_Det_0 a b c d e f r < 250000000000) = true := by simp; omega
      rw [hc'] at h
      simp at h
  · unfold ref04_Det_0
    rw [IntKind.wrap_i64]
    omega
theorem vb_left {x y : Bool} (h : (!x || !y) = false) : x = true := by cases x <;> simp_all
theorem v_left {x : Bool} (h : (!x) = false) : x = true := by cases x <;> simp_all
theorem wrap2_ne {d : Int} (h : 250000000000 ≤ d ∧ d < 9223372036854775808) : IntKind.i64.wrap (2 * d) ≠ 0 := by
  rw [IntKind.wrap_i64]; omega
theorem ne_of_det {d : Int} (h : 250000000000 ≤ d ∧ d < 9223372036854775808) : d ≠ 0 := by omega
theorem wrap2m_ne : IntKind.i64.wrap 2000000 ≠ 0 := by decide
end Go.Proofs.Ytbopeaebdlmapaa
