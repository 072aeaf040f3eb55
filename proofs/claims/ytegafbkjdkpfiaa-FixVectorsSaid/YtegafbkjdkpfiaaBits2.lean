/- How far a word is shifted till its first bit is set: math/bits.LeadingZeros64. -/
import Derived.Test.YtegafbkjdkpfiaaWord
import Derived.Test.YtegafbkjdkpfiaaBits
namespace Go.Proofs.Ytegafbkjdkpfiaa
set_option linter.unusedSimpArgs false
set_option linter.unusedVariables false
open Go.RowKit

theorem bitLen_bounds : ∀ (k x : Nat), x < 2 ^ k → k ≤ 64 → x ≠ 0 → ∃ j, Lib.bitLen x = j + 1 ∧ 2 ^ j ≤ x ∧ x < 2 ^ (j + 1)
  | 0, x, h, _, h0 => by simp at h; omega
  | k + 1, x, h, hk, h0 => by
    have hx : x < 2 ^ 64 := Nat.lt_of_lt_of_le h (Nat.pow_le_pow_right (by decide) hk)
    have e := Lib.bitLen_half x h0 hx
    by_cases h1 : x / 2 = 0
    · have : x = 1 := by omega
      subst this
      exact ⟨0, by decide, by decide, by decide⟩
    · obtain ⟨j, h2, h3, h4⟩ := bitLen_bounds k (x / 2) (by rw [Nat.pow_succ] at h; omega) (by omega) h1
      refine ⟨j + 1, by rw [e, h2]; omega, ?_, ?_⟩
      · rw [Nat.pow_succ]; omega
      · rw [Nat.pow_succ]; omega

/-- How far a word is shifted till its first bit is set. -/
def lead (y : Nat) : Nat := 64 - Lib.bitLen y

theorem lead_spec {y : Nat} (h0 : y ≠ 0) (hy : y < 18446744073709551616) : lead y ≤ 63 ∧ 9223372036854775808 ≤ y * 2 ^ lead y ∧ y * 2 ^ lead y < 18446744073709551616 := by
  obtain ⟨j, h2, h3, h4⟩ := bitLen_bounds 64 y hy (by omega) h0
  have hj : j ≤ 63 := by
    by_cases h : j ≤ 63
    · exact h
    · have : 2 ^ 64 ≤ 2 ^ j := Nat.pow_le_pow_right (by decide) (by omega)
      omega
  unfold lead
  rw [h2]
  have e : 64 - (j + 1) = 63 - j := by omega
  rw [e]
  refine ⟨by omega, ?_, ?_⟩
  · have h5 : 2 ^ j * 2 ^ (63 - j) = 9223372036854775808 := by rw [← Nat.pow_add, show j + (63 - j) = 63 by omega]
    rw [← h5]
    exact Nat.mul_le_mul_right _ h3
  · have h5 : 2 ^ (j + 1) * 2 ^ (63 - j) = 18446744073709551616 := by rw [← Nat.pow_add, show j + 1 + (63 - j) = 64 by omega]
    rw [← h5]
    exact Nat.mul_lt_mul_of_pos_right h4 (Nat.two_pow_pos _)

theorem lead_any (y : Nat) (w : World) (hy : y < 18446744073709551616) : Calls Try.prog 63 #[U y] w (Ret w (I (lead y : Nat))) := by
  rw [U, nI_eq]
  refine (bits_LeadingZeros64_any (y : Int) w (by omega) (by omega)).mono ?_
  rintro e w' ⟨rfl, rfl⟩
  refine ⟨congrArg Ending.returned (congrArg (Value.int IntKind.i64) ?_), Below.refl _ _⟩
  have l := bitLen_le64 (y : Int) (by omega) (by omega)
  have e : (y : Int).toNat = y := by omega
  rw [e] at l ⊢
  unfold lead
  omega

end Go.Proofs.Ytegafbkjdkpfiaa
