/- The plain law of a root, bit by bit: no program in sight. -/
import Derived.Test.YtboljdeeodeeeaaFixA
namespace Go.Proofs.Ytboljdeeodeeeaa
set_option linter.unusedSimpArgs false
set_option linter.unusedVariables false
set_option maxRecDepth 100000

/-- r is the root of W: the greatest number whose square is not above it. -/
def IsRoot (W r : Nat) : Prop := r * r ≤ W ∧ W < (r + 1) * (r + 1)

theorem root_exists (W : Nat) : ∃ r, IsRoot W r := by
  induction W with
  | zero => exact ⟨0, by decide, by decide⟩
  | succ W ih =>
    obtain ⟨r, h1, h2⟩ := ih
    by_cases h : W + 1 < (r + 1) * (r + 1)
    · exact ⟨r, Nat.le_succ_of_le h1, h⟩
    · have h3 : (r + 1) * (r + 1) < (r + 1 + 1) * (r + 1 + 1) := Nat.mul_lt_mul_of_lt_of_lt (Nat.lt_succ_self _) (Nat.lt_succ_self _)
      exact ⟨r + 1, by omega, by omega⟩

theorem root_unique {W r s : Nat} (hr : IsRoot W r) (hs : IsRoot W s) : r = s := by
  rcases Nat.lt_trichotomy r s with h | h | h
  · have : (r + 1) * (r + 1) ≤ s * s := Nat.mul_le_mul h h
    have h1 := hr.2; have h2 := hs.1; omega
  · exact h
  · have : (s + 1) * (s + 1) ≤ r * r := Nat.mul_le_mul h h
    have h1 := hs.2; have h2 := hr.1; omega

noncomputable def rootN (W : Nat) : Nat := Classical.choose (root_exists W)
theorem rootN_spec (W : Nat) : IsRoot W (rootN W) := Classical.choose_spec (root_exists W)

/-- Where the loop stands with the bits from 2^k on done: t = 2^k. -/
def RootAt (W n t : Nat) : Prop := t ∣ n ∧ n * n ≤ W ∧ W < (n + t) * (n + t)

theorem RootAt.take {W n t : Nat} (h : RootAt W n (2 * t)) (hle : (n + t) * (n + t) ≤ W) : RootAt W (n + t) t := by
  obtain ⟨⟨c, hc⟩, h1, h2⟩ := h
  refine ⟨⟨2 * c + 1, ?_⟩, hle, ?_⟩
  · rw [hc, Nat.mul_add, Nat.mul_one, Nat.mul_comm 2 t, Nat.mul_assoc]
  · rw [Nat.add_assoc, ← Nat.two_mul]; exact h2

theorem RootAt.leave {W n t : Nat} (h : RootAt W n (2 * t)) (hgt : W < (n + t) * (n + t)) : RootAt W n t := by
  obtain ⟨⟨c, hc⟩, h1, h2⟩ := h
  exact ⟨⟨2 * c, by rw [hc, Nat.mul_comm 2 t, Nat.mul_assoc]⟩, h1, hgt⟩

theorem root_next {W n t k : Nat} (hk : k < 64) (ht : t = 2 ^ k) (h : RootAt W n t) : (t / 2 = 0 ∧ RootAt W n 1) ∨ ∃ j, j < 64 ∧ t / 2 = 2 ^ j ∧ RootAt W n (2 * (t / 2)) := by
  cases k with
  | zero => exact .inl ⟨by simp [ht], by rw [ht] at h; exact h⟩
  | succ j =>
    have e : t / 2 = 2 ^ j := by rw [ht, Nat.pow_succ]; omega
    have e2 : 2 * (t / 2) = t := by rw [e, ht, Nat.pow_succ]; omega
    exact .inr ⟨j, by omega, e, by rw [e2]; exact h⟩

theorem root_lt {W n t k : Nat} (hW : W < 340282366920938463463374607431768211456) (hk : k < 64) (ht : t = 2 ^ k) (h : RootAt W n (2 * t)) : n + t < 18446744073709551616 := by
  obtain ⟨⟨c, hc⟩, h1, _⟩ := h
  have hn : n < 18446744073709551616 := by
    by_cases hh : n < 18446744073709551616
    · exact hh
    · have := Nat.mul_le_mul (Nat.le_of_not_lt hh) (Nat.le_of_not_lt hh)
      omega
  have hd : 2 * t * 2 ^ (63 - k) = 18446744073709551616 := by
    rw [ht, Nat.mul_assoc, ← Nat.pow_add, show k + (63 - k) = 63 by omega]
  have htp : 0 < t := by rw [ht]; exact Nat.two_pow_pos k
  have hcd : c < 2 ^ (63 - k) := by
    by_cases hh : c < 2 ^ (63 - k)
    · exact hh
    · have := Nat.mul_le_mul_left (2 * t) (Nat.le_of_not_lt hh)
      omega
  have := Nat.mul_le_mul_left (2 * t) hcd
  rw [Nat.mul_succ] at this
  omega

theorem root_or {W n t k : Nat} (ht : t = 2 ^ k) (h : RootAt W n (2 * t)) : n ||| t = n + t := by
  obtain ⟨⟨c, hc⟩, _, _⟩ := h
  have e : n = 2 ^ (k + 1) * c := by rw [hc, ht, Nat.pow_succ, Nat.mul_comm 2]
  rw [e]
  exact (Nat.two_pow_add_eq_or_of_lt (by rw [ht, Nat.pow_succ]; have := Nat.two_pow_pos k; omega) c).symm

end Go.Proofs.Ytboljdeeodeeeaa
