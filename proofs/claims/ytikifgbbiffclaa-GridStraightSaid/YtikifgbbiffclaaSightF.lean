/- grid's Sight, plainly: what follows of the cells of a line. -/
import Derived.Test.YtikifgbbiffclaaSight
namespace Go.Proofs.Ytikifgbbiffclaa
set_option linter.unusedSimpArgs false
set_option linter.unusedVariables false
open Go.RowKit

/-- Cells that are not solid lie inside. -/
def Inside (F : Int → Int → Int → Bool) : Prop := ∀ x y z, F x y z = false → (0 ≤ x ∧ x < 32) ∧ (0 ≤ y ∧ y < 32) ∧ (0 ≤ z ∧ z < 32)

theorem cellAt_turn (a b p q : Int) : cellAt a b p q = cellAt b a (q - p) q := by
  unfold cellAt
  congr 1
  grind
theorem cellAt_self {a p q : Int} (hq : 0 < q) : cellAt a a p q = a / 65536 := by
  unfold cellAt
  rw [show a * q + (a - a) * p = a * q by grind, Int.mul_comm q]
  exact Int.mul_ediv_mul_of_pos_left a 65536 hq
theorem cellAt_scale {a b p q k : Int} (hk : 0 < k) : cellAt a b (p * k) (q * k) = cellAt a b p q := by
  unfold cellAt
  rw [show a * (q * k) + (b - a) * (p * k) = (a * q + (b - a) * p) * k by grind, show q * k * 65536 = q * 65536 * k by grind]
  exact Int.mul_ediv_mul_of_pos_left _ _ hk

theorem cellAt_ge {a b p q m : Int} (hp : 0 ≤ p) (hpq : p ≤ q) (hq : 0 < q) (ha : m ≤ a) (hb : m ≤ b) : m / 65536 ≤ cellAt a b p q := by
  have hq6 : 0 < q * 65536 := by omega
  unfold cellAt
  rw [Int.le_ediv_iff_mul_le hq6]
  have h1 : a * q + (b - a) * p = a * (q - p) + b * p := by grind
  rw [h1]
  have h2 := Int.mul_le_mul_of_nonneg_right ha (show 0 ≤ q - p by omega)
  have h3 := Int.mul_le_mul_of_nonneg_right hb hp
  have h4 : m / 65536 * 65536 ≤ m := by omega
  have h5 := Int.mul_le_mul_of_nonneg_right h4 (Int.le_of_lt hq)
  grind
theorem cellAt_le {a b p q m : Int} (hp : 0 ≤ p) (hpq : p ≤ q) (hq : 0 < q) (ha : a ≤ m) (hb : b ≤ m) : cellAt a b p q ≤ m / 65536 := by
  have hq6 : 0 < q * 65536 := by omega
  unfold cellAt
  have h1 : a * q + (b - a) * p = a * (q - p) + b * p := by grind
  rw [h1]
  have h2 := Int.mul_le_mul_of_nonneg_right ha (show 0 ≤ q - p by omega)
  have h3 := Int.mul_le_mul_of_nonneg_right hb hp
  have h4 : (a * (q - p) + b * p) / (q * 65536) < m / 65536 + 1 := by
    rw [Int.ediv_lt_iff_lt_mul hq6]
    have h5 : m < (m / 65536 + 1) * 65536 := by omega
    have h6 := Int.mul_lt_mul_of_pos_right h5 hq
    grind
  omega
/-- Each cell lies between the two ends' cells. -/
theorem cellAt_between {a b p q : Int} (hp : 0 ≤ p) (hpq : p ≤ q) (hq : 0 < q) : min (a / 65536) (b / 65536) ≤ cellAt a b p q ∧ cellAt a b p q ≤ max (a / 65536) (b / 65536) := by
  by_cases h : a ≤ b
  · have h1 := cellAt_ge hp hpq hq (Int.le_refl a) h
    have h2 := cellAt_le hp hpq hq h (Int.le_refl b)
    omega
  · have h1 := cellAt_ge hp hpq hq (show b ≤ a by omega) (Int.le_refl b)
    have h2 := cellAt_le hp hpq hq (Int.le_refl a) (show b ≤ a by omega)
    omega
/-- Each cell between the two ends' cells is met. -/
theorem cellAt_meets {a b c : Int} (h1 : min (a / 65536) (b / 65536) ≤ c) (h2 : c ≤ max (a / 65536) (b / 65536)) : ∃ p q, 0 ≤ p ∧ p ≤ q ∧ 0 < q ∧ cellAt a b p q = c := by
  by_cases ha : c = a / 65536
  · exact ⟨0, 1, by omega, by omega, by omega, by rw [cellAt_start, ha]⟩
  by_cases hb : c = b / 65536
  · exact ⟨1, 1, by omega, by omega, by omega, by rw [cellAt_end, hb]⟩
  by_cases hab : a < b
  · refine ⟨c * 65536 - a, b - a, by omega, by omega, by omega, ?_⟩
    unfold cellAt
    rw [show a * (b - a) + (b - a) * (c * 65536 - a) = c * ((b - a) * 65536) by grind]
    exact Int.mul_ediv_cancel c (by omega)
  · refine ⟨a - c * 65536, a - b, by omega, by omega, by omega, ?_⟩
    unfold cellAt
    rw [show a * (a - b) + (b - a) * (a - c * 65536) = c * ((a - b) * 65536) by grind]
    exact Int.mul_ediv_cancel c (by omega)

section
variable {F G : Int → Int → Int → Bool} {a b : V3}

theorem sight_turn (hF : Inside F) (a b : V3) : sightF F a b = sightF F b a := by
  rw [Bool.eq_iff_iff, sight_iff hF, sight_iff hF]
  have one : ∀ a b : V3, (∀ p q, 0 ≤ p → p ≤ q → 0 < q → freeAt F a b p q) → ∀ p q, 0 ≤ p → p ≤ q → 0 < q → freeAt F b a p q := by
    intro a b h p q hp hpq hq
    have := h (q - p) q (by omega) (by omega) hq
    unfold freeAt at this ⊢
    rw [cellAt_turn b.x, cellAt_turn b.y, cellAt_turn b.z]
    exact this
  exact ⟨one a b, one b a⟩
theorem sight_self (hF : Inside F) (a : V3) : sightF F a a = !F (a.x / 65536) (a.y / 65536) (a.z / 65536) := by
  rw [Bool.eq_iff_iff, sight_iff hF, Bool.not_eq_true']
  constructor
  · intro h
    have := h 0 1 (by omega) (by omega) (by omega)
    unfold freeAt at this
    rwa [cellAt_start, cellAt_start, cellAt_start] at this
  · intro h p q hp hpq hq
    unfold freeAt
    rw [cellAt_self hq, cellAt_self hq, cellAt_self hq]
    exact h
theorem sight_ends (hF : Inside F) (h : sightF F a b = true) : sightF F a a = true ∧ sightF F b b = true := by
  rw [sight_self hF, sight_self hF, Bool.not_eq_true', Bool.not_eq_true']
  rw [sight_iff hF] at h
  have h1 := h 0 1 (by omega) (by omega) (by omega)
  have h2 := h 1 1 (by omega) (by omega) (by omega)
  unfold freeAt at h1 h2
  rw [cellAt_start, cellAt_start, cellAt_start] at h1
  rw [cellAt_end, cellAt_end, cellAt_end] at h2
  exact ⟨h1, h2⟩
theorem sight_mono (hF : Inside F) (hG : Inside G) (hle : ∀ x y z, G x y z = false → F x y z = false) (h : sightF G a b = true) : sightF F a b = true := by
  rw [sight_iff hF]
  rw [sight_iff hG] at h
  exact fun p q hp hpq hq => hle _ _ _ (h p q hp hpq hq)
/-- Whether a cell lies in the box of cells of two points. -/
def InBox (a b : V3) (x y z : Int) : Prop := (min (a.x / 65536) (b.x / 65536) ≤ x ∧ x ≤ max (a.x / 65536) (b.x / 65536)) ∧ (min (a.y / 65536) (b.y / 65536) ≤ y ∧ y ≤ max (a.y / 65536) (b.y / 65536)) ∧ (min (a.z / 65536) (b.z / 65536) ≤ z ∧ z ≤ max (a.z / 65536) (b.z / 65536))
theorem sight_box (hF : Inside F) (h : ∀ x y z, InBox a b x y z → F x y z = false) : sightF F a b = true := by
  rw [sight_iff hF]
  intro p q hp hpq hq
  exact h _ _ _ ⟨cellAt_between hp hpq hq, cellAt_between hp hpq hq, cellAt_between hp hpq hq⟩
theorem sight_same (hF : Inside F) (hG : Inside G) (h : ∀ x y z, InBox a b x y z → F x y z = G x y z) : sightF F a b = sightF G a b := by
  rw [Bool.eq_iff_iff, sight_iff hF, sight_iff hG]
  have e : ∀ p q, 0 ≤ p → p ≤ q → 0 < q → (freeAt F a b p q ↔ freeAt G a b p q) := by
    intro p q hp hpq hq
    unfold freeAt
    rw [h _ _ _ ⟨cellAt_between hp hpq hq, cellAt_between hp hpq hq, cellAt_between hp hpq hq⟩]
  exact ⟨fun h p q hp hpq hq => (e p q hp hpq hq).1 (h p q hp hpq hq), fun h p q hp hpq hq => (e p q hp hpq hq).2 (h p q hp hpq hq)⟩

theorem half_first {a b c p q : Int} (h : 2 * c = a + b) : cellAt a c (2 * p) q = cellAt a b p q := by
  unfold cellAt
  congr 1
  have : c - a = b - c := by omega
  have h2 : b - a = 2 * (c - a) := by omega
  rw [h2]
  grind
theorem half_last {a b c p q : Int} (h : 2 * c = a + b) : cellAt c b (2 * p - q) q = cellAt a b p q := by
  unfold cellAt
  congr 1
  have hb : b = 2 * c - a := by omega
  subst hb
  grind
/-- Who sees far sees half as far. -/
theorem sight_halves (hF : Inside F) {c : V3} (hx : 2 * c.x = a.x + b.x) (hy : 2 * c.y = a.y + b.y) (hz : 2 * c.z = a.z + b.z) : sightF F a b = (sightF F a c && sightF F c b) := by
  rw [Bool.eq_iff_iff, Bool.and_eq_true, sight_iff hF, sight_iff hF, sight_iff hF]
  constructor
  · intro h
    refine ⟨fun p q hp hpq hq => ?_, fun p q hp hpq hq => ?_⟩
    · have := h p (q * 2) hp (by omega) (by omega)
      unfold freeAt at this ⊢
      rw [← half_first hx, ← half_first hy, ← half_first hz, Int.mul_comm 2 p, cellAt_scale (by omega), cellAt_scale (by omega), cellAt_scale (by omega)] at this
      exact this
    · have := h (p + q) (q * 2) (by omega) (by omega) (by omega)
      unfold freeAt at this ⊢
      rw [← half_last hx, ← half_last hy, ← half_last hz, show 2 * (p + q) - q * 2 = p * 2 by omega, cellAt_scale (by omega), cellAt_scale (by omega), cellAt_scale (by omega)] at this
      exact this
  · rintro ⟨h1, h2⟩ p q hp hpq hq
    by_cases hm : 2 * p ≤ q
    · have := h1 (2 * p) q (by omega) hm hq
      unfold freeAt at this ⊢
      rwa [half_first hx, half_first hy, half_first hz] at this
    · have := h2 (2 * p - q) q (by omega) (by omega) hq
      unfold freeAt at this ⊢
      rwa [half_last hx, half_last hy, half_last hz] at this

/-- Along an axis: all cells between. -/
theorem sight_along_x (hF : Inside F) (hy : a.y = b.y) (hz : a.z = b.z) : sightF F a b = true ↔ ∀ x, min (a.x / 65536) (b.x / 65536) ≤ x → x ≤ max (a.x / 65536) (b.x / 65536) → F x (a.y / 65536) (a.z / 65536) = false := by
  rw [sight_iff hF]
  constructor
  · intro h x h1 h2
    obtain ⟨p, q, hp, hpq, hq, rfl⟩ := cellAt_meets h1 h2
    have := h p q hp hpq hq
    unfold freeAt at this
    rwa [← hy, ← hz, cellAt_self hq, cellAt_self hq] at this
  · intro h p q hp hpq hq
    unfold freeAt
    rw [← hy, ← hz, cellAt_self hq, cellAt_self hq]
    have := cellAt_between (a := a.x) (b := b.x) hp hpq hq
    exact h _ this.1 this.2
theorem sight_along_y (hF : Inside F) (hx : a.x = b.x) (hz : a.z = b.z) : sightF F a b = true ↔ ∀ y, min (a.y / 65536) (b.y / 65536) ≤ y → y ≤ max (a.y / 65536) (b.y / 65536) → F (a.x / 65536) y (a.z / 65536) = false := by
  rw [sight_iff hF]
  constructor
  · intro h x h1 h2
    obtain ⟨p, q, hp, hpq, hq, rfl⟩ := cellAt_meets h1 h2
    have := h p q hp hpq hq
    unfold freeAt at this
    rwa [← hx, ← hz, cellAt_self hq, cellAt_self hq] at this
  · intro h p q hp hpq hq
    unfold freeAt
    rw [← hx, ← hz, cellAt_self hq, cellAt_self hq]
    have := cellAt_between (a := a.y) (b := b.y) hp hpq hq
    exact h _ this.1 this.2
theorem sight_along_z (hF : Inside F) (hx : a.x = b.x) (hy : a.y = b.y) : sightF F a b = true ↔ ∀ z, min (a.z / 65536) (b.z / 65536) ≤ z → z ≤ max (a.z / 65536) (b.z / 65536) → F (a.x / 65536) (a.y / 65536) z = false := by
  rw [sight_iff hF]
  constructor
  · intro h x h1 h2
    obtain ⟨p, q, hp, hpq, hq, rfl⟩ := cellAt_meets h1 h2
    have := h p q hp hpq hq
    unfold freeAt at this
    rwa [← hx, ← hy, cellAt_self hq, cellAt_self hq] at this
  · intro h p q hp hpq hq
    unfold freeAt
    rw [← hx, ← hy, cellAt_self hq, cellAt_self hq]
    have := cellAt_between (a := a.z) (b := b.z) hp hpq hq
    exact h _ this.1 this.2
end

end Go.Proofs.Ytikifgbbiffclaa
