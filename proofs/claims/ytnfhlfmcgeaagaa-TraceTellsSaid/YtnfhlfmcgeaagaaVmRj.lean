/- The reference's grid: when Clear says true (plain). -/
import Derived.Test.YtnfhlfmcgeaagaaVmRh
namespace Go.Proofs.Ytnfhlfmcgeaagaa
set_option linter.unusedSimpArgs false
set_option linter.unusedVariables false
open Go.RowKit

theorem solid_no {m : Mp} {x y z : Int} (h : m.solid x y z = false) : m.sized = true ∧ (0 ≤ x ∧ x < m.w) ∧ (0 ≤ y ∧ y < m.d) ∧ (0 ≤ z ∧ z < m.h) := by
  unfold Mp.solid inB at h
  simp only [Bool.or_eq_false_iff, Bool.not_eq_false', Bool.and_eq_true, decide_eq_true_eq] at h
  obtain ⟨⟨⟨⟨h1, h2⟩, h3⟩, h4⟩, _⟩ := h
  exact ⟨h1, h2, h3, h4⟩
theorem meetsB_iff {c lo hi : Int} (h : lo < hi) : meetsB c lo hi = true ↔ lo / 65536 ≤ c ∧ c ≤ (hi - 1) / 65536 := by
  unfold meetsB
  rw [decide_eq_true_eq]
  omega
/-- The cells of a row, of a layer, of all: is one solid that the box meets? -/
def Mp.hitX (m : Mp) (lo hi : V3) (z y x : Int) : Bool := ((meetsB x lo.x hi.x && meetsB y lo.y hi.y) && meetsB z lo.z hi.z) && m.solid x y z
def Mp.hitY (m : Mp) (lo hi : V3) (z y : Int) : Bool := anyB (m.hitX lo hi z y) m.w.toNat 0
def Mp.hitZ (m : Mp) (lo hi : V3) (z : Int) : Bool := anyB (m.hitY lo hi z) m.d.toNat 0
def Mp.hit (m : Mp) (lo hi : V3) : Bool := anyB (m.hitZ lo hi) m.h.toNat 0
theorem clear_out {m : Mp} {lo hi : V3} (h1 : lo.x < hi.x) (h2 : lo.y < hi.y) (h3 : lo.z < hi.z)
    (h : m.sized = false ∨ lo.x < 0 ∨ lo.y < 0 ∨ lo.z < 0 ∨ hi.x > m.w * 65536 ∨ hi.y > m.d * 65536 ∨ hi.z > m.h * 65536) : m.clear lo hi = false := by
  rw [Bool.eq_false_iff]
  intro hc
  rcases Mp.clear_iff.1 hc with k | k | k | k
  · omega
  · omega
  · omega
  · obtain ⟨a1, a2, a3, a4⟩ := solid_no (k (lo.x / 65536) (lo.y / 65536) (lo.z / 65536) (by omega) (by omega) (by omega) (by omega) (by omega) (by omega))
    obtain ⟨b1, b2, b3, b4⟩ := solid_no (k ((hi.x - 1) / 65536) ((hi.y - 1) / 65536) ((hi.z - 1) / 65536) (by omega) (by omega) (by omega) (by omega) (by omega) (by omega))
    rcases h with h | h | h | h | h | h | h
    · rw [h] at a1; cases a1
    all_goals omega
theorem clear_hit {m : Mp} {lo hi : V3} (h1 : lo.x < hi.x) (h2 : lo.y < hi.y) (h3 : lo.z < hi.z) (a1 : 0 ≤ lo.x) (a2 : 0 ≤ lo.y) (a3 : 0 ≤ lo.z) (b1 : hi.x ≤ m.w * 65536) (b2 : hi.y ≤ m.d * 65536) (b3 : hi.z ≤ m.h * 65536) : m.clear lo hi = !m.hit lo hi := by
  rw [Bool.eq_iff_iff, Mp.clear_iff, Bool.not_eq_true', ← Bool.not_eq_true]
  unfold Mp.hit
  constructor
  · intro hc hh
    rcases hc with k | k | k | k
    · omega
    · omega
    · omega
    · obtain ⟨z, z1, z2, hz⟩ := anyB_iff.1 hh
      obtain ⟨y, y1, y2, hy⟩ := anyB_iff.1 hz
      obtain ⟨x, x1, x2, hx⟩ := anyB_iff.1 hy
      unfold Mp.hitX at hx
      simp only [Bool.and_eq_true, meetsB_iff h1, meetsB_iff h2, meetsB_iff h3] at hx
      obtain ⟨⟨⟨hx1, hx2⟩, hx3⟩, hx4⟩ := hx
      rw [k x y z hx1.1 hx1.2 hx2.1 hx2.2 hx3.1 hx3.2] at hx4
      cases hx4
  · intro hh
    refine .inr (.inr (.inr fun i j k i1 i2 j1 j2 k1 k2 => ?_))
    rw [← Bool.not_eq_true]
    intro hs
    refine hh (anyB_iff.2 ⟨k, by omega, by omega, anyB_iff.2 ⟨j, by omega, by omega, anyB_iff.2 ⟨i, by omega, by omega, ?_⟩⟩⟩)
    unfold Mp.hitX
    simp only [Bool.and_eq_true, meetsB_iff h1, meetsB_iff h2, meetsB_iff h3]
    exact ⟨⟨⟨⟨i1, i2⟩, j1, j2⟩, k1, k2⟩, hs⟩

end Go.Proofs.Ytnfhlfmcgeaagaa
