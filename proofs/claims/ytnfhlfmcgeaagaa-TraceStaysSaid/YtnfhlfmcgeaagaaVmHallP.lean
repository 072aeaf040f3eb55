/- Maps without solid cells: plain laws. -/
import Derived.Test.YtnfhlfmcgeaagaaVmAx
namespace Go.Proofs.Ytnfhlfmcgeaagaa
set_option linter.unusedSimpArgs false
set_option linter.unusedVariables false
open Go.RowKit

def inX (r s x : Int) : Bool := decide (r ≤ x) && decide (x ≤ s * 65536 - r)
def mvX (r s x c : Int) : Int := bif inX r s (x + c) then x + c else x

theorem seven {w : Int} : 2 ≤ IntKind.i64.wrap (2 + IntKind.i64.wrap ((BitVec.ofInt IntKind.i64.bits w &&& BitVec.ofInt IntKind.i64.bits 7).toNat : Int)) ∧ IntKind.i64.wrap (2 + IntKind.i64.wrap ((BitVec.ofInt IntKind.i64.bits w &&& BitVec.ofInt IntKind.i64.bits 7).toNat : Int)) ≤ 9 := by
  have h : (BitVec.ofInt IntKind.i64.bits w &&& BitVec.ofInt IntKind.i64.bits 7).toNat ≤ 7 := by
    rw [BitVec.toNat_and]
    exact Nat.le_trans Nat.and_le_right (by decide)
  generalize (BitVec.ofInt IntKind.i64.bits w &&& BitVec.ofInt IntKind.i64.bits 7).toNat = n at h
  rw [IntWalk.i64_in (n : Int) (by omega), IntWalk.i64_in (2 + (n : Int)) (by omega)]
  omega

section
variable {W D H : Int}
theorem prod3 (hW : 2 ≤ W ∧ W ≤ 9) (hD : 2 ≤ D ∧ D ≤ 9) (hH : 2 ≤ H ∧ H ≤ 9) : 4 ≤ W * D ∧ W * D ≤ 81 ∧ 8 ≤ W * D * H ∧ W * D * H ≤ 729 := by
  have h1 : W * D ≤ 9 * 9 := Int.mul_le_mul hW.2 hD.2 (by omega) (by omega)
  have h2 : 2 * 2 ≤ W * D := Int.mul_le_mul hW.1 hD.1 (by omega) (by omega)
  have h3 : W * D * H ≤ 81 * 9 := Int.mul_le_mul (by omega) hH.2 (by omega) (by omega)
  have h4 : 4 * 2 ≤ W * D * H := Int.mul_le_mul (by omega) hH.1 (by omega) (by omega)
  omega

theorem hall_solid (hW : 2 ≤ W ∧ W ≤ 9) (hD : 2 ≤ D ∧ D ≤ 9) (hH : 2 ≤ H ∧ H ≤ 9) {s : Nat → Bool} (hs : ∀ j, s j = false) (x y z : Int) : (mpOf W D H (W * D * H).toNat s).solid x y z = (!inB x W || !inB y D || !inB z H) := by
  have hp := prod3 hW hD hH
  have h0 : (mpOf W D H (W * D * H).toNat s).sized = true := by
    unfold Mp.sized sideB mpOf
    simp only [Bool.and_eq_true, decide_eq_true_eq, beq_iff_eq]
    omega
  unfold Mp.solid
  rw [h0]
  simp only [mpOf, hs, Bool.not_true, Bool.false_or, Bool.or_false]

theorem ax_free {r s x : Int} (hr : 0 < r) (hr' : r < 100000) (hs : 0 ≤ s ∧ s ≤ 9) (hx : In64 x) : ((∀ i, cut64 (x - r) / 65536 ≤ i → i ≤ (cut64 (x + r) - 1) / 65536 → 0 ≤ i ∧ i < s) ↔ (r ≤ x ∧ x ≤ s * 65536 - r)) ∧ ¬ cut64 (x + r) ≤ cut64 (x - r) ∧ cut64 (x - r) / 65536 ≤ (cut64 (x + r) - 1) / 65536 := by
  have e : ¬ cut64 (x + r) ≤ cut64 (x - r) := by unfold In64 at hx; unfold cut64; omega
  refine ⟨⟨fun h => ?_, fun h i h1 h2 => ?_⟩, e, by omega⟩
  · have h1 := h (cut64 (x - r) / 65536) (by omega) (by omega)
    have h2 := h ((cut64 (x + r) - 1) / 65536) (by omega) (by omega)
    unfold In64 at hx; unfold cut64 at h1 h2
    omega
  · unfold In64 at hx; unfold cut64 at h1 h2
    omega

theorem hall_free (hW : 2 ≤ W ∧ W ≤ 9) (hD : 2 ≤ D ∧ D ≤ 9) (hH : 2 ≤ H ∧ H ≤ 9) {s : Nat → Bool} (hs : ∀ j, s j = false) {p : V3} (hp : p.fits) : (mpOf W D H (W * D * H).toNat s).free p = (inX 26214 W p.x && (inX 26214 D p.y && inX 58982 H p.z)) := by
  obtain ⟨a1, a2, a3⟩ := ax_free (r := 26214) (s := W) (by omega) (by omega) (by omega) hp.1
  obtain ⟨b1, b2, b3⟩ := ax_free (r := 26214) (s := D) (by omega) (by omega) (by omega) hp.2.1
  obtain ⟨c1, c2, c3⟩ := ax_free (r := 58982) (s := H) (by omega) (by omega) (by omega) hp.2.2
  rw [Bool.eq_iff_iff, Mp.free, Mp.clear_iff]
  unfold Mp.Clear Mp.boxFree V3.minus V3.plus boxV inX
  simp only [Bool.and_eq_true, decide_eq_true_eq, hall_solid hW hD hH hs, Bool.or_eq_false_iff, Bool.not_eq_false', inB]
  rw [← a1, ← b1, ← c1]
  constructor
  · rintro (h | h | h | h)
    · exact absurd h a2
    · exact absurd h b2
    · exact absurd h c2
    · refine ⟨fun i h1 h2 => ?_, fun i h1 h2 => ?_, fun i h1 h2 => ?_⟩
      · have := h i _ _ h1 h2 (Int.le_refl _) b3 (Int.le_refl _) c3
        simpa using this.1.1
      · have := h _ i _ (Int.le_refl _) a3 h1 h2 (Int.le_refl _) c3
        simpa using this.1.2
      · have := h _ _ i (Int.le_refl _) a3 (Int.le_refl _) b3 h1 h2
        simpa using this.2
  · rintro ⟨h1, h2, h3⟩
    refine .inr (.inr (.inr fun i j k i1 i2 j1 j2 k1 k2 => ⟨⟨?_, ?_⟩, ?_⟩))
    · simpa using h1 i i1 i2
    · simpa using h2 j j1 j2
    · simpa using h3 k k1 k2

theorem clampN_in (a : Int) : -32768 ≤ clampN 32768 a ∧ clampN 32768 a ≤ 32768 := by unfold clampN; omega
theorem clampN_eq (a : Int) : max (-32768) (min 32768 a) = clampN 32768 a := by unfold clampN; omega
theorem inX_le {r s x : Int} (hr : 0 < r) (hs : s ≤ 9) (h : inX r s x = true) : r ≤ x ∧ x ≤ s * 65536 - r ∧ 0 ≤ x ∧ x ≤ 600000 := by
  unfold inX at h
  simp only [Bool.and_eq_true, decide_eq_true_eq] at h
  omega
theorem inX_fits {r s x : Int} (hr : 0 < r) (hs : s ≤ 9) (h : inX r s x = true) : In64 x := by
  have := inX_le hr hs h
  unfold In64; omega
theorem mvX_in {r s x c : Int} (h : inX r s x = true) : inX r s (mvX r s x c) = true := by
  unfold mvX
  cases h1 : inX r s (x + c)
  · exact h
  · exact h1

theorem hall_slide (hW : 2 ≤ W ∧ W ≤ 9) (hD : 2 ≤ D ∧ D ≤ 9) (hH : 2 ≤ H ∧ H ≤ 9) {s : Nat → Bool} (hs : ∀ j, s j = false) {p : V3} (b : V3) (hx : inX 26214 W p.x = true) (hy : inX 26214 D p.y = true) (hz : inX 58982 H p.z = true) :
    (mpOf W D H (W * D * H).toNat s).slide p b = (⟨mvX 26214 W p.x (clampN 32768 b.x), mvX 26214 D p.y (clampN 32768 b.y), mvX 58982 H p.z (clampN 32768 b.z)⟩,
      !inX 26214 W (p.x + clampN 32768 b.x), !inX 26214 D (p.y + clampN 32768 b.y), !inX 58982 H (p.z + clampN 32768 b.z)) := by
  have ix := inX_le (by omega) (by omega) hx
  have iy := inX_le (by omega) (by omega) hy
  have iz := inX_le (by omega) (by omega) hz
  have cx := clampN_in b.x
  have cy := clampN_in b.y
  have cz := clampN_in b.z
  have fx := inX_fits (by omega) (by omega) hx
  have fy := inX_fits (by omega) (by omega) hy
  have fz := inX_fits (by omega) (by omega) hz
  have hf := fun q (h : V3.fits q) => hall_free hW hD hH hs h
  have e1 : (mpOf W D H (W * D * H).toNat s).stepB p ⟨cut64 (p.x + clampN 32768 b.x), p.y, p.z⟩ (clampN 32768 b.x) = (⟨mvX 26214 W p.x (clampN 32768 b.x), p.y, p.z⟩, !inX 26214 W (p.x + clampN 32768 b.x)) := by
    unfold Mp.stepB mvX
    rw [hf ⟨cut64 (p.x + clampN 32768 b.x), p.y, p.z⟩ ⟨cut64_fits _, fy, fz⟩, cut64_id (by unfold In64; omega)]
    dsimp only
    rw [hy, hz]
    simp only [Bool.and_true]
    cases h : inX 26214 W (p.x + clampN 32768 b.x)
    · have : (clampN 32768 b.x != 0) = true := by
        simp only [bne_iff_ne, ne_eq]
        intro h0
        rw [h0, Int.add_zero, hx] at h
        cases h
      rw [this]; rfl
    · rfl
  have hx2 := mvX_in (c := clampN 32768 b.x) hx
  have fx2 := inX_fits (by omega) (by omega) hx2
  have e2 : (mpOf W D H (W * D * H).toNat s).stepB ⟨mvX 26214 W p.x (clampN 32768 b.x), p.y, p.z⟩ ⟨mvX 26214 W p.x (clampN 32768 b.x), cut64 (p.y + clampN 32768 b.y), p.z⟩ (clampN 32768 b.y) = (⟨mvX 26214 W p.x (clampN 32768 b.x), mvX 26214 D p.y (clampN 32768 b.y), p.z⟩, !inX 26214 D (p.y + clampN 32768 b.y)) := by
    generalize mvX 26214 W p.x (clampN 32768 b.x) = u at hx2 fx2
    unfold Mp.stepB mvX
    rw [hf ⟨u, cut64 (p.y + clampN 32768 b.y), p.z⟩ ⟨fx2, cut64_fits _, fz⟩, cut64_id (by unfold In64; omega)]
    dsimp only
    rw [hx2, hz]
    simp only [Bool.and_true, Bool.true_and]
    cases h : inX 26214 D (p.y + clampN 32768 b.y)
    · have : (clampN 32768 b.y != 0) = true := by
        simp only [bne_iff_ne, ne_eq]
        intro h0
        rw [h0, Int.add_zero, hy] at h
        cases h
      rw [this]; rfl
    · rfl
  have hy2 := mvX_in (c := clampN 32768 b.y) hy
  have fy2 := inX_fits (by omega) (by omega) hy2
  have e3 : (mpOf W D H (W * D * H).toNat s).stepB ⟨mvX 26214 W p.x (clampN 32768 b.x), mvX 26214 D p.y (clampN 32768 b.y), p.z⟩ ⟨mvX 26214 W p.x (clampN 32768 b.x), mvX 26214 D p.y (clampN 32768 b.y), cut64 (p.z + clampN 32768 b.z)⟩ (clampN 32768 b.z) = (⟨mvX 26214 W p.x (clampN 32768 b.x), mvX 26214 D p.y (clampN 32768 b.y), mvX 58982 H p.z (clampN 32768 b.z)⟩, !inX 58982 H (p.z + clampN 32768 b.z)) := by
    generalize mvX 26214 W p.x (clampN 32768 b.x) = u at hx2 fx2
    generalize mvX 26214 D p.y (clampN 32768 b.y) = v at hy2 fy2
    unfold Mp.stepB mvX
    rw [hf ⟨u, v, cut64 (p.z + clampN 32768 b.z)⟩ ⟨fx2, fy2, cut64_fits _⟩, cut64_id (by unfold In64; omega)]
    dsimp only
    rw [hx2, hy2]
    simp only [Bool.true_and]
    cases h : inX 58982 H (p.z + clampN 32768 b.z)
    · have : (clampN 32768 b.z != 0) = true := by
        simp only [bne_iff_ne, ne_eq]
        intro h0
        rw [h0, Int.add_zero, hz] at h
        cases h
      rw [this]; rfl
    · rfl
  unfold Mp.slide
  dsimp only
  rw [e1]
  dsimp only
  rw [e2]
  dsimp only
  rw [e3]
end

end Go.Proofs.Ytnfhlfmcgeaagaa
