/- Who is free stays free: plain laws. -/
import Derived.Test.YtnfhlfmcgeaagaaVmLp
namespace Go.Proofs.Ytnfhlfmcgeaagaa
set_option linter.unusedSimpArgs false
set_option linter.unusedVariables false
open Go.RowKit

theorem free_bound {m : Mp} {p : V3} (hp : p.fits) (h : m.free p = true) : (0 ≤ p.x ∧ p.x ≤ 2200000) ∧ (0 ≤ p.y ∧ p.y ≤ 2200000) ∧ (0 ≤ p.z ∧ p.z ≤ 2200000) := by
  have ax : ∀ {r x : Int}, 0 < r → r < 100000 → In64 x → ¬ cut64 (x + r) ≤ cut64 (x - r) ∧ cut64 (x - r) / 65536 ≤ (cut64 (x + r) - 1) / 65536 ∧ ((0 ≤ cut64 (x - r) / 65536 ∧ cut64 (x - r) / 65536 < 32) → 0 ≤ x ∧ x ≤ 2200000) := by
    intro r x h1 h2 h3
    unfold In64 at h3
    unfold cut64
    omega
  obtain ⟨a1, a2, a3⟩ := ax (r := 26214) (by omega) (by omega) hp.1
  obtain ⟨b1, b2, b3⟩ := ax (r := 26214) (by omega) (by omega) hp.2.1
  obtain ⟨c1, c2, c3⟩ := ax (r := 58982) (by omega) (by omega) hp.2.2
  rw [Mp.free, Mp.clear_iff] at h
  unfold Mp.Clear V3.minus V3.plus boxV at h
  rcases h with h | h | h | h
  · exact absurd h a1
  · exact absurd h b1
  · exact absurd h c1
  · have hs := Mp.solid_in (h _ _ _ (Int.le_refl _) a2 (Int.le_refl _) b2 (Int.le_refl _) c2)
    exact ⟨a3 hs.1, b3 hs.2.1, c3 hs.2.2⟩

theorem step_stays {m : Mp} {p q : V3} {c : Int} (hf : m.free p = true) (hp : p.fits) (hq : q.fits) (h0 : c = 0 → q = p) : (m.stepB p q c).1.fits ∧ m.free (m.stepB p q c).1 = true ∧ ((m.stepB p q c).1 = q ∧ (m.stepB p q c).2 = false ∨ (m.stepB p q c).1 = p ∧ (m.stepB p q c).2 = true ∧ c ≠ 0) := by
  unfold Mp.stepB
  cases hq' : m.free q
  · refine ⟨hp, hf, .inr ⟨rfl, ?_⟩⟩
    have hc : c ≠ 0 := fun hc => by rw [h0 hc, hf] at hq'; cases hq'
    exact ⟨by simpa using hc, hc⟩
  · exact ⟨hq, hq', .inl ⟨rfl, rfl⟩⟩

def axisOk (x x' c : Int) (b : Bool) : Prop := (x' = x + c ∧ b = false) ∨ (x' = x ∧ b = true ∧ c ≠ 0)

theorem slide_stays {m : Mp} {p : V3} (b : V3) (hf : m.free p = true) (hp : p.fits) : (m.slide p b).1.fits ∧ m.free (m.slide p b).1 = true ∧ axisOk p.x (m.slide p b).1.x (clampN 32768 b.x) (m.slide p b).2.1 ∧
    axisOk p.y (m.slide p b).1.y (clampN 32768 b.y) (m.slide p b).2.2.1 ∧ axisOk p.z (m.slide p b).1.z (clampN 32768 b.z) (m.slide p b).2.2.2 := by
  have cl : ∀ a, -32768 ≤ clampN 32768 a ∧ clampN 32768 a ≤ 32768 := clampN_in
  have ec : ∀ x c : Int, 0 ≤ x → x ≤ 2200000 → -32768 ≤ c → c ≤ 32768 → cut64 (x + c) = x + c := by intro x c h1 h2 h3 h4; unfold cut64; omega
  unfold Mp.slide
  dsimp only
  have b0 := free_bound hp hf
  have c1 := cl b.x
  rw [ec p.x _ b0.1.1 b0.1.2 c1.1 c1.2]
  have i1 : In64 (p.x + clampN 32768 b.x) := by unfold In64; omega
  obtain ⟨f1, g1, h1⟩ := step_stays (q := ⟨p.x + clampN 32768 b.x, p.y, p.z⟩) (c := clampN 32768 b.x) hf hp ⟨i1, hp.2.1, hp.2.2⟩ (fun hc => by rw [hc, Int.add_zero])
  generalize m.stepB p ⟨p.x + clampN 32768 b.x, p.y, p.z⟩ (clampN 32768 b.x) = r1 at f1 g1 h1 ⊢
  have e1 : r1.1.y = p.y ∧ r1.1.z = p.z ∧ axisOk p.x r1.1.x (clampN 32768 b.x) r1.2 := by
    rcases h1 with ⟨h1, h2⟩ | ⟨h1, h2, h3⟩
    · rw [h1]; exact ⟨rfl, rfl, .inl ⟨rfl, h2⟩⟩
    · rw [h1]; exact ⟨rfl, rfl, .inr ⟨rfl, h2, h3⟩⟩
  have b1 := free_bound f1 g1
  have c2 := cl b.y
  rw [ec r1.1.y _ b1.2.1.1 b1.2.1.2 c2.1 c2.2]
  have i2 : In64 (r1.1.y + clampN 32768 b.y) := by unfold In64; omega
  obtain ⟨f2, g2, h2⟩ := step_stays (q := ⟨r1.1.x, r1.1.y + clampN 32768 b.y, r1.1.z⟩) (c := clampN 32768 b.y) g1 f1 ⟨f1.1, i2, f1.2.2⟩ (fun hc => by rw [hc, Int.add_zero])
  generalize m.stepB r1.1 ⟨r1.1.x, r1.1.y + clampN 32768 b.y, r1.1.z⟩ (clampN 32768 b.y) = r2 at f2 g2 h2 ⊢
  have e2 : r2.1.x = r1.1.x ∧ r2.1.z = r1.1.z ∧ axisOk r1.1.y r2.1.y (clampN 32768 b.y) r2.2 := by
    rcases h2 with ⟨h1, h2⟩ | ⟨h1, h2, h3⟩
    · rw [h1]; exact ⟨rfl, rfl, .inl ⟨rfl, h2⟩⟩
    · rw [h1]; exact ⟨rfl, rfl, .inr ⟨rfl, h2, h3⟩⟩
  have b2 := free_bound f2 g2
  have c3 := cl b.z
  rw [ec r2.1.z _ b2.2.2.1 b2.2.2.2 c3.1 c3.2]
  have i3 : In64 (r2.1.z + clampN 32768 b.z) := by unfold In64; omega
  obtain ⟨f3, g3, h3⟩ := step_stays (q := ⟨r2.1.x, r2.1.y, r2.1.z + clampN 32768 b.z⟩) (c := clampN 32768 b.z) g2 f2 ⟨f2.1, f2.2.1, i3⟩ (fun hc => by rw [hc, Int.add_zero])
  generalize m.stepB r2.1 ⟨r2.1.x, r2.1.y, r2.1.z + clampN 32768 b.z⟩ (clampN 32768 b.z) = r3 at f3 g3 h3 ⊢
  have e3 : r3.1.x = r2.1.x ∧ r3.1.y = r2.1.y ∧ axisOk r2.1.z r3.1.z (clampN 32768 b.z) r3.2 := by
    rcases h3 with ⟨h1, h2⟩ | ⟨h1, h2, h3⟩
    · rw [h1]; exact ⟨rfl, rfl, .inl ⟨rfl, h2⟩⟩
    · rw [h1]; exact ⟨rfl, rfl, .inr ⟨rfl, h2, h3⟩⟩
  refine ⟨f3, g3, ?_, ?_, ?_⟩
  · rw [e3.1, e2.1]; exact e1.2.2
  · rw [e3.2.1, ← e1.1]; exact e2.2.2
  · rw [← e1.2.1, ← e2.2.1]; exact e3.2.2

end Go.Proofs.Ytnfhlfmcgeaagaa
