/- Walls: plain laws of a move along one axis. -/
import Derived.Test.YtnfhlfmcgeaagaaVmSc
import Derived.Test.YtnfhlfmcgeaagaaVmSg
import Derived.Test.YtnfhlfmcgeaagaaVmSi
namespace Go.Proofs.Ytnfhlfmcgeaagaa
set_option linter.unusedSimpArgs false
set_option linter.unusedVariables false
open Go.RowKit

theorem stepB_cases (m : Mp) (p q : V3) (d : Int) : (m.stepB p q d = (q, false) ∧ m.free q = true) ∨ (m.stepB p q d = (p, d != 0) ∧ m.free q = false) := by
  unfold Mp.stepB
  cases m.free q
  · exact .inr ⟨rfl, rfl⟩
  · exact .inl ⟨rfl, rfl⟩
def moved (a b d : Int) (k : Bool) : Prop := (b = cut64 (a + clampN 32768 d) ∧ k = false) ∨ (b = a ∧ k = (clampN 32768 d != 0))
theorem slide_spec (m : Mp) (p b : V3) : ∃ (x y z : Int) (k1 k2 k3 : Bool), m.slide p b = (⟨x, y, z⟩, k1, k2, k3) ∧ moved p.x x b.x k1 ∧ moved p.y y b.y k2 ∧ moved p.z z b.z k3 ∧ (m.free p = true → m.free ⟨x, y, z⟩ = true) := by
  unfold Mp.slide
  dsimp only
  rcases stepB_cases m p ⟨cut64 (p.x + clampN 32768 b.x), p.y, p.z⟩ (clampN 32768 b.x) with ⟨e1, f1⟩ | ⟨e1, f1⟩ <;> simp only [e1]
  · rcases stepB_cases m ⟨cut64 (p.x + clampN 32768 b.x), p.y, p.z⟩ ⟨cut64 (p.x + clampN 32768 b.x), cut64 (p.y + clampN 32768 b.y), p.z⟩ (clampN 32768 b.y) with ⟨e2, f2⟩ | ⟨e2, f2⟩ <;> simp only [e2]
    · rcases stepB_cases m ⟨cut64 (p.x + clampN 32768 b.x), cut64 (p.y + clampN 32768 b.y), p.z⟩ ⟨cut64 (p.x + clampN 32768 b.x), cut64 (p.y + clampN 32768 b.y), cut64 (p.z + clampN 32768 b.z)⟩ (clampN 32768 b.z) with ⟨e3, f3⟩ | ⟨e3, f3⟩ <;> simp only [e3]
      · exact ⟨_, _, _, _, _, _, rfl, .inl ⟨rfl, rfl⟩, .inl ⟨rfl, rfl⟩, .inl ⟨rfl, rfl⟩, fun _ => f3⟩
      · exact ⟨_, _, _, _, _, _, rfl, .inl ⟨rfl, rfl⟩, .inl ⟨rfl, rfl⟩, .inr ⟨rfl, rfl⟩, fun _ => f2⟩
    · rcases stepB_cases m ⟨cut64 (p.x + clampN 32768 b.x), p.y, p.z⟩ ⟨cut64 (p.x + clampN 32768 b.x), p.y, cut64 (p.z + clampN 32768 b.z)⟩ (clampN 32768 b.z) with ⟨e3, f3⟩ | ⟨e3, f3⟩ <;> simp only [e3]
      · exact ⟨_, _, _, _, _, _, rfl, .inl ⟨rfl, rfl⟩, .inr ⟨rfl, rfl⟩, .inl ⟨rfl, rfl⟩, fun _ => f3⟩
      · exact ⟨_, _, _, _, _, _, rfl, .inl ⟨rfl, rfl⟩, .inr ⟨rfl, rfl⟩, .inr ⟨rfl, rfl⟩, fun _ => f1⟩
  · rcases stepB_cases m p ⟨p.x, cut64 (p.y + clampN 32768 b.y), p.z⟩ (clampN 32768 b.y) with ⟨e2, f2⟩ | ⟨e2, f2⟩ <;> simp only [e2]
    · rcases stepB_cases m ⟨p.x, cut64 (p.y + clampN 32768 b.y), p.z⟩ ⟨p.x, cut64 (p.y + clampN 32768 b.y), cut64 (p.z + clampN 32768 b.z)⟩ (clampN 32768 b.z) with ⟨e3, f3⟩ | ⟨e3, f3⟩ <;> simp only [e3]
      · exact ⟨_, _, _, _, _, _, rfl, .inr ⟨rfl, rfl⟩, .inl ⟨rfl, rfl⟩, .inl ⟨rfl, rfl⟩, fun _ => f3⟩
      · exact ⟨_, _, _, _, _, _, rfl, .inr ⟨rfl, rfl⟩, .inl ⟨rfl, rfl⟩, .inr ⟨rfl, rfl⟩, fun _ => f2⟩
    · rcases stepB_cases m p ⟨p.x, p.y, cut64 (p.z + clampN 32768 b.z)⟩ (clampN 32768 b.z) with ⟨e3, f3⟩ | ⟨e3, f3⟩ <;> simp only [e3]
      · exact ⟨_, _, _, _, _, _, rfl, .inr ⟨rfl, rfl⟩, .inr ⟨rfl, rfl⟩, .inl ⟨rfl, rfl⟩, fun _ => f3⟩
      · exact ⟨_, _, _, _, _, _, rfl, .inr ⟨rfl, rfl⟩, .inr ⟨rfl, rfl⟩, .inr ⟨rfl, rfl⟩, fun h => h⟩
theorem moved_near {a b d : Int} {k : Bool} (ha : In64 a) (h : moved a b d k) : -32768 ≤ b - a ∧ b - a ≤ 32768 := by
  unfold In64 at ha
  rcases h with ⟨h, _⟩ | ⟨h, _⟩
  · unfold clampN cut64 at h; omega
  · omega
theorem moved_zero {a b : Int} {k : Bool} (ha : In64 a) (h : moved a b 0 k) : b = a := by
  unfold In64 at ha
  rcases h with ⟨h, _⟩ | ⟨h, _⟩
  · unfold clampN cut64 at h; omega
  · exact h
theorem moved_fits {a b d : Int} {k : Bool} (ha : In64 a) (h : moved a b d k) : In64 b := by
  rcases h with ⟨h, _⟩ | ⟨h, _⟩
  · rw [h]; exact cut64_fits _
  · rw [h]; exact ha
/-- Where a player is free, the cell that its middle is in is not solid. -/
theorem free_cell {m : Mp} {p : V3} (hp : p.fits) (h : m.free p = true) : m.solid (p.x / 65536) (p.y / 65536) (p.z / 65536) = false := by
  have ax : ∀ {r x : Int}, 0 < r → r < 100000 → In64 x → ¬ cut64 (x + r) ≤ cut64 (x - r) ∧ cut64 (x - r) / 65536 ≤ x / 65536 ∧ x / 65536 ≤ (cut64 (x + r) - 1) / 65536 := by
    intro r x h1 h2 h3
    unfold In64 at h3
    unfold cut64
    omega
  obtain ⟨a1, a2, a3⟩ := ax (r := 26214) (by omega) (by omega) hp.1
  obtain ⟨b1, b2, b3⟩ := ax (r := 26214) (by omega) (by omega) hp.2.1
  obtain ⟨c1, c2, c3⟩ := ax (r := 58982) (by omega) (by omega) hp.2.2
  rw [Mp.free, Mp.clear_iff] at h
  unfold Mp.Clear V3.minus V3.plus boxV at h
  rcases h with h | h | h | h
  · exact absurd h a1
  · exact absurd h b1
  · exact absurd h c1
  · exact h _ _ _ a2 a3 b2 b3 c2 c3
theorem ends {a b x : Int} (h1 : min (a / 65536) (b / 65536) ≤ x) (h2 : x ≤ max (a / 65536) (b / 65536)) (h : -32768 ≤ b - a ∧ b - a ≤ 32768) : x = a / 65536 ∨ x = b / 65536 := by omega
theorem wall_x {m : Mp} (hm : Inside m.solid) {p q : V3} (hp : p.fits) (hq : q.fits) (fp : m.free p = true) (fq : m.free q = true) (hx : -32768 ≤ q.x - p.x ∧ q.x - p.x ≤ 32768) (hy : q.y = p.y) (hz : q.z = p.z) : m.sight p q = true := by
  have c1 := free_cell hp fp
  have c2 := free_cell hq fq
  rw [hy, hz] at c2
  exact (sight_along_x hm hy.symm hz.symm).2 fun x h1 h2 => by
    rcases ends h1 h2 hx with rfl | rfl
    · exact c1
    · exact c2
theorem wall_y {m : Mp} (hm : Inside m.solid) {p q : V3} (hp : p.fits) (hq : q.fits) (fp : m.free p = true) (fq : m.free q = true) (hx : q.x = p.x) (hy : -32768 ≤ q.y - p.y ∧ q.y - p.y ≤ 32768) (hz : q.z = p.z) : m.sight p q = true := by
  have c1 := free_cell hp fp
  have c2 := free_cell hq fq
  rw [hx, hz] at c2
  exact (sight_along_y hm hx.symm hz.symm).2 fun x h1 h2 => by
    rcases ends h1 h2 hy with rfl | rfl
    · exact c1
    · exact c2
theorem wall_z {m : Mp} (hm : Inside m.solid) {p q : V3} (hp : p.fits) (hq : q.fits) (fp : m.free p = true) (fq : m.free q = true) (hx : q.x = p.x) (hy : q.y = p.y) (hz : -32768 ≤ q.z - p.z ∧ q.z - p.z ≤ 32768) : m.sight p q = true := by
  have c1 := free_cell hp fp
  have c2 := free_cell hq fq
  rw [hx, hy] at c2
  exact (sight_along_z hm hx.symm hy.symm).2 fun x h1 h2 => by
    rcases ends h1 h2 hz with rfl | rfl
    · exact c1
    · exact c2
/-- A move along one axis goes through no wall. -/
theorem wall_slide {m : Mp} (hm : Inside m.solid) {p b : V3} (hp : p.fits) (fp : m.free p = true) (hb : (b.y = 0 ∧ b.z = 0) ∨ (b.x = 0 ∧ b.z = 0) ∨ (b.x = 0 ∧ b.y = 0)) :
    (m.slide p b).1.fits ∧ m.free (m.slide p b).1 = true ∧ m.sight p (m.slide p b).1 = true := by
  obtain ⟨x, y, z, k1, k2, k3, e, hx, hy, hz, hf⟩ := slide_spec m p b
  rw [e]
  have fq := hf fp
  have hq : V3.fits ⟨x, y, z⟩ := ⟨moved_fits hp.1 hx, moved_fits hp.2.1 hy, moved_fits hp.2.2 hz⟩
  refine ⟨hq, fq, ?_⟩
  rcases hb with ⟨h1, h2⟩ | ⟨h1, h2⟩ | ⟨h1, h2⟩
  · rw [h1] at hy; rw [h2] at hz
    exact wall_x hm hp hq fp fq (moved_near hp.1 hx) (moved_zero hp.2.1 hy) (moved_zero hp.2.2 hz)
  · rw [h1] at hx; rw [h2] at hz
    exact wall_y hm hp hq fp fq (moved_zero hp.1 hx) (moved_near hp.2.1 hy) (moved_zero hp.2.2 hz)
  · rw [h1] at hx; rw [h2] at hy
    exact wall_z hm hp hq fp fq (moved_zero hp.1 hx) (moved_zero hp.2.1 hy) (moved_near hp.2.2 hz)

end Go.Proofs.Ytnfhlfmcgeaagaa
