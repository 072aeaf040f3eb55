/- Walking: plain laws. -/
import Derived.Test.YtihpfaeabocdbaaVmSw
import Derived.Test.YtihpfaeabocdbaaVmRw
namespace Go.Proofs.Ytihpfaeabocdbaa
set_option linter.unusedSimpArgs false
set_option linter.unusedVariables false
set_option maxRecDepth 100000
open Go.RowKit

theorem tickP_ext {S : V3 → V3 → V3 × Bool × Bool × Bool} {p : Pl} {c e : Cm} (h1 : firmB p c = firmB p e) (h2 : jumpB p c = jumpB p e) (h3 : c.dx = e.dx) (h4 : c.dy = e.dy) : tickP S p c = tickP S p e := by
  unfold tickP triedV
  rw [h1, h2, h3, h4]
theorem u8_round (x : BitVec IntKind.u8.bits) : BitVec.ofInt IntKind.u8.bits (IntKind.u8.wrap (x.toNat : Int)) = x := by
  have h : x.toNat < 256 := x.isLt
  have e : IntKind.u8.wrap (x.toNat : Int) = (x.toNat : Int) := by
    unfold IntKind.wrap
    simp [IntKind.signed, IntKind.bits]
    omega
  rw [e]
  apply BitVec.eq_of_toNat_eq
  show (BitVec.ofInt 8 (x.toNat : Int)).toNat = x.toNat
  rw [BitVec.toNat_ofInt]
  omega
theorem bits_or2 : ∀ x : BitVec 8, (x ||| BitVec.ofInt 8 1) &&& BitVec.ofInt 8 2 = x &&& BitVec.ofInt 8 2 := by decide
theorem bits_not2 : ∀ x : BitVec 8, (x &&& ~~~BitVec.ofInt 8 1) &&& BitVec.ofInt 8 2 = x &&& BitVec.ofInt 8 2 := by decide
theorem bits_or1 : ∀ x : BitVec 8, (x ||| BitVec.ofInt 8 1) &&& BitVec.ofInt 8 1 = 1#8 := by decide
theorem bits_not1 : ∀ x : BitVec 8, (x &&& ~~~BitVec.ofInt 8 1) &&& BitVec.ofInt 8 1 = 0#8 := by decide

theorem stepB_cases (m : Mp) (p q : V3) (d : Int) : (m.stepB p q d = (q, false) ∧ m.free q = true) ∨ (m.stepB p q d = (p, d != 0) ∧ m.free q = false) := by
  unfold Mp.stepB
  cases m.free q
  · exact .inr ⟨rfl, rfl⟩
  · exact .inl ⟨rfl, rfl⟩
def moved (a b d : Int) (k : Bool) : Prop := (b = cut64 (a + clampN 32768 d) ∧ k = false) ∨ (b = a ∧ k = (clampN 32768 d != 0))
theorem slide_spec (m : Mp) (p b : V3) : ∃ (x y z : Int) (k1 k2 k3 : Bool), m.slide p b = (⟨x, y, z⟩, k1, k2, k3) ∧ moved p.x x b.x k1 ∧ moved p.y y b.y k2 ∧ moved p.z z b.z k3 ∧ (m.free p = true → m.free ⟨x, y, z⟩ = true) := by
  unfold Mp.slide
  dsimp only
  rcases stepB_cases m p ⟨cut64 (p.x + clampN 32768 b.x), p.y, p.z⟩ (clampN 32768 b.x) with ⟨e1, f1⟩ | ⟨e1, f1⟩ <;> simp only [e1]
  · rcases stepB_cases m ⟨cut64 (p.x + clampN 32768 b.x), p.y, p.z⟩ ⟨cut64 (p.x + clampN 32768 b.x), cut64 (p.y + clampN 32768 b.y), p.z⟩ (clampN 32768 b.y) with ⟨e2, f2⟩ | ⟨e2, f2⟩ <;> simp only [e2]
    · rcases stepB_cases m ⟨cut64 (p.x + clampN 32768 b.x), cut64 (p.y + clampN 32768 b.y), p.z⟩ ⟨cut64 (p.x + clampN 32768 b.x), cut64 (p.y + clampN 32768 b.y), cut64 (p.z + clampN 32768 b.z)⟩ (clampN 32768 b.z) with ⟨e3, f3⟩ | ⟨e3, f3⟩ <;> simp only [e3]
      · exact ⟨_, _, _, _, _, _, rfl, .inl ⟨rfl, rfl⟩, .inl ⟨rfl, rfl⟩, .inl ⟨rfl, rfl⟩, fun _ => f3⟩
      · exact ⟨_, _, _, _, _, _, rfl, .inl ⟨rfl, rfl⟩, .inl ⟨rfl, rfl⟩, .inr ⟨rfl, rfl⟩, fun _ => f2⟩
    · rcases stepB_cases m ⟨cut64 (p.x + clampN 32768 b.x), p.y, p.z⟩ ⟨cut64 (p.x + clampN 32768 b.x), p.y, cut64 (p.z + clampN 32768 b.z)⟩ (clampN 32768 b.z) with ⟨e3, f3⟩ | ⟨e3, f3⟩ <;> simp only [e3]
      · exact ⟨_, _, _, _, _, _, rfl, .inl ⟨rfl, rfl⟩, .inr ⟨rfl, rfl⟩, .inl ⟨rfl, rfl⟩, fun _ => f3⟩
      · exact ⟨_, _, _, _, _, _, rfl, .inl ⟨rfl, rfl⟩, .inr ⟨rfl, rfl⟩, .inr ⟨rfl, rfl⟩, fun _ => f1⟩
  · rcases stepB_cases m p ⟨p.x, cut64 (p.y + clampN 32768 b.y), p.z⟩ (clampN 32768 b.y) with ⟨e2, f2⟩ | ⟨e2, f2⟩ <;> simp only [e2]
    · rcases stepB_cases m ⟨p.x, cut64 (p.y + clampN 32768 b.y), p.z⟩ ⟨p.x, cut64 (p.y + clampN 32768 b.y), cut64 (p.z + clampN 32768 b.z)⟩ (clampN 32768 b.z) with ⟨e3, f3⟩ | ⟨e3, f3⟩ <;> simp only [e3]
      · exact ⟨_, _, _, _, _, _, rfl, .inr ⟨rfl, rfl⟩, .inl ⟨rfl, rfl⟩, .inl ⟨rfl, rfl⟩, fun _ => f3⟩
      · exact ⟨_, _, _, _, _, _, rfl, .inr ⟨rfl, rfl⟩, .inl ⟨rfl, rfl⟩, .inr ⟨rfl, rfl⟩, fun _ => f2⟩
    · rcases stepB_cases m p ⟨p.x, p.y, cut64 (p.z + clampN 32768 b.z)⟩ (clampN 32768 b.z) with ⟨e3, f3⟩ | ⟨e3, f3⟩ <;> simp only [e3]
      · exact ⟨_, _, _, _, _, _, rfl, .inr ⟨rfl, rfl⟩, .inr ⟨rfl, rfl⟩, .inl ⟨rfl, rfl⟩, fun _ => f3⟩
      · exact ⟨_, _, _, _, _, _, rfl, .inr ⟨rfl, rfl⟩, .inr ⟨rfl, rfl⟩, .inr ⟨rfl, rfl⟩, fun h => h⟩
theorem stepB_third (m : Mp) (r : V3) (z d : Int) : (m.stepB r ⟨r.x, r.y, z⟩ d).1.x = r.x ∧ (m.stepB r ⟨r.x, r.y, z⟩ d).1.y = r.y := by
  rcases stepB_cases m r ⟨r.x, r.y, z⟩ d with ⟨e, _⟩ | ⟨e, _⟩ <;> rw [e] <;> exact ⟨rfl, rfl⟩
/-- Where one comes to along X and Y does not hang on the speed along Z. -/
theorem slide_xy (m : Mp) (p : V3) (a b z z' : Int) : (m.slide p ⟨a, b, z⟩).1.x = (m.slide p ⟨a, b, z'⟩).1.x ∧ (m.slide p ⟨a, b, z⟩).1.y = (m.slide p ⟨a, b, z'⟩).1.y := by
  unfold Mp.slide
  dsimp only
  generalize (m.stepB (m.stepB p ⟨cut64 (p.x + clampN 32768 a), p.y, p.z⟩ (clampN 32768 a)).1 ⟨(m.stepB p ⟨cut64 (p.x + clampN 32768 a), p.y, p.z⟩ (clampN 32768 a)).1.x, cut64 ((m.stepB p ⟨cut64 (p.x + clampN 32768 a), p.y, p.z⟩ (clampN 32768 a)).1.y + clampN 32768 b), (m.stepB p ⟨cut64 (p.x + clampN 32768 a), p.y, p.z⟩ (clampN 32768 a)).1.z⟩ (clampN 32768 b)).1 = r
  rw [(stepB_third m r _ _).1, (stepB_third m r _ _).1, (stepB_third m r _ _).2, (stepB_third m r _ _).2]
  exact ⟨rfl, rfl⟩
theorem cutM_in (n : Int) : -32768 ≤ cutM n ∧ cutM n ≤ 32768 := by unfold cutM; omega
theorem clampN_in {n : Int} (h : -32768 ≤ n ∧ n ≤ 32768) : clampN 32768 n = n := by unfold clampN; omega
/-- A tick of one that lives: where it comes to, its speed and whether it stands. -/
theorem tickP_spec (m : Mp) (p : Pl) (c : Cm) (hd : ¬ p.dead > 0) : ∃ (v : V3) (x y z : Int) (k1 k2 k3 : Bool), v = triedV (firmB p c) (jumpB p c) p c ∧ tickP m.slide p c = ⟨p.id, ⟨x, y, z⟩, ⟨bif k1 then 0 else v.x, bif k2 then 0 else v.y, bif k3 then 0 else v.z⟩, k3 && decide (v.z < 0), p.health, p.armour, p.score, p.a0, p.a1, p.wait, p.dead⟩ ∧ moved p.pos.x x v.x k1 ∧ moved p.pos.y y v.y k2 ∧ moved p.pos.z z v.z k3 ∧ (m.free p.pos = true → m.free ⟨x, y, z⟩ = true) := by
  obtain ⟨x, y, z, k1, k2, k3, e, h⟩ := slide_spec m p.pos (triedV (firmB p c) (jumpB p c) p c)
  refine ⟨_, x, y, z, k1, k2, k3, rfl, ?_, h⟩
  unfold tickP
  rw [decide_eq_false hd, cond_false, e]
  rfl
theorem moved_near {a b d : Int} {k : Bool} (ha : In64 a) (h : moved a b d k) : -32768 ≤ b - a ∧ b - a ≤ 32768 := by
  unfold In64 at ha
  rcases h with ⟨h, _⟩ | ⟨h, _⟩
  · unfold clampN cut64 at h; omega
  · omega
theorem moved_stay {a b d : Int} (h : moved a b d true) : b = a := by
  rcases h with ⟨_, h⟩ | ⟨h, _⟩
  · cases h
  · exact h
theorem bif_in {k : Bool} {n : Int} (h : -32768 ≤ n ∧ n ≤ 32768) : -32768 ≤ (bif k then 0 else n) ∧ (bif k then 0 else n) ≤ 32768 := by
  cases k
  · exact h
  · simp only [cond_true]; omega
/-- Who is right stays right. -/
theorem tickP_right {m : Mp} {p : Pl} {c : Cm} (h : wRight m.free p = true) : wRight m.free (tickP m.slide p c) = true := by
  by_cases hd : p.dead > 0
  · unfold tickP; rw [decide_eq_true hd]; exact h
  · obtain ⟨v, x, y, z, k1, k2, k3, hv, e, _, _, _, hf⟩ := tickP_spec m p c hd
    rw [wRight_iff] at h ⊢
    rw [e]
    subst hv
    exact ⟨bif_in (cutM_in _), bif_in (cutM_in _), bif_in (cutM_in _), hf h.2.2.2⟩
theorem walkN_right {m : Mp} {c : Cm} : ∀ (k : Nat) {p : Pl}, wRight m.free p = true → wRight m.free (walkN m.slide c k p) = true
  | 0, _, h => h
  | k + 1, _, h => walkN_right k (tickP_right h)
theorem walkP_right {m : Mp} {c : Cm} {p : Pl} (h : wRight m.free p = true) : wRight m.free (walkP m.slide p c) = true := by
  unfold walkP
  cases (decide (c.ticks < 1) || decide (c.ticks > 8))
  · exact walkN_right _ h
  · exact h
/-- What a walk leaves as it is. -/
def sameBut (p q : Pl) : Prop := q = { p with pos := q.pos, vel := q.vel, ground := q.ground }
theorem tickP_same (m : Mp) (p : Pl) (c : Cm) : sameBut p (tickP m.slide p c) := by
  unfold sameBut tickP
  cases decide (p.dead > 0) <;> rfl
theorem sameBut_trans {p q r : Pl} (h1 : sameBut p q) (h2 : sameBut q r) : sameBut p r := by
  unfold sameBut at *
  rw [h2, h1]
theorem walkN_same {m : Mp} {c : Cm} : ∀ (k : Nat) (p : Pl), sameBut p (walkN m.slide c k p)
  | 0, _ => rfl
  | k + 1, p => sameBut_trans (tickP_same m p c) (walkN_same k _)
theorem walkN_dead {m : Mp} {c : Cm} : ∀ (k : Nat) {p : Pl}, p.dead > 0 → walkN m.slide c k p = p
  | 0, _, _ => rfl
  | k + 1, p, h => by
    unfold walkN
    have e : tickP m.slide p c = p := by unfold tickP; rw [decide_eq_true h]; rfl
    rw [e]
    exact walkN_dead k h
theorem walkP_same (m : Mp) (c : Cm) (p : Pl) : sameBut p (walkP m.slide p c) := by
  unfold walkP
  cases (decide (c.ticks < 1) || decide (c.ticks > 8))
  · exact walkN_same _ _
  · rfl
theorem walkP_dead {m : Mp} {c : Cm} {p : Pl} (h : p.dead > 0) : walkP m.slide p c = p := by
  unfold walkP
  cases (decide (c.ticks < 1) || decide (c.ticks > 8))
  · exact walkN_dead _ h
  · rfl
theorem walkN_ext {S : V3 → V3 → V3 × Bool × Bool × Bool} {c e : Cm} (h0 : c.buttons = e.buttons) (h3 : c.dx = e.dx) (h4 : c.dy = e.dy) : ∀ (k : Nat) (p : Pl), walkN S c k p = walkN S e k p
  | 0, _ => rfl
  | k + 1, p => by
    unfold walkN
    have h : tickP S p c = tickP S p e := tickP_ext (by unfold firmB; rw [h0]) (by unfold jumpB; rw [h0]) h3 h4
    rw [h]
    exact walkN_ext h0 h3 h4 k _
theorem walkN_add {S : V3 → V3 → V3 × Bool × Bool × Bool} {c : Cm} (b : Nat) : ∀ (a : Nat) (p : Pl), walkN S c (a + b) p = walkN S c b (walkN S c a p)
  | 0, p => by rw [Nat.zero_add]; rfl
  | a + 1, p => by rw [Nat.add_right_comm]; exact walkN_add b a _

end Go.Proofs.Ytihpfaeabocdbaa
