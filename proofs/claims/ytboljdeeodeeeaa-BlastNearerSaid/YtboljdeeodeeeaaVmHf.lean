/- blast's Hurt: plain laws. -/
import Derived.Test.YtboljdeeodeeeaaVmHt
import Derived.Test.YtboljdeeodeeeaaLen
namespace Go.Proofs.Ytboljdeeodeeeaa
set_option linter.unusedSimpArgs false
set_option linter.unusedVariables false
set_option maxRecDepth 100000
open Go.RowKit

theorem minus_near {a p : V3} (ha : a.within 6553600) (hp : p.within 6553600) : p.minus a = ⟨p.x - a.x, p.y - a.y, p.z - a.z⟩ ∧ (p.minus a).within 2147483648 := by
  unfold V3.within at ha hp
  have e : p.minus a = ⟨p.x - a.x, p.y - a.y, p.z - a.z⟩ := by
    unfold V3.minus
    congr 1 <;> (unfold cut64; omega)
  refine ⟨e, ?_⟩
  rw [e]
  unfold V3.within
  simp only
  omega
theorem hurt_form {m : Mp} {a : V3} {p : Pl} (ha : a.within 6553600) (hp : p.pos.within 6553600) :
    0 ≤ (p.pos.minus a).long ∧ m.hurt a p = bif (decide (p.dead > 0) || decide (196608 ≤ (p.pos.minus a).long)) || !m.sight a p.pos then 0 else (100 * (196608 - (p.pos.minus a).long)) / 196608 := by
  obtain ⟨h1, h2⟩ := minus_near ha hp
  obtain ⟨l1, l2, _⟩ := long_spec h2
  refine ⟨l1, ?_⟩
  unfold Mp.hurt nearN
  rw [IntWalk.i64_in (196608 - (p.pos.minus a).long) (by omega)]
  generalize (p.pos.minus a).long = L at l1 l2 ⊢
  rw [show decide (196608 - L ≤ 0) = decide (196608 ≤ L) by rw [decide_eq_decide]; omega]
  cases hc : (decide (p.dead > 0) || decide (196608 ≤ L)) || !m.sight a p.pos with
  | true => rfl
  | false =>
    have hL : ¬ 196608 ≤ L := by
      intro h
      rw [decide_eq_true h, Bool.or_true, Bool.true_or] at hc
      cases hc
    simp only [cond_false]
    rw [IntWalk.i64_in (100 * (196608 - L)) (by omega), Int.tdiv_eq_ediv_of_nonneg (by omega), IntWalk.i64_in _ (by omega)]
theorem hurt_bounds {m : Mp} {a : V3} {p : Pl} (ha : a.within 6553600) (hp : p.pos.within 6553600) : 0 ≤ m.hurt a p ∧ m.hurt a p ≤ 100 := by
  obtain ⟨h0, h1⟩ := hurt_form (m := m) ha hp
  rw [h1]
  cases hc : (decide (p.dead > 0) || decide (196608 ≤ (p.pos.minus a).long)) || !m.sight a p.pos with
  | true => simp only [cond_true]; omega
  | false =>
    have hL : ¬ 196608 ≤ (p.pos.minus a).long := by
      intro h
      rw [decide_eq_true h, Bool.or_true, Bool.true_or] at hc
      cases hc
    simp only [cond_false]
    omega
theorem hurt_none {m : Mp} {a : V3} {p : Pl} (ha : a.within 6553600) (hp : p.pos.within 6553600)
    (h : (p.dead > 0 ∨ 196608 ≤ max (max (max (max (max (p.pos.x - a.x) (a.x - p.pos.x)) (p.pos.y - a.y)) (a.y - p.pos.y)) (p.pos.z - a.z)) (a.z - p.pos.z)) ∨ m.sight a p.pos = false) : m.hurt a p = 0 := by
  rw [(hurt_form ha hp).2]
  obtain ⟨h1, h2⟩ := minus_near ha hp
  have hs := axes_sq (p.pos.minus a)
  have k1 := axis_le_long h2 hs.1
  have k2 := axis_le_long h2 hs.2.1
  have k3 := axis_le_long h2 hs.2.2
  rw [h1] at k1 k2 k3
  simp only at k1 k2 k3
  rw [← h1] at k1 k2 k3
  rcases h with (h | h) | h
  · rw [decide_eq_true h, Bool.true_or, Bool.true_or, cond_true]
  · rw [decide_eq_true (show 196608 ≤ (p.pos.minus a).long by omega), Bool.or_true, Bool.true_or, cond_true]
  · rw [h, Bool.not_false, Bool.or_true, cond_true]
theorem hurt_there {m : Mp} {a : V3} {p : Pl} (ha : a.within 6553600) (hp : p.pos = a) : (m.hurt a p == 100) = (decide (p.dead ≤ 0) && m.sight a a) := by
  have hf := hurt_form (m := m) (p := p) ha (by rw [hp]; exact ha)
  obtain ⟨h1, h2⟩ := minus_near ha ha
  rw [hp] at hf
  obtain ⟨l0, _, l2, _⟩ := long_spec h2
  have e0 : (a.minus a).sq = 0 := by
    rw [h1]
    unfold V3.sq
    simp only [Int.sub_self]
    rfl
  have el : (a.minus a).long = 0 := by
    rw [e0] at l2
    by_cases h : (a.minus a).long = 0
    · exact h
    · have := sq_pos h
      omega
  rw [hf.2, el]
  rw [show decide ((196608 : Int) ≤ 0) = false from rfl, Bool.or_false]
  rw [show decide (p.dead ≤ 0) = !decide (p.dead > 0) by rw [← decide_not, decide_eq_decide]; omega]
  cases decide (p.dead > 0) <;> cases m.sight a a <;> rfl
theorem long_mono {a b : V3} (ha : a.within 2147483648) (hb : b.within 2147483648) (h : a.sq ≤ b.sq) : a.long ≤ b.long := by
  obtain ⟨_, _, a3, _⟩ := long_spec ha
  obtain ⟨b1, _, _, b4⟩ := long_spec hb
  have := sq_lt (x := a.long) (y := b.long + 1) (by omega) (by omega)
  omega
theorem hurt_nearer {m : Mp} {a : V3} {p q : Pl} (ha : a.within 6553600) (hp : p.pos.within 6553600) (hq : q.pos.within 6553600) (hd : q.dead = p.dead) (h : (q.pos.minus a).sq ≤ (p.pos.minus a).sq) (s1 : m.sight a q.pos = true) : m.hurt a q ≥ m.hurt a p := by
  have hl := long_mono (minus_near ha hq).2 (minus_near ha hp).2 h
  obtain ⟨p0, p1⟩ := hurt_form (m := m) ha hp
  obtain ⟨q0, q1⟩ := hurt_form (m := m) ha hq
  have qb := hurt_bounds (m := m) ha hq
  cases hc : (decide (p.dead > 0) || decide (196608 ≤ (p.pos.minus a).long)) || !m.sight a p.pos with
  | true => rw [hc, cond_true] at p1; omega
  | false =>
    rw [hc, cond_false] at p1
    simp only [Bool.or_eq_false_iff, decide_eq_false_iff_not] at hc
    obtain ⟨⟨c1, c2⟩, c3⟩ := hc
    rw [hd, s1, decide_eq_false c1, decide_eq_false (show ¬ 196608 ≤ (q.pos.minus a).long by omega)] at q1
    rw [show ((false || false) || !true) = false from rfl, cond_false] at q1
    rw [p1, q1]
    omega
/-- A share of the way. -/
theorem share_axis {x y N : Int} (hx : -6553600 ≤ x ∧ x ≤ 6553600) (hy : -6553600 ≤ y ∧ y ≤ 6553600) (hN : 0 ≤ N ∧ N ≤ 255) :
    ∃ t, IntKind.i64.wrap (x + IntKind.i64.wrap ((IntKind.i64.wrap (IntKind.i64.wrap (y - x) * N)).tdiv 256)) = x + t ∧ t * t ≤ (y - x) * (y - x) ∧ min x y ≤ x + t ∧ x + t ≤ max x y := by
  rw [IntWalk.i64_in (y - x) (by omega)]
  have hd : -13107200 ≤ y - x ∧ y - x ≤ 13107200 := by omega
  rcases Int.le_total 0 (y - x) with h | h
  · have m1 : 0 ≤ (y - x) * N := Int.mul_nonneg h hN.1
    have m2 : (y - x) * N ≤ (y - x) * 255 := Int.mul_le_mul_of_nonneg_left hN.2 h
    refine ⟨(y - x) * N / 256, ?_, ?_, ?_, ?_⟩
    · generalize (y - x) * N = A at m1 m2 ⊢
      rw [IntWalk.i64_in A (by omega), Int.tdiv_eq_ediv_of_nonneg m1, IntWalk.i64_in (A / 256) (by omega), IntWalk.i64_in _ (by omega)]
    · exact sq_bound (by generalize (y - x) * N = A at m1 m2 ⊢; omega) (by generalize (y - x) * N = A at m1 m2 ⊢; omega)
    · generalize (y - x) * N = A at m1 m2 ⊢; omega
    · generalize (y - x) * N = A at m1 m2 ⊢; omega
  · have m1 : 0 ≤ (x - y) * N := Int.mul_nonneg (by omega) hN.1
    have m2 : (x - y) * N ≤ (x - y) * 255 := Int.mul_le_mul_of_nonneg_left hN.2 (by omega)
    have e : (y - x) * N = -((x - y) * N) := by grind
    rw [e]
    have e2 : (y - x) * (y - x) = (x - y) * (x - y) := by grind
    refine ⟨-((x - y) * N / 256), ?_, ?_, ?_, ?_⟩
    · generalize (x - y) * N = A at m1 m2 ⊢
      rw [IntWalk.i64_in (-A) (by omega), Int.neg_tdiv, Int.tdiv_eq_ediv_of_nonneg m1, IntWalk.i64_in (-(A / 256)) (by omega), IntWalk.i64_in _ (by omega)]
    · rw [e2]
      exact sq_bound (by generalize (x - y) * N = A at m1 m2 ⊢; omega) (by generalize (x - y) * N = A at m1 m2 ⊢; omega)
    · generalize (x - y) * N = A at m1 m2 ⊢; omega
    · generalize (x - y) * N = A at m1 m2 ⊢; omega

end Go.Proofs.Ytboljdeeodeeeaa
