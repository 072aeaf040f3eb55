/- The reference's Sight, plainly: it is ours. -/
import Derived.Test.YtikifgbbiffclaaVmRx
namespace Go.Proofs.Ytikifgbbiffclaa
set_option linter.unusedSimpArgs false
set_option linter.unusedVariables false
open Go.RowKit

theorem least {P : Nat → Prop} : ∀ (n : Nat), P n → ∃ m, P m ∧ m ≤ n ∧ ∀ j, j < m → ¬ P j
  | 0, h => ⟨0, h, Nat.le_refl _, fun j hj => by omega⟩
  | n + 1, h => by
    rcases Classical.em (∃ k, k ≤ n ∧ P k) with ⟨k, hk, hP⟩ | hn
    · obtain ⟨m, h1, h2, h3⟩ := least_le k hP
      exact ⟨m, h1, by omega, h3⟩
    · exact ⟨n + 1, h, Nat.le_refl _, fun j hj hP => hn ⟨j, by omega, hP⟩⟩
where
  least_le {P : Nat → Prop} (k : Nat) (h : P k) : ∃ m, P m ∧ m ≤ k ∧ ∀ j, j < m → ¬ P j := by
    induction k using Nat.strongRecOn with
    | ind k ih =>
      rcases Classical.em (∃ j, j < k ∧ P j) with ⟨j, hj, hP⟩ | hn
      · obtain ⟨m, h1, h2, h3⟩ := ih j hj hP
        exact ⟨m, h1, by omega, h3⟩
      · exact ⟨k, h, Nat.le_refl _, fun j hj hP => hn ⟨j, hj, hP⟩⟩

section
variable {l : List Pt}
/-- The part with this number. -/
def prt (l : List Pt) (i : Nat) : Pt := l.getD (0 + i) Knd.pt.dflt
theorem prt_eq {i : Nat} (h : i < l.length) : prt l i = l[i] := by
  unfold prt
  show l.getD (0 + i) (⟨0, 0⟩ : Pt) = _
  rw [Nat.zero_add, List.getD_eq_getElem?_getD, List.getElem?_eq_getElem h]
  rfl
theorem prt_mem {i : Nat} (h : i < l.length) : prt l i ∈ l := by rw [prt_eq h]; exact List.getElem_mem _
theorem prt_lt (hs : l.Pairwise Lt) {i j : Nat} (hij : i < j) (hj : j < l.length) : Lt (prt l i) (prt l j) := by
  rw [prt_eq (by omega), prt_eq hj]
  exact List.pairwise_iff_getElem.1 hs i j (by omega) hj hij
theorem lt_irrefl' {t : Pt} : ¬ Lt t t := fun h => by unfold Lt at h; omega
/-- A point of a line is a part, or lies between two that follow one another. -/
theorem bracket (h : Gd l) {p q : Int} (hp : 0 ≤ p) (hpq : p ≤ q) (hq : 0 < q) :
    ∃ i, i < l.length ∧ ((prt l i).p * q = p * (prt l i).q ∨ (0 < i ∧ Lt (prt l (i - 1)) ⟨p, q⟩ ∧ Lt ⟨p, q⟩ (prt l i))) := by
  obtain ⟨t, ht, he⟩ := h.one
  obtain ⟨n, hn, rfl⟩ := List.getElem_of_mem ht
  have htq := q_pos (h.ok _ ht)
  obtain ⟨m, h1, h2, h3⟩ := least (P := fun i => i < l.length ∧ p * (prt l i).q ≤ (prt l i).p * q) n ⟨hn, by
    rw [prt_eq hn, he, Int.mul_comm l[n].q q]
    exact Int.mul_le_mul_of_nonneg_right hpq (by omega)⟩
  refine ⟨m, h1.1, ?_⟩
  by_cases heq : (prt l m).p * q = p * (prt l m).q
  · exact .inl heq
  · right
    have hlt : Lt ⟨p, q⟩ (prt l m) := by
      show p * (prt l m).q < (prt l m).p * q
      have := h1.2
      omega
    have hm : 0 < m := by
      rcases Nat.eq_zero_or_pos m with h0 | h0
      · subst h0
        have e0 : prt l 0 = ⟨0, 1⟩ := by
          rw [prt_eq h1.1]
          have := h.hd
          unfold Hd at this
          rw [List.getElem?_eq_getElem h1.1] at this
          exact Option.some.inj this
        have := h1.2
        rw [e0] at this heq
        simp only at this heq
        omega
      · exact h0
    refine ⟨hm, ?_, hlt⟩
    have := h3 (m - 1) (by omega)
    show (prt l (m - 1)).p * q < p * (prt l (m - 1)).q
    rcases Int.lt_or_le ((prt l (m - 1)).p * q) (p * (prt l (m - 1)).q) with hh | hh
    · exact hh
    · exact absurd ⟨by omega, hh⟩ this
/-- Nothing lies between two that follow one another. -/
theorem no_between (h : Gd l) {i : Nat} (hi : i < l.length) (h0 : 0 < i) {y : Pt} (hy : y ∈ l) (h1 : Lt (prt l (i - 1)) y) (h2 : Lt y (prt l i)) : False := by
  obtain ⟨j, hj, rfl⟩ := List.getElem_of_mem hy
  rw [← prt_eq hj] at h1 h2 hy
  have p1 := q_pos (h.ok _ (prt_mem (l := l) (i := i - 1) (by omega)))
  have p2 := q_pos (h.ok _ (prt_mem hi))
  have p3 := q_pos (h.ok _ hy)
  rcases Nat.lt_trichotomy j (i - 1) with hh | hh | hh
  · exact lt_irrefl' (lt_trans' p1 p3 p1 h1 (prt_lt h.srt hh (by omega)))
  · subst hh; exact lt_irrefl' h1
  · rcases Nat.lt_or_ge j i with hk | hk
    · omega
    · rcases Nat.lt_or_eq_of_le hk with hk | hk
      · exact lt_irrefl' (lt_trans' p3 p2 p3 h2 (prt_lt h.srt hk hj))
      · subst hk; exact lt_irrefl' h2
theorem cell_le {a b : Int} {s u : Pt} (hs : 0 < s.q) (hu : 0 < u.q) (hab : a ≤ b) (h : Lt s u) : cellAt a b s.p s.q ≤ cellAt a b u.p u.q := by
  unfold cellAt
  have hu6 : 0 < u.q * 65536 := by omega
  have hs6 : 0 < s.q * 65536 := by omega
  rw [Int.le_ediv_iff_mul_le hu6]
  have e := Int.ediv_mul_le (a * s.q + (b - a) * s.p) (show s.q * 65536 ≠ 0 by omega)
  generalize (a * s.q + (b - a) * s.p) / (s.q * 65536) = c at e ⊢
  have k1 := Int.mul_le_mul_of_nonneg_right e (Int.le_of_lt hu)
  have k2 := Int.mul_le_mul_of_nonneg_left (Int.le_of_lt h) (show 0 ≤ b - a by omega)
  have e1 : c * (s.q * 65536) * u.q = (c * (u.q * 65536)) * s.q := by grind
  have e2 : (a * s.q + (b - a) * s.p) * u.q = a * u.q * s.q + (b - a) * (s.p * u.q) := by grind
  have e3 : (a * u.q + (b - a) * u.p) * s.q = a * u.q * s.q + (b - a) * (u.p * s.q) := by grind
  rw [e1, e2] at k1
  exact Int.le_of_mul_le_mul_right (by rw [e3]; omega) hs
theorem cell_ge {a b : Int} {s u : Pt} (hs : 0 < s.q) (hu : 0 < u.q) (hab : b ≤ a) (h : Lt u s) : cellAt a b s.p s.q ≤ cellAt a b u.p u.q := by
  unfold cellAt
  have hu6 : 0 < u.q * 65536 := by omega
  rw [Int.le_ediv_iff_mul_le hu6]
  have e := Int.ediv_mul_le (a * s.q + (b - a) * s.p) (show s.q * 65536 ≠ 0 by omega)
  generalize (a * s.q + (b - a) * s.p) / (s.q * 65536) = c at e ⊢
  have k1 := Int.mul_le_mul_of_nonneg_right e (Int.le_of_lt hu)
  have k2 := Int.mul_le_mul_of_nonneg_left (Int.le_of_lt h) (show 0 ≤ a - b by omega)
  have e1 : c * (s.q * 65536) * u.q = (c * (u.q * 65536)) * s.q := by grind
  have e2 : (a * s.q + (b - a) * s.p) * u.q = a * u.q * s.q - (a - b) * (s.p * u.q) := by grind
  have e3 : (a * u.q + (b - a) * u.p) * s.q = a * u.q * s.q - (a - b) * (u.p * s.q) := by grind
  rw [e1, e2] at k1
  exact Int.le_of_mul_le_mul_right (by rw [e3]; omega) hs
/-- Between two parts that follow one another an axis stays in its cell. -/
theorem bet_cell (h : Gd l) {i : Nat} (hi : i < l.length) (h0 : 0 < i) {a b : Int} (ha : 0 ≤ a ∧ a < 2097152) (hb : 0 ≤ b ∧ b < 2097152) (hc : a ≠ b → ∀ j, 0 ≤ j → j < 33 → crIn a b j = true → Has l (crP a b j))
    {u : Pt} (hup : 0 ≤ u.p) (hupq : u.p ≤ u.q) (hu : 0 < u.q) (h1 : Lt (prt l (i - 1)) u) (h2 : Lt u (prt l i)) : betC a b (prt l (i - 1)) (prt l i) = cellAt a b u.p u.q := by
  have ps := inPt_iff.1 (h.ok _ (prt_mem (l := l) (i := i - 1) (by omega)))
  have pt := inPt_iff.1 (h.ok _ (prt_mem hi))
  generalize hS : prt l (i - 1) = s at h1 ps ⊢
  generalize hT : prt l i = t at h2 pt ⊢
  have hin : ∀ {y : Pt}, y ∈ l → Lt s y → Lt y t → False := fun hy k1 k2 => no_between h hi h0 hy (by rw [hS]; exact k1) (by rw [hT]; exact k2)
  have hrange : 0 ≤ cellAt a b u.p u.q ∧ cellAt a b u.p u.q ≤ 31 := by
    have g1 := cellAt_ge (m := 0) hup hupq hu ha.1 hb.1
    have g2 : cellAt a b u.p u.q < 32 := by
      unfold cellAt
      rw [Int.ediv_lt_iff_lt_mul (by omega)]
      have e : a * u.q + (b - a) * u.p = a * (u.q - u.p) + b * u.p := by grind
      rw [e]
      have k1 := Int.mul_le_mul_of_nonneg_right (show a ≤ 2097151 by omega) (show 0 ≤ u.q - u.p by omega)
      have k2 := Int.mul_le_mul_of_nonneg_right (show b ≤ 2097151 by omega) hup
      omega
    omega
  unfold betC
  by_cases hlt : b < a
  · rw [decide_eq_true hlt]
    simp only [cond_true]
    refine Int.le_antisymm (cell_ge pt.2.1 hu (by omega) h2) ?_
    rcases Int.lt_or_le (cellAt a b t.p t.q) (cellAt a b u.p u.q) with hh | hh
    · exfalso
      generalize hk : cellAt a b u.p u.q = k at hh hrange
      have x1 : k * 65536 * u.q ≤ a * u.q - (a - b) * u.p := by
        have := Int.ediv_mul_le (a * u.q + (b - a) * u.p) (show u.q * 65536 ≠ 0 by omega)
        rw [show (a * u.q + (b - a) * u.p) / (u.q * 65536) = k from hk] at this
        have e1 : k * (u.q * 65536) = k * 65536 * u.q := by grind
        have e2 : a * u.q + (b - a) * u.p = a * u.q - (a - b) * u.p := by grind
        rw [e1, e2] at this
        exact this
      have x2 : a * t.q - (a - b) * t.p < k * 65536 * t.q := by
        unfold cellAt at hh
        rw [Int.ediv_lt_iff_lt_mul (by omega)] at hh
        have e1 : k * (t.q * 65536) = k * 65536 * t.q := by grind
        have e2 : a * t.q + (b - a) * t.p = a * t.q - (a - b) * t.p := by grind
        rw [e1, e2] at hh
        exact hh
      have y1 : (a - b) * u.p ≤ (a - k * 65536) * u.q := by rw [Int.sub_mul a (k * 65536) u.q]; omega
      have y2 : (a - k * 65536) * t.q < (a - b) * t.p := by rw [Int.sub_mul a (k * 65536) t.q]; omega
      have z1 : 0 ≤ a - k * 65536 := by
        rcases Int.lt_or_le (a - k * 65536) 0 with hn | hn
        · have k1 := Int.mul_lt_mul_of_pos_right hn hu
          rw [Int.zero_mul] at k1
          have k2 := Int.mul_nonneg (show 0 ≤ a - b by omega) hup
          omega
        · exact hn
      have z2 : a - k * 65536 ≤ a - b := by
        rcases Int.lt_or_le (a - b) (a - k * 65536) with hn | hn
        · have k1 := Int.mul_lt_mul_of_pos_right hn pt.2.1
          have k2 := Int.mul_le_mul_of_nonneg_left pt.1.2 (show 0 ≤ a - b by omega)
          omega
        · exact hn
      have hcr : crP a b k = ⟨a - k * 65536, a - b⟩ := by unfold crP; rw [decide_eq_true hlt]; rfl
      have hi2 : crIn a b k = true := by unfold crIn; rw [hcr, decide_eq_true z1, decide_eq_true z2]; rfl
      obtain ⟨y, hy, he⟩ := hc (by omega) k (by omega) (by omega) hi2
      rw [hcr] at he
      simp only at he
      have hyq := q_pos (h.ok y hy)
      have w1 : u.p * y.q ≤ y.p * u.q := by
        have k1 := Int.mul_le_mul_of_nonneg_right y1 (Int.le_of_lt hyq)
        have e1 : (a - b) * u.p * y.q = (u.p * y.q) * (a - b) := by grind
        have e2 : (a - k * 65536) * u.q * y.q = (y.p * u.q) * (a - b) := by
          rw [show (a - k * 65536) * u.q * y.q = ((a - k * 65536) * y.q) * u.q by grind, ← he]; grind
        rw [e1, e2] at k1
        exact Int.le_of_mul_le_mul_right k1 (by omega)
      have w2 : Lt y t := by
        have k1 := Int.mul_lt_mul_of_pos_right y2 hyq
        have e1 : (a - k * 65536) * t.q * y.q = (y.p * t.q) * (a - b) := by
          rw [show (a - k * 65536) * t.q * y.q = ((a - k * 65536) * y.q) * t.q by grind, ← he]; grind
        have e2 : (a - b) * t.p * y.q = (t.p * y.q) * (a - b) := by grind
        rw [e1, e2] at k1
        exact Int.lt_of_mul_lt_mul_right k1 (by omega)
      exact hin hy (lt_le_trans' ps.2.1 hu hyq h1 w1) w2
    · exact hh
  · rw [decide_eq_false hlt]
    simp only [cond_false]
    by_cases heq : a = b
    · subst heq
      rw [cellAt_self ps.2.1, cellAt_self hu]
    · refine Int.le_antisymm (cell_le ps.2.1 hu (by omega) h1) ?_
      rcases Int.lt_or_le (cellAt a b s.p s.q) (cellAt a b u.p u.q) with hh | hh
      · exfalso
        generalize hk : cellAt a b u.p u.q = k at hh hrange
        have x1 : k * 65536 * u.q ≤ a * u.q + (b - a) * u.p := by
          have := Int.ediv_mul_le (a * u.q + (b - a) * u.p) (show u.q * 65536 ≠ 0 by omega)
          rw [show (a * u.q + (b - a) * u.p) / (u.q * 65536) = k from hk] at this
          have e1 : k * (u.q * 65536) = k * 65536 * u.q := by grind
          rw [e1] at this
          exact this
        have x2 : a * s.q + (b - a) * s.p < k * 65536 * s.q := by
          unfold cellAt at hh
          rw [Int.ediv_lt_iff_lt_mul (by omega)] at hh
          have e1 : k * (s.q * 65536) = k * 65536 * s.q := by grind
          rw [e1] at hh
          exact hh
        have y1 : (k * 65536 - a) * u.q ≤ (b - a) * u.p := by rw [Int.sub_mul (k * 65536) a u.q]; omega
        have y2 : (b - a) * s.p < (k * 65536 - a) * s.q := by rw [Int.sub_mul (k * 65536) a s.q]; omega
        have z1 : 0 ≤ k * 65536 - a := by
          rcases Int.lt_or_le (k * 65536 - a) 0 with hn | hn
          · have k1 := Int.mul_lt_mul_of_pos_right hn ps.2.1
            rw [Int.zero_mul] at k1
            have k2 := Int.mul_nonneg (show 0 ≤ b - a by omega) ps.1.1
            omega
          · exact hn
        have z2 : k * 65536 - a ≤ b - a := by
          rcases Int.lt_or_le (b - a) (k * 65536 - a) with hn | hn
          · have k1 := Int.mul_lt_mul_of_pos_right hn hu
            have k2 := Int.mul_le_mul_of_nonneg_left hupq (show 0 ≤ b - a by omega)
            omega
          · exact hn
        have hcr : crP a b k = ⟨k * 65536 - a, b - a⟩ := by unfold crP; rw [decide_eq_false hlt]; rfl
        have hi2 : crIn a b k = true := by unfold crIn; rw [hcr, decide_eq_true z1, decide_eq_true z2]; rfl
        obtain ⟨y, hy, he⟩ := hc heq k (by omega) (by omega) hi2
        rw [hcr] at he
        simp only at he
        have hyq := q_pos (h.ok y hy)
        have w1 : y.p * u.q ≤ u.p * y.q := by
          have k1 := Int.mul_le_mul_of_nonneg_right y1 (Int.le_of_lt hyq)
          have e1 : (b - a) * u.p * y.q = (u.p * y.q) * (b - a) := by grind
          have e2 : (k * 65536 - a) * u.q * y.q = (y.p * u.q) * (b - a) := by
            rw [show (k * 65536 - a) * u.q * y.q = ((k * 65536 - a) * y.q) * u.q by grind, ← he]; grind
          rw [e1, e2] at k1
          exact Int.le_of_mul_le_mul_right k1 (by omega)
        have w2 : Lt s y := by
          have k1 := Int.mul_lt_mul_of_pos_right y2 hyq
          have e1 : (k * 65536 - a) * s.q * y.q = (y.p * s.q) * (b - a) := by
            rw [show (k * 65536 - a) * s.q * y.q = ((k * 65536 - a) * y.q) * s.q by grind, ← he]; grind
          have e2 : (b - a) * s.p * y.q = (s.p * y.q) * (b - a) := by grind
          rw [e1, e2] at k1
          exact Int.lt_of_mul_lt_mul_right k1 (by omega)
        exact hin hy w2 (le_lt_trans' hyq hu pt.2.1 w1 h2)
      · exact hh
theorem cell_same {a b p q : Int} {t : Pt} (ht : 0 < t.q) (hq : 0 < q) (h : t.p * q = p * t.q) : cellAt a b t.p t.q = cellAt a b p q := by
  rw [← cellAt_scale (a := a) (b := b) (p := t.p) (q := t.q) hq, ← cellAt_scale (a := a) (b := b) (p := p) (q := q) ht, h, Int.mul_comm t.q q]
end

/-- The reference looks at all there is to look at. -/
theorem parts_all {F : Int → Int → Int → Bool} {a b : V3} (ha : Near a) (hb : Near b) : anyB (fun i => hitT F a b (partsT a b) i.toNat) (partsT a b).length 0 = false ↔ ∀ p q, 0 ≤ p → p ≤ q → 0 < q → freeAt F a b p q := by
  obtain ⟨hg, _, c1, c2, c3⟩ := parts_gd ha hb
  rw [← Bool.not_eq_true, anyB_iff]
  have key : ∀ {i : Nat}, i < (partsT a b).length → 0 < i → ∀ {u : Pt}, 0 ≤ u.p → u.p ≤ u.q → 0 < u.q → Lt (prt (partsT a b) (i - 1)) u → Lt u (prt (partsT a b) i) →
      betC a.x b.x (prt (partsT a b) (i - 1)) (prt (partsT a b) i) = cellAt a.x b.x u.p u.q ∧ betC a.y b.y (prt (partsT a b) (i - 1)) (prt (partsT a b) i) = cellAt a.y b.y u.p u.q ∧ betC a.z b.z (prt (partsT a b) (i - 1)) (prt (partsT a b) i) = cellAt a.z b.z u.p u.q :=
    fun hi h0 _ k1 k2 k3 k4 k5 => ⟨bet_cell hg hi h0 ha.1 hb.1 c1 k1 k2 k3 k4 k5, bet_cell hg hi h0 ha.2.1 hb.2.1 c2 k1 k2 k3 k4 k5, bet_cell hg hi h0 ha.2.2 hb.2.2 c3 k1 k2 k3 k4 k5⟩
  constructor
  · intro h p q hp hpq hq
    obtain ⟨i, hi, hb1 | ⟨h0, hb2, hb3⟩⟩ := bracket hg hp hpq hq
    · have htq := q_pos (hg.ok _ (prt_mem hi))
      unfold freeAt
      rw [← cell_same htq hq hb1, ← cell_same htq hq hb1, ← cell_same htq hq hb1, ← Bool.not_eq_true]
      intro hF
      refine h ⟨(i : Int), by omega, by omega, ?_⟩
      show hitT F a b (partsT a b) ((i : Int)).toNat = true
      rw [show ((i : Int)).toNat = i by omega]
      unfold hitT
      rw [Bool.or_eq_true]
      exact .inl hF
    · obtain ⟨e1, e2, e3⟩ := key hi h0 (u := ⟨p, q⟩) hp hpq hq hb2 hb3
      unfold freeAt
      rw [← Bool.not_eq_true]
      intro hF
      refine h ⟨(i : Int), by omega, by omega, ?_⟩
      show hitT F a b (partsT a b) ((i : Int)).toNat = true
      rw [show ((i : Int)).toNat = i by omega]
      unfold hitT
      rw [Bool.or_eq_true]
      right
      rw [show ((i : Int) == 0) = false by rw [beq_eq_false_iff_ne]; omega]
      show F (betC a.x b.x (prt (partsT a b) (i - 1)) (prt (partsT a b) i)) (betC a.y b.y (prt (partsT a b) (i - 1)) (prt (partsT a b) i)) (betC a.z b.z (prt (partsT a b) (i - 1)) (prt (partsT a b) i)) = true
      rw [e1, e2, e3]
      exact hF
  · rintro h ⟨j, j0, j1, hj⟩
    obtain ⟨i, rfl⟩ : ∃ k : Nat, j = k := ⟨j.toNat, by omega⟩
    have hj : hitT F a b (partsT a b) ((i : Int)).toNat = true := hj
    rw [show ((i : Int)).toNat = i by omega] at hj
    have hi : i < (partsT a b).length := by omega
    have pt := inPt_iff.1 (hg.ok _ (prt_mem hi))
    unfold hitT at hj
    rw [Bool.or_eq_true, Bool.and_eq_true] at hj
    rcases hj with hj | ⟨hz, hj⟩
    · have := h (prt (partsT a b) i).p (prt (partsT a b) i).q pt.1.1 pt.1.2 pt.2.1
      unfold freeAt at this
      have hj' : F (cellAt a.x b.x (prt (partsT a b) i).p (prt (partsT a b) i).q) (cellAt a.y b.y (prt (partsT a b) i).p (prt (partsT a b) i).q) (cellAt a.z b.z (prt (partsT a b) i).p (prt (partsT a b) i).q) = true := hj
      rw [this] at hj'
      cases hj'
    · have h0 : 0 < i := by
        rcases Nat.eq_zero_or_pos i with h0 | h0
        · subst h0; cases hz
        · exact h0
      have ps := inPt_iff.1 (hg.ok _ (prt_mem (l := partsT a b) (i := i - 1) (by omega)))
      have hst := prt_lt hg.srt (show i - 1 < i by omega) hi
      have hj' : F (betC a.x b.x (prt (partsT a b) (i - 1)) (prt (partsT a b) i)) (betC a.y b.y (prt (partsT a b) (i - 1)) (prt (partsT a b) i)) (betC a.z b.z (prt (partsT a b) (i - 1)) (prt (partsT a b) i)) = true := hj
      generalize hS : prt (partsT a b) (i - 1) = s at ps hst hj'
      generalize hT : prt (partsT a b) i = t at pt hst hj'
      have m1 := Int.mul_nonneg ps.1.1 (Int.le_of_lt pt.2.1)
      have m2 := Int.mul_nonneg pt.1.1 (Int.le_of_lt ps.2.1)
      have m3 := Int.mul_pos ps.2.1 pt.2.1
      have m4 := Int.mul_le_mul_of_nonneg_right ps.1.2 (Int.le_of_lt pt.2.1)
      have m5 := Int.mul_le_mul_of_nonneg_right pt.1.2 (Int.le_of_lt ps.2.1)
      rw [Int.mul_comm t.q s.q] at m5
      have hst' : s.p * t.q < t.p * s.q := hst
      have l1 : Lt s ⟨s.p * t.q + t.p * s.q, 2 * (s.q * t.q)⟩ := by
        show s.p * (2 * (s.q * t.q)) < (s.p * t.q + t.p * s.q) * s.q
        have e1 : s.p * (2 * (s.q * t.q)) = (2 * (s.p * t.q)) * s.q := by grind
        rw [e1]
        exact Int.mul_lt_mul_of_pos_right (by omega) ps.2.1
      have l2 : Lt ⟨s.p * t.q + t.p * s.q, 2 * (s.q * t.q)⟩ t := by
        show (s.p * t.q + t.p * s.q) * t.q < t.p * (2 * (s.q * t.q))
        have e1 : t.p * (2 * (s.q * t.q)) = (2 * (t.p * s.q)) * t.q := by grind
        rw [e1]
        exact Int.mul_lt_mul_of_pos_right (by omega) pt.2.1
      obtain ⟨e1, e2, e3⟩ := key hi h0 (u := ⟨s.p * t.q + t.p * s.q, 2 * (s.q * t.q)⟩) (by show 0 ≤ s.p * t.q + t.p * s.q; omega) (by show s.p * t.q + t.p * s.q ≤ 2 * (s.q * t.q); omega) (by show 0 < 2 * (s.q * t.q); omega) (by rw [hS]; exact l1) (by rw [hT]; exact l2)
      rw [hS, hT] at e1 e2 e3
      rw [e1, e2, e3] at hj'
      have := h (s.p * t.q + t.p * s.q) (2 * (s.q * t.q)) (by omega) (by omega) (by omega)
      unfold freeAt at this
      rw [this] at hj'
      cases hj'

end Go.Proofs.Ytikifgbbiffclaa
