/- The reference's Sight, plainly: parts of a line, and the cells between them. -/
import Derived.Test.YtikifgbbiffclaaVmRv
import Derived.Test.YtikifgbbiffclaaVmSi
namespace Go.Proofs.Ytikifgbbiffclaa
set_option linter.unusedSimpArgs false
set_option linter.unusedVariables false
open Go.RowKit

def Lt (s t : Pt) : Prop := s.p * t.q < t.p * s.q
theorem prod_small {s t : Pt} (hs : inPt s = true) (ht : inPt t = true) : 0 ≤ s.p * t.q ∧ s.p * t.q ≤ 2097152 * 2097152 := by
  obtain ⟨⟨h1, h2⟩, h3, h4⟩ := inPt_iff.1 hs
  obtain ⟨⟨k1, k2⟩, k3, k4⟩ := inPt_iff.1 ht
  exact ⟨Int.mul_nonneg h1 (by omega), Int.mul_le_mul (by omega) k4 (by omega) (by omega)⟩
theorem ltP_iff {s t : Pt} (hs : inPt s = true) (ht : inPt t = true) : ltP s t = true ↔ Lt s t := by
  have h1 := prod_small hs ht
  have h2 := prod_small ht hs
  unfold ltP Lt
  rw [IntWalk.i64_in (s.p * t.q) (by omega), IntWalk.i64_in (t.p * s.q) (by omega), decide_eq_true_eq]
theorem lt_trans' {s t u : Pt} (hs : 0 < s.q) (ht : 0 < t.q) (hu : 0 < u.q) (h1 : Lt s t) (h2 : Lt t u) : Lt s u := by
  unfold Lt at *
  have k1 := Int.mul_lt_mul_of_pos_right h1 hu
  have k2 := Int.mul_lt_mul_of_pos_right h2 hs
  have e1 : s.p * t.q * u.q = (s.p * u.q) * t.q := by grind
  have e2 : t.p * s.q * u.q = t.p * u.q * s.q := by grind
  have e3 : u.p * t.q * s.q = (u.p * s.q) * t.q := by grind
  rw [e1, e2] at k1
  rw [e3] at k2
  exact Int.lt_of_mul_lt_mul_right (Int.lt_trans k1 k2) (Int.le_of_lt ht)
theorem le_lt_trans' {s t u : Pt} (hs : 0 < s.q) (ht : 0 < t.q) (hu : 0 < u.q) (h1 : s.p * t.q ≤ t.p * s.q) (h2 : Lt t u) : Lt s u := by
  unfold Lt at *
  have k1 := Int.mul_le_mul_of_nonneg_right h1 (Int.le_of_lt hu)
  have k2 := Int.mul_lt_mul_of_pos_right h2 hs
  have e1 : s.p * t.q * u.q = (s.p * u.q) * t.q := by grind
  have e2 : t.p * s.q * u.q = t.p * u.q * s.q := by grind
  have e3 : u.p * t.q * s.q = (u.p * s.q) * t.q := by grind
  rw [e1, e2] at k1
  rw [e3] at k2
  exact Int.lt_of_mul_lt_mul_right (Int.lt_of_le_of_lt k1 k2) (Int.le_of_lt ht)
theorem lt_le_trans' {s t u : Pt} (hs : 0 < s.q) (ht : 0 < t.q) (hu : 0 < u.q) (h1 : Lt s t) (h2 : t.p * u.q ≤ u.p * t.q) : Lt s u := by
  unfold Lt at *
  have k1 := Int.mul_lt_mul_of_pos_right h1 hu
  have k2 := Int.mul_le_mul_of_nonneg_right h2 (Int.le_of_lt hs)
  have e1 : s.p * t.q * u.q = (s.p * u.q) * t.q := by grind
  have e2 : t.p * s.q * u.q = t.p * u.q * s.q := by grind
  have e3 : u.p * t.q * s.q = (u.p * s.q) * t.q := by grind
  rw [e1, e2] at k1
  rw [e3] at k2
  exact Int.lt_of_mul_lt_mul_right (Int.lt_of_lt_of_le k1 k2) (Int.le_of_lt ht)

theorem posW_lt {xs : List Pt} {x : Pt} : ∀ (n i j : Nat), i ≤ j → j < posW xs x n i → ltP (xs.getD (0 + j) Knd.pt.dflt) x = true
  | 0, i, j, h1, h2 => by unfold posW at h2; omega
  | n + 1, i, j, h1, h2 => by
    unfold posW at h2
    cases hc : ltP (xs.getD (0 + i) Knd.pt.dflt) x with
    | false => rw [hc] at h2; simp only [cond_false] at h2; omega
    | true =>
      rw [hc] at h2
      simp only [cond_true] at h2
      rcases Nat.lt_or_ge i j with h | h
      · exact posW_lt n (i + 1) j (by omega) h2
      · obtain rfl : i = j := by omega
        exact hc
theorem posW_not {xs : List Pt} {x : Pt} : ∀ (n i : Nat), posW xs x n i < i + n → ltP (xs.getD (0 + posW xs x n i) Knd.pt.dflt) x = false
  | 0, i, h => by unfold posW at h; omega
  | n + 1, i, h => by
    unfold posW at h ⊢
    cases hc : ltP (xs.getD (0 + i) Knd.pt.dflt) x with
    | false => simp only [cond_false]; exact hc
    | true =>
      rw [hc] at h
      simp only [cond_true] at h ⊢
      exact posW_not n (i + 1) (by omega)

/-- A row of parts as the reference keeps it. -/
structure Gd (l : List Pt) : Prop where
  ok : ∀ t ∈ l, inPt t = true
  srt : l.Pairwise Lt
  hd : Hd l
  one : ∃ t ∈ l, t.p = t.q
/-- A part of this value is in it. -/
def Has (l : List Pt) (v : Pt) : Prop := ∃ t ∈ l, t.p * v.q = v.p * t.q

theorem withW_mem {xs : List Pt} {x t : Pt} (h : t ∈ xs) : t ∈ withW xs x := by
  unfold withW
  cases foundW xs x with
  | true => exact h
  | false =>
    simp only [cond_false]
    rw [← List.take_append_drop (posW xs x xs.length 0) xs] at h
    rcases List.mem_append.1 h with h | h
    · exact List.mem_append_left _ h
    · exact List.mem_append_right _ (List.mem_cons_of_mem _ h)
theorem getD_mem {xs : List Pt} {i : Nat} (h : i < xs.length) : xs.getD (0 + i) Knd.pt.dflt ∈ xs := by
  show xs.getD (0 + i) (⟨0, 0⟩ : Pt) ∈ xs
  rw [Nat.zero_add, List.getD_eq_getElem?_getD, List.getElem?_eq_getElem h]
  exact List.getElem_mem _
theorem q_pos {t : Pt} (h : inPt t = true) : 0 < t.q := (inPt_iff.1 h).2.1
theorem withW_gd {xs : List Pt} {x : Pt} (h : Gd xs) (hx : inPt x = true) : Gd (withW xs x) ∧ Has (withW xs x) x := by
  have hxp := inPt_iff.1 hx
  have hh := withW_hd h.hd (x := x) hxp.1.1 (by omega)
  have hle := (posW_le (xs := xs) (x := x) xs.length 0).2
  cases hf : foundW xs x with
  | true =>
    have hw : withW xs x = xs := by unfold withW; rw [hf]; rfl
    rw [hw]
    refine ⟨h, ?_⟩
    unfold foundW at hf
    rw [Bool.and_eq_true, decide_eq_true_eq, Bool.not_eq_true'] at hf
    have hm := getD_mem hf.1
    have h1 := posW_not (xs := xs) (x := x) xs.length 0 (by omega)
    have h2 : ltP x (xs.getD (0 + posW xs x xs.length 0) Knd.pt.dflt) = false := by rw [Nat.zero_add]; exact hf.2
    generalize xs.getD (0 + posW xs x xs.length 0) Knd.pt.dflt = y at hm h1 h2
    have hy := h.ok y hm
    refine ⟨y, hm, ?_⟩
    have k1 : ¬ Lt y x := fun hl => by rw [(ltP_iff hy hx).2 hl] at h1; cases h1
    have k2 : ¬ Lt x y := fun hl => by rw [(ltP_iff hx hy).2 hl] at h2; cases h2
    unfold Lt at k1 k2
    omega
  | false =>
    have hw : withW xs x = xs.take (posW xs x xs.length 0) ++ x :: xs.drop (posW xs x xs.length 0) := by unfold withW; rw [hf]; rfl
    have hsub : ∀ t ∈ xs, t ∈ withW xs x := fun t ht => withW_mem ht
    refine ⟨⟨fun t ht => ?_, ?_, hh.1, ?_⟩, x, by rw [hw]; exact List.mem_append_right _ (List.mem_cons_self ..), rfl⟩
    · rw [hw] at ht
      rcases List.mem_append.1 ht with ht | ht
      · exact h.ok t (List.mem_of_mem_take ht)
      · rcases List.mem_cons.1 ht with rfl | ht
        · exact hx
        · exact h.ok t (List.mem_of_mem_drop ht)
    · rw [hw, List.pairwise_append]
      have hlow : ∀ t ∈ xs.take (posW xs x xs.length 0), Lt t x := by
        intro t ht
        obtain ⟨j, hj, rfl⟩ := List.getElem_of_mem ht
        rw [List.length_take] at hj
        have := posW_lt (xs := xs) (x := x) xs.length 0 j (by omega) (by omega)
        have hm := getD_mem (xs := xs) (i := j) (by omega)
        have e : xs.getD (0 + j) Knd.pt.dflt = (xs.take (posW xs x xs.length 0))[j]'(by rw [List.length_take]; exact hj) := by
          show xs.getD (0 + j) (⟨0, 0⟩ : Pt) = _
          rw [Nat.zero_add, List.getD_eq_getElem?_getD, List.getElem?_eq_getElem (by omega), List.getElem_take]
          rfl
        rw [e] at this hm
        exact (ltP_iff (h.ok _ hm) hx).1 this
      have hhigh : ∀ t ∈ xs.drop (posW xs x xs.length 0), Lt x t := by
        intro t ht
        have hlt : posW xs x xs.length 0 < xs.length := by
          rcases Nat.lt_or_ge (posW xs x xs.length 0) xs.length with hh | hh
          · exact hh
          · rw [List.drop_eq_nil_of_le hh] at ht; cases ht
        have hm := getD_mem hlt
        have h2 : ltP x (xs.getD (0 + posW xs x xs.length 0) Knd.pt.dflt) = true := by
          unfold foundW at hf
          rw [decide_eq_true hlt, Bool.true_and, Bool.not_eq_false'] at hf
          rw [Nat.zero_add]
          exact hf
        have h3 := (ltP_iff hx (h.ok _ hm)).1 h2
        have e : xs.getD (0 + posW xs x xs.length 0) Knd.pt.dflt = xs[posW xs x xs.length 0] := by
          show xs.getD (0 + posW xs x xs.length 0) (⟨0, 0⟩ : Pt) = _
          rw [Nat.zero_add, List.getD_eq_getElem?_getD, List.getElem?_eq_getElem hlt]
          rfl
        rw [e] at h3 hm
        rw [List.drop_eq_getElem_cons hlt] at ht
        rcases List.mem_cons.1 ht with rfl | ht
        · exact h3
        · have hs : (xs.drop (posW xs x xs.length 0)).Pairwise Lt := h.srt.sublist (List.drop_sublist ..)
          rw [List.drop_eq_getElem_cons hlt, List.pairwise_cons] at hs
          exact lt_trans' (q_pos hx) (q_pos (h.ok _ hm)) (q_pos (h.ok t (List.mem_of_mem_drop ht))) h3 (hs.1 t ht)
      refine ⟨h.srt.sublist (List.take_sublist ..), ?_, ?_⟩
      · rw [List.pairwise_cons]
        exact ⟨hhigh, h.srt.sublist (List.drop_sublist ..)⟩
      · intro s hs t ht
        rcases List.mem_cons.1 ht with rfl | ht
        · exact hlow s hs
        · exact lt_trans' (q_pos (h.ok s (List.mem_of_mem_take hs))) (q_pos hx) (q_pos (h.ok t (List.mem_of_mem_drop ht))) (hlow s hs) (hhigh t ht)
    · obtain ⟨t, ht, he⟩ := h.one
      exact ⟨t, hsub t ht, he⟩
theorem crP_ok {a b k : Int} (ha : 0 ≤ a ∧ a < 2097152) (hb : 0 ≤ b ∧ b < 2097152) (hne : a ≠ b) (hk : crIn a b k = true) : inPt (crP a b k) = true := by
  unfold crIn at hk
  simp only [Bool.and_eq_true, decide_eq_true_eq] at hk
  rw [inPt_iff]
  refine ⟨hk, ?_⟩
  unfold crP at hk ⊢
  by_cases hlt : b < a
  · rw [decide_eq_true hlt]; simp only [cond_true]; omega
  · rw [decide_eq_false hlt]; simp only [cond_false]; omega
theorem crGo_gd {a b : Int} (ha : 0 ≤ a ∧ a < 2097152) (hb : 0 ≤ b ∧ b < 2097152) (hne : a ≠ b) : ∀ (n : Nat) (k : Int) (xs : List Pt), Gd xs →
    Gd (crGo a b n k xs) ∧ (∀ t ∈ xs, t ∈ crGo a b n k xs) ∧ ∀ j, k ≤ j → j < k + n → crIn a b j = true → Has (crGo a b n k xs) (crP a b j)
  | 0, k, xs, h => ⟨h, fun _ h => h, fun j h1 h2 => by omega⟩
  | n + 1, k, xs, h => by
    unfold crGo
    cases hc : crIn a b k with
    | false =>
      simp only [cond_false]
      obtain ⟨g1, g2, g3⟩ := crGo_gd ha hb hne n (k + 1) xs h
      refine ⟨g1, g2, fun j h1 h2 h3 => ?_⟩
      rcases Int.lt_or_eq_of_le h1 with h4 | h4
      · exact g3 j (by omega) (by omega) h3
      · subst h4; rw [hc] at h3; cases h3
    | true =>
      simp only [cond_true]
      obtain ⟨w1, w2⟩ := withW_gd h (crP_ok ha hb hne hc)
      obtain ⟨g1, g2, g3⟩ := crGo_gd ha hb hne n (k + 1) _ w1
      refine ⟨g1, fun t ht => g2 t (withW_mem ht), fun j h1 h2 h3 => ?_⟩
      rcases Int.lt_or_eq_of_le h1 with h4 | h4
      · exact g3 j (by omega) (by omega) h3
      · subst h4
        obtain ⟨t, ht, he⟩ := w2
        exact ⟨t, g2 t ht, he⟩
theorem cross_gd {a b : Int} {xs : List Pt} (ha : 0 ≤ a ∧ a < 2097152) (hb : 0 ≤ b ∧ b < 2097152) (h : Gd xs) :
    Gd (crossT a b xs) ∧ (∀ t ∈ xs, t ∈ crossT a b xs) ∧ (a ≠ b → ∀ j, 0 ≤ j → j < 33 → crIn a b j = true → Has (crossT a b xs) (crP a b j)) ∧ (crossT a b xs).length ≤ xs.length + 33 := by
  unfold crossT
  by_cases hne : a = b
  · rw [show (a != b) = false by simpa using hne]
    exact ⟨h, fun _ h => h, fun hn => absurd hne hn, by simp only [cond_false]; omega⟩
  · rw [show (a != b) = true by simpa using hne]
    simp only [cond_true]
    obtain ⟨g1, g2, g3⟩ := crGo_gd ha hb hne 33 0 xs h
    exact ⟨g1, g2, fun _ j h1 h2 h3 => g3 j h1 (by omega) h3, (crGo_hd ha hb 33 0 xs (by omega) (by omega) h.hd).2⟩
theorem gd_two : Gd [⟨0, 1⟩, ⟨1, 1⟩] where
  ok := by
    intro t ht
    simp only [List.mem_cons, List.not_mem_nil, or_false] at ht
    rcases ht with rfl | rfl <;> rfl
  srt := by
    simp only [List.pairwise_cons, List.mem_cons, List.not_mem_nil, or_false, forall_eq, List.Pairwise.nil, and_true]
    refine ⟨?_, fun _ h => by cases h⟩
    show (0 : Int) * 1 < 1 * 1
    decide
  hd := rfl
  one := ⟨⟨1, 1⟩, by simp, rfl⟩
def partsT (a b : V3) : List Pt := crossT a.z b.z (crossT a.y b.y (crossT a.x b.x [⟨0, 1⟩, ⟨1, 1⟩]))
def Near (a : V3) : Prop := (0 ≤ a.x ∧ a.x < 2097152) ∧ (0 ≤ a.y ∧ a.y < 2097152) ∧ (0 ≤ a.z ∧ a.z < 2097152)
theorem has_more {l m : List Pt} {v : Pt} (h : Has l v) (hs : ∀ t ∈ l, t ∈ m) : Has m v := by
  obtain ⟨t, ht, he⟩ := h
  exact ⟨t, hs t ht, he⟩
theorem parts_gd {a b : V3} (ha : Near a) (hb : Near b) : Gd (partsT a b) ∧ (partsT a b).length ≤ 101 ∧
    (a.x ≠ b.x → ∀ j, 0 ≤ j → j < 33 → crIn a.x b.x j = true → Has (partsT a b) (crP a.x b.x j)) ∧
    (a.y ≠ b.y → ∀ j, 0 ≤ j → j < 33 → crIn a.y b.y j = true → Has (partsT a b) (crP a.y b.y j)) ∧
    (a.z ≠ b.z → ∀ j, 0 ≤ j → j < 33 → crIn a.z b.z j = true → Has (partsT a b) (crP a.z b.z j)) := by
  obtain ⟨x1, x2, x3, x4⟩ := cross_gd ha.1 hb.1 gd_two
  obtain ⟨y1, y2, y3, y4⟩ := cross_gd ha.2.1 hb.2.1 x1
  obtain ⟨z1, z2, z3, z4⟩ := cross_gd ha.2.2 hb.2.2 y1
  have e2 : ([⟨0, 1⟩, ⟨1, 1⟩] : List Pt).length = 2 := rfl
  refine ⟨z1, by unfold partsT; omega, fun hn j h1 h2 h3 => ?_, fun hn j h1 h2 h3 => ?_, fun hn j h1 h2 h3 => z3 hn j h1 h2 h3⟩
  · exact has_more (has_more (x3 hn j h1 h2 h3) y2) z2
  · exact has_more (y3 hn j h1 h2 h3) z2

end Go.Proofs.Ytikifgbbiffclaa
