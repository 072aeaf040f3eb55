/- The reference's digits: Add and Sub are what they should be. -/
import Derived.Test.YtnfhlfmcgeaagaaVmDw
namespace Go.Proofs.Ytnfhlfmcgeaagaa
set_option linter.unusedSimpArgs false
set_option linter.unusedVariables false
open Go.RowKit

theorem longer {xs ys : List Int} (hx : Digs xs) (hy : Digs ys) (tx : Trim xs) (h : ys.length < xs.length) : valL ys < valL xs := by
  have h1 := trim_low hx tx (by omega)
  have h2 := (valL_in hy).2
  have h3 := pow_mono (show ys.length ≤ xs.length - 1 by omega)
  omega
theorem moreV_val {xs ys : List Int} (hx : Digs xs) (hy : Digs ys) (tx : Trim xs) (ty : Trim ys) : moreV xs ys 0 xs.length 0 ys.length = decide (valL xs > valL ys) := by
  unfold moreV
  by_cases he : xs.length = ys.length
  · rw [show ((xs.length : Int) != (ys.length : Int)) = false by simp [he]]
    simp only [cond_false]
    obtain ⟨m1, m2⟩ := moreGo_val hx hy xs.length (Nat.le_refl _) (by omega)
    rw [List.take_length, he, List.take_length] at m1 m2
    rw [he]
    cases hq : (moreGo xs ys 0 0 ys.length).1 with
    | true => exact m2 hq
    | false =>
      have := m1 hq
      simp only [cond_false]
      rw [this]
      exact (decide_eq_false (by omega)).symm
  · rw [show ((xs.length : Int) != (ys.length : Int)) = true by simp; omega]
    simp only [cond_true]
    rw [decide_eq_decide]
    rcases Nat.lt_or_gt_of_ne he with h | h
    · have := longer hy hx ty h
      omega
    · have := longer hx hy tx h
      omega
theorem digs_trim : ∀ (k m : Nat), m < 65536 ^ k → Trim (digs k m)
  | 0, _, _ => fun h => by simp [digs] at h
  | k + 1, m, hm => by
    have hk : m / 65536 < 65536 ^ k := by rw [Nat.pow_succ] at hm; exact Nat.div_lt_of_lt_mul (by rw [Nat.mul_comm]; exact hm)
    have ih := digs_trim k (m / 65536) hk
    have hv := valL_digs k (m / 65536) hk
    by_cases h0 : m = 0
    · subst h0; intro h; simp [digs] at h
    · have e : digs (k + 1) m = ((m % 65536 : Nat) : Int) :: digs k (m / 65536) := by
        show (bif m != 0 then _ else _) = _
        rw [show (m != 0) = true by simpa using h0]
        rfl
      rw [e]
      intro _
      cases hd : digs k (m / 65536) with
      | nil =>
        rw [hd] at hv
        simp only [valL] at hv
        simp
        omega
      | cons d l =>
        rw [hd] at ih
        have := ih (by simp)
        simpa using this
def sg (b : Bool) (v : Int) : Int := bif b then -v else v
theorem plusS_val {xs ys : List Int} {p q : Bool} (hx : Digs xs) (hy : Digs ys) (tx : Trim xs) (ty : Trim ys) :
    sg (plusS p q xs ys 0 xs.length 0 ys.length).1 (valL (plusS p q xs ys 0 xs.length 0 ys.length).2) = sg p (valL xs) + sg q (valL ys) ∧ Digs (plusS p q xs ys 0 xs.length 0 ys.length).2 := by
  unfold plusS
  cases hpq : p == q with
  | true =>
    have : p = q := by simpa using hpq
    subst this
    obtain ⟨s1, s2⟩ := sumL_val hx hy
    simp only [cond_true]
    refine ⟨?_, s2⟩
    rw [s1]
    cases p
    · rfl
    · simp only [sg, cond_true]; omega
  | false =>
    simp only [cond_false]
    rw [moreV_val hy hx ty tx]
    by_cases hm : valL ys > valL xs
    · have hl : xs.length ≤ ys.length := by
        rcases Nat.lt_or_ge ys.length xs.length with h | h
        · have := longer hx hy tx h; omega
        · exact h
      obtain ⟨s1, s2⟩ := lessL_val hy hx hl (by omega)
      rw [decide_eq_true hm]
      simp only [cond_true]
      refine ⟨?_, s2⟩
      rw [s1]
      cases p <;> cases q <;> simp_all only [sg, cond_true, cond_false] <;> first | omega | cases hpq
    · have hl : ys.length ≤ xs.length := by
        rcases Nat.lt_or_ge xs.length ys.length with h | h
        · have := longer hy hx ty h; omega
        · exact h
      obtain ⟨s1, s2⟩ := lessL_val hx hy hl (by omega)
      rw [decide_eq_false hm]
      simp only [cond_false]
      refine ⟨?_, s2⟩
      rw [s1]
      cases p <;> cases q <;> simp_all only [sg, cond_true, cond_false] <;> first | omega | cases hpq
theorem digs_len : ∀ (k m : Nat), (digs k m).length ≤ k
  | 0, _ => Nat.le_refl _
  | k + 1, m => by
    unfold digs
    have := digs_len k (m / 65536)
    cases m != 0
    · simp
    · simp only [cond_true, List.length_cons]; omega
theorem abs_sg (a : Int) : sg (decide (a < 0)) (a.natAbs : Int) = a := by
  unfold sg
  by_cases h : a < 0
  · rw [decide_eq_true h]; simp only [cond_true]; omega
  · rw [decide_eq_false h]; simp only [cond_false]; omega
theorem abs_sg' (a : Int) : sg (!decide (a < 0)) (a.natAbs : Int) = -a := by
  unfold sg
  by_cases h : a < 0
  · rw [decide_eq_true h]; simp only [Bool.not_true, cond_false]; omega
  · rw [decide_eq_false h]; simp only [Bool.not_false, cond_true]; omega
theorem abs_lt {a : Int} (h : In64 a) : a.natAbs < 65536 ^ 5 := by unfold In64 at h; omega
theorem plusS_len (p q : Bool) (xs ys : List Int) (hx : xs.length ≤ 5) (hy : ys.length ≤ 5) : (plusS p q xs ys 0 xs.length 0 ys.length).2.length ≤ 6 := by
  unfold plusS
  have h1 := sumL_len xs ys 0 xs.length 0 ys.length
  have h2 := lessL_len xs ys 0 xs.length 0 ys.length
  have h3 := lessL_len ys xs 0 ys.length 0 xs.length
  have k1 := cutN_le (sumD xs ys 0 xs.length 0 ys.length) (max xs.length ys.length + 1)
  have k2 := cutN_le (lessD xs ys 0 xs.length 0 ys.length) xs.length
  have k3 := cutN_le (lessD ys xs 0 ys.length 0 xs.length) ys.length
  cases p == q
  · cases moreV ys xs 0 ys.length 0 xs.length
    · simp only [cond_false]; omega
    · simp only [cond_true, cond_false]; omega
  · simp only [cond_true]; omega
theorem add_val {a b : Int} (ha : In64 a) (hb : In64 b) : runK xDa (fun _ _ => none) 300 21 Try.f21 0 [.int .i64 a, .int .i64 b] [] = some (.int .i64 (cut64 (a + b)), []) := by
  rw [add_tree, in64B_iff.2 ha, in64B_iff.2 hb]
  have la := digs_len 5 a.natAbs
  have lb := digs_len 5 b.natAbs
  obtain ⟨s1, s2⟩ := plusS_val (p := decide (a < 0)) (q := decide (b < 0)) (digs_in 5 a.natAbs) (digs_in 5 b.natAbs) (digs_trim 5 a.natAbs (abs_lt ha)) (digs_trim 5 b.natAbs (abs_lt hb))
  have ll := plusS_len (decide (a < 0)) (decide (b < 0)) _ _ la lb
  rw [valL_digs 5 _ (abs_lt ha), valL_digs 5 _ (abs_lt hb), abs_sg, abs_sg] at s1
  rw [digsB_iff.2 (digs_in 5 a.natAbs), digsB_iff.2 (digs_in 5 b.natAbs), digsB_iff.2 s2, valF_all]
  rw [decide_eq_true (show 0 + (digs 5 a.natAbs).length ≤ (digs 5 a.natAbs).length by omega), decide_eq_true (show 0 + (digs 5 b.natAbs).length ≤ (digs 5 b.natAbs).length by omega), decide_eq_true (show max (digs 5 a.natAbs).length (digs 5 b.natAbs).length + 1 ≤ 1000 by omega)]
  generalize plusS (decide (a < 0)) (decide (b < 0)) (digs 5 a.natAbs) (digs 5 b.natAbs) 0 (digs 5 a.natAbs).length 0 (digs 5 b.natAbs).length = S at s1 ll ⊢
  rw [decide_eq_true (show 0 + S.2.length ≤ S.2.length by omega), decide_eq_true (show S.2.length ≤ 9223372036854775807 by omega), ← s1]
  rfl
theorem sub_val {a b : Int} (ha : In64 a) (hb : In64 b) : runK xDa (fun _ _ => none) 300 49 Try.f49 0 [.int .i64 a, .int .i64 b] [] = some (.int .i64 (cut64 (a - b)), []) := by
  rw [sub_tree, in64B_iff.2 ha, in64B_iff.2 hb]
  have la := digs_len 5 a.natAbs
  have lb := digs_len 5 b.natAbs
  obtain ⟨s1, s2⟩ := plusS_val (p := decide (a < 0)) (q := !decide (b < 0)) (digs_in 5 a.natAbs) (digs_in 5 b.natAbs) (digs_trim 5 a.natAbs (abs_lt ha)) (digs_trim 5 b.natAbs (abs_lt hb))
  have ll := plusS_len (decide (a < 0)) (!decide (b < 0)) _ _ la lb
  rw [valL_digs 5 _ (abs_lt ha), valL_digs 5 _ (abs_lt hb), abs_sg, abs_sg'] at s1
  rw [digsB_iff.2 (digs_in 5 a.natAbs), digsB_iff.2 (digs_in 5 b.natAbs), digsB_iff.2 s2, valF_all]
  rw [decide_eq_true (show 0 + (digs 5 a.natAbs).length ≤ (digs 5 a.natAbs).length by omega), decide_eq_true (show 0 + (digs 5 b.natAbs).length ≤ (digs 5 b.natAbs).length by omega), decide_eq_true (show max (digs 5 a.natAbs).length (digs 5 b.natAbs).length + 1 ≤ 1000 by omega)]
  generalize plusS (decide (a < 0)) (!decide (b < 0)) (digs 5 a.natAbs) (digs 5 b.natAbs) 0 (digs 5 a.natAbs).length 0 (digs 5 b.natAbs).length = S at s1 ll ⊢
  rw [decide_eq_true (show 0 + S.2.length ≤ S.2.length by omega), decide_eq_true (show S.2.length ≤ 9223372036854775807 by omega), Int.sub_eq_add_neg, ← s1]
  rfl

end Go.Proofs.Ytnfhlfmcgeaagaa
