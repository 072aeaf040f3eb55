/- The reference's digits: what sums, differences and comparisons say. -/
import Derived.Test.YtnfhlfmcgeaagaaVmDv
namespace Go.Proofs.Ytnfhlfmcgeaagaa
set_option linter.unusedSimpArgs false
set_option linter.unusedVariables false
open Go.RowKit

theorem pow_pos' (k : Nat) : (0 : Int) < 65536 ^ k := Int.pow_pos (by omega)
theorem pow_mono {a b : Nat} (h : a ≤ b) : (65536 : Int) ^ a ≤ 65536 ^ b := by
  obtain ⟨k, rfl⟩ := Nat.exists_eq_add_of_le h
  rw [Int.pow_add]
  have h1 := pow_pos' a
  have h2 := pow_pos' k
  have := Int.mul_le_mul_of_nonneg_left (show 1 ≤ (65536 : Int) ^ k by omega) (Int.le_of_lt h1)
  rw [Int.mul_one] at this
  exact this
theorem valL_in : ∀ {l : List Int}, Digs l → 0 ≤ valL l ∧ valL l < 65536 ^ l.length
  | [], _ => ⟨Int.le_refl _, by simp [valL]⟩
  | d :: l, h => by
    have h1 := h d (List.mem_cons_self ..)
    have ih := valL_in (l := l) fun x hx => h x (List.mem_cons_of_mem _ hx)
    rw [valL, List.length_cons, Int.pow_succ]
    generalize valL l = A at ih ⊢
    generalize (65536 : Int) ^ l.length = P at ih ⊢
    omega
theorem atF_dig (xs : List Int) (i : Nat) : atF xs 0 xs.length i = dig xs 0 i := by
  unfold atF atD dig
  by_cases h : (i : Int) < (xs.length : Int)
  · rw [decide_eq_true h]
    simp only [cond_true]
    rw [show ((i : Int)).toNat = i by omega]
    rfl
  · rw [decide_eq_false h]
    simp only [cond_false]
    rw [Nat.zero_add, List.getD_eq_getElem?_getD, List.getElem?_eq_none (by omega)]
    rfl
theorem valF_ext {f g : Nat → Int} (h : ∀ i, f i = g i) : ∀ m i, valF f m i = valF g m i
  | 0, _ => rfl
  | m + 1, i => by unfold valF; rw [h, valF_ext h m]
theorem valF_zero {f : Nat → Int} : ∀ m i, (∀ j, i ≤ j → f j = 0) → valF f m i = 0
  | 0, _, _ => rfl
  | m + 1, i, h => by
    unfold valF
    rw [h i (Nat.le_refl _), valF_zero m (i + 1) fun j hj => h j (by omega)]
    rfl
theorem valF_more {f : Nat → Int} : ∀ (m k i : Nat), (∀ j, i + m ≤ j → f j = 0) → valF f (m + k) i = valF f m i
  | 0, k, i, h => by rw [Nat.zero_add]; exact valF_zero k i fun j hj => h j (by omega)
  | m + 1, k, i, h => by
    rw [show m + 1 + k = (m + k) + 1 by omega]
    unfold valF
    rw [valF_more m k (i + 1) fun j hj => h j (by omega)]
/-- As many digits as one likes, from a row's length on: its value. -/
theorem valF_at (xs : List Int) {M : Nat} (h : xs.length ≤ M) : valF (atF xs 0 xs.length) M 0 = valL xs := by
  rw [valF_ext (atF_dig xs)]
  obtain ⟨k, rfl⟩ : ∃ k, M = xs.length + k := ⟨M - xs.length, by omega⟩
  rw [valF_more xs.length k 0 fun j hj => ?_, valF_all]
  unfold dig
  rw [List.getD_eq_getElem?_getD, List.getElem?_eq_none (by omega)]
  rfl
theorem sumC_in {f g : Nat → Int} (hf : ∀ i, 0 ≤ f i ∧ f i < 65536) (hg : ∀ i, 0 ≤ g i ∧ g i < 65536) : ∀ (k i : Nat) (c : Int), 0 ≤ c ∧ c ≤ 1 → 0 ≤ sumC f g k i c ∧ sumC f g k i c ≤ 1
  | 0, _, _, h => h
  | k + 1, i, c, h => by
    have h1 := hf i
    have h2 := hg i
    exact sumC_in hf hg k (i + 1) _ (by omega)
theorem lessC_in {f g : Nat → Int} (hf : ∀ i, 0 ≤ f i ∧ f i < 65536) (hg : ∀ i, 0 ≤ g i ∧ g i < 65536) : ∀ (k i : Nat) (c : Int), 0 ≤ c ∧ c ≤ 1 → 0 ≤ lessC f g k i c ∧ lessC f g k i c ≤ 1
  | 0, _, _, h => h
  | k + 1, i, c, h => by
    have h1 := hf i
    have h2 := hg i
    exact lessC_in hf hg k (i + 1) _ (by omega)
/-- The digits of a sum are worth the sum. -/
theorem sumL_val {xs ys : List Int} (hx : Digs xs) (hy : Digs ys) : valL (sumL xs ys 0 xs.length 0 ys.length) = valL xs + valL ys ∧ Digs (sumL xs ys 0 xs.length 0 ys.length) := by
  have hlen : (sumD xs ys 0 xs.length 0 ys.length).length = max xs.length ys.length + 1 := sumGo_len _ _ _ _ _
  have hD : Digs (sumD xs ys 0 xs.length 0 ys.length) := sumGo_in _ _ _ _ _
  refine ⟨?_, digs_take hD _⟩
  unfold sumL
  rw [cutN_val _ (by omega), List.take_of_length_le (by omega)]
  have hv := sumGo_val (atF xs 0 xs.length) (atF ys 0 ys.length) (max xs.length ys.length + 1) 0 0
  have hc := sumC_in (atF_in hx 0 xs.length) (atF_in hy 0 ys.length) (max xs.length ys.length + 1) 0 0 (by omega)
  rw [valF_at xs (by omega), valF_at ys (by omega)] at hv
  have hb := valL_in hD
  rw [hlen] at hb
  unfold sumD at hb ⊢
  have bx : valL xs < 65536 ^ (max xs.length ys.length) := Int.lt_of_lt_of_le (valL_in hx).2 (pow_mono (by omega))
  have b_y : valL ys < 65536 ^ (max xs.length ys.length) := Int.lt_of_lt_of_le (valL_in hy).2 (pow_mono (by omega))
  rw [Int.pow_succ] at hv hb
  generalize sumC (atF xs 0 xs.length) (atF ys 0 ys.length) (max xs.length ys.length + 1) 0 0 = C at hv hc
  generalize valL (sumGo (atF xs 0 xs.length) (atF ys 0 ys.length) (max xs.length ys.length + 1) 0 0) = S at hv hb ⊢
  generalize (65536 : Int) ^ (max xs.length ys.length) = P at hv hb bx b_y
  rcases (show C = 0 ∨ C = 1 by omega) with rfl | rfl
  · omega
  · omega
/-- The digits of a difference are worth the difference, where it is none below nought. -/
theorem lessL_val {xs ys : List Int} (hx : Digs xs) (hy : Digs ys) (hl : ys.length ≤ xs.length) (h : valL ys ≤ valL xs) : valL (lessL xs ys 0 xs.length 0 ys.length) = valL xs - valL ys ∧ Digs (lessL xs ys 0 xs.length 0 ys.length) := by
  have hlen : (lessD xs ys 0 xs.length 0 ys.length).length = xs.length := lessGo_len _ _ _ _ _
  have hD : Digs (lessD xs ys 0 xs.length 0 ys.length) := lessGo_in _ _ _ _ _
  refine ⟨?_, digs_take hD _⟩
  unfold lessL
  rw [cutN_val _ (by omega), List.take_of_length_le (by omega)]
  have hv := lessGo_val (atF xs 0 xs.length) (atF ys 0 ys.length) xs.length 0 0
  have hc := lessC_in (atF_in hx 0 xs.length) (atF_in hy 0 ys.length) xs.length 0 0 (by omega)
  rw [valF_at xs (Nat.le_refl _), valF_at ys hl] at hv
  have hb := valL_in hD
  rw [hlen] at hb
  unfold lessD at hb ⊢
  generalize lessC (atF xs 0 xs.length) (atF ys 0 ys.length) xs.length 0 0 = C at hv hc
  generalize valL (lessGo (atF xs 0 xs.length) (atF ys 0 ys.length) xs.length 0 0) = S at hv hb ⊢
  generalize (65536 : Int) ^ xs.length = P at hv hb
  rcases (show C = 0 ∨ C = 1 by omega) with rfl | rfl
  · omega
  · omega

/-- No nought at the end. -/
def Trim (l : List Int) : Prop := 0 < l.length → l.getD (l.length - 1) 0 ≠ 0
theorem trim_low {l : List Int} (h : Digs l) (ht : Trim l) (h0 : 0 < l.length) : 65536 ^ (l.length - 1) ≤ valL l := by
  have hl := ht h0
  have e : l = l.take (l.length - 1) ++ [l.getD (l.length - 1) 0] := by
    rw [← take_one_more (by omega), show l.length - 1 + 1 = l.length by omega, List.take_length]
  have hv := valL_append (l.take (l.length - 1)) [l.getD (l.length - 1) 0]
  rw [← e, List.length_take, show min (l.length - 1) l.length = l.length - 1 by omega] at hv
  have hA := (valL_in (digs_take h (l.length - 1))).1
  have hd : 1 ≤ l.getD (l.length - 1) 0 := by
    have := dig_in h 0 (l.length - 1)
    unfold dig at this
    rw [Nat.zero_add] at this
    omega
  rw [hv]
  generalize valL (l.take (l.length - 1)) = A at hA ⊢
  have hP := pow_pos' (l.length - 1)
  have e2 : valL [l.getD (l.length - 1) 0] = l.getD (l.length - 1) 0 := by simp [valL]
  rw [e2]
  generalize l.getD (l.length - 1) 0 = d at hd ⊢
  generalize (65536 : Int) ^ (l.length - 1) = P at hP ⊢
  have := Int.mul_le_mul_of_nonneg_left hd (Int.le_of_lt hP)
  omega
theorem moreGo_val {xs ys : List Int} (hx : Digs xs) (hy : Digs ys) : ∀ (k : Nat), k ≤ xs.length → k ≤ ys.length →
    ((moreGo xs ys 0 0 k).1 = false → valL (xs.take k) = valL (ys.take k)) ∧ ((moreGo xs ys 0 0 k).1 = true → (moreGo xs ys 0 0 k).2.1 = decide (valL (xs.take k) > valL (ys.take k)))
  | 0, _, _ => ⟨fun _ => rfl, fun h => by simp [moreGo] at h⟩
  | k + 1, h1, h2 => by
    have ih := moreGo_val hx hy k (by omega) (by omega)
    have bx := valL_in (digs_take hx k)
    have b_y := valL_in (digs_take hy k)
    rw [List.length_take, show min k xs.length = k by omega] at bx
    rw [List.length_take, show min k ys.length = k by omega] at b_y
    unfold moreGo
    rw [take_one_more (l := xs) (by omega), take_one_more (l := ys) (by omega), valL_append, valL_append, List.length_take, List.length_take, show min k xs.length = k by omega, show min k ys.length = k by omega, Nat.zero_add]
    rw [show xs.getD k Knd.u64.dflt = xs.getD k (0 : Int) from rfl, show ys.getD k Knd.u64.dflt = ys.getD k (0 : Int) from rfl]
    have ex : ∀ d : Int, valL [d] = d := fun d => by simp [valL]
    rw [ex, ex]
    generalize xs.getD k (0 : Int) = d
    generalize ys.getD k (0 : Int) = e
    generalize valL (xs.take k) = A at ih bx ⊢
    generalize valL (ys.take k) = B at ih b_y ⊢
    have hP := pow_pos' k
    generalize (65536 : Int) ^ k = P at bx b_y hP ⊢
    by_cases hde : d = e
    · subst hde
      simp only [bne_self_eq_false, cond_false]
      refine ⟨fun h => by rw [ih.1 h], fun h => ?_⟩
      rw [ih.2 h, decide_eq_decide]
      omega
    · have hn : (d != e) = true := by simpa using hde
      rw [hn]
      simp only [cond_true]
      refine ⟨fun h => by simp at h, fun _ => ?_⟩
      rw [decide_eq_decide]
      rcases Int.lt_or_gt_of_ne hde with h | h
      · have := Int.mul_le_mul_of_nonneg_left (show d + 1 ≤ e by omega) (Int.le_of_lt hP)
        rw [Int.mul_add, Int.mul_one] at this
        omega
      · have := Int.mul_le_mul_of_nonneg_left (show e + 1 ≤ d by omega) (Int.le_of_lt hP)
        rw [Int.mul_add, Int.mul_one] at this
        omega

end Go.Proofs.Ytnfhlfmcgeaagaa
