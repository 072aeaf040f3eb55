/- The reference's digits: what sums and differences are worth. -/
import Derived.Test.YtnfhlfmcgeaagaaVmDa
namespace Go.Proofs.Ytnfhlfmcgeaagaa
set_option linter.unusedSimpArgs false
set_option linter.unusedVariables false
open Go.RowKit

theorem sumGo_val (f g : Nat → Int) : ∀ (k i : Nat) (c : Int), valL (sumGo f g k i c) + 65536 ^ k * sumC f g k i c = valF f k i + valF g k i + c
  | 0, i, c => by simp [sumGo, sumC, valF, valL]
  | k + 1, i, c => by
    have ih := sumGo_val f g k (i + 1) ((f i + g i + c) / 65536)
    unfold sumGo sumC valF valL
    rw [Int.pow_succ]
    generalize valL (sumGo f g k (i + 1) ((f i + g i + c) / 65536)) = A at ih ⊢
    generalize sumC f g k (i + 1) ((f i + g i + c) / 65536) = C at ih ⊢
    generalize valF f k (i + 1) = F at ih ⊢
    generalize valF g k (i + 1) = G at ih ⊢
    have e : (65536 : Int) ^ k * 65536 * C = 65536 * (65536 ^ k * C) := by grind
    rw [e]
    generalize (65536 : Int) ^ k * C = Z at ih ⊢
    omega
theorem lessGo_val (f g : Nat → Int) : ∀ (k i : Nat) (c : Int), valL (lessGo f g k i c) = valF f k i - valF g k i - c + 65536 ^ k * lessC f g k i c
  | 0, i, c => by simp [lessGo, lessC, valF, valL]; omega
  | k + 1, i, c => by
    have ih := lessGo_val f g k (i + 1) (1 - (f i + 65536 - g i - c) / 65536)
    unfold lessGo lessC valF valL
    rw [Int.pow_succ]
    generalize valL (lessGo f g k (i + 1) (1 - (f i + 65536 - g i - c) / 65536)) = A at ih ⊢
    generalize lessC f g k (i + 1) (1 - (f i + 65536 - g i - c) / 65536) = C at ih ⊢
    generalize valF f k (i + 1) = F at ih ⊢
    generalize valF g k (i + 1) = G at ih ⊢
    have e : (65536 : Int) ^ k * 65536 * C = 65536 * (65536 ^ k * C) := by grind
    rw [e]
    generalize (65536 : Int) ^ k * C = Z at ih ⊢
    omega
theorem sumGo_in (f g : Nat → Int) : ∀ (k i : Nat) (c : Int), Digs (sumGo f g k i c)
  | 0, _, _ => by unfold Digs sumGo; simp
  | k + 1, i, c => by
    intro d hd
    unfold sumGo at hd
    rcases List.mem_cons.1 hd with rfl | hd
    · omega
    · exact sumGo_in f g k _ _ d hd
theorem lessGo_in (f g : Nat → Int) : ∀ (k i : Nat) (c : Int), Digs (lessGo f g k i c)
  | 0, _, _ => by unfold Digs lessGo; simp
  | k + 1, i, c => by
    intro d hd
    unfold lessGo at hd
    rcases List.mem_cons.1 hd with rfl | hd
    · omega
    · exact lessGo_in f g k _ _ d hd
theorem digs_take {l : List Int} (h : Digs l) (n : Nat) : Digs (l.take n) := fun d hd => h d (List.mem_of_mem_take hd)
theorem valL_append : ∀ (l m : List Int), valL (l ++ m) = valL l + 65536 ^ l.length * valL m
  | [], m => by simp [valL]
  | d :: l, m => by
    rw [List.cons_append, valL, valL, valL_append l m, List.length_cons, Int.pow_succ]
    have e : (65536 : Int) ^ l.length * 65536 * valL m = 65536 * (65536 ^ l.length * valL m) := by grind
    rw [e]
    generalize (65536 : Int) ^ l.length * valL m = Z
    omega
theorem take_one_more {l : List Int} {k : Nat} (hk : k < l.length) : l.take (k + 1) = l.take k ++ [l.getD k 0] := by
  rw [List.take_add_one, List.getD_eq_getElem?_getD, List.getElem?_eq_getElem hk]
  rfl
/-- What is cut off is worth nothing. -/
theorem cutN_val {l : List Int} : ∀ (k : Nat), k ≤ l.length → valL (l.take (cutN l k)) = valL (l.take k)
  | 0, _ => rfl
  | k + 1, hk => by
    unfold cutN
    rw [Nat.zero_add]
    cases hc : l.getD k Knd.u64.dflt == 0 with
    | false => rfl
    | true =>
      simp only [cond_true]
      rw [cutN_val k (by omega), take_one_more (by omega), valL_append]
      have h0 : l.getD k (0 : Int) = 0 := eq_of_beq hc
      rw [h0]
      simp [valL]
/-- Behind the cut the last digit is no nought. -/
theorem cutN_last {l : List Int} : ∀ (k : Nat), 0 < cutN l k → l.getD (cutN l k - 1) (0 : Int) ≠ 0
  | 0, h => by simp [cutN] at h
  | k + 1, h => by
    unfold cutN at h ⊢
    rw [Nat.zero_add] at h ⊢
    cases hc : l.getD k Knd.u64.dflt == 0 with
    | false =>
      rw [hc] at h
      simp only [cond_false, Nat.add_sub_cancel]
      exact fun h0 => by rw [show l.getD k Knd.u64.dflt = (0 : Int) from h0] at hc; cases hc
    | true =>
      rw [hc] at h
      simp only [cond_true] at h ⊢
      exact cutN_last k h

end Go.Proofs.Ytnfhlfmcgeaagaa
