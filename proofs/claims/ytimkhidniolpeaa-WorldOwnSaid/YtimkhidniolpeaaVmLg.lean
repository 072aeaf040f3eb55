/- Roots and lengths: plain. Lengths of vectors: plain laws. -/
import Derived.Test.YtimkhidniolpeaaFx
namespace Go.Proofs.Ytimkhidniolpeaa
set_option linter.unusedSimpArgs false
set_option linter.unusedVariables false
set_option maxRecDepth 100000
set_option maxHeartbeats 0
open Go.RowKit

def IsRoot (W r : Nat) : Prop := r * r ≤ W ∧ W < (r + 1) * (r + 1)
theorem root_unique {W r s : Nat} (hr : IsRoot W r) (hs : IsRoot W s) : r = s := by
 rcases Nat.lt_trichotomy r s with h | h | h
 · have : (r + 1) * (r + 1) ≤ s * s := Nat.mul_le_mul h h
   have h1 := hr.2; have h2 := hs.1; omega
 · exact h
 · have : (s + 1) * (s + 1) ≤ r * r := Nat.mul_le_mul h h
   have h1 := hs.2; have h2 := hr.1; omega
theorem rootGo_spec {W : Nat} : ∀ (k n : Nat), n * n ≤ W → W < (n + 2 ^ k) * (n + 2 ^ k) → IsRoot W (rootGo W k n)
 | 0, n, h1, h2 => ⟨h1, by simpa [rootGo] using h2⟩
 | k + 1, n, h1, h2 => by
  rw [rootGo]
  cases hb : Nat.ble ((n + 2 ^ k) * (n + 2 ^ k)) W with
  | true =>
   refine rootGo_spec k (n + 2 ^ k) (Nat.le_of_ble_eq_true hb) ?_
   rw [show n + 2 ^ k + 2 ^ k = n + 2 ^ (k + 1) by rw [Nat.pow_succ]; omega]
   exact h2
  | false =>
   refine rootGo_spec k n h1 ?_
   rcases Nat.lt_or_ge W ((n + 2 ^ k) * (n + 2 ^ k)) with h | h
   · exact h
   · rw [Nat.ble_eq_true_of_le h] at hb; cases hb
theorem rootC_spec {W : Nat} (h : W < 340282366920938463463374607431768211456) : IsRoot W (rootC W) := rootGo_spec 64 0 (Nat.zero_le _) (by
 have : (0 + 2 ^ 64) * (0 + 2 ^ 64) = 340282366920938463463374607431768211456 := by decide
 omega)
theorem sqN_lt {a : V3} (h : a.fits) : sqN a < 340282366920938463463374607431768211456 := by
 have le : ∀ x : Int, In64 x → x.natAbs * x.natAbs ≤ 85070591730234615865843651857942052864 := fun x hx => by unfold In64 at hx; exact Nat.mul_le_mul (show x.natAbs ≤ 9223372036854775808 by omega) (show x.natAbs ≤ 9223372036854775808 by omega)
 have h1 := le _ h.1
 have h2 := le _ h.2.1
 have h3 := le _ h.2.2
 unfold sqN
 omega

end Go.Proofs.Ytimkhidniolpeaa

namespace Go.Proofs.Ytimkhidniolpeaa
set_option linter.unusedSimpArgs false
set_option linter.unusedVariables false
set_option maxRecDepth 100000
set_option maxHeartbeats 0
open Go.RowKit

theorem sq_lt {x y : Int} (hy : 0 ≤ y) (h : x * x < y * y) : x < y := by
 rcases Int.lt_or_le x y with h1 | h1
 · exact h1
 · have := Int.mul_le_mul h1 h1 hy (by omega)
   omega
def V3.sq (a : V3) : Int := a.x * a.x + a.y * a.y + a.z * a.z
theorem upV_sq (a : V3) : ((sqN a : Nat) : Int) = a.sq := by
 unfold sqN V3.sq
 rw [Int.natCast_add, Int.natCast_add, Int.natAbs_mul_self, Int.natAbs_mul_self, Int.natAbs_mul_self]
theorem sq_bound {x : Int} {b : Int} (h1 : -b ≤ x) (h2 : x ≤ b) : x * x ≤ b * b := by
 have h3 : 0 ≤ b := by omega
 rcases Int.le_total 0 x with h | h
 · exact Int.mul_le_mul h2 h2 h h3
 · have := Int.mul_le_mul (a := -x) (b := -x) (c := b) (d := b) (by omega) (by omega) (by omega) (by omega)
   grind
theorem sq_pos {x : Int} (h : x ≠ 0) : 0 < x * x := by
 rcases Int.lt_trichotomy x 0 with h1 | h1 | h1
 · exact Int.mul_pos_of_neg_of_neg h1 h1
 · exact absurd h1 h
 · exact Int.mul_pos h1 h1
theorem sq_nonneg (x : Int) : 0 ≤ x * x := by
 by_cases h : x = 0
 · subst h; omega
 · exact Int.le_of_lt (sq_pos h)
def V3.within (a : V3) (b : Int) : Prop := (-b ≤ a.x ∧ a.x ≤ b) ∧ (-b ≤ a.y ∧ a.y ≤ b) ∧ (-b ≤ a.z ∧ a.z ≤ b)
theorem sq_within {a : V3} (h : a.within 2147483648) : a.sq ≤ 13835058055282163712 := by
 have h1 := sq_bound h.1.1 h.1.2
 have h2 := sq_bound h.2.1.1 h.2.1.2
 have h3 := sq_bound h.2.2.1 h.2.2.2
 unfold V3.sq
 omega
theorem within_fits {a : V3} (h : a.within 2147483648) : a.fits := by
 unfold V3.within at h
 refine ⟨?_, ?_, ?_⟩ <;> (unfold In64; omega)
theorem long_spec {a : V3} (h : a.within 2147483648) : 0 ≤ a.long ∧ a.long < 4294967296 ∧ a.long * a.long ≤ a.sq ∧ a.sq < (a.long + 1) * (a.long + 1) := by
 have hr : IsRoot (sqN a) (rootC (sqN a)) := rootC_spec (sqN_lt (within_fits h))
 have h1 := Int.ofNat_le.2 hr.1
 have h2 := Int.ofNat_lt.2 hr.2
 have h3 := sq_within h
 rw [Int.natCast_mul, upV_sq] at h1
 rw [Int.natCast_mul, Int.natCast_add, upV_sq] at h2
 have hlt : ((rootC (sqN a) : Nat) : Int) < 4294967296 := sq_lt (by omega) (by omega)
 have e : a.long = ((rootC (sqN a) : Nat) : Int) := by
  unfold V3.long
  omega
 rw [e]
 exact ⟨Int.natCast_nonneg _, hlt, h1, by simpa using h2⟩
theorem axis_le_long {a : V3} (h : a.within 2147483648) {x : Int} (hx : x * x ≤ a.sq) : x ≤ a.long ∧ -x ≤ a.long := by
 obtain ⟨h0, _, _, h2⟩ := long_spec h
 have e : (-x) * (-x) = x * x := by grind
 have h3 := sq_lt (x := x) (y := a.long + 1) (by omega) (by omega)
 have h4 := sq_lt (x := -x) (y := a.long + 1) (by omega) (by omega)
 omega
theorem axes_sq (a : V3) : a.x * a.x ≤ a.sq ∧ a.y * a.y ≤ a.sq ∧ a.z * a.z ≤ a.sq := by
 have h1 := sq_nonneg a.x
 have h2 := sq_nonneg a.y
 have h3 := sq_nonneg a.z
 unfold V3.sq
 omega
theorem long_pos {a : V3} (h : a.within 2147483648) (h0 : ¬ (a.x = 0 ∧ a.y = 0 ∧ a.z = 0)) : 0 < a.long := by
 have hs := axes_sq a
 have h1 := axis_le_long h hs.1
 have h2 := axis_le_long h hs.2.1
 have h3 := axis_le_long h hs.2.2
 omega
theorem long_neg (a b : V3) (h : a.sq = b.sq) : a.long = b.long := by
 unfold V3.long
 have : sqN a = sqN b := by
  have h1 := upV_sq a
  have h2 := upV_sq b
  omega
 rw [this]

end Go.Proofs.Ytimkhidniolpeaa
