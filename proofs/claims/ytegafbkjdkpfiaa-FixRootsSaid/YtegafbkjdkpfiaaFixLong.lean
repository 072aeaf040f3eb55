/- Lengths and products of vectors: plain laws. -/
import Derived.Test.YtegafbkjdkpfiaaFixUnits
import Derived.Test.YtegafbkjdkpfiaaOpen2
namespace Go.Proofs.Ytegafbkjdkpfiaa
set_option linter.unusedSimpArgs false
set_option linter.unusedVariables false
open Go.RowKit

theorem lagrange (a b c p q r : Int) : (a*p+b*q+c*r)*(a*p+b*q+c*r) + ((a*q-b*p)*(a*q-b*p) + (a*r-c*p)*(a*r-c*p) + (b*r-c*q)*(b*r-c*q)) = (a*a+b*b+c*c)*(p*p+q*q+r*r) := by grind
theorem sqn (a : Int) : 0 ≤ a * a := by
  rcases Int.le_total 0 a with h | h
  · exact Int.mul_nonneg h h
  · have := Int.mul_nonneg (Int.neg_nonneg_of_nonpos h) (Int.neg_nonneg_of_nonpos h); grind
theorem cs (a b c p q r : Int) : (a*p+b*q+c*r)*(a*p+b*q+c*r) ≤ (a*a+b*b+c*c)*(p*p+q*q+r*r) := by
  rw [← lagrange]
  have h1 := sqn (a*q-b*p); have h2 := sqn (a*r-c*p); have h3 := sqn (b*r-c*q)
  generalize (a*p+b*q+c*r)*(a*p+b*q+c*r) = X
  generalize (a*q-b*p)*(a*q-b*p) = Y at *
  generalize (a*r-c*p)*(a*r-c*p) = Z at *
  generalize (b*r-c*q)*(b*r-c*q) = T at *
  omega
/-- |x| < y from x² < y². -/
theorem abs_lt_of_sq {x y : Int} (hy : 0 ≤ y) (h : x * x < y * y) : x < y := by
  by_cases hh : x < y
  · exact hh
  · have h1 : y ≤ x := by omega
    have := Int.mul_le_mul h1 h1 hy (by omega)
    omega
theorem triangle (a b c p q r n m k : Int) (hn : 0 ≤ n) (hm : 0 ≤ m) (hA : a*a+b*b+c*c < (n+1)*(n+1)) (hB : p*p+q*q+r*r < (m+1)*(m+1))
   (hk : k*k ≤ (a+p)*(a+p)+(b+q)*(b+q)+(c+r)*(c+r)) : k ≤ n + m + 1 := by
  have hcs := cs a b c p q r
  have hlt : (a*p+b*q+c*r)*(a*p+b*q+c*r) < ((n+1)*(m+1))*((n+1)*(m+1)) := by
    refine Int.lt_of_le_of_lt hcs ?_
    have e : ((n+1)*(m+1))*((n+1)*(m+1)) = ((n+1)*(n+1))*((m+1)*(m+1)) := by grind
    rw [e]
    have hA0 : 0 ≤ a*a+b*b+c*c := by have := sqn a; have := sqn b; have := sqn c; omega
    have hB0 : 0 ≤ p*p+q*q+r*r := by have := sqn p; have := sqn q; have := sqn r; omega
    generalize a*a+b*b+c*c = A at *
    generalize p*p+q*q+r*r = B at *
    generalize (n+1)*(n+1) = N at *
    generalize (m+1)*(m+1) = M at *
    have h1 : A * B ≤ A * (M - 1) := Int.mul_le_mul_of_nonneg_left (by omega) hA0
    have h2 : A * (M - 1) ≤ (N - 1) * (M - 1) := Int.mul_le_mul_of_nonneg_right (by omega) (by omega)
    have e2 : (N - 1) * (M - 1) = N * M - N - M + 1 := by grind
    omega
  have hd := abs_lt_of_sq (Int.mul_nonneg (by omega) (by omega)) hlt
  have e : (a+p)*(a+p)+(b+q)*(b+q)+(c+r)*(c+r) = (a*a+b*b+c*c) + (p*p+q*q+r*r) + 2*(a*p+b*q+c*r) := by grind
  rw [e] at hk
  have e3 : (n+m+2)*(n+m+2) = (n+1)*(n+1) + (m+1)*(m+1) + 2*((n+1)*(m+1)) := by grind
  have : k < n + m + 2 := by
    refine abs_lt_of_sq (by omega) ?_
    rw [e3]
    generalize a*a+b*b+c*c = A at *
    generalize p*p+q*q+r*r = B at *
    generalize (n+1)*(n+1) = N at *
    generalize (m+1)*(m+1) = M at *
    omega
  omega

def V3.sq (a : V3) : Int := a.x * a.x + a.y * a.y + a.z * a.z
theorem upV_sq (a : V3) : ((upV a a : Nat) : Int) = a.sq := by
  unfold upV V3.sq
  rw [upN_self, upN_self, upN_self, Int.natCast_add, Int.natCast_add, Int.natAbs_mul_self, Int.natAbs_mul_self, Int.natAbs_mul_self]
noncomputable def V3.len (a : V3) : Int := ((rootN (upV a a) : Nat) : Int)
theorem len_spec (a : V3) : 0 ≤ a.len ∧ a.len * a.len ≤ a.sq ∧ a.sq < (a.len + 1) * (a.len + 1) := by
  have h := rootN_spec (upV a a)
  refine ⟨Int.natCast_nonneg _, ?_, ?_⟩
  · rw [← upV_sq]
    exact Int.ofNat_le.2 h.1
  · rw [← upV_sq]
    have := Int.ofNat_lt.2 h.2
    exact this
/-- A length is no more than what its square does not pass. -/
theorem len_le {a : V3} {k : Int} (hk : 0 ≤ k) (h : a.sq < (k + 1) * (k + 1)) : a.len ≤ k := by
  have h1 := len_spec a
  have := abs_lt_of_sq (x := a.len) (y := k + 1) (by omega) (by omega)
  omega
theorem le_len {a : V3} {k : Int} (h : k * k ≤ a.sq) : k ≤ a.len := by
  have h1 := len_spec a
  have := abs_lt_of_sq (x := k) (y := a.len + 1) (by omega) (by omega)
  omega
theorem sq_bound {x : Int} {b : Int} (h1 : -b ≤ x) (h2 : x ≤ b) : x * x ≤ b * b := by
  have h3 : 0 ≤ b := by omega
  rcases Int.le_total 0 x with h | h
  · exact Int.mul_le_mul h2 h2 h h3
  · have := Int.mul_le_mul (a := -x) (b := -x) (c := b) (d := b) (by omega) (by omega) (by omega) (by omega)
    grind
def V3.within (a : V3) (b : Int) : Prop := (-b ≤ a.x ∧ a.x ≤ b) ∧ (-b ≤ a.y ∧ a.y ≤ b) ∧ (-b ≤ a.z ∧ a.z ≤ b)
theorem sq_within {a : V3} (h : a.within 2147483648) : a.sq ≤ 13835058055282163712 := by
  have h1 := sq_bound h.1.1 h.1.2
  have h2 := sq_bound h.2.1.1 h.2.1.2
  have h3 := sq_bound h.2.2.1 h.2.2.2
  unfold V3.sq
  omega
theorem len_within {a : V3} (h : a.within 2147483648) : a.len < 4294967296 := by
  have h1 := sq_within h
  have := len_le (a := a) (k := 4294967295) (by omega) (by omega)
  omega
theorem within_fits {a : V3} (h : a.within 2147483648) : a.fits := by
  unfold V3.within at h
  refine ⟨?_, ?_, ?_⟩ <;> (unfold In64; omega)
theorem long_len {a : V3} (h : a.within 2147483648) (w : World) : Calls Try.prog 17 #[a.v] w (Ret w (I a.len)) := by
  refine Ret.val (long_any a w (within_fits h)) (congrArg I ?_)
  have h1 := len_within h
  unfold V3.len at h1 ⊢
  unfold signedN
  rw [if_neg (by decide)]
  omega

end Go.Proofs.Ytegafbkjdkpfiaa
