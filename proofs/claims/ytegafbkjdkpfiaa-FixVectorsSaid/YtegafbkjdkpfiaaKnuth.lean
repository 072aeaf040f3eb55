/- A long division's digit: plain laws on numbers. -/
import Derived.Test.YtegafbkjdkpfiaaLaw
namespace Go.Proofs.Ytegafbkjdkpfiaa
set_option linter.unusedSimpArgs false
set_option linter.unusedVariables false

/-- Where the loop for a digit stands: y = 2^32 h + l, u < y, the next digit d. -/
structure DigitAt (h l u d q r : Nat) : Prop where
  eq : q * h + r = u
  above : (u * 4294967296 + d) / (h * 4294967296 + l) ≤ q
  top : q ≤ 4294967297

structure DigitOk (h l u d : Nat) : Prop where
  h1 : 2147483648 ≤ h
  h2 : h < 4294967296
  l2 : l < 4294967296
  d2 : d < 4294967296
  u2 : u < h * 4294967296 + l

variable {h l u d q r : Nat}

theorem digit_small (k : DigitOk h l u d) : (u * 4294967296 + d) / (h * 4294967296 + l) < 4294967296 := by
  have h1 := k.u2; have h2 := k.d2
  rw [Nat.div_lt_iff_lt_mul (by have := k.h1; omega)]
  omega

theorem DigitAt.start (k : DigitOk h l u d) : DigitAt h l u d (u / h) (u % h) := by
  have hp : 0 < h := by have := k.h1; omega
  refine ⟨by rw [Nat.mul_comm]; exact Nat.div_add_mod u h, ?_, ?_⟩
  · refine Nat.le_trans (Nat.div_le_div_left (c := h * 4294967296) (by omega) (by omega)) ?_
    have e : (u * 4294967296 + d) / (h * 4294967296) = u / h := by
      rw [Nat.mul_comm h, ← Nat.div_div_eq_div_mul]
      congr 1
      have := k.d2
      omega
    rw [e]
    exact Nat.le_refl _
  · have h1 := k.u2; have h2 := k.l2; have h3 := k.h1
    have : u / h < 4294967298 := by
      rw [Nat.div_lt_iff_lt_mul hp]
      omega
    omega

/-- No more than the digit: it is the digit. -/
theorem DigitAt.done (k : DigitOk h l u d) (a : DigitAt h l u d q r) (hc : q * l ≤ 4294967296 * r + d) : q = (u * 4294967296 + d) / (h * 4294967296 + l) := by
  refine Nat.le_antisymm ?_ a.above
  rw [Nat.le_div_iff_mul_le (by have := k.h1; omega)]
  have e1 := a.eq
  have e2 : q * (h * 4294967296 + l) = (q * h) * 4294967296 + q * l := by rw [Nat.mul_add, Nat.mul_assoc]
  generalize q * h = qh at *
  generalize q * l = ql at *
  omega

/-- One less. -/
theorem DigitAt.less (k : DigitOk h l u d) (a : DigitAt h l u d q r) (hc : 4294967296 ≤ q ∨ 4294967296 * r + d < q * l) : 1 ≤ q ∧ DigitAt h l u d (q - 1) (r + h) := by
  have hlt : (u * 4294967296 + d) / (h * 4294967296 + l) < q := by
    rcases hc with hc | hc
    · exact Nat.lt_of_lt_of_le (digit_small k) hc
    · rw [Nat.div_lt_iff_lt_mul (by have := k.h1; omega)]
      have e1 := a.eq
      have e2 : q * (h * 4294967296 + l) = (q * h) * 4294967296 + q * l := by rw [Nat.mul_add, Nat.mul_assoc]
      generalize q * h = qh at *
      generalize q * l = ql at *
      omega
  have hq : 1 ≤ q := Nat.lt_of_le_of_lt (Nat.zero_le _) hlt
  refine ⟨hq, ?_, by omega, by have := a.top; omega⟩
  have e1 := a.eq
  have e2 : (q - 1) * h + h = q * h := by rw [← Nat.succ_mul]; congr 1; omega
  omega

/-- The rest has room no more: it is the digit. -/
theorem DigitAt.over (k : DigitOk h l u d) (a : DigitAt h l u d q r) (hq : q ≤ 4294967296) (hr : 4294967296 ≤ r) : q = (u * 4294967296 + d) / (h * 4294967296 + l) := by
  refine a.done k ?_
  have h1 := k.l2
  have h2 : q * l ≤ 4294967296 * 4294967295 := Nat.mul_le_mul hq (by omega)
  omega

theorem two_digits_gen (B : Nat) {y u d1 d0 : Nat} (hy : 0 < y) : (u * (B * B) + (d1 * B + d0)) / y = (u * B + d1) / y * B + ((u * B + d1) % y * B + d0) / y := by
  have e := Nat.div_add_mod (u * B + d1) y
  generalize (u * B + d1) / y = q at *
  generalize (u * B + d1) % y = r at *
  have e1 : u * (B * B) + (d1 * B + d0) = (u * B + d1) * B + d0 := by rw [Nat.add_mul, Nat.mul_assoc, Nat.add_assoc]
  have : u * (B * B) + (d1 * B + d0) = (r * B + d0) + y * (q * B) := by
    rw [e1, ← e, Nat.add_mul, ← Nat.mul_assoc]
    generalize y * q * B = yq
    generalize r * B = rb
    omega
  rw [this, Nat.add_mul_div_left _ _ hy, Nat.add_comm]

/-- A quotient by two digits. -/
theorem two_digits {y u d1 d0 : Nat} (hy : 0 < y) : (u * 18446744073709551616 + (d1 * 4294967296 + d0)) / y = (u * 4294967296 + d1) / y * 4294967296 + ((u * 4294967296 + d1) % y * 4294967296 + d0) / y :=
  two_digits_gen 4294967296 hy

theorem two_digits_mod_gen (B : Nat) {y u d1 d0 : Nat} : (u * (B * B) + (d1 * B + d0)) % y = ((u * B + d1) % y * B + d0) % y := by
  have e := Nat.div_add_mod (u * B + d1) y
  generalize (u * B + d1) / y = q at *
  generalize (u * B + d1) % y = r at *
  have e1 : u * (B * B) + (d1 * B + d0) = (u * B + d1) * B + d0 := by rw [Nat.add_mul, Nat.mul_assoc, Nat.add_assoc]
  have : u * (B * B) + (d1 * B + d0) = (r * B + d0) + y * (q * B) := by
    rw [e1, ← e, Nat.add_mul, ← Nat.mul_assoc]
    generalize y * q * B = yq
    generalize r * B = rb
    omega
  rw [this, Nat.add_mul_mod_self_left]
theorem two_digits_mod {y u d1 d0 : Nat} : (u * 18446744073709551616 + (d1 * 4294967296 + d0)) % y = ((u * 4294967296 + d1) % y * 4294967296 + d0) % y := two_digits_mod_gen 4294967296

/-- What Div64 reckons, ahead of its two digits. -/
theorem div_plan (hi lo y s : Nat) (hs : s ≤ 63) (hn1 : 9223372036854775808 ≤ y * 2 ^ s) (hn2 : y * 2 ^ s < 18446744073709551616) (hhi : hi < y) (hlo : lo < 18446744073709551616) :
    ∃ yN h l u v d1 d0 R1 : Nat, y * 2 ^ s = yN ∧ yN = h * 4294967296 + l ∧ DigitOk h l u d1 ∧ lo * 2 ^ s % 18446744073709551616 = v ∧ v = d1 * 4294967296 + d0 ∧ (hi * 2 ^ s ||| lo / 2 ^ (64 - s)) = u ∧
      hi * 2 ^ s < 18446744073709551616 ∧ (u * 4294967296 + d1) % yN = R1 ∧ DigitOk h l R1 d0 ∧
      (u * 4294967296 + d1) / yN * 4294967296 + (R1 * 4294967296 + d0) / yN = (hi * 18446744073709551616 + lo) / y ∧
      (R1 * 4294967296 + d0) % yN / 2 ^ s = (hi * 18446744073709551616 + lo) % y := by
  have hp : 0 < 2 ^ s := Nat.two_pow_pos s
  have hW : 2 ^ (64 - s) * 2 ^ s = 18446744073709551616 := by rw [← Nat.pow_add, show 64 - s + s = 64 by omega]
  have hdiv : lo * 2 ^ s / 18446744073709551616 = lo / 2 ^ (64 - s) := by rw [← hW, Nat.mul_div_mul_right _ _ hp]
  have hsmall : lo / 2 ^ (64 - s) < 2 ^ s := by
    rw [Nat.div_lt_iff_lt_mul (Nat.two_pow_pos _), Nat.mul_comm, hW]; exact hlo
  have hor : (hi * 2 ^ s ||| lo / 2 ^ (64 - s)) = hi * 2 ^ s + lo / 2 ^ (64 - s) := by
    have := Nat.two_pow_add_eq_or_of_lt hsmall hi
    rw [Nat.mul_comm hi, ← this]
  have hhp : (hi + 1) * 2 ^ s ≤ y * 2 ^ s := Nat.mul_le_mul_right _ hhi
  have hhp2 : (hi + 1) * 2 ^ s = hi * 2 ^ s + 2 ^ s := by rw [Nat.add_mul, Nat.one_mul]
  have hsum : (hi * 2 ^ s + lo / 2 ^ (64 - s)) * 18446744073709551616 + lo * 2 ^ s % 18446744073709551616 = (hi * 18446744073709551616 + lo) * 2 ^ s := by
    have e := Nat.div_add_mod (lo * 2 ^ s) 18446744073709551616
    rw [hdiv] at e
    have e2 : (hi * 18446744073709551616 + lo) * 2 ^ s = hi * 2 ^ s * 18446744073709551616 + lo * 2 ^ s := by
      rw [Nat.add_mul, Nat.mul_assoc, Nat.mul_comm 18446744073709551616, ← Nat.mul_assoc]
    rw [e2]
    generalize hi * 2 ^ s = A at *
    generalize lo * 2 ^ s = L at *
    generalize lo / 2 ^ (64 - s) = C at *
    omega
  have hu : hi * 2 ^ s + lo / 2 ^ (64 - s) < y * 2 ^ s := by
    generalize 2 ^ s = p at *
    omega
  have hhi2 : hi * 2 ^ s < 18446744073709551616 := by omega
  obtain ⟨yN, hyN⟩ : ∃ yN, y * 2 ^ s = yN := ⟨_, rfl⟩
  obtain ⟨u, hU⟩ : ∃ u, hi * 2 ^ s + lo / 2 ^ (64 - s) = u := ⟨_, rfl⟩
  obtain ⟨v, hv⟩ : ∃ v, lo * 2 ^ s % 18446744073709551616 = v := ⟨_, rfl⟩
  obtain ⟨N, hN⟩ : ∃ N, hi * 18446744073709551616 + lo = N := ⟨_, rfl⟩
  have hvW : v < 18446744073709551616 := by rw [← hv]; exact Nat.mod_lt _ (by decide)
  rw [hU, hv, hN] at hsum
  rw [hyN] at hn1 hn2 hu
  rw [hU] at hor hu
  have hq : (u * 18446744073709551616 + v) / yN = N / y := by rw [hsum, ← hyN, Nat.mul_div_mul_right _ _ hp]
  have hr : (u * 18446744073709551616 + v) % yN = N % y * 2 ^ s := by rw [hsum, ← hyN, Nat.mul_mod_mul_right]
  have hv2 : v = v / 4294967296 * 4294967296 + v % 4294967296 := by omega
  have hy2 : yN = yN / 4294967296 * 4294967296 + yN % 4294967296 := by omega
  have ok1 : DigitOk (yN / 4294967296) (yN % 4294967296) u (v / 4294967296) := ⟨by omega, by omega, by omega, by omega, by omega⟩
  have hpos : 0 < yN := by omega
  have hR1 : (u * 4294967296 + v / 4294967296) % yN < yN := Nat.mod_lt _ hpos
  have ok2 : DigitOk (yN / 4294967296) (yN % 4294967296) ((u * 4294967296 + v / 4294967296) % yN) (v % 4294967296) := ⟨by omega, by omega, by omega, by omega, by rw [← hy2]; exact hR1⟩
  refine ⟨yN, _, _, u, v, _, _, _, hyN, hy2, ok1, hv, hv2, hor, hhi2, rfl, ok2, ?_, ?_⟩
  · rw [← two_digits hpos, ← hv2, hq, hN]
  · rw [← two_digits_mod, ← hv2, hr, Nat.mul_div_cancel _ hp, hN]

/-- The rest behind a digit, reckoned in words. -/
theorem digit_rest (u d1 yN : Nat) (hy : yN < 18446744073709551616) (hy0 : 0 < yN) :
    (((u * 4294967296 % 18446744073709551616 + d1) % 18446744073709551616) + (18446744073709551616 - (u * 4294967296 + d1) / yN * yN % 18446744073709551616)) % 18446744073709551616 = (u * 4294967296 + d1) % yN := by
  have e := Nat.div_add_mod (u * 4294967296 + d1) yN
  have l := Nat.mod_lt (u * 4294967296 + d1) hy0
  rw [Nat.mul_comm yN] at e
  obtain ⟨Q, hQ⟩ : ∃ Q, (u * 4294967296 + d1) / yN * yN = Q := ⟨_, rfl⟩
  obtain ⟨R, hR⟩ : ∃ R, (u * 4294967296 + d1) % yN = R := ⟨_, rfl⟩
  rw [hQ, hR] at e
  rw [hR] at l
  rw [hQ, hR]
  omega

end Go.Proofs.Ytegafbkjdkpfiaa
