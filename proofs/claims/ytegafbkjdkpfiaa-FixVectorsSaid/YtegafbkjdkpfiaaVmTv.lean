/- The reference's digits: what products and greatest numbers are worth (plain). -/
import Derived.Test.YtegafbkjdkpfiaaVmDg
namespace Go.Proofs.Ytegafbkjdkpfiaa
set_option linter.unusedSimpArgs false
set_option linter.unusedVariables false
open Go.RowKit

/-- One row of a product: digits from the place i on grow by A times a row; what is carried. -/
def tmIn (A : Int) (g : Nat → Int) (i : Nat) : Nat → Nat → List Int → Int → List Int × Int
  | 0, _, O, c => (O, c)
  | m + 1, k, O, c => tmIn A g i m (k + 1) (O.set (i + k) ((O.getD (i + k) 0 + A * g k + c) % 65536)) ((O.getD (i + k) 0 + A * g k + c) / 65536)
/-- The rows of a product, one behind the other. -/
def tmOut (f g : Nat → Int) (lb : Nat) : Nat → Nat → List Int → List Int
  | 0, _, O => O
  | m + 1, i, O => tmOut f g lb m (i + 1) ((tmIn (f i) g i lb 0 O 0).1.set (i + lb) (tmIn (f i) g i lb 0 O 0).2)

theorem set_val : ∀ {O : List Int} {j : Nat} (v : Int), j < O.length → valL (O.set j v) = valL O + 65536 ^ j * (v - O.getD j 0)
  | [], j, v, h => by simp at h
  | d :: O, 0, v, h => by simp [valL]; omega
  | d :: O, j + 1, v, h => by
    rw [List.set_cons_succ, valL, valL, set_val v (by simpa using h), Int.pow_succ, List.getD_cons_succ]
    grind
theorem set_digs {O : List Int} (h : Digs O) (j : Nat) {v : Int} (hv : 0 ≤ v ∧ v < 65536) : Digs (O.set j v) := by
  intro d hd
  rcases List.mem_or_eq_of_mem_set hd with hd | rfl
  · exact h d hd
  · exact hv
theorem getD_in {O : List Int} (h : Digs O) (j : Nat) : 0 ≤ O.getD j 0 ∧ O.getD j 0 < 65536 := by
  have := dig_in h 0 j
  unfold dig at this
  rwa [Nat.zero_add] at this
theorem dig_prod {a b : Int} (ha : 0 ≤ a ∧ a < 65536) (hb : 0 ≤ b ∧ b < 65536) : 0 ≤ a * b ∧ a * b ≤ 4294836225 := by
  have h1 := Int.mul_nonneg ha.1 hb.1
  have h2 := Int.mul_le_mul (show a ≤ 65535 by omega) (show b ≤ 65535 by omega) hb.1 (by omega)
  exact ⟨h1, by omega⟩
theorem tm_step {o a b c : Int} (ho : 0 ≤ o ∧ o < 65536) (ha : 0 ≤ a ∧ a < 65536) (hb : 0 ≤ b ∧ b < 65536) (hc : 0 ≤ c ∧ c < 65536) :
    0 ≤ o + a * b + c ∧ o + a * b + c < 4294967296 ∧ (0 ≤ (o + a * b + c) % 65536 ∧ (o + a * b + c) % 65536 < 65536) ∧ (0 ≤ (o + a * b + c) / 65536 ∧ (o + a * b + c) / 65536 < 65536) := by
  have := dig_prod ha hb
  generalize a * b = P at this ⊢
  omega
theorem tmIn_len (A : Int) (g : Nat → Int) (i : Nat) : ∀ (m k : Nat) (O : List Int) (c : Int), (tmIn A g i m k O c).1.length = O.length
  | 0, _, _, _ => rfl
  | m + 1, k, O, c => by unfold tmIn; rw [tmIn_len, List.length_set]
theorem tmIn_in {A : Int} {g : Nat → Int} {i : Nat} (hA : 0 ≤ A ∧ A < 65536) (hg : ∀ i, 0 ≤ g i ∧ g i < 65536) : ∀ (m k : Nat) (O : List Int) (c : Int), Digs O → 0 ≤ c ∧ c < 65536 →
    Digs (tmIn A g i m k O c).1 ∧ 0 ≤ (tmIn A g i m k O c).2 ∧ (tmIn A g i m k O c).2 < 65536
  | 0, _, _, _, hO, hc => ⟨hO, hc⟩
  | m + 1, k, O, c, hO, hc => by
    obtain ⟨_, _, h3, h4⟩ := tm_step (getD_in hO (i + k)) hA (hg k) hc
    exact tmIn_in hA hg m (k + 1) _ _ (set_digs hO _ h3) h4
theorem tmIn_far (A : Int) (g : Nat → Int) (i : Nat) : ∀ (m k : Nat) (O : List Int) (c : Int) (j : Nat), i + k + m ≤ j → (tmIn A g i m k O c).1.getD j 0 = O.getD j 0
  | 0, _, _, _, _, _ => rfl
  | m + 1, k, O, c, j, hj => by
    unfold tmIn
    rw [tmIn_far A g i m (k + 1) _ _ j (by omega), List.getD_eq_getElem?_getD, List.getElem?_set_ne (by omega), ← List.getD_eq_getElem?_getD]
theorem tmIn_val (A : Int) (g : Nat → Int) (i : Nat) : ∀ (m k : Nat) (O : List Int) (c : Int), i + k + m ≤ O.length →
    valL (tmIn A g i m k O c).1 + 65536 ^ (i + k + m) * (tmIn A g i m k O c).2 = valL O + 65536 ^ (i + k) * (c + A * valF g m k)
  | 0, k, O, c, h => by simp [tmIn, valF]
  | m + 1, k, O, c, h => by
    have ih := tmIn_val A g i m (k + 1) (O.set (i + k) ((O.getD (i + k) 0 + A * g k + c) % 65536)) ((O.getD (i + k) 0 + A * g k + c) / 65536) (by rw [List.length_set]; omega)
    rw [set_val _ (by omega), show i + (k + 1) + m = i + k + (m + 1) by omega, show i + (k + 1) = i + k + 1 by omega, Int.pow_succ] at ih
    unfold tmIn
    rw [ih]
    rw [valF]
    have hd := Int.emod_add_mul_ediv (O.getD (i + k) 0 + A * g k + c) 65536
    generalize (O.getD (i + k) 0 + A * g k + c) % 65536 = R at hd ⊢
    generalize (O.getD (i + k) 0 + A * g k + c) / 65536 = Q at hd ⊢
    generalize valF g m (k + 1) = V
    generalize (65536 : Int) ^ (i + k) = P
    generalize valL O = S
    generalize O.getD (i + k) 0 = o at hd ⊢
    obtain rfl : R = o + A * g k + c - 65536 * Q := by omega
    grind
theorem tmOut_len (f g : Nat → Int) (lb : Nat) : ∀ (m i : Nat) (O : List Int), (tmOut f g lb m i O).length = O.length
  | 0, _, _ => rfl
  | m + 1, i, O => by unfold tmOut; rw [tmOut_len, List.length_set, tmIn_len]
theorem tmOut_in {f g : Nat → Int} {lb : Nat} (hf : ∀ i, 0 ≤ f i ∧ f i < 65536) (hg : ∀ i, 0 ≤ g i ∧ g i < 65536) : ∀ (m i : Nat) (O : List Int), Digs O → Digs (tmOut f g lb m i O)
  | 0, _, _, h => h
  | m + 1, i, O, h => by
    obtain ⟨h1, h2⟩ := tmIn_in (i := i) (hf i) hg lb 0 O 0 h (by omega)
    exact tmOut_in hf hg m (i + 1) _ (set_digs h1 _ h2)
theorem tmOut_val (f g : Nat → Int) (lb : Nat) : ∀ (m i : Nat) (O : List Int), i + m + lb < O.length + 1 → (∀ j, i + lb ≤ j → O.getD j 0 = 0) →
    valL (tmOut f g lb m i O) = valL O + 65536 ^ i * (valF f m i * valF g lb 0)
  | 0, i, O, _, _ => by simp [tmOut, valF]
  | m + 1, i, O, hl, hz => by
    have hv := tmIn_val (f i) g i lb 0 O 0 (by omega)
    have hfar := tmIn_far (f i) g i lb 0 O 0
    unfold tmOut
    rw [tmOut_val f g lb m (i + 1) _ (by rw [List.length_set, tmIn_len]; omega) fun j hj => ?_]
    · rw [set_val _ (by rw [tmIn_len]; omega), hfar (i + lb) (by omega), hz (i + lb) (Nat.le_refl _), Int.pow_succ, valF]
      rw [Nat.add_zero] at hv
      generalize valL (tmIn (f i) g i lb 0 O 0).1 = X at hv ⊢
      generalize (tmIn (f i) g i lb 0 O 0).2 = Y at hv ⊢
      generalize (65536 : Int) ^ (i + lb) = Z at hv ⊢
      generalize (65536 : Int) ^ i = P at hv ⊢
      generalize valF g lb 0 = G at hv ⊢
      generalize valF f m (i + 1) = F
      generalize valL O = S at hv ⊢
      obtain rfl : X = S + P * (0 + f i * G) - Z * Y := by omega
      grind
    · rw [List.getD_eq_getElem?_getD, List.getElem?_set_ne (by omega), ← List.getD_eq_getElem?_getD, hfar j (by omega)]
      exact hz j (by omega)
/-- A product's digits, as many as both rows have, and one more. -/
def timesD (xs ys : List Int) (oa la ob lb : Nat) : List Int := tmOut (dig xs oa) (dig ys ob) lb la 0 (List.replicate (la + lb + 1) 0)
theorem zeros_digs (n : Nat) : Digs (List.replicate n 0) := fun d hd => by rw [List.eq_of_mem_replicate hd]; omega
theorem zeros_val : ∀ n : Nat, valL (List.replicate n 0) = 0
  | 0 => rfl
  | n + 1 => by rw [List.replicate_succ, valL, zeros_val n]; rfl
theorem zeros_get (n j : Nat) : (List.replicate n (0 : Int)).getD j 0 = 0 := by
  rw [List.getD_eq_getElem?_getD, List.getElem?_replicate]
  split <;> rfl
theorem timesD_len (xs ys : List Int) (oa la ob lb : Nat) : (timesD xs ys oa la ob lb).length = la + lb + 1 := by
  unfold timesD
  rw [tmOut_len, List.length_replicate]
def timesL (xs ys : List Int) (oa la ob lb : Nat) : List Int := (timesD xs ys oa la ob lb).take (cutN (timesD xs ys oa la ob lb) (la + lb + 1))
theorem timesL_val {xs ys : List Int} (hx : Digs xs) (hy : Digs ys) (oa la ob lb : Nat) : valL (timesL xs ys oa la ob lb) = valF (dig xs oa) la 0 * valF (dig ys ob) lb 0 ∧ Digs (timesL xs ys oa la ob lb) := by
  have hD : Digs (timesD xs ys oa la ob lb) := tmOut_in (dig_in hx oa) (dig_in hy ob) la 0 _ (zeros_digs _)
  refine ⟨?_, digs_take hD _⟩
  unfold timesL
  rw [cutN_val _ (by rw [timesD_len]; omega), List.take_of_length_le (by rw [timesD_len]; omega)]
  unfold timesD
  rw [tmOut_val _ _ lb la 0 _ (by rw [List.length_replicate]; omega) fun j _ => zeros_get _ j, zeros_val]
  simp
theorem timesL_len (xs ys : List Int) (oa la ob lb : Nat) : (timesL xs ys oa la ob lb).length = cutN (timesD xs ys oa la ob lb) (la + lb + 1) := by
  unfold timesL
  rw [List.length_take, timesD_len]
  have := cutN_le (timesD xs ys oa la ob lb) (la + lb + 1)
  omega
theorem timesL_get (xs ys : List Int) (oa la ob lb : Nat) {i : Nat} (hi : i < (timesL xs ys oa la ob lb).length) : (timesD xs ys oa la ob lb)[0 + i]? = (timesL xs ys oa la ob lb)[i]? := by
  rw [Nat.zero_add]
  rw [timesL_len] at hi
  unfold timesL
  rw [List.getElem?_take, if_pos hi]
theorem cut_trim {l : List Int} {n : Nat} (hn : n ≤ l.length) : Trim (l.take (cutN l n)) := by
  have hle := cutN_le l n
  intro h0
  rw [List.length_take] at h0 ⊢
  have h1 := cutN_last (l := l) n (by omega)
  rw [show min (cutN l n) l.length = cutN l n by omega, List.getD_eq_getElem?_getD, List.getElem?_take, if_pos (by omega), ← List.getD_eq_getElem?_getD]
  exact h1
theorem timesL_trim (xs ys : List Int) (oa la ob lb : Nat) : Trim (timesL xs ys oa la ob lb) := cut_trim (by rw [timesD_len]; omega)

/-! The greatest number below 2^64 of which something holds that holds of all below. -/
def grGo (P : Int → Bool) : Nat → Int → Int
  | 0, n => n
  | k + 1, n => grGo P k (bif P (n + 2 ^ k) then n + 2 ^ k else n)
theorem grGo_spec {P : Int → Bool} (hP : ∀ x y, 0 ≤ y → y ≤ x → P x = true → P y = true) : ∀ (k : Nat) (n : Int), 0 ≤ n → P n = true →
    P (grGo P k n) = true ∧ n ≤ grGo P k n ∧ grGo P k n < n + 2 ^ k ∧ ∀ x, n ≤ x → x < n + 2 ^ k → P x = true → x ≤ grGo P k n
  | 0, n, h0, h => ⟨h, Int.le_refl _, by simp only [grGo, Int.pow_zero]; omega, fun x h1 h2 _ => by simp [grGo] at *; omega⟩
  | k + 1, n, h0, h => by
    have hp : (0 : Int) < 2 ^ k := Int.pow_pos (by omega)
    unfold grGo
    rw [Int.pow_succ]
    cases hc : P (n + 2 ^ k) with
    | true =>
      simp only [cond_true]
      obtain ⟨h1, h2, h3, h4⟩ := grGo_spec hP k (n + 2 ^ k) (by omega) hc
      refine ⟨h1, by omega, by omega, fun x x1 x2 x3 => ?_⟩
      rcases Int.lt_or_le x (n + 2 ^ k) with hx | hx
      · omega
      · exact h4 x hx (by omega) x3
    | false =>
      simp only [cond_false]
      obtain ⟨h1, h2, h3, h4⟩ := grGo_spec hP k n h0 h
      refine ⟨h1, by omega, by omega, fun x x1 x2 x3 => ?_⟩
      rcases Int.lt_or_le x (n + 2 ^ k) with hx | hx
      · exact h4 x x1 hx x3
      · have := hP x (n + 2 ^ k) (by omega) hx x3
        rw [this] at hc; cases hc

end Go.Proofs.Ytegafbkjdkpfiaa
