/- The reference's digits: what products and greatest numbers are worth (plain). The reference's digits: cut of a row with its own room; times, walked. The reference's digits: greatest. The reference's digits: Product, Sqrt, Div as contracts. The reference's digits: Mul, Dot, Long, Times, Neg as contracts. The reference's Long, as a contract. -/
import Derived.Test.YtboljdeeodeeeaaVmDg
import Derived.Test.YtboljdeeodeeeaaFixG
import Derived.Test.YtboljdeeodeeeaaVmLg
namespace Go.Proofs.Ytboljdeeodeeeaa
set_option linter.unusedSimpArgs false
set_option linter.unusedVariables false
set_option maxRecDepth 100000
open Go.RowKit

/-- One row of a product: digits from the place i on grow by A times a row; what is carried. -/
def tmIn (A : Int) (g : Nat → Int) (i : Nat) : Nat → Nat → List Int → Int → List Int × Int
  | 0, _, O, c => (O, c)
  | m + 1, k, O, c => tmIn A g i m (k + 1) (O.set (i + k) ((O.getD (i + k) 0 + A * g k + c) % 65536)) ((O.getD (i + k) 0 + A * g k + c) / 65536)
/-- The rows of a product, one behind the other. -/
def tmOut (f g : Nat → Int) (lb : Nat) : Nat → Nat → List Int → List Int
  | 0, _, O => O
  | m + 1, i, O => tmOut f g lb m (i + 1) ((tmIn (f i) g i lb 0 O 0).1.set (i + lb) (tmIn (f i) g i lb 0 O 0).2)

theorem set_val : ∀ {O : List Int} {j : Nat} (v : Int), j < O.length → valL (O.set j v) = valL O + 65536 ^ j * (v - O.getD j 0)
  | [], j, v, h => by simp at h
  | d :: O, 0, v, h => by simp [valL]; omega
  | d :: O, j + 1, v, h => by
    rw [List.set_cons_succ, valL, valL, set_val v (by simpa using h), Int.pow_succ, List.getD_cons_succ]
    grind
theorem set_digs {O : List Int} (h : Digs O) (j : Nat) {v : Int} (hv : 0 ≤ v ∧ v < 65536) : Digs (O.set j v) := by
  intro d hd
  rcases List.mem_or_eq_of_mem_set hd with hd | rfl
  · exact h d hd
  · exact hv
theorem getD_in {O : List Int} (h : Digs O) (j : Nat) : 0 ≤ O.getD j 0 ∧ O.getD j 0 < 65536 := by
  have := dig_in h 0 j
  unfold dig at this
  rwa [Nat.zero_add] at this
theorem dig_prod {a b : Int} (ha : 0 ≤ a ∧ a < 65536) (hb : 0 ≤ b ∧ b < 65536) : 0 ≤ a * b ∧ a * b ≤ 4294836225 := by
  have h1 := Int.mul_nonneg ha.1 hb.1
  have h2 := Int.mul_le_mul (show a ≤ 65535 by omega) (show b ≤ 65535 by omega) hb.1 (by omega)
  exact ⟨h1, by omega⟩
theorem tm_step {o a b c : Int} (ho : 0 ≤ o ∧ o < 65536) (ha : 0 ≤ a ∧ a < 65536) (hb : 0 ≤ b ∧ b < 65536) (hc : 0 ≤ c ∧ c < 65536) :
    0 ≤ o + a * b + c ∧ o + a * b + c < 4294967296 ∧ (0 ≤ (o + a * b + c) % 65536 ∧ (o + a * b + c) % 65536 < 65536) ∧ (0 ≤ (o + a * b + c) / 65536 ∧ (o + a * b + c) / 65536 < 65536) := by
  have := dig_prod ha hb
  generalize a * b = P at this ⊢
  omega
theorem tmIn_len (A : Int) (g : Nat → Int) (i : Nat) : ∀ (m k : Nat) (O : List Int) (c : Int), (tmIn A g i m k O c).1.length = O.length
  | 0, _, _, _ => rfl
  | m + 1, k, O, c => by unfold tmIn; rw [tmIn_len, List.length_set]
theorem tmIn_in {A : Int} {g : Nat → Int} {i : Nat} (hA : 0 ≤ A ∧ A < 65536) (hg : ∀ i, 0 ≤ g i ∧ g i < 65536) : ∀ (m k : Nat) (O : List Int) (c : Int), Digs O → 0 ≤ c ∧ c < 65536 →
    Digs (tmIn A g i m k O c).1 ∧ 0 ≤ (tmIn A g i m k O c).2 ∧ (tmIn A g i m k O c).2 < 65536
  | 0, _, _, _, hO, hc => ⟨hO, hc⟩
  | m + 1, k, O, c, hO, hc => by
    obtain ⟨_, _, h3, h4⟩ := tm_step (getD_in hO (i + k)) hA (hg k) hc
    exact tmIn_in hA hg m (k + 1) _ _ (set_digs hO _ h3) h4
theorem tmIn_far (A : Int) (g : Nat → Int) (i : Nat) : ∀ (m k : Nat) (O : List Int) (c : Int) (j : Nat), i + k + m ≤ j → (tmIn A g i m k O c).1.getD j 0 = O.getD j 0
  | 0, _, _, _, _, _ => rfl
  | m + 1, k, O, c, j, hj => by
    unfold tmIn
    rw [tmIn_far A g i m (k + 1) _ _ j (by omega), List.getD_eq_getElem?_getD, List.getElem?_set_ne (by omega), ← List.getD_eq_getElem?_getD]
theorem tmIn_val (A : Int) (g : Nat → Int) (i : Nat) : ∀ (m k : Nat) (O : List Int) (c : Int), i + k + m ≤ O.length →
    valL (tmIn A g i m k O c).1 + 65536 ^ (i + k + m) * (tmIn A g i m k O c).2 = valL O + 65536 ^ (i + k) * (c + A * valF g m k)
  | 0, k, O, c, h => by simp [tmIn, valF]
  | m + 1, k, O, c, h => by
    have ih := tmIn_val A g i m (k + 1) (O.set (i + k) ((O.getD (i + k) 0 + A * g k + c) % 65536)) ((O.getD (i + k) 0 + A * g k + c) / 65536) (by rw [List.length_set]; omega)
    rw [set_val _ (by omega), show i + (k + 1) + m = i + k + (m + 1) by omega, show i + (k + 1) = i + k + 1 by omega, Int.pow_succ] at ih
    unfold tmIn
    rw [ih]
    rw [valF]
    have hd := Int.emod_add_mul_ediv (O.getD (i + k) 0 + A * g k + c) 65536
    generalize (O.getD (i + k) 0 + A * g k + c) % 65536 = R at hd ⊢
    generalize (O.getD (i + k) 0 + A * g k + c) / 65536 = Q at hd ⊢
    generalize valF g m (k + 1) = V
    generalize (65536 : Int) ^ (i + k) = P
    generalize valL O = S
    generalize O.getD (i + k) 0 = o at hd ⊢
    obtain rfl : R = o + A * g k + c - 65536 * Q := by omega
    grind
theorem tmOut_len (f g : Nat → Int) (lb : Nat) : ∀ (m i : Nat) (O : List Int), (tmOut f g lb m i O).length = O.length
  | 0, _, _ => rfl
  | m + 1, i, O => by unfold tmOut; rw [tmOut_len, List.length_set, tmIn_len]
theorem tmOut_in {f g : Nat → Int} {lb : Nat} (hf : ∀ i, 0 ≤ f i ∧ f i < 65536) (hg : ∀ i, 0 ≤ g i ∧ g i < 65536) : ∀ (m i : Nat) (O : List Int), Digs O → Digs (tmOut f g lb m i O)
  | 0, _, _, h => h
  | m + 1, i, O, h => by
    obtain ⟨h1, h2⟩ := tmIn_in (i := i) (hf i) hg lb 0 O 0 h (by omega)
    exact tmOut_in hf hg m (i + 1) _ (set_digs h1 _ h2)
theorem tmOut_val (f g : Nat → Int) (lb : Nat) : ∀ (m i : Nat) (O : List Int), i + m + lb < O.length + 1 → (∀ j, i + lb ≤ j → O.getD j 0 = 0) →
    valL (tmOut f g lb m i O) = valL O + 65536 ^ i * (valF f m i * valF g lb 0)
  | 0, i, O, _, _ => by simp [tmOut, valF]
  | m + 1, i, O, hl, hz => by
    have hv := tmIn_val (f i) g i lb 0 O 0 (by omega)
    have hfar := tmIn_far (f i) g i lb 0 O 0
    unfold tmOut
    rw [tmOut_val f g lb m (i + 1) _ (by rw [List.length_set, tmIn_len]; omega) fun j hj => ?_]
    · rw [set_val _ (by rw [tmIn_len]; omega), hfar (i + lb) (by omega), hz (i + lb) (Nat.le_refl _), Int.pow_succ, valF]
      rw [Nat.add_zero] at hv
      generalize valL (tmIn (f i) g i lb 0 O 0).1 = X at hv ⊢
      generalize (tmIn (f i) g i lb 0 O 0).2 = Y at hv ⊢
      generalize (65536 : Int) ^ (i + lb) = Z at hv ⊢
      generalize (65536 : Int) ^ i = P at hv ⊢
      generalize valF g lb 0 = G at hv ⊢
      generalize valF f m (i + 1) = F
      generalize valL O = S at hv ⊢
      obtain rfl : X = S + P * (0 + f i * G) - Z * Y := by omega
      grind
    · rw [List.getD_eq_getElem?_getD, List.getElem?_set_ne (by omega), ← List.getD_eq_getElem?_getD, hfar j (by omega)]
      exact hz j (by omega)
/-- A product's digits, as many as both rows have, and one more. -/
def timesD (xs ys : List Int) (oa la ob lb : Nat) : List Int := tmOut (dig xs oa) (dig ys ob) lb la 0 (List.replicate (la + lb + 1) 0)
theorem zeros_digs (n : Nat) : Digs (List.replicate n 0) := fun d hd => by rw [List.eq_of_mem_replicate hd]; omega
theorem zeros_val : ∀ n : Nat, valL (List.replicate n 0) = 0
  | 0 => rfl
  | n + 1 => by rw [List.replicate_succ, valL, zeros_val n]; rfl
theorem zeros_get (n j : Nat) : (List.replicate n (0 : Int)).getD j 0 = 0 := by
  rw [List.getD_eq_getElem?_getD, List.getElem?_replicate]
  split <;> rfl
theorem timesD_len (xs ys : List Int) (oa la ob lb : Nat) : (timesD xs ys oa la ob lb).length = la + lb + 1 := by
  unfold timesD
  rw [tmOut_len, List.length_replicate]
def timesL (xs ys : List Int) (oa la ob lb : Nat) : List Int := (timesD xs ys oa la ob lb).take (cutN (timesD xs ys oa la ob lb) (la + lb + 1))
theorem timesL_val {xs ys : List Int} (hx : Digs xs) (hy : Digs ys) (oa la ob lb : Nat) : valL (timesL xs ys oa la ob lb) = valF (dig xs oa) la 0 * valF (dig ys ob) lb 0 ∧ Digs (timesL xs ys oa la ob lb) := by
  have hD : Digs (timesD xs ys oa la ob lb) := tmOut_in (dig_in hx oa) (dig_in hy ob) la 0 _ (zeros_digs _)
  refine ⟨?_, digs_take hD _⟩
  unfold timesL
  rw [cutN_val _ (by rw [timesD_len]; omega), List.take_of_length_le (by rw [timesD_len]; omega)]
  unfold timesD
  rw [tmOut_val _ _ lb la 0 _ (by rw [List.length_replicate]; omega) fun j _ => zeros_get _ j, zeros_val]
  simp
theorem timesL_len (xs ys : List Int) (oa la ob lb : Nat) : (timesL xs ys oa la ob lb).length = cutN (timesD xs ys oa la ob lb) (la + lb + 1) := by
  unfold timesL
  rw [List.length_take, timesD_len]
  have := cutN_le (timesD xs ys oa la ob lb) (la + lb + 1)
  omega
theorem timesL_get (xs ys : List Int) (oa la ob lb : Nat) {i : Nat} (hi : i < (timesL xs ys oa la ob lb).length) : (timesD xs ys oa la ob lb)[0 + i]? = (timesL xs ys oa la ob lb)[i]? := by
  rw [Nat.zero_add]
  rw [timesL_len] at hi
  unfold timesL
  rw [List.getElem?_take, if_pos hi]
theorem cut_trim {l : List Int} {n : Nat} (hn : n ≤ l.length) : Trim (l.take (cutN l n)) := by
  have hle := cutN_le l n
  intro h0
  rw [List.length_take] at h0 ⊢
  have h1 := cutN_last (l := l) n (by omega)
  rw [show min (cutN l n) l.length = cutN l n by omega, List.getD_eq_getElem?_getD, List.getElem?_take, if_pos (by omega), ← List.getD_eq_getElem?_getD]
  exact h1
theorem timesL_trim (xs ys : List Int) (oa la ob lb : Nat) : Trim (timesL xs ys oa la ob lb) := cut_trim (by rw [timesD_len]; omega)

/-! The greatest number below 2^64 of which something holds that holds of all below. -/
def grGo (P : Int → Bool) : Nat → Int → Int
  | 0, n => n
  | k + 1, n => grGo P k (bif P (n + 2 ^ k) then n + 2 ^ k else n)
theorem grGo_spec {P : Int → Bool} (hP : ∀ x y, 0 ≤ y → y ≤ x → P x = true → P y = true) : ∀ (k : Nat) (n : Int), 0 ≤ n → P n = true →
    P (grGo P k n) = true ∧ n ≤ grGo P k n ∧ grGo P k n < n + 2 ^ k ∧ ∀ x, n ≤ x → x < n + 2 ^ k → P x = true → x ≤ grGo P k n
  | 0, n, h0, h => ⟨h, Int.le_refl _, by simp only [grGo, Int.pow_zero]; omega, fun x h1 h2 _ => by simp [grGo] at *; omega⟩
  | k + 1, n, h0, h => by
    have hp : (0 : Int) < 2 ^ k := Int.pow_pos (by omega)
    unfold grGo
    rw [Int.pow_succ]
    cases hc : P (n + 2 ^ k) with
    | true =>
      simp only [cond_true]
      obtain ⟨h1, h2, h3, h4⟩ := grGo_spec hP k (n + 2 ^ k) (by omega) hc
      refine ⟨h1, by omega, by omega, fun x x1 x2 x3 => ?_⟩
      rcases Int.lt_or_le x (n + 2 ^ k) with hx | hx
      · omega
      · exact h4 x hx (by omega) x3
    | false =>
      simp only [cond_false]
      obtain ⟨h1, h2, h3, h4⟩ := grGo_spec hP k n h0 h
      refine ⟨h1, by omega, by omega, fun x x1 x2 x3 => ?_⟩
      rcases Int.lt_or_le x (n + 2 ^ k) with hx | hx
      · exact h4 x x1 hx x3
      · have := hP x (n + 2 ^ k) (by omega) hx x3
        rw [this] at hc; cases hc

end Go.Proofs.Ytboljdeeodeeeaa

namespace Go.Proofs.Ytboljdeeodeeeaa
set_option linter.unusedSimpArgs false
set_option linter.unusedVariables false
set_option maxRecDepth 100000
open Go.RowKit

/-! cut, of a row whose room is its length. -/
noncomputable def rdCv : List SV → List Row → Option Res2 := roundS xDg (fun _ _ => none) 100 68 [0, 0, 1, 1] (bodyAt Try.f68 [0, 0, 1, 1]) 21 1 [0, 2, 3]
def valCv (la : Nat) (n : Int) : List SV := [.slice 0 1 0 la (some la), .nils, .int .i64 n]

set_option maxRecDepth 100000 in
set_option maxHeartbeats 0 in
theorem cv_round (xs : List Int) (la : Nat) (n : Int) : rdCv (valCv la n) (rowCu xs) =
  bif
  (decide (0 ≤ IntKind.i64.wrap (n - 1)) && decide (IntKind.i64.wrap (n - 1) < (↑la : Int)) && (decide (0 + (IntKind.i64.wrap (n - 1)).toNat < xs.length) && true) && true ||
  decide (n > 0) != true) &&
  (true || decide (n > 0) == true) &&
  true then
  bif bif decide (n > 0) == true then xs.getD (0 + (IntKind.i64.wrap (n - 1)).toNat) Knd.u64.dflt == 0 else false then
  some (SV.tuple [SV.nilp, SV.tuple [SV.slice 0 1 0 la (some la), SV.nils, SV.int IntKind.i64 (IntKind.i64.wrap (n - 1))]], [Row.vec false Knd.u64 xs])
  else some (SV.tuple [SV.ptr 0 0 0 0, SV.tuple [SV.slice 0 1 0 la (some la), SV.nils, SV.int IntKind.i64 n]], [Row.vec false Knd.u64 xs])
  else none := by kernel_rfl

theorem cv_loop {xs : List Int} {la : Nat} (hl : la ≤ xs.length) (h64 : la ≤ 9223372036854775807) : ∀ (k : Nat), k ≤ la → LoopTo rdCv (valCv la k) (rowCu xs) (.exit 0) (valCv la (cutN xs k : Nat)) (rowCu xs)
  | 0, hk => by
    refine .done ?_ (by simp)
    rw [cv_round]
    rfl
  | k + 1, hk => by
    have hro := cv_round xs la ((k + 1 : Nat) : Int)
    have e1 : (((k + 1 : Nat) : Int) - 1) = (k : Int) := by omega
    have e2 : ((k : Int)).toNat = k := by omega
    rw [e1, IntWalk.i64_in (k : Int) (by omega), e2, decide_eq_true (show (0 : Int) ≤ (k : Int) by omega), decide_eq_true (show (k : Int) < (la : Int) by omega), decide_eq_true (show 0 + k < xs.length by omega), decide_eq_true (show ((k + 1 : Nat) : Int) > 0 by omega)] at hro
    simp only [Bool.and_true, Bool.true_or, cond_true, beq_self_eq_true] at hro
    unfold cutN
    cases hc : xs.getD (0 + k) Knd.u64.dflt == 0 with
    | true =>
      rw [hc, cond_true] at hro
      simp only [cond_true]
      exact .more hro (cv_loop hl h64 k (by omega))
    | false =>
      rw [hc, cond_false] at hro
      simp only [cond_false]
      exact .done hro (by simp)
set_option maxHeartbeats 0 in
noncomputable def outCv (v : List SV) (R : List Row) (k : Ex → List SV → List Row → Option Res2) : Option Res2 := match v, R with
  | [.slice 0 1 0 la (some c), .nils, .int .i64 n], [.vec false .u64 xs] =>
      bif (decide (c = la) && decide (n = (la : Int))) && (decide (la ≤ xs.length) && decide (la ≤ 9223372036854775807)) then k (.exit 0) (valCv la (cutN xs la : Nat)) (rowCu xs) else none
  | _, _ => none
set_option maxHeartbeats 0 in
theorem lpoCv_ok : LpOk 68 [0, 0, 1, 1] (loopF 21 [0, 2, 3] outCv) := by
  intro b hat s K r h
  refine loopF_ok (fuel := 100) xDg_ok lok_none hat (fun v R k r hr => ?_) h
  have hbody := at_body Try.func68 hat
  subst hbody
  unfold outCv at hr
  split at hr
  · rename_i la c n xs
    obtain ⟨hb, hr2⟩ := cond_some hr
    simp only [Bool.and_eq_true, decide_eq_true_eq] at hb
    obtain ⟨⟨rfl, rfl⟩, h3, h4⟩ := hb
    exact ⟨_, _, _, hr2, cv_loop h3 h4 c (Nat.le_refl _)⟩
  · cases hr
noncomputable def lpoCv : Lpo := ⟨_, _, _, lpoCv_ok⟩

set_option maxRecDepth 100000 in
set_option maxHeartbeats 0 in
theorem cv_tree (xs : List Int) (la : Nat) : runK xDg (loopOf [lpoCv]) 300 68 Try.f68 9 [.slice 0 1 0 la (some la)] [.vec false .u64 xs] =
  bif decide (la = la) && decide ((↑la : Int) = (↑la : Int)) && (decide (la ≤ xs.length) && decide (la ≤ 9223372036854775807)) then
  bif decide (0 ≤ (↑(cutN xs la) : Int)) && decide ((↑(cutN xs la) : Int) ≤ (↑(capOr (some la) la) : Int)) then some (SV.slice 0 1 0 (↑(cutN xs la) : Int).toNat (some la), [Row.vec false Knd.u64 xs])
  else none
  else none := by kernel_rfl

/-! times: rounds. -/
noncomputable def xTm : Ctx := ctxOf [] []
theorem xTm_ok : COk Try.prog xTm := ctxOf_ok (by kernel_rfl)
def valTi (oa la ob lb n : Nat) (i c k : Int) : List SV := [.slice 0 1 oa la none, .slice 1 1 ob lb none, .nils, .slice 2 1 0 n (some n), .int .i64 i, .int .u64 c, .int .i64 k]
def valTo (oa la ob lb n : Nat) (i : Int) : List SV := [.slice 0 1 oa la none, .slice 1 1 ob lb none, .nils, .slice 2 1 0 n (some n), .int .i64 i]
def rowTm (xs ys O : List Int) : List Row := [.vec true .u64 xs, .vec true .u64 ys, .vec false .u64 O]
noncomputable def rdTi : List SV → List Row → Option Res2 := roundS xTm (fun _ _ => none) 100 64 [0, 1, 0, 1, 0, 0, 1, 0, 0, 1, 0, 1, 1] (bodyAt Try.f64 [0, 1, 0, 1, 0, 0, 1, 0, 0, 1, 0, 1, 1]) 65 3 [0, 1, 4, 5, 6, 7, 8]

/-- One digit of a product, as the code reckons it. -/
def tiN (xs ys O : List Int) (oa ob : Nat) (i c k : Int) : Int := IntKind.u64.wrap (IntKind.u64.wrap (O.getD (0 + (IntKind.i64.wrap (i + k)).toNat) Knd.u64.dflt + IntKind.u64.wrap (xs.getD (oa + i.toNat) Knd.u64.dflt * ys.getD (ob + k.toNat) Knd.u64.dflt)) + c)
set_option maxRecDepth 100000 in
set_option maxHeartbeats 0 in
theorem ti_round (xs ys O : List Int) (oa la ob lb n : Nat) (i c k : Int) : rdTi (valTi oa la ob lb n i c k) (rowTm xs ys O) =
  bif decide (k < (lb : Int)) then
  bif decide (0 ≤ IntKind.i64.wrap (i + k)) && decide (IntKind.i64.wrap (i + k) < (n : Int)) then
  bif decide (0 + (IntKind.i64.wrap (i + k)).toNat < O.length) then
  bif decide (0 ≤ i) && decide (i < (la : Int)) then
  bif decide (oa + i.toNat < xs.length) then
  bif decide (0 ≤ k) && decide (k < (lb : Int)) then
  bif decide (ob + k.toNat < ys.length) then
  bif decide (0 ≤ IntKind.i64.wrap (i + k)) && decide (IntKind.i64.wrap (i + k) < (n : Int)) then
  bif decide (0 + (IntKind.i64.wrap (i + k)).toNat < O.length) then
  some (.tuple [.nilp, .tuple (valTi oa la ob lb n i (IntKind.u64.wrap ((tiN xs ys O oa ob i c k).tdiv 65536)) (IntKind.i64.wrap (k + 1)))], rowTm xs ys (O.set (0 + (IntKind.i64.wrap (i + k)).toNat) ((tiN xs ys O oa ob i c k).tmod 65536)))
  else none
  else none
  else none
  else none
  else none
  else none
  else none
  else none
  else some (.tuple [.ptr 2 0 0 0, .tuple (valTi oa la ob lb n i c k)], rowTm xs ys O) := by kernel_rfl

section
variable {xs ys : List Int} {oa la ob lb n : Nat}
theorem ti_step (hx : Digs xs) (hy : Digs ys) {O : List Int} (hO : Digs O) {i k : Nat} {c : Int} (hc : 0 ≤ c ∧ c < 65536) (hi : i + k ≤ 100000) :
    (tiN xs ys O oa ob i c k).tmod 65536 = (O.getD (i + k) 0 + dig xs oa i * dig ys ob k + c) % 65536 ∧ IntKind.u64.wrap ((tiN xs ys O oa ob i c k).tdiv 65536) = (O.getD (i + k) 0 + dig xs oa i * dig ys ob k + c) / 65536 ∧ (IntKind.i64.wrap ((i : Int) + (k : Int))).toNat = i + k ∧ IntKind.i64.wrap ((i : Int) + (k : Int)) = ((i + k : Nat) : Int) := by
  have ho := getD_in hO (i + k)
  have ha := dig_in hx oa i
  have hb := dig_in hy ob k
  obtain ⟨t1, t2, t3, t4⟩ := tm_step ho ha hb hc
  have hp := dig_prod ha hb
  have e1 : IntKind.i64.wrap ((i : Int) + (k : Int)) = ((i + k : Nat) : Int) := by rw [IntWalk.i64_in _ (by omega)]; omega
  have e : tiN xs ys O oa ob i c k = O.getD (i + k) 0 + dig xs oa i * dig ys ob k + c := by
    unfold tiN
    rw [e1, show (((i + k : Nat) : Int)).toNat = i + k by omega, show ((i : Int)).toNat = i by omega, show ((k : Int)).toNat = k by omega, Nat.zero_add]
    rw [show O.getD (i + k) Knd.u64.dflt = O.getD (i + k) (0 : Int) from rfl, show xs.getD (oa + i) Knd.u64.dflt = dig xs oa i from rfl, show ys.getD (ob + k) Knd.u64.dflt = dig ys ob k from rfl]
    rw [u64_in (a := dig xs oa i * dig ys ob k) (by omega) (by omega), u64_in (a := O.getD (i + k) (0 : Int) + dig xs oa i * dig ys ob k) (by omega) (by omega), u64_in (by omega) (by omega)]
  rw [e, Int.tmod_eq_emod_of_nonneg t1, Int.tdiv_eq_ediv_of_nonneg t1, u64_in t4.1 (by omega), e1]
  exact ⟨rfl, rfl, by omega, rfl⟩
theorem ti_loop (hx : Digs xs) (hy : Digs ys) (ha : oa + la ≤ xs.length) (hb : ob + lb ≤ ys.length) (hn : n = la + lb + 1) (hn2 : n ≤ 2000) {i : Nat} (hi : i < la) : ∀ (m k : Nat) (O : List Int) (c : Int), Digs O → O.length = n → 0 ≤ c ∧ c < 65536 → k + m = lb →
    LoopTo rdTi (valTi oa la ob lb n i c k) (rowTm xs ys O) (.exit 2) (valTi oa la ob lb n i (tmIn (dig xs oa i) (dig ys ob) i m k O c).2 lb) (rowTm xs ys (tmIn (dig xs oa i) (dig ys ob) i m k O c).1)
  | 0, k, O, c, h1, h2, h3, h4 => by
    obtain rfl : k = lb := by omega
    refine .done ?_ (by simp)
    rw [ti_round, decide_eq_false (by omega), cond_false]
    rfl
  | m + 1, k, O, c, h1, h2, h3, h4 => by
    obtain ⟨e1, e2, e3, e4⟩ := ti_step (oa := oa) (ob := ob) (i := i) (k := k) hx hy h1 h3 (by omega)
    obtain ⟨_, _, t3, t4⟩ := tm_step (getD_in h1 (i + k)) (dig_in hx oa i) (dig_in hy ob k) h3
    have hro := ti_round xs ys O oa la ob lb n i c k
    rw [e1, e2, e3, e4, decide_eq_true (show (k : Int) < (lb : Int) by omega), decide_eq_true (show (0 : Int) ≤ ((i + k : Nat) : Int) by omega), decide_eq_true (show ((i + k : Nat) : Int) < (n : Int) by omega), decide_eq_true (show 0 + (i + k) < O.length by omega), decide_eq_true (show (0 : Int) ≤ (i : Int) by omega), decide_eq_true (show (i : Int) < (la : Int) by omega), show ((i : Int)).toNat = i by omega, decide_eq_true (show oa + i < xs.length by omega), decide_eq_true (show (0 : Int) ≤ (k : Int) by omega), show ((k : Int)).toNat = k by omega, decide_eq_true (show ob + k < ys.length by omega), IntWalk.i64_in ((k : Int) + 1) (by omega), Nat.zero_add] at hro
    simp only [Bool.and_self, cond_true] at hro
    exact .more hro (ti_loop hx hy ha hb hn hn2 hi m (k + 1) _ _ (set_digs h1 _ t3) (by rw [List.length_set]; exact h2) t4 (by omega))
end
def tmOk (xs ys O : List Int) (oa la ob lb n : Nat) : Bool := (digsB xs && (digsB ys && digsB O)) && ((decide (oa + la ≤ xs.length) && decide (ob + lb ≤ ys.length)) && (decide (n = la + lb + 1) && (decide (n ≤ 2000) && decide (O.length = n))))
theorem tmOk_iff {xs ys O : List Int} {oa la ob lb n : Nat} : tmOk xs ys O oa la ob lb n = true ↔ (Digs xs ∧ Digs ys ∧ Digs O) ∧ (oa + la ≤ xs.length ∧ ob + lb ≤ ys.length) ∧ n = la + lb + 1 ∧ n ≤ 2000 ∧ O.length = n := by
  unfold tmOk
  simp only [Bool.and_eq_true, decide_eq_true_eq, digsB_iff]
set_option maxHeartbeats 0 in
noncomputable def outTi (v : List SV) (R : List Row) (k : Ex → List SV → List Row → Option Res2) : Option Res2 := match v, R with
  | [.slice 0 1 oa la none, .slice 1 1 ob lb none, .nils, .slice 2 1 0 n (some n'), .int .i64 i, .int .u64 c, .int .i64 j], [.vec true .u64 xs, .vec true .u64 ys, .vec false .u64 O] =>
      bif ((decide (c = 0) && decide (j = 0)) && (decide (n' = n) && (decide (0 ≤ i) && decide (i < (la : Int))))) && tmOk xs ys O oa la ob lb n then
        k (.exit 2) (valTi oa la ob lb n i (tmIn (dig xs oa i.toNat) (dig ys ob) i.toNat lb 0 O 0).2 lb) (rowTm xs ys (tmIn (dig xs oa i.toNat) (dig ys ob) i.toNat lb 0 O 0).1) else none
  | _, _ => none
set_option maxHeartbeats 0 in
theorem lpoTi_ok : LpOk 64 [0, 1, 0, 1, 0, 0, 1, 0, 0, 1, 0, 1, 1] (loopF 65 [0, 1, 4, 5, 6, 7, 8] outTi) := by
  intro b hat s K r h
  refine loopF_ok (fuel := 100) xTm_ok lok_none hat (fun v R k r hr => ?_) h
  have hbody := at_body Try.func64 hat
  subst hbody
  unfold outTi at hr
  split at hr
  · rename_i oa la ob lb n n' i c j xs ys O
    obtain ⟨hb, hr2⟩ := cond_some hr
    simp only [Bool.and_eq_true, decide_eq_true_eq] at hb
    obtain ⟨⟨⟨rfl, rfl⟩, rfl, h3, h4⟩, h5⟩ := hb
    obtain ⟨⟨k1, k2, k3⟩, ⟨k4, k5⟩, k6, k7, k8⟩ := tmOk_iff.1 h5
    obtain ⟨i, rfl⟩ : ∃ m : Nat, i = m := ⟨i.toNat, by omega⟩
    rw [show ((i : Int)).toNat = i by omega] at hr2
    exact ⟨_, _, _, hr2, ti_loop k1 k2 k4 k5 k6 k7 (by omega) lb 0 O 0 k3 k8 (by omega) (by omega)⟩
  · cases hr
noncomputable def lpoTi : Lpo := ⟨_, _, _, lpoTi_ok⟩

noncomputable def rdTo : List SV → List Row → Option Res2 := roundS xTm (loopOf [lpoTi]) 100 64 [0, 1, 0, 1, 1] (bodyAt Try.f64 [0, 1, 0, 1, 1]) 65 3 [0, 1, 4, 5, 6]

set_option maxRecDepth 100000 in
set_option maxHeartbeats 0 in
theorem to_round (xs ys O : List Int) (oa la ob lb n : Nat) (i : Int) : rdTo (valTo oa la ob lb n i) (rowTm xs ys O) =
  bif decide (i < (la : Int)) then
  bif (decide (n = n) && (decide (0 ≤ i) && decide (i < (la : Int)))) && tmOk xs ys O oa la ob lb n then
  bif decide (0 ≤ IntKind.i64.wrap (i + (lb : Int))) && decide (IntKind.i64.wrap (i + (lb : Int)) < (n : Int)) then
  bif decide (0 + (IntKind.i64.wrap (i + (lb : Int))).toNat < (tmIn (dig xs oa i.toNat) (dig ys ob) i.toNat lb 0 O 0).1.length) then
  some (.tuple [.nilp, .tuple (valTo oa la ob lb n (IntKind.i64.wrap (i + 1)))], rowTm xs ys ((tmIn (dig xs oa i.toNat) (dig ys ob) i.toNat lb 0 O 0).1.set (0 + (IntKind.i64.wrap (i + (lb : Int))).toNat) (tmIn (dig xs oa i.toNat) (dig ys ob) i.toNat lb 0 O 0).2))
  else none
  else none
  else none
  else some (.tuple [.ptr 0 0 0 0, .tuple (valTo oa la ob lb n i)], rowTm xs ys O) := by kernel_rfl
section
variable {xs ys : List Int} {oa la ob lb n : Nat}
theorem to_loop (hx : Digs xs) (hy : Digs ys) (ha : oa + la ≤ xs.length) (hb : ob + lb ≤ ys.length) (hn : n = la + lb + 1) (hn2 : n ≤ 2000) : ∀ (m i : Nat) (O : List Int), Digs O → O.length = n → i + m = la →
    LoopTo rdTo (valTo oa la ob lb n i) (rowTm xs ys O) (.exit 0) (valTo oa la ob lb n la) (rowTm xs ys (tmOut (dig xs oa) (dig ys ob) lb m i O))
  | 0, i, O, h1, h2, h3 => by
    obtain rfl : i = la := by omega
    refine .done ?_ (by simp)
    rw [to_round, decide_eq_false (by omega), cond_false]
    rfl
  | m + 1, i, O, h1, h2, h3 => by
    obtain ⟨d1, d2⟩ := tmIn_in (i := i) (dig_in hx oa i) (dig_in hy ob) lb 0 O 0 h1 (by omega)
    have hl := tmIn_len (dig xs oa i) (dig ys ob) i lb 0 O 0
    have hro := to_round xs ys O oa la ob lb n i
    have e4 : IntKind.i64.wrap ((i : Int) + (lb : Int)) = ((i + lb : Nat) : Int) := by rw [IntWalk.i64_in _ (by omega)]; omega
    rw [show ((i : Int)).toNat = i by omega, e4, tmOk_iff.2 ⟨⟨hx, hy, h1⟩, ⟨ha, hb⟩, hn, hn2, h2⟩, decide_eq_true (show (i : Int) < (la : Int) by omega), decide_eq_true (show (0 : Int) ≤ (i : Int) by omega), decide_eq_true (show (0 : Int) ≤ ((i + lb : Nat) : Int) by omega), decide_eq_true (show ((i + lb : Nat) : Int) < (n : Int) by omega), show (((i + lb : Nat) : Int)).toNat = i + lb by omega, decide_eq_true (show 0 + (i + lb) < (tmIn (dig xs oa i) (dig ys ob) i lb 0 O 0).1.length by omega), IntWalk.i64_in ((i : Int) + 1) (by omega), Nat.zero_add] at hro
    simp only [decide_true, Bool.and_self, cond_true] at hro
    exact .more hro (to_loop hx hy ha hb hn hn2 m (i + 1) _ (set_digs d1 _ d2) (by rw [List.length_set]; omega) (by omega))
end
set_option maxHeartbeats 0 in
noncomputable def outTo (v : List SV) (R : List Row) (k : Ex → List SV → List Row → Option Res2) : Option Res2 := match v, R with
  | [.slice 0 1 oa la none, .slice 1 1 ob lb none, .nils, .slice 2 1 0 n (some n'), .int .i64 i], [.vec true .u64 xs, .vec true .u64 ys, .vec false .u64 O] =>
      bif (decide (i = 0) && decide (n' = n)) && tmOk xs ys O oa la ob lb n then
        k (.exit 0) (valTo oa la ob lb n la) (rowTm xs ys (tmOut (dig xs oa) (dig ys ob) lb la 0 O)) else none
  | _, _ => none
set_option maxHeartbeats 0 in
theorem lpoTo_ok : LpOk 64 [0, 1, 0, 1, 1] (loopF 65 [0, 1, 4, 5, 6] outTo) := by
  intro b hat s K r h
  refine loopF_ok (fuel := 100) xTm_ok (loopOf_ok (l := [lpoTi])) hat (fun v R k r hr => ?_) h
  have hbody := at_body Try.func64 hat
  subst hbody
  unfold outTo at hr
  split at hr
  · rename_i oa la ob lb n n' i xs ys O
    obtain ⟨hb, hr2⟩ := cond_some hr
    simp only [Bool.and_eq_true, decide_eq_true_eq] at hb
    obtain ⟨⟨rfl, rfl⟩, h5⟩ := hb
    obtain ⟨⟨k1, k2, k3⟩, ⟨k4, k5⟩, k6, k7, k8⟩ := tmOk_iff.1 h5
    exact ⟨_, _, _, hr2, to_loop k1 k2 k4 k5 k6 k7 la 0 O k3 k8 (by omega)⟩
  · cases hr
noncomputable def lpoTo : Lpo := ⟨_, _, _, lpoTo_ok⟩

/-! cut of such a row, as a contract; times. -/
theorem cv_val {xs : List Int} {la : Nat} (h1 : la ≤ xs.length) (h2 : la ≤ 9223372036854775807) : runK xDg (loopOf [lpoCv]) 300 68 Try.f68 9 [.slice 0 1 0 la (some la)] [.vec false .u64 xs] = some (.slice 0 1 0 (cutN xs la) (some la), [.vec false .u64 xs]) := by
  have hn := cutN_le xs la
  rw [cv_tree, decide_eq_true (show (la : Int) = (la : Int) from rfl), decide_eq_true (show la = la from rfl), decide_eq_true h1, decide_eq_true h2, show capOr (some la) la = la from rfl, decide_eq_true (show (0 : Int) ≤ ((cutN xs la : Nat) : Int) by omega), decide_eq_true (show ((cutN xs la : Nat) : Int) ≤ ((la : Nat) : Int) by omega)]
  rfl
def oCutC (args : List SV) (rows : List Row) : Option Eff :=
  match args with
  | [.slice id 1 0 la (some c)] => match rows[id]? with
    | some (.vec false .u64 xs) => some { ok := decide (c = la) && (decide (la ≤ xs.length) && decide (la ≤ 9223372036854775807)), val := .slice id 1 0 (cutN xs la) (some c), rd := [id], wr := [(id, .vec false .u64 xs)] }
    | _ => none
  | _ => none
theorem oCutC_ok {args : List SV} {rows : List Row} {e : Eff} (h : oCutC args rows = some e) (hok : e.ok = true) : FnOk Try.prog 68 args (rows[·]?) rows.length e := by
  unfold oCutC at h
  split at h
  · rename_i id la c
    split at h
    · rename_i xs hrow
      cases h
      simp only [Bool.and_eq_true, decide_eq_true_eq] at hok
      obtain ⟨rfl, h1, h2⟩ := hok
      obtain ⟨rows', hc, ht⟩ := runK_ok xDg_ok loopOf_ok Try.func68 (cv_val (xs := xs) h1 h2)
      have hr' : rows' = [.vec false .u64 xs] := by
        have hl := congrArg List.length ht
        rw [List.length_take] at hl
        simp only [List.length_cons, List.length_nil] at hl
        rw [List.take_of_length_le (by omega)] at ht
        exact ht
      subst hr'
      have l1 := (List.getElem?_eq_some_iff.1 hrow).1
      refine fnOk_ren hc (σ := [id]) (n := rows.length) (W := [(id, .vec false .u64 xs)]) rfl ?_ ?_ ?_ ?_ ?_ ?_ ?_
      · simp
      · intro j hj
        simp at hj
        subst hj
        exact l1
      · intro i hi
        simp [SV.idsL, SV.ids] at hi
        subst hi
        simp
      · intro i row hr j hj
        match i, hr with
        | 0, hr => simp at hr; subst hr; simp [Row.idsR] at hj
        | i + 1, hr => simp at hr
      · intro i row hr
        match i, hr with
        | 0, hr => simp at hr; subst hr; exact ⟨_, hrow, fun h => h, fun _ _ h => h⟩
        | i + 1, hr => simp at hr
      · intro i row hr _
        match i, hr with
        | 0, hr => exact .inr ⟨_, rfl, List.mem_cons_self ..⟩
        | i + 1, hr => simp at hr
      · intro x hx
        simp only [List.mem_cons, List.not_mem_nil, or_false] at hx
        subst hx
        exact ⟨0, _, by simp, rfl, rfl⟩
    · cases h
  · cases h
noncomputable def orcCutC : Orc := ⟨68, oCutC, fun _ _ _ h hok => oCutC_ok h hok, bodied Try.func68 (by kernel_rfl)⟩
noncomputable def xTn : Ctx := ctxOf [] [orcCutC]
theorem xTn_ok : COk Try.prog xTn := ctxOf_ok (by kernel_rfl)

/-- How long the row of a product is, as the code reckons it. -/
def tmN (la lb : Nat) : Int := IntKind.i64.wrap (IntKind.i64.wrap ((la : Int) + (lb : Int)) + 1)
set_option maxRecDepth 100000 in
set_option maxHeartbeats 0 in
theorem tm_tree (xs ys : List Int) (oa la ob lb : Nat) : runK xTn (loopOf [lpoTo]) 300 64 Try.f64 9 [.slice 0 1 oa la none, .slice 1 1 ob lb none] [.vec true .u64 xs, .vec true .u64 ys] =
  bif decide (0 ≤ tmN la lb) && (decide (tmN la lb ≤ 9223372036854775807) && (decide (((8 : Nat) : Int) * tmN la lb ≤ 2 ^ 48) && decide (tmN la lb = tmN la lb))) then
  bif decide ((tmN la lb).toNat = (tmN la lb).toNat) && tmOk xs ys (List.replicate (tmN la lb).toNat 0) oa la ob lb (tmN la lb).toNat then
  bif decide ((tmN la lb).toNat = (tmN la lb).toNat) && (decide ((tmN la lb).toNat ≤ (tmOut (dig xs oa) (dig ys ob) lb la 0 (List.replicate (tmN la lb).toNat 0)).length) && decide ((tmN la lb).toNat ≤ 9223372036854775807)) then
  some (.slice 2 1 0 (cutN (tmOut (dig xs oa) (dig ys ob) lb la 0 (List.replicate (tmN la lb).toNat 0)) (tmN la lb).toNat) (some (tmN la lb).toNat), [.vec true .u64 xs, .vec true .u64 ys, .vec false .u64 (tmOut (dig xs oa) (dig ys ob) lb la 0 (List.replicate (tmN la lb).toNat 0))])
  else none
  else none
  else none := by kernel_rfl
theorem tm_val {xs ys : List Int} {oa la ob lb : Nat} (hx : Digs xs) (hy : Digs ys) (ha : oa + la ≤ xs.length) (hb : ob + lb ≤ ys.length) (hM : la + lb + 1 ≤ 2000) :
    runK xTn (loopOf [lpoTo]) 300 64 Try.f64 9 [.slice 0 1 oa la none, .slice 1 1 ob lb none] [.vec true .u64 xs, .vec true .u64 ys] =
      some (.slice 2 1 0 (timesL xs ys oa la ob lb).length (some (la + lb + 1)), [.vec true .u64 xs, .vec true .u64 ys, .vec false .u64 (timesD xs ys oa la ob lb)]) := by
  have eN : tmN la lb = ((la + lb + 1 : Nat) : Int) := by
    unfold tmN
    rw [IntWalk.i64_in ((la : Int) + (lb : Int)) (by omega), IntWalk.i64_in _ (by omega)]
    omega
  rw [tm_tree, eN, show (((la + lb + 1 : Nat) : Int)).toNat = la + lb + 1 by omega]
  rw [tmOk_iff.2 ⟨⟨hx, hy, zeros_digs _⟩, ⟨ha, hb⟩, rfl, hM, List.length_replicate⟩]
  rw [show tmOut (dig xs oa) (dig ys ob) lb la 0 (List.replicate (la + lb + 1) 0) = timesD xs ys oa la ob lb from rfl, timesD_len, timesL_len]
  rw [decide_eq_true (show (0 : Int) ≤ ((la + lb + 1 : Nat) : Int) by omega), decide_eq_true (show ((la + lb + 1 : Nat) : Int) ≤ 9223372036854775807 by omega), decide_eq_true (show ((8 : Nat) : Int) * ((la + lb + 1 : Nat) : Int) ≤ 2 ^ 48 by omega), decide_eq_true (show la + lb + 1 ≤ 9223372036854775807 by omega)]
  simp only [decide_true, Nat.le_refl, Bool.and_self, cond_true]

def oTimesD (args : List SV) (rows : List Row) : Option Eff :=
  match args with
  | [.slice ia 1 oa la ca, .slice ib 1 ob lb cb] => match rows[ia]?, rows[ib]? with
    | some (.vec _ .u64 xs), some (.vec _ .u64 ys) => some { ok := (digsB xs && digsB ys) && ((decide (oa + la ≤ xs.length) && decide (ob + lb ≤ ys.length)) && decide (la + lb + 1 ≤ 2000)), val := .slice rows.length 1 0 (timesL xs ys oa la ob lb).length none, rd := [ia, ib], nw := [.vec true .u64 (timesL xs ys oa la ob lb)] }
    | _, _ => none
  | _ => none
theorem oTimesD_ok {args : List SV} {rows : List Row} {e : Eff} (h : oTimesD args rows = some e) (hok : e.ok = true) : FnOk Try.prog 64 args (rows[·]?) rows.length e := by
  unfold oTimesD at h
  split at h
  · rename_i ia oa la ca ib ob lb cb
    split at h
    · rename_i ra xs rb ys hxr hyr
      cases h
      simp only [Bool.and_eq_true, decide_eq_true_eq] at hok
      obtain ⟨⟨h1, h2⟩, ⟨h3, h4⟩, h5⟩ := hok
      obtain ⟨rows', hc, ht⟩ := runK_ok xTn_ok loopOf_ok Try.func64 (tm_val (xs := xs) (ys := ys) (digsB_iff.1 h1) (digsB_iff.1 h2) h3 h4 h5)
      refine fnOk_weaken (args := [.slice ia 1 oa la none, .slice ib 1 ob lb none]) ?_ fun ρ vs hv => ?_
      · refine fnOk_fresh (C := fun s => s) (s0 := .slice 2 1 0 (timesL xs ys oa la ob lb).length (some (la + lb + 1))) (ds := timesL xs ys oa la ob lb) hc round_id (σ := [ia, ib]) rfl (fun i hi => by simp [SV.idsL, SV.ids] at hi; rcases hi with rfl | rfl <;> simp) (fun i row hr => ?_) (.inr ⟨2, 0, _, false, timesD xs ys oa la ob lb, rfl, by simp, by rw [take_get ht (by omega)]; rfl, fun i hi => ?_⟩)
        · match i with
          | 0 => simp at hr; subst hr; exact ⟨.u64, xs, ra, rfl, hxr⟩
          | 1 => simp at hr; subst hr; exact ⟨.u64, ys, rb, rfl, hyr⟩
          | i + 2 => simp at hr
        · exact timesL_get xs ys oa la ob lb hi
      · rw [RelL] at hv ⊢
        obtain ⟨u, us, rfl, h6, h7⟩ := hv
        refine ⟨u, us, rfl, rel_nocap h6, ?_⟩
        rw [RelL] at h7 ⊢
        obtain ⟨u, us, rfl, h6, h7⟩ := h7
        exact ⟨u, us, rfl, rel_nocap h6, h7⟩
    · cases h
  · cases h
noncomputable def orcTimesD : Orc := ⟨64, oTimesD, fun _ _ _ h hok => oTimesD_ok h hok, bodied Try.func64 (by kernel_rfl)⟩

end Go.Proofs.Ytboljdeeodeeeaa

namespace Go.Proofs.Ytboljdeeodeeeaa
set_option linter.unusedSimpArgs false
set_option linter.unusedVariables false
set_option maxRecDepth 100000
open Go.RowKit

noncomputable def xGr : Ctx := ctxOf [] [orcCutC, orcTimesD, orcMoreD]
theorem xGr_ok : COk Try.prog xGr := ctxOf_ok (by kernel_rfl)
def valGs (lo : Nat) (n i : Int) : List SV := [.nils, .bool true, .slice 0 1 0 lo none, .int .u64 0, .int .u64 n, .int .i64 i]
def rowGs (os : List Int) : List Row := [.vec true .u64 os]
def valGb (lb lo : Nat) (n i : Int) : List SV := [.slice 0 1 0 lb none, .bool false, .slice 1 1 0 lo none, .int .u64 0, .int .u64 n, .int .i64 i]
def rowGb (bs os : List Int) : List Row := [.vec true .u64 bs, .vec true .u64 os]
noncomputable def rdGr (n0 : Nat) : List SV → List Row → Option Res2 := roundS xGr (fun _ _ => none) 100 48 [0, 1, 0, 1, 1] (bodyAt Try.f48 [0, 1, 0, 1, 1]) 47 n0 [0, 1, 2, 6, 7, 8]
/-- The number that is tried, and its digits. -/
def grX (n i : Int) : Int := IntKind.u64.wrap ((BitVec.ofInt IntKind.u64.bits n ||| BitVec.ofInt IntKind.u64.bits (IntKind.u64.wrap (1 * 2 ^ min (IntKind.u64.wrap i).toNat IntKind.u64.bits))).toNat : Int)
def grD (x : Int) : List Int := [x.tmod 65536, (x.fdiv (2 ^ min (Int.toNat 16) IntKind.u64.bits)).tmod 65536, (x.fdiv (2 ^ min (Int.toNat 32) IntKind.u64.bits)).tmod 65536, x.fdiv (2 ^ min (Int.toNat 48) IntKind.u64.bits)]
def grC (x : Int) : Nat := cutN (grD x) 4
def grTs (x : Int) : List Int := timesL (grD x) (grD x) 0 (grC x) 0 (grC x)
def grTb (x : Int) (bs : List Int) (lb : Nat) : List Int := timesL (grD x) bs 0 (grC x) 0 lb
set_option maxRecDepth 100000 in
set_option maxHeartbeats 0 in
theorem gs_round (os : List Int) (lo : Nat) (n i : Int) : rdGr 1 (valGs lo n i) (rowGs os) =
  bif decide (i ≥ 0) then
  bif !decide (IntKind.u64.wrap i < 0) then
  bif (digsB (grD (grX n i)) && digsB (grD (grX n i))) && ((decide (0 + grC (grX n i) ≤ (grD (grX n i)).length) && decide (0 + grC (grX n i) ≤ (grD (grX n i)).length)) && decide (grC (grX n i) + grC (grX n i) + 1 ≤ 2000)) then
  bif (decide (0 + (grTs (grX n i)).length ≤ (grTs (grX n i)).length) && decide (0 + lo ≤ os.length)) && decide ((grTs (grX n i)).length ≤ 9223372036854775807) then
  bif !moreV (grTs (grX n i)) os 0 (grTs (grX n i)).length 0 lo then some (.tuple [.nilp, .tuple (valGs lo (grX n i) (IntKind.i64.wrap (i - 1)))], rowGs os)
  else some (.tuple [.nilp, .tuple (valGs lo n (IntKind.i64.wrap (i - 1)))], rowGs os)
  else none
  else none
  else none
  else some (.tuple [.ptr 0 0 0 0, .tuple (valGs lo n i)], rowGs os) := by kernel_rfl
set_option maxRecDepth 100000 in
set_option maxHeartbeats 0 in
theorem gb_round (bs os : List Int) (lb lo : Nat) (n i : Int) : rdGr 2 (valGb lb lo n i) (rowGb bs os) =
  bif decide (i ≥ 0) then
  bif !decide (IntKind.u64.wrap i < 0) then
  bif (digsB (grD (grX n i)) && digsB bs) && ((decide (0 + grC (grX n i) ≤ (grD (grX n i)).length) && decide (0 + lb ≤ bs.length)) && decide (grC (grX n i) + lb + 1 ≤ 2000)) then
  bif (decide (0 + (grTb (grX n i) bs lb).length ≤ (grTb (grX n i) bs lb).length) && decide (0 + lo ≤ os.length)) && decide ((grTb (grX n i) bs lb).length ≤ 9223372036854775807) then
  bif !moreV (grTb (grX n i) bs lb) os 0 (grTb (grX n i) bs lb).length 0 lo then some (.tuple [.nilp, .tuple (valGb lb lo (grX n i) (IntKind.i64.wrap (i - 1)))], rowGb bs os)
  else some (.tuple [.nilp, .tuple (valGb lb lo n (IntKind.i64.wrap (i - 1)))], rowGb bs os)
  else none
  else none
  else none
  else some (.tuple [.ptr 0 0 0 0, .tuple (valGb lb lo n i)], rowGb bs os) := by kernel_rfl

/-! What a round is worth. -/
theorem u64_id {a : Int} (h1 : 0 ≤ a) (h2 : a < 18446744073709551616) : IntKind.u64.wrap a = a := u64_in h1 h2
theorem ofInt_nat (m : Nat) (h : m < 18446744073709551616) : (BitVec.ofInt IntKind.u64.bits (m : Int)).toNat = m := by
  show (BitVec.ofInt 64 (m : Int)).toNat = m
  rw [BitVec.toNat_ofInt]
  show ((m : Int) % ((2 ^ 64 : Nat) : Int)).toNat = m
  omega
theorem grX_val {k a : Nat} (hk : k < 64) (h : 2 ^ (k + 1) * a + 2 ^ (k + 1) ≤ 18446744073709551616) : grX ((2 ^ (k + 1) * a : Nat) : Int) (k : Int) = ((2 ^ (k + 1) * a + 2 ^ k : Nat) : Int) := by
  have h1 : 2 ^ k < 2 ^ (k + 1) := Nat.pow_lt_pow_right (by omega) (by omega)
  have e1 : (IntKind.u64.wrap (k : Int)) = (k : Int) := u64_id (by omega) (by omega)
  have e2 : min ((k : Int)).toNat IntKind.u64.bits = k := by
    show min ((k : Int)).toNat 64 = k
    omega
  have e3 : IntKind.u64.wrap (1 * 2 ^ k) = ((2 ^ k : Nat) : Int) := by
    rw [Int.one_mul]
    have : ((2 : Int) ^ k) = ((2 ^ k : Nat) : Int) := by norm_cast
    rw [this]
    exact u64_id (by omega) (by omega)
  unfold grX
  rw [e1, e2, e3, BitVec.toNat_or, ofInt_nat _ (by omega), ofInt_nat _ (by omega), ← Nat.two_pow_add_eq_or_of_lt h1 a]
  exact u64_id (by omega) (by omega)
theorem grD_form {x : Int} (h1 : 0 ≤ x) (h2 : x < 18446744073709551616) : grD x = [x % 65536, x / 65536 % 65536, x / 4294967296 % 65536, x / 281474976710656] := by
  have p16 : (2 ^ min (Int.toNat 16) IntKind.u64.bits : Int) = 65536 := by decide
  have p32 : (2 ^ min (Int.toNat 32) IntKind.u64.bits : Int) = 4294967296 := by decide
  have p48 : (2 ^ min (Int.toNat 48) IntKind.u64.bits : Int) = 281474976710656 := by decide
  unfold grD
  rw [p16, p32, p48, Int.fdiv_eq_ediv_of_nonneg _ (by omega), Int.fdiv_eq_ediv_of_nonneg _ (by omega), Int.fdiv_eq_ediv_of_nonneg _ (by omega), Int.tmod_eq_emod_of_nonneg h1, Int.tmod_eq_emod_of_nonneg (show 0 ≤ x / 65536 by omega), Int.tmod_eq_emod_of_nonneg (show 0 ≤ x / 4294967296 by omega)]
theorem grD_digs {x : Int} (h1 : 0 ≤ x) (h2 : x < 18446744073709551616) : Digs (grD x) ∧ valL (grD x) = x := by
  rw [grD_form h1 h2]
  refine ⟨fun d hd => ?_, ?_⟩
  · simp only [List.mem_cons, List.not_mem_nil, or_false] at hd
    rcases hd with rfl | rfl | rfl | rfl <;> omega
  · simp only [valL]
    omega
theorem valF_take : ∀ (ds : List Int) (m i : Nat), m + i ≤ ds.length → valF (dig ds 0) m i = valL ((ds.drop i).take m)
  | ds, 0, i, h => rfl
  | ds, m + 1, i, h => by
    have hi : i < ds.length := by omega
    rw [List.drop_eq_getElem_cons hi, List.take_succ_cons]
    unfold valF valL
    rw [valF_take ds m (i + 1) (by omega)]
    congr 1
    unfold dig
    rw [Nat.zero_add, List.getD_eq_getElem?_getD, List.getElem?_eq_getElem hi]
    rfl
theorem grC_le (x : Int) : grC x ≤ 4 := cutN_le _ _
theorem grF_val {x : Int} (h1 : 0 ≤ x) (h2 : x < 18446744073709551616) : valF (dig (grD x) 0) (grC x) 0 = x := by
  have hl : (grD x).length = 4 := rfl
  have hc := grC_le x
  rw [valF_take _ _ _ (by omega), List.drop_zero]
  unfold grC
  rw [cutN_val 4 (by omega), List.take_of_length_le (by omega)]
  exact (grD_digs h1 h2).2
def trimB (l : List Int) : Bool := decide (l.length = 0) || !(l.getD (l.length - 1) 0 == 0)
theorem trimB_iff {l : List Int} : trimB l = true ↔ Trim l := by
  unfold trimB Trim
  simp only [Bool.or_eq_true, decide_eq_true_eq, Bool.not_eq_true', beq_eq_false_iff_ne]
  constructor
  · rintro (h | h) h0
    · omega
    · exact h
  · intro h
    by_cases h0 : l.length = 0
    · exact .inl h0
    · exact .inr (h (by omega))
theorem not_more {a b : Int} : (!decide (a > b)) = decide (a ≤ b) := by
  rw [Bool.eq_iff_iff, Bool.not_eq_true', decide_eq_false_iff_not, decide_eq_true_eq]
  omega
theorem gr_loop {rd : List SV → List Row → Option Res2} {val : Int → Int → List SV} {R : List Row} {P : Int → Bool}
    (hr : ∀ k a : Nat, k < 64 → 2 ^ (k + 1) * a + 2 ^ (k + 1) ≤ 18446744073709551616 → rd (val ((2 ^ (k + 1) * a : Nat) : Int) (k : Int)) R = some (.tuple [.nilp, .tuple (val (bif P ((2 ^ (k + 1) * a + 2 ^ k : Nat) : Int) then ((2 ^ (k + 1) * a + 2 ^ k : Nat) : Int) else ((2 ^ (k + 1) * a : Nat) : Int)) ((k : Int) - 1))], R))
    (he : ∀ n, rd (val n (-1)) R = some (.tuple [.ptr 0 0 0 0, .tuple (val n (-1))], R)) : ∀ (k a : Nat), k ≤ 64 → 2 ^ k * a + 2 ^ k ≤ 18446744073709551616 →
    LoopTo rd (val ((2 ^ k * a : Nat) : Int) ((k : Int) - 1)) R (.exit 0) (val (grGo P k ((2 ^ k * a : Nat) : Int)) (-1)) R
  | 0, a, h1, h2 => .done (he _) (by simp)
  | k + 1, a, h1, h2 => by
    have hro := hr k a (by omega) h2
    rw [show (((k + 1 : Nat) : Int) - 1) = (k : Int) by omega]
    have e1 : 2 ^ (k + 1) * a + 2 ^ k = 2 ^ k * (2 * a + 1) := by rw [Nat.pow_succ]; grind
    have e2 : 2 ^ (k + 1) * a = 2 ^ k * (2 * a) := by rw [Nat.pow_succ]; grind
    have e3 : (((2 ^ (k + 1) * a : Nat) : Int) + 2 ^ k) = ((2 ^ (k + 1) * a + 2 ^ k : Nat) : Int) := by push_cast; rfl
    have hp : 0 < 2 ^ k := Nat.pow_pos (by omega)
    have e4 : 2 ^ (k + 1) = 2 * 2 ^ k := by rw [Nat.pow_succ]; omega
    unfold grGo
    rw [e3]
    cases hc : P ((2 ^ (k + 1) * a + 2 ^ k : Nat) : Int) with
    | true =>
      rw [hc, cond_true] at hro
      simp only [cond_true]
      have ih := gr_loop hr he k (2 * a + 1) (by omega) (by rw [← e1]; omega)
      rw [← e1] at ih
      exact .more hro ih
    | false =>
      rw [hc, cond_false] at hro
      simp only [cond_false]
      have ih := gr_loop hr he k (2 * a) (by omega) (by rw [← e2]; omega)
      rw [← e2] at ih
      exact .more hro ih

theorem grX_fits {k a : Nat} (h : 2 ^ (k + 1) * a + 2 ^ (k + 1) ≤ 18446744073709551616) : (0 : Int) ≤ ((2 ^ (k + 1) * a + 2 ^ k : Nat) : Int) ∧ ((2 ^ (k + 1) * a + 2 ^ k : Nat) : Int) < 18446744073709551616 := by
  have h1 : 2 ^ k < 2 ^ (k + 1) := Nat.pow_lt_pow_right (by omega) (by omega)
  omega
theorem gs_loop {os : List Int} (ho : Digs os) (ht : Trim os) (hl : os.length ≤ 1900) : LoopTo (rdGr 1) (valGs os.length 0 63) (rowGs os) (.exit 0) (valGs os.length (grGo (fun x => decide (x * x ≤ valL os)) 64 0) (-1)) (rowGs os) := by
  have key := gr_loop (rd := rdGr 1) (val := valGs os.length) (R := rowGs os) (P := fun x => decide (x * x ≤ valL os)) (fun k a hk h => ?_) (fun n => ?_) 64 0 (by omega) (by omega)
  · exact key
  · obtain ⟨x0, x1⟩ := grX_fits h
    rw [gs_round, grX_val hk h]
    generalize ((2 ^ (k + 1) * a + 2 ^ k : Nat) : Int) = x at x0 x1 ⊢
    obtain ⟨d1, d2⟩ := grD_digs x0 x1
    have hc := grC_le x
    have hD : (grD x).length = 4 := rfl
    have hT := timesL_val d1 d1 0 (grC x) 0 (grC x)
    have hTl : (grTs x).length ≤ 9 := by
      unfold grTs
      rw [timesL_len]
      have := cutN_le (timesD (grD x) (grD x) 0 (grC x) 0 (grC x)) (grC x + grC x + 1)
      omega
    have hm := moreV_val (xs := grTs x) (ys := os) hT.2 ho (timesL_trim _ _ _ _ _ _) ht
    rw [show valL (grTs x) = x * x by unfold grTs; rw [hT.1, grF_val x0 x1]] at hm
    rw [decide_eq_true (show (k : Int) ≥ 0 by omega), show IntKind.u64.wrap (k : Int) = (k : Int) from u64_id (by omega) (by omega), decide_eq_false (show ¬ (k : Int) < 0 by omega), digsB_iff.2 d1, decide_eq_true (show 0 + grC x ≤ (grD x).length by omega), decide_eq_true (show grC x + grC x + 1 ≤ 2000 by omega), decide_eq_true (show 0 + (grTs x).length ≤ (grTs x).length by omega), decide_eq_true (show 0 + os.length ≤ os.length by omega), decide_eq_true (show (grTs x).length ≤ 9223372036854775807 by omega), hm, not_more, IntWalk.i64_in ((k : Int) - 1) (by omega)]
    simp only [Bool.not_false, Bool.and_self, cond_true]
    cases decide (x * x ≤ valL os) <;> rfl
  · rw [gs_round, decide_eq_false (by omega)]
    rfl
theorem gb_loop {bs os : List Int} (hb : Digs bs) (ho : Digs os) (ht : Trim os) (hl : os.length ≤ 1900) (hk2 : bs.length ≤ 1900) : LoopTo (rdGr 2) (valGb bs.length os.length 0 63) (rowGb bs os) (.exit 0) (valGb bs.length os.length (grGo (fun x => decide (x * valL bs ≤ valL os)) 64 0) (-1)) (rowGb bs os) := by
  have key := gr_loop (rd := rdGr 2) (val := valGb bs.length os.length) (R := rowGb bs os) (P := fun x => decide (x * valL bs ≤ valL os)) (fun k a hk h => ?_) (fun n => ?_) 64 0 (by omega) (by omega)
  · exact key
  · obtain ⟨x0, x1⟩ := grX_fits h
    rw [gb_round, grX_val hk h]
    generalize ((2 ^ (k + 1) * a + 2 ^ k : Nat) : Int) = x at x0 x1 ⊢
    obtain ⟨d1, d2⟩ := grD_digs x0 x1
    have hc := grC_le x
    have hD : (grD x).length = 4 := rfl
    have hT := timesL_val d1 hb 0 (grC x) 0 bs.length
    have hTl : (grTb x bs bs.length).length ≤ 1905 := by
      unfold grTb
      rw [timesL_len]
      have := cutN_le (timesD (grD x) bs 0 (grC x) 0 bs.length) (grC x + bs.length + 1)
      omega
    have hm := moreV_val (xs := grTb x bs bs.length) (ys := os) hT.2 ho (timesL_trim _ _ _ _ _ _) ht
    rw [show valL (grTb x bs bs.length) = x * valL bs by unfold grTb; rw [hT.1, grF_val x0 x1, valF_all]] at hm
    rw [decide_eq_true (show (k : Int) ≥ 0 by omega), show IntKind.u64.wrap (k : Int) = (k : Int) from u64_id (by omega) (by omega), decide_eq_false (show ¬ (k : Int) < 0 by omega), digsB_iff.2 d1, digsB_iff.2 hb, decide_eq_true (show 0 + grC x ≤ (grD x).length by omega), decide_eq_true (show 0 + bs.length ≤ bs.length by omega), decide_eq_true (show grC x + bs.length + 1 ≤ 2000 by omega), decide_eq_true (show 0 + (grTb x bs bs.length).length ≤ (grTb x bs bs.length).length by omega), decide_eq_true (show 0 + os.length ≤ os.length by omega), decide_eq_true (show (grTb x bs bs.length).length ≤ 9223372036854775807 by omega), hm, not_more, IntWalk.i64_in ((k : Int) - 1) (by omega)]
    simp only [Bool.not_false, Bool.and_self, cond_true]
    cases decide (x * valL bs ≤ valL os) <;> rfl
  · rw [gb_round, decide_eq_false (by omega)]
    rfl
def grOk (os : List Int) (lo : Nat) : Bool := (digsB os && trimB os) && (decide (lo = os.length) && decide (lo ≤ 1900))
theorem grOk_iff {os : List Int} {lo : Nat} : grOk os lo = true ↔ (Digs os ∧ Trim os) ∧ lo = os.length ∧ lo ≤ 1900 := by
  unfold grOk
  simp only [Bool.and_eq_true, decide_eq_true_eq, digsB_iff, trimB_iff]
def grVs (os : List Int) : Int := grGo (fun x => decide (x * x ≤ valL os)) 64 0
def grVb (bs os : List Int) : Int := grGo (fun x => decide (x * valL bs ≤ valL os)) 64 0
set_option maxHeartbeats 0 in
noncomputable def outGr (v : List SV) (R : List Row) (k : Ex → List SV → List Row → Option Res2) : Option Res2 := match v, R with
  | [.nils, .bool true, .slice 0 1 0 lo none, .int .u64 r, .int .u64 n, .int .i64 i], [.vec true .u64 os] =>
      bif ((decide (r = 0) && decide (n = 0)) && decide (i = 63)) && grOk os lo then k (.exit 0) (valGs lo (grVs os) (-1)) (rowGs os) else none
  | [.slice 0 1 0 lb none, .bool false, .slice 1 1 0 lo none, .int .u64 r, .int .u64 n, .int .i64 i], [.vec true .u64 bs, .vec true .u64 os] =>
      bif ((decide (r = 0) && decide (n = 0)) && decide (i = 63)) && (grOk os lo && (digsB bs && (decide (lb = bs.length) && decide (lb ≤ 1900)))) then k (.exit 0) (valGb lb lo (grVb bs os) (-1)) (rowGb bs os) else none
  | _, _ => none
set_option maxHeartbeats 0 in
theorem lpoGr_ok : LpOk 48 [0, 1, 0, 1, 1] (loopF 47 [0, 1, 2, 6, 7, 8] outGr) := by
  intro b hat s K r h
  refine loopF_ok (fuel := 100) xGr_ok lok_none hat (fun v R k r hr => ?_) h
  have hbody := at_body Try.func48 hat
  subst hbody
  unfold outGr at hr
  split at hr
  · rename_i lo r n i os
    obtain ⟨hb, hr2⟩ := cond_some hr
    simp only [Bool.and_eq_true, decide_eq_true_eq] at hb
    obtain ⟨⟨⟨rfl, rfl⟩, rfl⟩, hg⟩ := hb
    obtain ⟨⟨k1, k2⟩, rfl, k4⟩ := grOk_iff.1 hg
    exact ⟨_, _, _, hr2, gs_loop k1 k2 k4⟩
  · rename_i lb lo r n i bs os
    obtain ⟨hb, hr2⟩ := cond_some hr
    simp only [Bool.and_eq_true, decide_eq_true_eq] at hb
    obtain ⟨⟨⟨rfl, rfl⟩, rfl⟩, hg, k5, rfl, k7⟩ := hb
    obtain ⟨⟨k1, k2⟩, rfl, k4⟩ := grOk_iff.1 hg
    exact ⟨_, _, _, hr2, gb_loop (digsB_iff.1 k5) k1 k2 k4 k7⟩
  · cases hr
noncomputable def lpoGr : Lpo := ⟨_, _, _, lpoGr_ok⟩

set_option maxRecDepth 100000 in
set_option maxHeartbeats 0 in
theorem grs_tree (os : List Int) (lo : Nat) : runK xGr (loopOf [lpoGr]) 300 48 Try.f48 0 [.nils, .bool true, .slice 0 1 0 lo none] [.vec true .u64 os] =
  bif grOk os lo then some (SV.int IntKind.u64 (grVs os), []) else none := by kernel_rfl

set_option maxRecDepth 100000 in
set_option maxHeartbeats 0 in
theorem grb_tree (bs os : List Int) (lb lo : Nat) : runK xGr (loopOf [lpoGr]) 300 48 Try.f48 0 [.slice 0 1 0 lb none, .bool false, .slice 1 1 0 lo none] [.vec true .u64 bs, .vec true .u64 os] =
  bif grOk os lo && (digsB bs && (decide (lb = bs.length) && decide (lb ≤ 1900))) then some (SV.int IntKind.u64 (grVb bs os), []) else none := by kernel_rfl

def oGreat (args : List SV) (rows : List Row) : Option Eff :=
  match args with
  | [.nils, .bool true, .slice io 1 0 lo co] => match rows[io]? with
    | some (.vec _ .u64 os) => some { ok := grOk os lo, val := .int .u64 (grVs os), rd := [io] }
    | _ => none
  | [.slice ib 1 0 lb cb, .bool false, .slice io 1 0 lo co] => match rows[ib]?, rows[io]? with
    | some (.vec _ .u64 bs), some (.vec _ .u64 os) => some { ok := grOk os lo && (digsB bs && (decide (lb = bs.length) && decide (lb ≤ 1900))), val := .int .u64 (grVb bs os), rd := [ib, io] }
    | _, _ => none
  | _ => none
theorem oGreat_ok {args : List SV} {rows : List Row} {n : Nat} {e : Eff} (h : oGreat args rows = some e) (hok : e.ok = true) : FnOk Try.prog 48 args (rows[·]?) n e := by
  unfold oGreat at h
  split at h
  · rename_i io lo co
    split at h
    · rename_i ro os hrow
      cases h
      simp only at hok
      have hv := (grs_tree os lo).trans (bif_true hok rfl)
      obtain ⟨rows', hc, _⟩ := runK_ok xGr_ok loopOf_ok Try.func48 hv
      refine fnOk_weaken (args := [.nils, .bool true, .slice io 1 0 lo none]) ?_ fun ρ vs hv => ?_
      · refine fnOk_reads hc rfl (σ := [io]) rfl (fun i hi => by simp [SV.idsL, SV.ids] at hi; subst hi; simp) (fun i row hr => ?_)
        match i with
        | 0 => simp at hr; subst hr; exact ⟨.u64, os, ro, rfl, hrow⟩
        | i + 1 => simp at hr
      · rw [RelL] at hv ⊢
        obtain ⟨u, us, rfl, h6, h7⟩ := hv
        refine ⟨u, us, rfl, h6, ?_⟩
        rw [RelL] at h7 ⊢
        obtain ⟨u, us, rfl, h6, h7⟩ := h7
        refine ⟨u, us, rfl, h6, ?_⟩
        rw [RelL] at h7 ⊢
        obtain ⟨u, us, rfl, h6, h7⟩ := h7
        exact ⟨u, us, rfl, rel_nocap h6, h7⟩
    · cases h
  · rename_i ib lb cb io lo co
    split at h
    · rename_i rb bs ro os hbr hrow
      cases h
      simp only at hok
      have hv := (grb_tree bs os lb lo).trans (bif_true hok rfl)
      obtain ⟨rows', hc, _⟩ := runK_ok xGr_ok loopOf_ok Try.func48 hv
      refine fnOk_weaken (args := [.slice ib 1 0 lb none, .bool false, .slice io 1 0 lo none]) ?_ fun ρ vs hv => ?_
      · refine fnOk_reads hc rfl (σ := [ib, io]) rfl (fun i hi => by simp [SV.idsL, SV.ids] at hi; rcases hi with rfl | rfl <;> simp) (fun i row hr => ?_)
        match i with
        | 0 => simp at hr; subst hr; exact ⟨.u64, bs, rb, rfl, hbr⟩
        | 1 => simp at hr; subst hr; exact ⟨.u64, os, ro, rfl, hrow⟩
        | i + 2 => simp at hr
      · rw [RelL] at hv ⊢
        obtain ⟨u, us, rfl, h6, h7⟩ := hv
        refine ⟨u, us, rfl, rel_nocap h6, ?_⟩
        rw [RelL] at h7 ⊢
        obtain ⟨u, us, rfl, h6, h7⟩ := h7
        refine ⟨u, us, rfl, h6, ?_⟩
        rw [RelL] at h7 ⊢
        obtain ⟨u, us, rfl, h6, h7⟩ := h7
        exact ⟨u, us, rfl, rel_nocap h6, h7⟩
    · cases h
  · cases h
noncomputable def orcGreat : Orc := ⟨48, oGreat, fun _ _ _ h hok => oGreat_ok h hok, bodied Try.func48 (by kernel_rfl)⟩

end Go.Proofs.Ytboljdeeodeeeaa

namespace Go.Proofs.Ytboljdeeodeeeaa
set_option linter.unusedSimpArgs false
set_option linter.unusedVariables false
set_option maxRecDepth 100000
open Go.RowKit

noncomputable def xPr : Ctx := ctxOf [] [orcTimesD]
theorem xPr_ok : COk Try.prog xPr := ctxOf_ok (by kernel_rfl)
set_option maxRecDepth 100000 in
set_option maxHeartbeats 0 in
theorem pr_tree (xs ys : List Int) (p q : Bool) (oa la ob lb : Nat) : runK xPr (fun _ _ => none) 300 45 Try.f45 9 [.agg [.bool p, .slice 0 1 oa la none], .agg [.bool q, .slice 1 1 ob lb none]] [.vec true .u64 xs, .vec true .u64 ys] =
  bif (digsB xs && digsB ys) && ((decide (oa + la ≤ xs.length) && decide (ob + lb ≤ ys.length)) && decide (la + lb + 1 ≤ 2000)) then
  some (resP p q xs ys oa la ob lb (!(p == q)) (timesL xs ys oa la ob lb))
  else none := by kernel_rfl
def oProdD (args : List SV) (rows : List Row) : Option Eff :=
  match args with
  | [.agg [.bool p, .slice ia 1 oa la none], .agg [.bool q, .slice ib 1 ob lb none]] => match rows[ia]?, rows[ib]? with
    | some (.vec _ .u64 xs), some (.vec _ .u64 ys) => some { ok := (digsB xs && digsB ys) && ((decide (oa + la ≤ xs.length) && decide (ob + lb ≤ ys.length)) && decide (la + lb + 1 ≤ 2000)), val := .agg [.bool (!(p == q)), .slice rows.length 1 0 (timesL xs ys oa la ob lb).length none], rd := [ia, ib], nw := [.vec true .u64 (timesL xs ys oa la ob lb)] }
    | _, _ => none
  | _ => none
theorem oProdD_ok {args : List SV} {rows : List Row} {e : Eff} (h : oProdD args rows = some e) (hok : e.ok = true) : FnOk Try.prog 45 args (rows[·]?) rows.length e := by
  unfold oProdD at h
  split at h
  · rename_i p ia oa la q ib ob lb
    split at h
    · rename_i ra xs rb ys hxr hyr
      cases h
      simp only at hok
      obtain ⟨rows', hc, ht⟩ := runK_ok xPr_ok lok_none Try.func45 ((pr_tree xs ys p q oa la ob lb).trans (bif_true hok rfl))
      refine fnOk_fresh (C := fun s => .agg [.bool (!(p == q)), s]) (s0 := .slice 5 1 0 (timesL xs ys oa la ob lb).length none) (ds := timesL xs ys oa la ob lb) hc (round_big _) (σ := [ia, ib]) rfl (fun i hi => by simp [SV.idsL, SV.ids] at hi; rcases hi with rfl | rfl <;> simp) (fun i row hr => ?_) (.inr ⟨5, 0, none, true, timesL xs ys oa la ob lb, rfl, by simp, by rw [take_get ht (by omega)]; rfl, fun i hi => by rw [Nat.zero_add]⟩)
      match i with
      | 0 => simp at hr; subst hr; exact ⟨.u64, xs, ra, rfl, hxr⟩
      | 1 => simp at hr; subst hr; exact ⟨.u64, ys, rb, rfl, hyr⟩
      | i + 2 => simp at hr
    · cases h
  · cases h
noncomputable def orcProdD : Orc := ⟨45, oProdD, fun _ _ _ h hok => oProdD_ok h hok, bodied Try.func45 (by kernel_rfl)⟩

noncomputable def xDs1 : Ctx := ctxOf [75] [orcOf, orcGreat]
theorem xDs1_ok : COk Try.prog xDs1 := ctxOf_ok (by kernel_rfl)

theorem digs_val {a : Int} (h : In64 a) : valL (digs 5 a.natAbs) = (a.natAbs : Int) ∧ Trim (digs 5 a.natAbs) ∧ Digs (digs 5 a.natAbs) := by
  unfold In64 at h
  have hb : a.natAbs < 65536 ^ 5 := by
    have : a.natAbs ≤ 9223372036854775808 := by omega
    have h2 : (65536 : Nat) ^ 5 = 1208925819614629174706176 := by decide
    omega
  exact ⟨valL_digs 5 _ hb, digs_trim 5 _ hb, digs_in 5 _⟩
/-- A number, times 2^16. -/
theorem up_row {a : Int} (h : In64 a) (h0 : a ≠ 0) : (List.take 1 [0] ++ List.take (digs 5 a.natAbs).length (List.drop 0 (digs 5 a.natAbs))) = 0 :: digs 5 a.natAbs ∧ valL (0 :: digs 5 a.natAbs) = 65536 * (a.natAbs : Int) ∧ grOk (0 :: digs 5 a.natAbs) (1 + (digs 5 a.natAbs).length) = true := by
  obtain ⟨h1, h2, h3⟩ := digs_val h
  have hl := digs_len 5 a.natAbs
  have hne : digs 5 a.natAbs ≠ [] := by
    intro he
    rw [he] at h1
    simp only [valL] at h1
    omega
  refine ⟨by simp, by rw [valL, h1]; omega, grOk_iff.2 ⟨⟨fun d hd => ?_, fun _ => ?_⟩, by rw [List.length_cons]; omega, by omega⟩⟩
  · rcases List.mem_cons.1 hd with rfl | hd
    · omega
    · exact h3 d hd
  · have hp : 0 < (digs 5 a.natAbs).length := List.length_pos_iff.2 hne
    rw [List.length_cons, Nat.add_sub_cancel]
    have := h2 hp
    rw [show (digs 5 a.natAbs).length = (digs 5 a.natAbs).length - 1 + 1 by omega, List.getD_cons_succ]
    exact this
theorem sq_mono {V x y : Int} (h0 : 0 ≤ y) (h : y ≤ x) (hx : decide (x * x ≤ V) = true) : decide (y * y ≤ V) = true := by
  rw [decide_eq_true_eq] at hx ⊢
  exact Int.le_trans (Int.mul_le_mul h h h0 (Int.le_trans h0 h)) hx
theorem by_mono {B V x y : Int} (hB : 0 ≤ B) (h : y ≤ x) (hx : decide (x * B ≤ V) = true) : decide (y * B ≤ V) = true := by
  rw [decide_eq_true_eq] at hx ⊢
  exact Int.le_trans (Int.mul_le_mul_of_nonneg_right h hB) hx
theorem grVs_root {os : List Int} {W : Nat} (hv : valL os = (W : Int)) (hW : W < 340282366920938463463374607431768211456) : grVs os = (rootN W : Int) ∧ 0 ≤ grVs os ∧ grVs os < 18446744073709551616 := by
  obtain ⟨h1, h2, h3, h4⟩ := grGo_spec (P := fun x => decide (x * x ≤ valL os)) (fun x y h0 h hx => sq_mono h0 h hx) 64 0 (Int.le_refl _) (by rw [hv, decide_eq_true_eq]; omega)
  rw [show grGo (fun x => decide (x * x ≤ valL os)) 64 0 = grVs os from rfl] at h1 h2 h3 h4
  generalize grVs os = r at h1 h2 h3 h4 ⊢
  obtain ⟨r, rfl⟩ : ∃ n : Nat, r = n := ⟨r.toNat, by omega⟩
  have h3' : (r : Int) < 18446744073709551616 := by
    have : (0 : Int) + 2 ^ 64 = 18446744073709551616 := by decide
    omega
  refine ⟨?_, by omega, h3'⟩
  congr 1
  refine root_unique ⟨?_, ?_⟩ (rootN_spec W)
  · rw [decide_eq_true_eq, hv] at h1
    exact_mod_cast h1
  · rcases Nat.lt_or_ge W ((r + 1) * (r + 1)) with h | h
    · exact h
    · exfalso
      have hr : r + 1 < 18446744073709551616 := by
        rcases Nat.lt_or_ge (r + 1) 18446744073709551616 with hh | hh
        · exact hh
        · have := Nat.mul_le_mul hh hh
          omega
      have := h4 ((r + 1 : Nat) : Int) (by omega) (by have : (0 : Int) + 2 ^ 64 = 18446744073709551616 := by decide
                                                      omega) (by rw [decide_eq_true_eq, hv]; exact_mod_cast h)
      omega
theorem grVb_quo {bs os : List Int} {A B : Nat} (hb : valL bs = (B : Int)) (hv : valL os = (A : Int)) (hB : 0 < B) : grVb bs os = ((min (A / B) 18446744073709551615 : Nat) : Int) := by
  obtain ⟨h1, h2, h3, h4⟩ := grGo_spec (P := fun x => decide (x * valL bs ≤ valL os)) (fun x y h0 h hx => by_mono (by rw [hb]; omega) h hx) 64 0 (Int.le_refl _) (by rw [hv, Int.zero_mul, decide_eq_true_eq]; omega)
  rw [show grGo (fun x => decide (x * valL bs ≤ valL os)) 64 0 = grVb bs os from rfl] at h1 h2 h3 h4
  generalize grVb bs os = r at h1 h2 h3 h4 ⊢
  obtain ⟨r, rfl⟩ : ∃ n : Nat, r = n := ⟨r.toNat, by omega⟩
  rw [hb, hv] at h1 h4
  have e64 : (0 : Int) + 2 ^ 64 = 18446744073709551616 := by decide
  rw [decide_eq_true_eq] at h1
  have k1 : r ≤ A / B := (Nat.le_div_iff_mul_le hB).2 (by exact_mod_cast h1)
  congr 1
  rcases Nat.lt_or_ge r (min (A / B) 18446744073709551615) with h | h
  · exfalso
    have h5 : r + 1 ≤ A / B := by omega
    have h6 := (Nat.le_div_iff_mul_le hB).1 h5
    have := h4 ((r + 1 : Nat) : Int) (by omega) (by omega) (by rw [decide_eq_true_eq]; exact_mod_cast h6)
    omega
  · omega

end Go.Proofs.Ytboljdeeodeeeaa

namespace Go.Proofs.Ytboljdeeodeeeaa
set_option linter.unusedSimpArgs false
set_option linter.unusedVariables false
set_option maxRecDepth 100000
open Go.RowKit

/-- A product of two numbers: its digits, its sign; sums of such. -/
def prT (a b : Int) : List Int := timesL (digs 5 a.natAbs) (digs 5 b.natAbs) 0 (digs 5 a.natAbs).length 0 (digs 5 b.natAbs).length
def prS (a b : Int) : Bool := !(decide (a < 0) == decide (b < 0))
def prK (a b : Int) : Bool := (digsB (digs 5 a.natAbs) && digsB (digs 5 b.natAbs)) && ((decide (0 + (digs 5 a.natAbs).length ≤ (digs 5 a.natAbs).length) && decide (0 + (digs 5 b.natAbs).length ≤ (digs 5 b.natAbs).length)) && decide ((digs 5 a.natAbs).length + (digs 5 b.natAbs).length + 1 ≤ 2000))
def plK (xs ys : List Int) : Bool := (digsB xs && digsB ys) && ((decide (0 + xs.length ≤ xs.length) && decide (0 + ys.length ≤ ys.length)) && decide (max xs.length ys.length + 1 ≤ 1000))
def sum2 (a b : V3) : Bool × List Int := plusS (prS a.x b.x) (prS a.y b.y) (prT a.x b.x) (prT a.y b.y) 0 (prT a.x b.x).length 0 (prT a.y b.y).length
def sum3 (a b : V3) : Bool × List Int := plusS (sum2 a b).1 (prS a.z b.z) (sum2 a b).2 (prT a.z b.z) 0 (sum2 a b).2.length 0 (prT a.z b.z).length
/-- What lies behind 2^16, as a number. -/
def behR (b : Bool) (l : List Int) : Option Res2 :=
  bif (l.length : Int) == 0 then
  bif digsB l && (decide (0 + l.length ≤ l.length) && decide (l.length ≤ 9223372036854775807)) then some (.int .i64 (bigN b (valF (dig l 0) l.length 0)), []) else none
  else
  bif decide (1 ≤ (l.length : Int)) then
  bif digsB l && (decide (0 + Int.toNat 1 + (l.length - Int.toNat 1) ≤ l.length) && decide (l.length - Int.toNat 1 ≤ 9223372036854775807)) then some (.int .i64 (bigN b (valF (dig l (0 + Int.toNat 1)) (l.length - Int.toNat 1) 0)), []) else none
  else none

noncomputable def xLo : Ctx := ctxOf [] [orcOf, orcProdD, orcPlusD, orcIntD, orcGreat]
theorem xLo_ok : COk Try.prog xLo := ctxOf_ok (by kernel_rfl)
set_option maxRecDepth 100000 in
set_option maxHeartbeats 0 in
theorem lo_tree (a : V3) : runK xLo (fun _ _ => none) 300 24 Try.f24 0 [.agg a.sv] [] =
  bif in64B a.x then bif in64B a.x then bif prK a.x a.x then
  bif in64B a.y then bif in64B a.y then bif prK a.y a.y then
  bif in64B a.z then bif in64B a.z then bif prK a.z a.z then
  bif plK (prT a.x a.x) (prT a.y a.y) then bif plK (sum2 a a).2 (prT a.z a.z) then
  bif grOk (sum3 a a).2 (sum3 a a).2.length then
  bif decide (grVs (sum3 a a).2 > 9223372036854775807) then some (.int .i64 9223372036854775807, []) else some (.int .i64 (IntKind.i64.wrap (grVs (sum3 a a).2)), [])
  else none else none else none else none else none else none else none else none else none else none else none else none := by kernel_rfl

theorem behR_val {b : Bool} {l : List Int} (h : Digs l) (hl : l.length ≤ 3000) : behR b l = some (.int .i64 (bigN b (valL l / 65536)), []) := by
  unfold behR
  cases l with
  | nil => rfl
  | cons d t =>
    have hd := h d (List.mem_cons_self ..)
    have e : valF (dig (d :: t) (0 + Int.toNat 1)) ((d :: t).length - Int.toNat 1) 0 = valL (d :: t) / 65536 := by
      rw [show (d :: t).length - Int.toNat 1 = t.length from rfl, valF_ext (g := dig t 0), valF_all, valL]
      · omega
      · intro i
        unfold dig
        rw [show 0 + Int.toNat 1 + i = i + 1 from (by rw [show Int.toNat 1 = 1 from rfl]; omega), List.getD_cons_succ, Nat.zero_add]
    rw [e, digsB_iff.2 h, show (((d :: t).length : Int) == 0) = false by rw [beq_eq_false_iff_ne, List.length_cons]; omega, decide_eq_true (show (1 : Int) ≤ ((d :: t).length : Int) by rw [List.length_cons]; omega), decide_eq_true (show 0 + Int.toNat 1 + ((d :: t).length - Int.toNat 1) ≤ (d :: t).length from (by rw [show Int.toNat 1 = 1 from rfl, List.length_cons]; omega)), decide_eq_true (show (d :: t).length - Int.toNat 1 ≤ 9223372036854775807 by omega)]
    rfl
theorem prK_ok (a b : Int) : prK a b = true := by
  have h1 := digs_len 5 a.natAbs
  have h2 := digs_len 5 b.natAbs
  unfold prK
  rw [digsB_iff.2 (digs_in 5 _), digsB_iff.2 (digs_in 5 _), decide_eq_true (by omega), decide_eq_true (by omega), decide_eq_true (by omega)]
  rfl
theorem plK_ok {xs ys : List Int} (hx : Digs xs) (hy : Digs ys) (h1 : xs.length ≤ 500) (h2 : ys.length ≤ 500) : plK xs ys = true := by
  unfold plK
  rw [digsB_iff.2 hx, digsB_iff.2 hy, decide_eq_true (by omega), decide_eq_true (by omega), decide_eq_true (by omega)]
  rfl
theorem prT_facts {a b : Int} (ha : In64 a) (hb : In64 b) : Digs (prT a b) ∧ Trim (prT a b) ∧ (prT a b).length ≤ 11 ∧ valL (prT a b) = ((a.natAbs * b.natAbs : Nat) : Int) ∧ sg (prS a b) (valL (prT a b)) = a * b := by
  obtain ⟨a1, a2, a3⟩ := digs_val ha
  obtain ⟨b1, b2, b3⟩ := digs_val hb
  have l1 := digs_len 5 a.natAbs
  have l2 := digs_len 5 b.natAbs
  obtain ⟨t1, t2⟩ := timesL_val a3 b3 0 (digs 5 a.natAbs).length 0 (digs 5 b.natAbs).length
  have hv : valL (prT a b) = ((a.natAbs * b.natAbs : Nat) : Int) := by
    unfold prT
    rw [t1, valF_all, valF_all, a1, b1]
    push_cast
    rfl
  refine ⟨t2, timesL_trim _ _ _ _ _ _, ?_, hv, ?_⟩
  · unfold prT
    rw [timesL_len]
    have := cutN_le (timesD (digs 5 a.natAbs) (digs 5 b.natAbs) 0 (digs 5 a.natAbs).length 0 (digs 5 b.natAbs).length) ((digs 5 a.natAbs).length + (digs 5 b.natAbs).length + 1)
    omega
  · rw [hv]
    unfold sg prS
    rcases Int.lt_or_le a 0 with h1 | h1 <;> rcases Int.lt_or_le b 0 with h2 | h2
    · rw [decide_eq_true h1, decide_eq_true h2]
      show ((a.natAbs * b.natAbs : Nat) : Int) = a * b
      rw [Int.natCast_mul, show (a.natAbs : Int) = -a by omega, show (b.natAbs : Int) = -b by omega, Int.neg_mul_neg]
    · rw [decide_eq_true h1, decide_eq_false (by omega)]
      show -((a.natAbs * b.natAbs : Nat) : Int) = a * b
      rw [Int.natCast_mul, show (a.natAbs : Int) = -a by omega, show (b.natAbs : Int) = b by omega, Int.neg_mul, Int.neg_neg]
    · rw [decide_eq_false (by omega), decide_eq_true h2]
      show -((a.natAbs * b.natAbs : Nat) : Int) = a * b
      rw [Int.natCast_mul, show (a.natAbs : Int) = a by omega, show (b.natAbs : Int) = -b by omega, Int.mul_neg, Int.neg_neg]
    · rw [decide_eq_false (by omega), decide_eq_false (by omega)]
      show ((a.natAbs * b.natAbs : Nat) : Int) = a * b
      rw [Int.natCast_mul, show (a.natAbs : Int) = a by omega, show (b.natAbs : Int) = b by omega]
theorem plusS_more {xs ys : List Int} {p q : Bool} : Trim (plusS p q xs ys 0 xs.length 0 ys.length).2 ∧ (plusS p q xs ys 0 xs.length 0 ys.length).2.length ≤ max xs.length ys.length + 1 := by
  have hs : Trim (sumL xs ys 0 xs.length 0 ys.length) ∧ (sumL xs ys 0 xs.length 0 ys.length).length ≤ max xs.length ys.length + 1 := by
    refine ⟨cut_trim (by rw [show (sumD xs ys 0 xs.length 0 ys.length).length = max xs.length ys.length + 1 from sumGo_len _ _ _ _ _]; omega), ?_⟩
    rw [sumL_len]
    exact cutN_le _ _
  have hl : ∀ {us vs : List Int}, us.length ≤ max xs.length ys.length → Trim (lessL us vs 0 us.length 0 vs.length) ∧ (lessL us vs 0 us.length 0 vs.length).length ≤ max xs.length ys.length + 1 := by
    intro us vs h
    refine ⟨cut_trim (by rw [show (lessD us vs 0 us.length 0 vs.length).length = us.length from lessGo_len _ _ _ _ _]; omega), ?_⟩
    rw [lessL_len]
    have := cutN_le (lessD us vs 0 us.length 0 vs.length) us.length
    omega
  unfold plusS
  cases p == q
  · cases moreV ys xs 0 ys.length 0 xs.length
    · exact hl (by omega)
    · exact hl (by omega)
  · exact hs
theorem sum3_facts {a b : V3} (ha : a.fits) (hb : b.fits) : plK (prT a.x b.x) (prT a.y b.y) = true ∧ plK (sum2 a b).2 (prT a.z b.z) = true ∧ Digs (sum3 a b).2 ∧ Trim (sum3 a b).2 ∧ (sum3 a b).2.length ≤ 13 ∧ sg (sum3 a b).1 (valL (sum3 a b).2) = a.x * b.x + a.y * b.y + a.z * b.z := by
  obtain ⟨x1, x2, x3, _, x5⟩ := prT_facts ha.1 hb.1
  obtain ⟨y1, y2, y3, _, y5⟩ := prT_facts ha.2.1 hb.2.1
  obtain ⟨z1, z2, z3, _, z5⟩ := prT_facts ha.2.2 hb.2.2
  obtain ⟨p1, p2⟩ := plusS_val (p := prS a.x b.x) (q := prS a.y b.y) x1 y1 x2 y2
  obtain ⟨p3, p4⟩ := plusS_more (xs := prT a.x b.x) (ys := prT a.y b.y) (p := prS a.x b.x) (q := prS a.y b.y)
  rw [show plusS (prS a.x b.x) (prS a.y b.y) (prT a.x b.x) (prT a.y b.y) 0 (prT a.x b.x).length 0 (prT a.y b.y).length = sum2 a b from rfl] at p1 p2 p3 p4
  obtain ⟨q1, q2⟩ := plusS_val (p := (sum2 a b).1) (q := prS a.z b.z) p2 z1 p3 z2
  obtain ⟨q3, q4⟩ := plusS_more (xs := (sum2 a b).2) (ys := prT a.z b.z) (p := (sum2 a b).1) (q := prS a.z b.z)
  rw [show plusS (sum2 a b).1 (prS a.z b.z) (sum2 a b).2 (prT a.z b.z) 0 (sum2 a b).2.length 0 (prT a.z b.z).length = sum3 a b from rfl] at q1 q2 q3 q4
  exact ⟨plK_ok x1 y1 (by omega) (by omega), plK_ok p2 z1 (by omega) (by omega), q2, q3, by omega, by rw [q1, p1, x5, y5, z5]⟩

theorem bigN_cut (b : Bool) (n : Nat) : bigN b (n : Int) = signedN n b := by
  rw [signedN_cut]
  unfold bigN
  cases b <;> rfl

theorem up_down (a c : Int) : ((upN a c : Nat) : Int) - ((downN a c : Nat) : Int) = a * c := by
  unfold upN downN
  rcases Int.lt_or_le a 0 with h1 | h1 <;> rcases Int.lt_or_le c 0 with h2 | h2
  · rw [decide_eq_true h1, decide_eq_true h2, if_pos rfl, if_pos rfl, Int.natCast_mul, show (a.natAbs : Int) = -a by omega, show (c.natAbs : Int) = -c by omega, Int.neg_mul_neg]; omega
  · rw [decide_eq_true h1, decide_eq_false (show ¬ c < 0 by omega), if_neg (by simp), if_neg (by simp), Int.natCast_mul, show (a.natAbs : Int) = -a by omega, show (c.natAbs : Int) = c by omega, Int.neg_mul]; omega
  · rw [decide_eq_false (show ¬ a < 0 by omega), decide_eq_true h2, if_neg (by simp), if_neg (by simp), Int.natCast_mul, show (a.natAbs : Int) = a by omega, show (c.natAbs : Int) = -c by omega, Int.mul_neg]; omega
  · rw [decide_eq_false (show ¬ a < 0 by omega), decide_eq_false (show ¬ c < 0 by omega), if_pos rfl, if_pos rfl, Int.natCast_mul, show (a.natAbs : Int) = a by omega, show (c.natAbs : Int) = c by omega]; omega

theorem dlong_val {a : V3} (ha : a.fits) : runK xLo (fun _ _ => none) 300 24 Try.f24 0 [.agg a.sv] [] = some (.int .i64 a.long, []) := by
  obtain ⟨k1, k2, k3, k4, k5, k6⟩ := sum3_facts ha ha
  have hV := (valL_in k3).1
  have u1 := up_down a.x a.x
  have u2 := up_down a.y a.y
  have u3 := up_down a.z a.z
  have d0 : ∀ c : Int, downN c c = 0 := fun c => by unfold downN; rw [if_pos rfl]
  have hs : valL (sum3 a a).2 = ((upV a a : Nat) : Int) := by
    rw [d0] at u1 u2 u3
    have hU : a.x * a.x + a.y * a.y + a.z * a.z = ((upV a a : Nat) : Int) := by unfold upV; omega
    rw [hU] at k6
    unfold sg at k6
    cases hq : (sum3 a a).1 with
    | true => rw [hq] at k6; simp only [cond_true] at k6; omega
    | false => rw [hq] at k6; exact k6
  obtain ⟨r1, r2, r3⟩ := grVs_root hs (upV_lt ha)
  rw [lo_tree, in64B_iff.2 ha.1, in64B_iff.2 ha.2.1, in64B_iff.2 ha.2.2, prK_ok, prK_ok, prK_ok, k1, k2, grOk_iff.2 ⟨⟨k3, k4⟩, rfl, by omega⟩, r1]
  rw [r1] at r2 r3
  simp only [cond_true]
  unfold V3.long
  rw [← rootC_eq (upV_lt ha)]
  generalize rootN (upV a a) = R at r2 r3 ⊢
  unfold signedN
  rw [if_neg (by simp)]
  by_cases hR : (R : Int) > 9223372036854775807
  · rw [decide_eq_true hR, Int.min_eq_right (by omega)]; rfl
  · rw [decide_eq_false hR, IntWalk.i64_in (R : Int) (by omega), Int.min_eq_left (by omega)]; rfl

end Go.Proofs.Ytboljdeeodeeeaa

namespace Go.Proofs.Ytboljdeeodeeeaa
set_option linter.unusedSimpArgs false
set_option linter.unusedVariables false
set_option maxRecDepth 100000
open Go.RowKit

def oLongD : List SV → Option Eff
  | [.agg [.int .i64 a, .int .i64 b, .int .i64 c]] => some { ok := fitsB ⟨a, b, c⟩, val := .int .i64 (V3.long ⟨a, b, c⟩) }
  | _ => none
theorem oLongD_ok {m : Nat → Option Row} {n : Nat} {args : List SV} {e : Eff} (h : oLongD args = some e) (hok : e.ok = true) : FnOk Try.prog 24 args m n e := by
  unfold oLongD at h
  split at h
  · rename_i a b c
    cases h
    skip
    obtain ⟨rows', hc, _⟩ := runK_ok xLo_ok lok_none Try.func24 (dlong_val (a := ⟨a, b, c⟩) (fitsB_iff.1 hok))
    exact fnOk_pure hc rfl rfl
  · cases h
noncomputable def orcLongD : Orc := ⟨24, fun args _ => oLongD args, fun _ _ _ h hok => oLongD_ok h hok, bodied Try.func24 (by kernel_rfl)⟩

end Go.Proofs.Ytboljdeeodeeeaa
