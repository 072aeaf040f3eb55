/- The reference's parts of a line: crossings. -/
import Derived.Test.YtikifgbbiffclaaVmWi
import Derived.Test.YtikifgbbiffclaaVmSi
namespace Go.Proofs.Ytikifgbbiffclaa
set_option linter.unusedSimpArgs false
set_option linter.unusedVariables false
open Go.RowKit

noncomputable def xCr : Ctx := ctxOf [] [orcWith]
theorem xCr_ok : COk Try.prog xCr := ctxOf_ok (by kernel_rfl)
def valC0 (len : Nat) (a b k : Int) : List SV := [.slice 0 2 0 len none, .int .i64 a, .int .i64 b, .nils, .int .i64 k]
def valC1 (len : Nat) (a b k : Int) : List SV := [.slice 1 2 0 len none, .int .i64 a, .int .i64 b, .nils, .int .i64 k]
def rowC0 (xs : List Pt) : List Row := [.vec false .pt xs]
def rowC1 (xs : List Pt) : List Row := [.gone, .vec false .pt xs]
noncomputable def rdCr : List SV → List Row → Option Res2 := roundS xCr (fun _ _ => none) 100 44 [0, 1, 0, 1] (bodyAt Try.f44 [0, 1, 0, 1]) 45 1 [0, 1, 2, 6, 7]

def crR1 (a b k : Int) : Pt := ⟨IntKind.i64.wrap (0 - IntKind.i64.wrap (IntKind.i64.wrap (k * 65536) - a)), IntKind.i64.wrap (0 - IntKind.i64.wrap (b - a))⟩
def crR2 (a b k : Int) : Pt := ⟨IntKind.i64.wrap (IntKind.i64.wrap (k * 65536) - a), IntKind.i64.wrap (b - a)⟩
def okW (len : Nat) (xs : List Pt) (x : Pt) : Bool := (decide (len = xs.length) && decide (len ≤ 1000)) && (decide (0 < posW xs x xs.length 0) || foundW xs x)
set_option maxRecDepth 100000 in
set_option maxHeartbeats 0 in
theorem c0_round (xs : List Pt) (len : Nat) (a b k : Int) : rdCr (valC0 len a b k) (rowC0 xs) =
  bif (bif decide (k ≤ 32) == true then a != b else false) then
  bif decide (IntKind.i64.wrap (b - a) < 0) then
  bif (bif decide ((crR1 a b k).p ≥ 0) == true then decide ((crR1 a b k).p ≤ (crR1 a b k).q) else false) then
  bif okW len xs (crR1 a b k) then some (.tuple [.nilp, .tuple (valC1 (withW xs (crR1 a b k)).length a b (IntKind.i64.wrap (k + 1)))], rowC1 (withW xs (crR1 a b k))) else none
  else some (.tuple [.nilp, .tuple (valC0 len a b (IntKind.i64.wrap (k + 1)))], rowC0 xs)
  else
  bif (bif decide ((crR2 a b k).p ≥ 0) == true then decide ((crR2 a b k).p ≤ (crR2 a b k).q) else false) then
  bif okW len xs (crR2 a b k) then some (.tuple [.nilp, .tuple (valC1 (withW xs (crR2 a b k)).length a b (IntKind.i64.wrap (k + 1)))], rowC1 (withW xs (crR2 a b k))) else none
  else some (.tuple [.nilp, .tuple (valC0 len a b (IntKind.i64.wrap (k + 1)))], rowC0 xs)
  else some (.tuple [.ptr 0 0 0 0, .tuple (valC0 len a b k)], rowC0 xs) := by kernel_rfl
set_option maxRecDepth 100000 in
set_option maxHeartbeats 0 in
theorem c1_round (xs : List Pt) (len : Nat) (a b k : Int) : rdCr (valC1 len a b k) (rowC1 xs) =
  bif (bif decide (k ≤ 32) == true then a != b else false) then
  bif decide (IntKind.i64.wrap (b - a) < 0) then
  bif (bif decide ((crR1 a b k).p ≥ 0) == true then decide ((crR1 a b k).p ≤ (crR1 a b k).q) else false) then
  bif okW len xs (crR1 a b k) then some (.tuple [.nilp, .tuple (valC1 (withW xs (crR1 a b k)).length a b (IntKind.i64.wrap (k + 1)))], rowC1 (withW xs (crR1 a b k))) else none
  else some (.tuple [.nilp, .tuple (valC1 len a b (IntKind.i64.wrap (k + 1)))], rowC1 xs)
  else
  bif (bif decide ((crR2 a b k).p ≥ 0) == true then decide ((crR2 a b k).p ≤ (crR2 a b k).q) else false) then
  bif okW len xs (crR2 a b k) then some (.tuple [.nilp, .tuple (valC1 (withW xs (crR2 a b k)).length a b (IntKind.i64.wrap (k + 1)))], rowC1 (withW xs (crR2 a b k))) else none
  else some (.tuple [.nilp, .tuple (valC1 len a b (IntKind.i64.wrap (k + 1)))], rowC1 xs)
  else some (.tuple [.ptr 0 0 0 0, .tuple (valC1 len a b k)], rowC1 xs) := by kernel_rfl

/-- The part of a line at which it is at a cell's edge. -/
def crP (a b k : Int) : Pt := bif decide (b < a) then ⟨a - k * 65536, a - b⟩ else ⟨k * 65536 - a, b - a⟩
def crIn (a b k : Int) : Bool := decide (0 ≤ (crP a b k).p) && decide ((crP a b k).p ≤ (crP a b k).q)
def crGo (a b : Int) : Nat → Int → List Pt → List Pt
  | 0, _, xs => xs
  | n + 1, k, xs => crGo a b n (k + 1) (bif crIn a b k then withW xs (crP a b k) else xs)
def crHit (a b : Int) : Nat → Int → Bool
  | 0, _ => false
  | n + 1, k => bif crIn a b k then true else crHit a b n (k + 1)
theorem crGo_none {a b : Int} : ∀ {n : Nat} {k : Int} {xs : List Pt}, crHit a b n k = false → crGo a b n k xs = xs
  | 0, _, _, _ => rfl
  | n + 1, k, xs, h => by
    unfold crHit at h
    unfold crGo
    cases hc : crIn a b k with
    | true => rw [hc] at h; cases h
    | false => rw [hc] at h; simp only [cond_false] at h ⊢; exact crGo_none h
def Hd (xs : List Pt) : Prop := xs[0]? = some ⟨0, 1⟩
theorem hd_pos {xs : List Pt} (h : Hd xs) : 0 < xs.length := (List.getElem?_eq_some_iff.1 h).1
theorem hd_getD {xs : List Pt} (h : Hd xs) : xs.getD (0 + 0) Knd.pt.dflt = (⟨0, 1⟩ : Pt) := by
  show xs.getD 0 (⟨0, 0⟩ : Pt) = _
  unfold Hd at h
  rw [List.getD_eq_getElem?_getD, h]
  rfl
theorem hd_ok {xs : List Pt} {x : Pt} (h : Hd xs) (h0 : 0 ≤ x.p) (h1 : x.p ≤ 4000000) : 0 < posW xs x xs.length 0 ∨ foundW xs x = true := by
  have hp := hd_pos h
  obtain ⟨n, hn⟩ : ∃ n, xs.length = n + 1 := ⟨xs.length - 1, by omega⟩
  have hg := hd_getD h
  have e : ltP (⟨0, 1⟩ : Pt) x = decide (0 < x.p) := by
    unfold ltP
    simp only [Int.zero_mul, Int.mul_one]
    rw [show IntKind.i64.wrap 0 = 0 from rfl, IntWalk.i64_in x.p (by omega)]
  have ep : posW xs x xs.length 0 = bif decide (0 < x.p) then posW xs x n 1 else 0 := by
    rw [hn, show posW xs x (n + 1) 0 = (bif ltP (xs.getD (0 + 0) Knd.pt.dflt) x then posW xs x n (0 + 1) else 0) from rfl, hg, e]
  by_cases hx : 0 < x.p
  · left
    rw [ep, decide_eq_true hx]
    have := (posW_le (xs := xs) (x := x) n 1).1
    simp only [cond_true]
    omega
  · right
    unfold foundW
    rw [ep, decide_eq_false hx]
    simp only [cond_false]
    rw [decide_eq_true hp]
    have hg' : xs.getD 0 (⟨0, 0⟩ : Pt) = ⟨0, 1⟩ := hg
    rw [hg']
    unfold ltP
    simp only [Int.zero_mul, Int.mul_one]
    rw [show IntKind.i64.wrap 0 = 0 from rfl, IntWalk.i64_in x.p (by omega), decide_eq_false (by omega)]
    rfl
theorem withW_hd {xs : List Pt} {x : Pt} (h : Hd xs) (h0 : 0 ≤ x.p) (h1 : x.p ≤ 4000000) : Hd (withW xs x) ∧ (withW xs x).length ≤ xs.length + 1 := by
  unfold withW
  cases hf : foundW xs x with
  | true => exact ⟨h, by simp only [cond_true]; omega⟩
  | false =>
    simp only [cond_false]
    have hp : 0 < posW xs x xs.length 0 := by
      rcases hd_ok h h0 h1 with hp | hp
      · exact hp
      · rw [hf] at hp; cases hp
    have hle := (posW_le (xs := xs) (x := x) xs.length 0).2
    refine ⟨?_, ?_⟩
    · unfold Hd at h ⊢
      rw [List.getElem?_append_left (by rw [List.length_take]; have := hd_pos h; omega), List.getElem?_take, if_pos hp]
      exact h
    · rw [List.length_append, List.length_take, List.length_cons, List.length_drop]
      omega

theorem cr_form {a b k : Int} (ha : 0 ≤ a ∧ a < 2097152) (hb : 0 ≤ b ∧ b < 2097152) (hk : 0 ≤ k ∧ k ≤ 32) : IntKind.i64.wrap (b - a) = b - a ∧ (b < a → crR1 a b k = crP a b k) ∧ (¬ b < a → crR2 a b k = crP a b k) ∧ (crP a b k).p ≤ 4000000 := by
  have e1 : IntKind.i64.wrap (b - a) = b - a := IntWalk.i64_in _ (by omega)
  have e2 : IntKind.i64.wrap (IntKind.i64.wrap (k * 65536) - a) = k * 65536 - a := by rw [IntWalk.i64_in (k * 65536) (by omega), IntWalk.i64_in _ (by omega)]
  refine ⟨e1, fun h => ?_, fun h => ?_, ?_⟩
  · unfold crR1 crP
    rw [e1, e2, IntWalk.i64_in (0 - (k * 65536 - a)) (by omega), IntWalk.i64_in (0 - (b - a)) (by omega), decide_eq_true h]
    show (⟨_, _⟩ : Pt) = ⟨_, _⟩
    congr 1 <;> omega
  · unfold crR2 crP
    rw [e1, e2, decide_eq_false h]
    rfl
  · unfold crP
    cases decide (b < a)
    · simp only [cond_false]; omega
    · simp only [cond_true]; omega
theorem okW_ok {xs : List Pt} {x : Pt} (h : Hd xs) (hl : xs.length ≤ 1000) (h0 : 0 ≤ x.p) (h1 : x.p ≤ 4000000) : okW xs.length xs x = true := by
  unfold okW
  rw [decide_eq_true rfl, decide_eq_true hl]
  rcases hd_ok h h0 h1 with h | h
  · rw [decide_eq_true h]; rfl
  · rw [h, Bool.or_true]; rfl
section
variable {a b : Int}
/-- A round, plainly. -/
theorem c_round (ha : 0 ≤ a ∧ a < 2097152) (hb : 0 ≤ b ∧ b < 2097152) (hne : a ≠ b) {k : Int} (hk : 0 ≤ k ∧ k ≤ 32) {xs : List Pt} (h : Hd xs) (hl : xs.length ≤ 1000) :
    rdCr (valC0 xs.length a b k) (rowC0 xs) = (bif crIn a b k then some (.tuple [.nilp, .tuple (valC1 (withW xs (crP a b k)).length a b (k + 1))], rowC1 (withW xs (crP a b k))) else some (.tuple [.nilp, .tuple (valC0 xs.length a b (k + 1))], rowC0 xs)) ∧
    rdCr (valC1 xs.length a b k) (rowC1 xs) = (bif crIn a b k then some (.tuple [.nilp, .tuple (valC1 (withW xs (crP a b k)).length a b (k + 1))], rowC1 (withW xs (crP a b k))) else some (.tuple [.nilp, .tuple (valC1 xs.length a b (k + 1))], rowC1 xs)) := by
  obtain ⟨e1, e2, e3, e4⟩ := cr_form ha hb hk
  have hn : (a != b) = true := by simpa using hne
  rw [c0_round, c1_round, decide_eq_true hk.2, hn, e1, IntWalk.i64_in (k + 1) (by omega)]
  simp only [beq_self_eq_true, cond_true]
  by_cases hlt : b < a
  · rw [decide_eq_true (show b - a < 0 by omega), e2 hlt]
    simp only [cond_true, and_form]
    rw [show (decide ((crP a b k).p ≥ 0) && decide ((crP a b k).p ≤ (crP a b k).q)) = crIn a b k from rfl]
    cases hc : crIn a b k with
    | false => exact ⟨rfl, rfl⟩
    | true =>
      unfold crIn at hc
      simp only [Bool.and_eq_true, decide_eq_true_eq] at hc
      rw [okW_ok h hl hc.1 e4]
      exact ⟨rfl, rfl⟩
  · rw [decide_eq_false (show ¬ b - a < 0 by omega), e3 hlt]
    simp only [cond_false, and_form]
    rw [show (decide ((crP a b k).p ≥ 0) && decide ((crP a b k).p ≤ (crP a b k).q)) = crIn a b k from rfl]
    cases hc : crIn a b k with
    | false => exact ⟨rfl, rfl⟩
    | true =>
      unfold crIn at hc
      simp only [Bool.and_eq_true, decide_eq_true_eq] at hc
      rw [okW_ok h hl hc.1 e4]
      exact ⟨rfl, rfl⟩
theorem crGo_hd (ha : 0 ≤ a ∧ a < 2097152) (hb : 0 ≤ b ∧ b < 2097152) : ∀ (n : Nat) (k : Int) (xs : List Pt), 0 ≤ k → k + n = 33 → Hd xs → Hd (crGo a b n k xs) ∧ (crGo a b n k xs).length ≤ xs.length + n
  | 0, k, xs, h0, h1, h => ⟨h, Nat.le_refl _⟩
  | n + 1, k, xs, h0, h1, h => by
    unfold crGo
    cases hc : crIn a b k with
    | false =>
      simp only [cond_false]
      have ih := crGo_hd ha hb n (k + 1) xs (by omega) (by omega) h
      exact ⟨ih.1, by omega⟩
    | true =>
      simp only [cond_true]
      have hc' := hc
      unfold crIn at hc'
      simp only [Bool.and_eq_true, decide_eq_true_eq] at hc'
      obtain ⟨w1, w2⟩ := withW_hd h hc'.1 (cr_form ha hb ⟨h0, by omega⟩).2.2.2
      have ih := crGo_hd ha hb n (k + 1) _ (by omega) (by omega) w1
      exact ⟨ih.1, by omega⟩
theorem c1_loop (ha : 0 ≤ a ∧ a < 2097152) (hb : 0 ≤ b ∧ b < 2097152) (hne : a ≠ b) : ∀ (n : Nat) (k : Int) (xs : List Pt), 0 ≤ k → k + n = 33 → Hd xs → xs.length + n ≤ 900 →
    LoopTo rdCr (valC1 xs.length a b k) (rowC1 xs) (.exit 0) (valC1 (crGo a b n k xs).length a b 33) (rowC1 (crGo a b n k xs))
  | 0, k, xs, h0, h1, h, hl => by
    obtain rfl : k = 33 := by omega
    refine .done ?_ (by simp)
    rw [c1_round]
    rfl
  | n + 1, k, xs, h0, h1, h, hl => by
    have hro := (c_round ha hb hne ⟨h0, by omega⟩ h (by omega)).2
    unfold crGo
    cases hc : crIn a b k with
    | false =>
      rw [hc, cond_false] at hro
      simp only [cond_false]
      exact .more hro (c1_loop ha hb hne n (k + 1) xs (by omega) (by omega) h (by omega))
    | true =>
      rw [hc, cond_true] at hro
      simp only [cond_true]
      have hc' := hc
      unfold crIn at hc'
      simp only [Bool.and_eq_true, decide_eq_true_eq] at hc'
      obtain ⟨w1, w2⟩ := withW_hd h hc'.1 (cr_form ha hb ⟨h0, by omega⟩).2.2.2
      exact .more hro (c1_loop ha hb hne n (k + 1) _ (by omega) (by omega) w1 (by omega))
theorem c0_loop (ha : 0 ≤ a ∧ a < 2097152) (hb : 0 ≤ b ∧ b < 2097152) (hne : a ≠ b) : ∀ (n : Nat) (k : Int) (xs : List Pt), 0 ≤ k → k + n = 33 → Hd xs → xs.length + n ≤ 900 →
    (crHit a b n k = true → LoopTo rdCr (valC0 xs.length a b k) (rowC0 xs) (.exit 0) (valC1 (crGo a b n k xs).length a b 33) (rowC1 (crGo a b n k xs))) ∧
    (crHit a b n k = false → LoopTo rdCr (valC0 xs.length a b k) (rowC0 xs) (.exit 0) (valC0 xs.length a b 33) (rowC0 xs))
  | 0, k, xs, h0, h1, h, hl => by
    obtain rfl : k = 33 := by omega
    refine ⟨fun hh => (by cases hh), fun _ => .done ?_ (by simp)⟩
    rw [c0_round]
    rfl
  | n + 1, k, xs, h0, h1, h, hl => by
    have hro := (c_round ha hb hne ⟨h0, by omega⟩ h (by omega)).1
    unfold crGo crHit
    cases hc : crIn a b k with
    | false =>
      rw [hc, cond_false] at hro
      simp only [cond_false]
      have ih := c0_loop ha hb hne n (k + 1) xs (by omega) (by omega) h (by omega)
      exact ⟨fun hh => .more hro (ih.1 hh), fun hh => .more hro (ih.2 hh)⟩
    | true =>
      rw [hc, cond_true] at hro
      simp only [cond_true]
      have hc' := hc
      unfold crIn at hc'
      simp only [Bool.and_eq_true, decide_eq_true_eq] at hc'
      obtain ⟨w1, w2⟩ := withW_hd h hc'.1 (cr_form ha hb ⟨h0, by omega⟩).2.2.2
      exact ⟨fun _ => .more hro (c1_loop ha hb hne n (k + 1) _ (by omega) (by omega) w1 (by omega)), fun hh => (by cases hh)⟩
end

def inR (a : Int) : Bool := decide (0 ≤ a) && decide (a < 2097152)
theorem inR_iff {a : Int} : inR a = true ↔ 0 ≤ a ∧ a < 2097152 := by unfold inR; rw [Bool.and_eq_true, decide_eq_true_eq, decide_eq_true_eq]
def hdB (xs : List Pt) : Bool := decide (xs[0]? = some (⟨0, 1⟩ : Pt))
def crossT (a b : Int) (xs : List Pt) : List Pt := bif a != b then crGo a b 33 0 xs else xs
def crOk (a b : Int) (len : Nat) (xs : List Pt) : Bool := (inR a && inR b) && (decide (len = xs.length) && (hdB xs && decide (xs.length ≤ 800)))
set_option maxHeartbeats 0 in
noncomputable def outCr (v : List SV) (R : List Row) (k : Ex → List SV → List Row → Option Res2) : Option Res2 := match v, R with
  | [.slice 0 2 0 len none, .int .i64 a, .int .i64 b, .nils, .int .i64 i], [.vec false .pt xs] =>
      bif decide (i = 0) && crOk a b len xs then
        (bif a != b then (bif crHit a b 33 0 then k (.exit 0) (valC1 (crGo a b 33 0 xs).length a b 33) (rowC1 (crGo a b 33 0 xs)) else k (.exit 0) (valC0 len a b 33) (rowC0 xs))
        else k (.exit 0) (valC0 len a b 0) (rowC0 xs)) else none
  | _, _ => none
set_option maxHeartbeats 0 in
theorem lpoCr_ok : LpOk 44 [0, 1, 0, 1] (loopF 45 [0, 1, 2, 6, 7] outCr) := by
  intro b hat s K r h
  refine loopF_ok (fuel := 100) xCr_ok lok_none hat (fun v R k r hr => ?_) h
  have hbody := at_body Try.func44 hat
  subst hbody
  unfold outCr at hr
  split at hr
  · rename_i len a b i xs
    obtain ⟨hb, hr2⟩ := cond_some hr
    unfold crOk at hb
    simp only [Bool.and_eq_true, decide_eq_true_eq] at hb
    obtain ⟨rfl, ⟨h1, h2⟩, h3, h4, h5⟩ := hb
    have e1 : len = List.length (α := Pt) xs := h3
    have h4' : Hd xs := by
      unfold hdB at h4
      have h40 := of_decide_eq_true h4
      exact h40
    have h5' : List.length (α := Pt) xs ≤ 800 := h5
    subst e1
    cases hn : a != b with
    | true =>
      rw [hn, cond_true] at hr2
      have hne : a ≠ b := by simpa using hn
      have key := c0_loop (inR_iff.1 h1) (inR_iff.1 h2) hne 33 0 xs (by omega) (by omega) h4' (by omega)
      cases hh : crHit a b 33 0 with
      | true => rw [hh, cond_true] at hr2; exact ⟨_, _, _, hr2, key.1 hh⟩
      | false => rw [hh, cond_false] at hr2; exact ⟨_, _, _, hr2, key.2 hh⟩
    | false =>
      rw [hn, cond_false] at hr2
      refine ⟨_, _, _, hr2, .done ?_ (by simp)⟩
      have hc := c0_round xs (List.length (α := Pt) xs) a b 0
      rw [hn] at hc
      exact hc
  · cases hr
noncomputable def lpoCr : Lpo := ⟨_, _, _, lpoCr_ok⟩
set_option maxRecDepth 100000 in
set_option maxHeartbeats 0 in
theorem cr_tree (xs : List Pt) (len : Nat) (a b : Int) : runK xCr (loopOf [lpoCr]) 300 44 Try.f44 9 [.slice 0 2 0 len none, .int .i64 a, .int .i64 b] [.vec false .pt xs] =
  bif crOk a b len xs then
  bif a != b then bif crHit a b 33 0 then some (.slice 1 2 0 (crGo a b 33 0 xs).length none, [.gone, .vec false .pt (crGo a b 33 0 xs)]) else some (.slice 0 2 0 len none, [.vec false .pt xs])
  else some (.slice 0 2 0 len none, [.vec false .pt xs])
  else none := by kernel_rfl
def oCross (args : List SV) (rows : List Row) : Option Eff :=
  match args with
  | [.slice id 2 0 len cap, .int .i64 a, .int .i64 b] => match rows[id]? with
    | some (.vec false .pt xs) => some { ok := crOk a b len xs, val := .slice rows.length 2 0 (crossT a b xs).length none, rd := [id], wr := [(id, .gone)], nw := [.vec false .pt (crossT a b xs)] }
    | _ => none
  | _ => none
theorem crOk_len {a b : Int} {len : Nat} {xs : List Pt} (h : crOk a b len xs = true) : len = xs.length := by
  unfold crOk at h
  simp only [Bool.and_eq_true, decide_eq_true_eq] at h
  exact h.2.1
theorem cross_main {xs : List Pt} {len id : Nat} {a b : Int} {rows : List Row} {ok : Bool} (hrow : rows[id]? = some (.vec false .pt xs)) (hok : crOk a b len xs = true) :
    FnOk Try.prog 44 [.slice id 2 0 len none, .int .i64 a, .int .i64 b] (rows[·]?) rows.length { ok := ok, val := .slice rows.length 2 0 (crossT a b xs).length none, rd := [id], wr := [(id, .gone)], nw := [.vec false .pt (crossT a b xs)] } := by
  have hv := cr_tree xs len a b
  have l1 := (List.getElem?_eq_some_iff.1 hrow).1
  obtain rfl := crOk_len hok
  rw [hok] at hv
  cases hn : a != b with
  | true =>
    rw [hn] at hv
    simp only [cond_true] at hv
    rw [show crossT a b xs = crGo a b 33 0 xs by unfold crossT; rw [hn]; rfl]
    cases hh : crHit a b 33 0 with
    | true =>
      rw [hh, cond_true] at hv
      obtain ⟨rows', hc, ht⟩ := runK_ok xCr_ok loopOf_ok Try.func44 hv
      exact fnOk_eat (k := .pt) hc (fun i hi => by simp [SV.idsL, SV.ids] at hi; omega) (by rw [take_get ht (by omega)]; rfl) l1 hrow
    | false =>
      rw [hh, cond_false] at hv
      rw [crGo_none hh]
      obtain ⟨rows', hc, ht⟩ := runK_ok xCr_ok loopOf_ok Try.func44 hv
      exact fnOk_eat (k := .pt) hc (fun i hi => by simp [SV.idsL, SV.ids] at hi; omega) (by rw [take_get ht (by omega)]; rfl) l1 hrow
  | false =>
    rw [hn] at hv
    simp only [cond_true, cond_false] at hv
    rw [show crossT a b xs = xs by unfold crossT; rw [hn]; rfl]
    obtain ⟨rows', hc, ht⟩ := runK_ok xCr_ok loopOf_ok Try.func44 hv
    exact fnOk_eat (k := .pt) hc (fun i hi => by simp [SV.idsL, SV.ids] at hi; omega) (by rw [take_get ht (by omega)]; rfl) l1 hrow
theorem oCross_ok {args : List SV} {rows : List Row} {e : Eff} (h : oCross args rows = some e) (hok : e.ok = true) : FnOk Try.prog 44 args (rows[·]?) rows.length e := by
  unfold oCross at h
  split at h
  · rename_i id len cap a b
    split at h
    · rename_i xs hrow
      cases h
      refine fnOk_weaken (args := [.slice id 2 0 len none, .int .i64 a, .int .i64 b]) (cross_main (xs := xs) hrow hok) fun ρ vs hr => ?_
      rw [RelL] at hr ⊢
      obtain ⟨u, us, rfl, h6, h7⟩ := hr
      exact ⟨u, us, rfl, rel_nocap h6, h7⟩
    · cases h
  · cases h
noncomputable def orcCross : Orc := ⟨44, oCross, fun _ _ _ h hok => oCross_ok h hok, bodied Try.func44 (by kernel_rfl)⟩

set_option maxRecDepth 100000 in
set_option maxHeartbeats 0 in
theorem rat_tree (a b : Int) (t : Pt) : runK xCr (fun _ _ => none) 200 45 Try.f45 0 [.int .i64 a, .int .i64 b, .agg t.sv] [] =
  bif !decide (IntKind.i64.wrap (t.q * 65536) = 0) then
  some (SV.int IntKind.i64 (IntKind.i64.wrap ((IntKind.i64.wrap (IntKind.i64.wrap (a * t.q) + IntKind.i64.wrap (IntKind.i64.wrap (b - a) * t.p))).tdiv (IntKind.i64.wrap (t.q * 65536)))), [])
  else none := by kernel_rfl

/-! at, between: the cells of a line's parts. -/
def inPt (t : Pt) : Bool := (decide (0 ≤ t.p) && decide (t.p ≤ t.q)) && (decide (0 < t.q) && decide (t.q ≤ 2097152))
theorem inPt_iff {t : Pt} : inPt t = true ↔ (0 ≤ t.p ∧ t.p ≤ t.q) ∧ 0 < t.q ∧ t.q ≤ 2097152 := by
  unfold inPt
  simp only [Bool.and_eq_true, decide_eq_true_eq]
theorem rat_val {a b : Int} {t : Pt} (ha : 0 ≤ a ∧ a < 2097152) (hb : 0 ≤ b ∧ b < 2097152) (ht : inPt t = true) : runK xCr (fun _ _ => none) 200 45 Try.f45 0 [.int .i64 a, .int .i64 b, .agg t.sv] [] = some (.int .i64 (cellAt a b t.p t.q), []) := by
  obtain ⟨⟨h1, h2⟩, h3, h4⟩ := inPt_iff.1 ht
  have m1 : 0 ≤ a * t.q ∧ a * t.q ≤ 2097152 * 2097152 := ⟨Int.mul_nonneg ha.1 (by omega), Int.mul_le_mul (by omega) h4 (by omega) (by omega)⟩
  have m2 : 0 ≤ b * t.p ∧ b * t.p ≤ 2097152 * 2097152 := ⟨Int.mul_nonneg hb.1 h1, Int.mul_le_mul (by omega) (by omega) h1 (by omega)⟩
  have m3 : 0 ≤ a * t.p ∧ a * t.p ≤ a * t.q := ⟨Int.mul_nonneg ha.1 h1, Int.mul_le_mul_of_nonneg_left h2 ha.1⟩
  have e : (b - a) * t.p = b * t.p - a * t.p := by rw [Int.sub_mul]
  have e0 : 0 ≤ a * t.q + (b - a) * t.p := by rw [e]; omega
  have e1 : 0 ≤ cellAt a b t.p t.q := Int.ediv_nonneg e0 (by omega)
  have e2 : cellAt a b t.p t.q ≤ a * t.q + (b - a) * t.p := by
    unfold cellAt
    have : 0 < t.q * 65536 := by omega
    exact Int.ediv_le_self _ e0
  rw [rat_tree, IntWalk.i64_in (t.q * 65536) (by omega), decide_eq_false (show ¬ t.q * 65536 = 0 by omega), IntWalk.i64_in (a * t.q) (by omega), IntWalk.i64_in (b - a) (by omega), IntWalk.i64_in ((b - a) * t.p) (by omega), IntWalk.i64_in (a * t.q + (b - a) * t.p) (by omega), Int.tdiv_eq_ediv_of_nonneg e0]
  rw [show (a * t.q + (b - a) * t.p) / (t.q * 65536) = cellAt a b t.p t.q from rfl, IntWalk.i64_in _ (by omega)]
  rfl
def oRat : List SV → Option Eff
  | [.int .i64 a, .int .i64 b, .agg [.int .i64 p, .int .i64 q]] => some { ok := (inR a && inR b) && inPt ⟨p, q⟩, val := .int .i64 (cellAt a b p q) }
  | _ => none
theorem oRat_ok {m : Nat → Option Row} {n : Nat} {args : List SV} {e : Eff} (h : oRat args = some e) (hok : e.ok = true) : FnOk Try.prog 45 args m n e := by
  unfold oRat at h
  split at h
  · rename_i a b p q
    cases h
    simp only [Bool.and_eq_true] at hok
    obtain ⟨rows', hc, _⟩ := runK_ok xCr_ok lok_none Try.func45 (rat_val (t := ⟨p, q⟩) (inR_iff.1 hok.1.1) (inR_iff.1 hok.1.2) hok.2)
    exact fnOk_pure hc rfl rfl
  · cases h
noncomputable def orcRat : Orc := ⟨45, fun args _ => oRat args, fun _ _ _ h hok => oRat_ok h hok, bodied Try.func45 (by kernel_rfl)⟩
noncomputable def xBe : Ctx := ctxOf [] [orcRat]
theorem xBe_ok : COk Try.prog xBe := ctxOf_ok (by kernel_rfl)

set_option maxRecDepth 100000 in
set_option maxHeartbeats 0 in
theorem rbe_tree (a b : Int) (s t : Pt) : runK xBe (fun _ _ => none) 200 46 Try.f46 0 [.int .i64 a, .int .i64 b, .agg s.sv, .agg t.sv] [] =
  bif decide (b < a) then bif inR a && inR b && inPt t then some (SV.int IntKind.i64 (cellAt a b t.p t.q), []) else none
  else bif inR a && inR b && inPt s then some (SV.int IntKind.i64 (cellAt a b s.p s.q), []) else none := by kernel_rfl

def betC (a b : Int) (s t : Pt) : Int := bif decide (b < a) then cellAt a b t.p t.q else cellAt a b s.p s.q
theorem rbe_val {a b : Int} {s t : Pt} (ha : inR a = true) (hb : inR b = true) (hs : inPt s = true) (ht : inPt t = true) : runK xBe (fun _ _ => none) 200 46 Try.f46 0 [.int .i64 a, .int .i64 b, .agg s.sv, .agg t.sv] [] = some (.int .i64 (betC a b s t), []) := by
  rw [rbe_tree, ha, hb, hs, ht]
  unfold betC
  cases decide (b < a) <;> rfl
def oBet : List SV → Option Eff
  | [.int .i64 a, .int .i64 b, .agg [.int .i64 p, .int .i64 q], .agg [.int .i64 r, .int .i64 s]] => some { ok := (inR a && inR b) && (inPt ⟨p, q⟩ && inPt ⟨r, s⟩), val := .int .i64 (betC a b ⟨p, q⟩ ⟨r, s⟩) }
  | _ => none
theorem oBet_ok {m : Nat → Option Row} {n : Nat} {args : List SV} {e : Eff} (h : oBet args = some e) (hok : e.ok = true) : FnOk Try.prog 46 args m n e := by
  unfold oBet at h
  split at h
  · rename_i a b p q r s
    cases h
    simp only [Bool.and_eq_true] at hok
    obtain ⟨rows', hc, _⟩ := runK_ok xBe_ok lok_none Try.func46 (rbe_val (s := ⟨p, q⟩) (t := ⟨r, s⟩) hok.1.1 hok.1.2 hok.2.1 hok.2.2)
    exact fnOk_pure hc rfl rfl
  · cases h
noncomputable def orcBet : Orc := ⟨46, fun args _ => oBet args, fun _ _ _ h hok => oBet_ok h hok, bodied Try.func46 (by kernel_rfl)⟩

end Go.Proofs.Ytikifgbbiffclaa
