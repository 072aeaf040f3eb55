/- The reference's parts of a line: crossings. The reference's Sight: its loop. The reference's Sight, plainly: parts of a line, and the cells between them. The reference's Sight, plainly: it is ours. The reference's Sight as a contract. -/
import Derived.Test.YtboljdeeodeeeaaVmWi
import Derived.Test.YtboljdeeodeeeaaVmSi
import Derived.Test.YtboljdeeodeeeaaVmSg
namespace Go.Proofs.Ytboljdeeodeeeaa
set_option linter.unusedSimpArgs false
set_option linter.unusedVariables false
set_option maxRecDepth 100000
open Go.RowKit

noncomputable def xCr : Ctx := ctxOf [] [orcWith]
theorem xCr_ok : COk Try.prog xCr := ctxOf_ok (by kernel_rfl)
def valC0 (len : Nat) (a b k : Int) : List SV := [.slice 0 2 0 len none, .int .i64 a, .int .i64 b, .nils, .int .i64 k]
def valC1 (len : Nat) (a b k : Int) : List SV := [.slice 1 2 0 len none, .int .i64 a, .int .i64 b, .nils, .int .i64 k]
def rowC0 (xs : List Pt) : List Row := [.vec false .pt xs]
def rowC1 (xs : List Pt) : List Row := [.gone, .vec false .pt xs]
noncomputable def rdCr : List SV → List Row → Option Res2 := roundS xCr (fun _ _ => none) 100 52 [0, 1, 0, 1] (bodyAt Try.f52 [0, 1, 0, 1]) 45 1 [0, 1, 2, 6, 7]

def crR1 (a b k : Int) : Pt := ⟨IntKind.i64.wrap (0 - IntKind.i64.wrap (IntKind.i64.wrap (k * 65536) - a)), IntKind.i64.wrap (0 - IntKind.i64.wrap (b - a))⟩
def crR2 (a b k : Int) : Pt := ⟨IntKind.i64.wrap (IntKind.i64.wrap (k * 65536) - a), IntKind.i64.wrap (b - a)⟩
def okW (len : Nat) (xs : List Pt) (x : Pt) : Bool := (decide (len = xs.length) && decide (len ≤ 1000)) && (decide (0 < posW xs x xs.length 0) || foundW xs x)
set_option maxRecDepth 100000 in
set_option maxHeartbeats 0 in
theorem c0_round (xs : List Pt) (len : Nat) (a b k : Int) : rdCr (valC0 len a b k) (rowC0 xs) =
  bif (bif decide (k ≤ 32) == true then a != b else false) then
  bif decide (IntKind.i64.wrap (b - a) < 0) then
  bif (bif decide ((crR1 a b k).p ≥ 0) == true then decide ((crR1 a b k).p ≤ (crR1 a b k).q) else false) then
  bif okW len xs (crR1 a b k) then some (.tuple [.nilp, .tuple (valC1 (withW xs (crR1 a b k)).length a b (IntKind.i64.wrap (k + 1)))], rowC1 (withW xs (crR1 a b k))) else none
  else some (.tuple [.nilp, .tuple (valC0 len a b (IntKind.i64.wrap (k + 1)))], rowC0 xs)
  else
  bif (bif decide ((crR2 a b k).p ≥ 0) == true then decide ((crR2 a b k).p ≤ (crR2 a b k).q) else false) then
  bif okW len xs (crR2 a b k) then some (.tuple [.nilp, .tuple (valC1 (withW xs (crR2 a b k)).length a b (IntKind.i64.wrap (k + 1)))], rowC1 (withW xs (crR2 a b k))) else none
  else some (.tuple [.nilp, .tuple (valC0 len a b (IntKind.i64.wrap (k + 1)))], rowC0 xs)
  else some (.tuple [.ptr 0 0 0 0, .tuple (valC0 len a b k)], rowC0 xs) := by kernel_rfl
set_option maxRecDepth 100000 in
set_option maxHeartbeats 0 in
theorem c1_round (xs : List Pt) (len : Nat) (a b k : Int) : rdCr (valC1 len a b k) (rowC1 xs) =
  bif (bif decide (k ≤ 32) == true then a != b else false) then
  bif decide (IntKind.i64.wrap (b - a) < 0) then
  bif (bif decide ((crR1 a b k).p ≥ 0) == true then decide ((crR1 a b k).p ≤ (crR1 a b k).q) else false) then
  bif okW len xs (crR1 a b k) then some (.tuple [.nilp, .tuple (valC1 (withW xs (crR1 a b k)).length a b (IntKind.i64.wrap (k + 1)))], rowC1 (withW xs (crR1 a b k))) else none
  else some (.tuple [.nilp, .tuple (valC1 len a b (IntKind.i64.wrap (k + 1)))], rowC1 xs)
  else
  bif (bif decide ((crR2 a b k).p ≥ 0) == true then decide ((crR2 a b k).p ≤ (crR2 a b k).q) else false) then
  bif okW len xs (crR2 a b k) then some (.tuple [.nilp, .tuple (valC1 (withW xs (crR2 a b k)).length a b (IntKind.i64.wrap (k + 1)))], rowC1 (withW xs (crR2 a b k))) else none
  else some (.tuple [.nilp, .tuple (valC1 len a b (IntKind.i64.wrap (k + 1)))], rowC1 xs)
  else some (.tuple [.ptr 0 0 0 0, .tuple (valC1 len a b k)], rowC1 xs) := by kernel_rfl

/-- The part of a line at which it is at a cell's edge. -/
def crP (a b k : Int) : Pt := bif decide (b < a) then ⟨a - k * 65536, a - b⟩ else ⟨k * 65536 - a, b - a⟩
def crIn (a b k : Int) : Bool := decide (0 ≤ (crP a b k).p) && decide ((crP a b k).p ≤ (crP a b k).q)
def crGo (a b : Int) : Nat → Int → List Pt → List Pt
  | 0, _, xs => xs
  | n + 1, k, xs => crGo a b n (k + 1) (bif crIn a b k then withW xs (crP a b k) else xs)
def crHit (a b : Int) : Nat → Int → Bool
  | 0, _ => false
  | n + 1, k => bif crIn a b k then true else crHit a b n (k + 1)
theorem crGo_none {a b : Int} : ∀ {n : Nat} {k : Int} {xs : List Pt}, crHit a b n k = false → crGo a b n k xs = xs
  | 0, _, _, _ => rfl
  | n + 1, k, xs, h => by
    unfold crHit at h
    unfold crGo
    cases hc : crIn a b k with
    | true => rw [hc] at h; cases h
    | false => rw [hc] at h; simp only [cond_false] at h ⊢; exact crGo_none h
def Hd (xs : List Pt) : Prop := xs[0]? = some ⟨0, 1⟩
theorem hd_pos {xs : List Pt} (h : Hd xs) : 0 < xs.length := (List.getElem?_eq_some_iff.1 h).1
theorem hd_getD {xs : List Pt} (h : Hd xs) : xs.getD (0 + 0) Knd.pt.dflt = (⟨0, 1⟩ : Pt) := by
  show xs.getD 0 (⟨0, 0⟩ : Pt) = _
  unfold Hd at h
  rw [List.getD_eq_getElem?_getD, h]
  rfl
theorem hd_ok {xs : List Pt} {x : Pt} (h : Hd xs) (h0 : 0 ≤ x.p) (h1 : x.p ≤ 4000000) : 0 < posW xs x xs.length 0 ∨ foundW xs x = true := by
  have hp := hd_pos h
  obtain ⟨n, hn⟩ : ∃ n, xs.length = n + 1 := ⟨xs.length - 1, by omega⟩
  have hg := hd_getD h
  have e : ltP (⟨0, 1⟩ : Pt) x = decide (0 < x.p) := by
    unfold ltP
    simp only [Int.zero_mul, Int.mul_one]
    rw [show IntKind.i64.wrap 0 = 0 from rfl, IntWalk.i64_in x.p (by omega)]
  have ep : posW xs x xs.length 0 = bif decide (0 < x.p) then posW xs x n 1 else 0 := by
    rw [hn, show posW xs x (n + 1) 0 = (bif ltP (xs.getD (0 + 0) Knd.pt.dflt) x then posW xs x n (0 + 1) else 0) from rfl, hg, e]
  by_cases hx : 0 < x.p
  · left
    rw [ep, decide_eq_true hx]
    have := (posW_le (xs := xs) (x := x) n 1).1
    simp only [cond_true]
    omega
  · right
    unfold foundW
    rw [ep, decide_eq_false hx]
    simp only [cond_false]
    rw [decide_eq_true hp]
    have hg' : xs.getD 0 (⟨0, 0⟩ : Pt) = ⟨0, 1⟩ := hg
    rw [hg']
    unfold ltP
    simp only [Int.zero_mul, Int.mul_one]
    rw [show IntKind.i64.wrap 0 = 0 from rfl, IntWalk.i64_in x.p (by omega), decide_eq_false (by omega)]
    rfl
theorem withW_hd {xs : List Pt} {x : Pt} (h : Hd xs) (h0 : 0 ≤ x.p) (h1 : x.p ≤ 4000000) : Hd (withW xs x) ∧ (withW xs x).length ≤ xs.length + 1 := by
  unfold withW
  cases hf : foundW xs x with
  | true => exact ⟨h, by simp only [cond_true]; omega⟩
  | false =>
    simp only [cond_false]
    have hp : 0 < posW xs x xs.length 0 := by
      rcases hd_ok h h0 h1 with hp | hp
      · exact hp
      · rw [hf] at hp; cases hp
    have hle := (posW_le (xs := xs) (x := x) xs.length 0).2
    refine ⟨?_, ?_⟩
    · unfold Hd at h ⊢
      rw [List.getElem?_append_left (by rw [List.length_take]; have := hd_pos h; omega), List.getElem?_take, if_pos hp]
      exact h
    · rw [List.length_append, List.length_take, List.length_cons, List.length_drop]
      omega

theorem cr_form {a b k : Int} (ha : 0 ≤ a ∧ a < 2097152) (hb : 0 ≤ b ∧ b < 2097152) (hk : 0 ≤ k ∧ k ≤ 32) : IntKind.i64.wrap (b - a) = b - a ∧ (b < a → crR1 a b k = crP a b k) ∧ (¬ b < a → crR2 a b k = crP a b k) ∧ (crP a b k).p ≤ 4000000 := by
  have e1 : IntKind.i64.wrap (b - a) = b - a := IntWalk.i64_in _ (by omega)
  have e2 : IntKind.i64.wrap (IntKind.i64.wrap (k * 65536) - a) = k * 65536 - a := by rw [IntWalk.i64_in (k * 65536) (by omega), IntWalk.i64_in _ (by omega)]
  refine ⟨e1, fun h => ?_, fun h => ?_, ?_⟩
  · unfold crR1 crP
    rw [e1, e2, IntWalk.i64_in (0 - (k * 65536 - a)) (by omega), IntWalk.i64_in (0 - (b - a)) (by omega), decide_eq_true h]
    show (⟨_, _⟩ : Pt) = ⟨_, _⟩
    congr 1 <;> omega
  · unfold crR2 crP
    rw [e1, e2, decide_eq_false h]
    rfl
  · unfold crP
    cases decide (b < a)
    · simp only [cond_false]; omega
    · simp only [cond_true]; omega
theorem okW_ok {xs : List Pt} {x : Pt} (h : Hd xs) (hl : xs.length ≤ 1000) (h0 : 0 ≤ x.p) (h1 : x.p ≤ 4000000) : okW xs.length xs x = true := by
  unfold okW
  rw [decide_eq_true rfl, decide_eq_true hl]
  rcases hd_ok h h0 h1 with h | h
  · rw [decide_eq_true h]; rfl
  · rw [h, Bool.or_true]; rfl
section
variable {a b : Int}
/-- A round, plainly. -/
theorem c_round (ha : 0 ≤ a ∧ a < 2097152) (hb : 0 ≤ b ∧ b < 2097152) (hne : a ≠ b) {k : Int} (hk : 0 ≤ k ∧ k ≤ 32) {xs : List Pt} (h : Hd xs) (hl : xs.length ≤ 1000) :
    rdCr (valC0 xs.length a b k) (rowC0 xs) = (bif crIn a b k then some (.tuple [.nilp, .tuple (valC1 (withW xs (crP a b k)).length a b (k + 1))], rowC1 (withW xs (crP a b k))) else some (.tuple [.nilp, .tuple (valC0 xs.length a b (k + 1))], rowC0 xs)) ∧
    rdCr (valC1 xs.length a b k) (rowC1 xs) = (bif crIn a b k then some (.tuple [.nilp, .tuple (valC1 (withW xs (crP a b k)).length a b (k + 1))], rowC1 (withW xs (crP a b k))) else some (.tuple [.nilp, .tuple (valC1 xs.length a b (k + 1))], rowC1 xs)) := by
  obtain ⟨e1, e2, e3, e4⟩ := cr_form ha hb hk
  have hn : (a != b) = true := by simpa using hne
  rw [c0_round, c1_round, decide_eq_true hk.2, hn, e1, IntWalk.i64_in (k + 1) (by omega)]
  simp only [beq_self_eq_true, cond_true]
  by_cases hlt : b < a
  · rw [decide_eq_true (show b - a < 0 by omega), e2 hlt]
    simp only [cond_true, and_form]
    rw [show (decide ((crP a b k).p ≥ 0) && decide ((crP a b k).p ≤ (crP a b k).q)) = crIn a b k from rfl]
    cases hc : crIn a b k with
    | false => exact ⟨rfl, rfl⟩
    | true =>
      unfold crIn at hc
      simp only [Bool.and_eq_true, decide_eq_true_eq] at hc
      rw [okW_ok h hl hc.1 e4]
      exact ⟨rfl, rfl⟩
  · rw [decide_eq_false (show ¬ b - a < 0 by omega), e3 hlt]
    simp only [cond_false, and_form]
    rw [show (decide ((crP a b k).p ≥ 0) && decide ((crP a b k).p ≤ (crP a b k).q)) = crIn a b k from rfl]
    cases hc : crIn a b k with
    | false => exact ⟨rfl, rfl⟩
    | true =>
      unfold crIn at hc
      simp only [Bool.and_eq_true, decide_eq_true_eq] at hc
      rw [okW_ok h hl hc.1 e4]
      exact ⟨rfl, rfl⟩
theorem crGo_hd (ha : 0 ≤ a ∧ a < 2097152) (hb : 0 ≤ b ∧ b < 2097152) : ∀ (n : Nat) (k : Int) (xs : List Pt), 0 ≤ k → k + n = 33 → Hd xs → Hd (crGo a b n k xs) ∧ (crGo a b n k xs).length ≤ xs.length + n
  | 0, k, xs, h0, h1, h => ⟨h, Nat.le_refl _⟩
  | n + 1, k, xs, h0, h1, h => by
    unfold crGo
    cases hc : crIn a b k with
    | false =>
      simp only [cond_false]
      have ih := crGo_hd ha hb n (k + 1) xs (by omega) (by omega) h
      exact ⟨ih.1, by omega⟩
    | true =>
      simp only [cond_true]
      have hc' := hc
      unfold crIn at hc'
      simp only [Bool.and_eq_true, decide_eq_true_eq] at hc'
      obtain ⟨w1, w2⟩ := withW_hd h hc'.1 (cr_form ha hb ⟨h0, by omega⟩).2.2.2
      have ih := crGo_hd ha hb n (k + 1) _ (by omega) (by omega) w1
      exact ⟨ih.1, by omega⟩
theorem c1_loop (ha : 0 ≤ a ∧ a < 2097152) (hb : 0 ≤ b ∧ b < 2097152) (hne : a ≠ b) : ∀ (n : Nat) (k : Int) (xs : List Pt), 0 ≤ k → k + n = 33 → Hd xs → xs.length + n ≤ 900 →
    LoopTo rdCr (valC1 xs.length a b k) (rowC1 xs) (.exit 0) (valC1 (crGo a b n k xs).length a b 33) (rowC1 (crGo a b n k xs))
  | 0, k, xs, h0, h1, h, hl => by
    obtain rfl : k = 33 := by omega
    refine .done ?_ (by simp)
    rw [c1_round]
    rfl
  | n + 1, k, xs, h0, h1, h, hl => by
    have hro := (c_round ha hb hne ⟨h0, by omega⟩ h (by omega)).2
    unfold crGo
    cases hc : crIn a b k with
    | false =>
      rw [hc, cond_false] at hro
      simp only [cond_false]
      exact .more hro (c1_loop ha hb hne n (k + 1) xs (by omega) (by omega) h (by omega))
    | true =>
      rw [hc, cond_true] at hro
      simp only [cond_true]
      have hc' := hc
      unfold crIn at hc'
      simp only [Bool.and_eq_true, decide_eq_true_eq] at hc'
      obtain ⟨w1, w2⟩ := withW_hd h hc'.1 (cr_form ha hb ⟨h0, by omega⟩).2.2.2
      exact .more hro (c1_loop ha hb hne n (k + 1) _ (by omega) (by omega) w1 (by omega))
theorem c0_loop (ha : 0 ≤ a ∧ a < 2097152) (hb : 0 ≤ b ∧ b < 2097152) (hne : a ≠ b) : ∀ (n : Nat) (k : Int) (xs : List Pt), 0 ≤ k → k + n = 33 → Hd xs → xs.length + n ≤ 900 →
    (crHit a b n k = true → LoopTo rdCr (valC0 xs.length a b k) (rowC0 xs) (.exit 0) (valC1 (crGo a b n k xs).length a b 33) (rowC1 (crGo a b n k xs))) ∧
    (crHit a b n k = false → LoopTo rdCr (valC0 xs.length a b k) (rowC0 xs) (.exit 0) (valC0 xs.length a b 33) (rowC0 xs))
  | 0, k, xs, h0, h1, h, hl => by
    obtain rfl : k = 33 := by omega
    refine ⟨fun hh => (by cases hh), fun _ => .done ?_ (by simp)⟩
    rw [c0_round]
    rfl
  | n + 1, k, xs, h0, h1, h, hl => by
    have hro := (c_round ha hb hne ⟨h0, by omega⟩ h (by omega)).1
    unfold crGo crHit
    cases hc : crIn a b k with
    | false =>
      rw [hc, cond_false] at hro
      simp only [cond_false]
      have ih := c0_loop ha hb hne n (k + 1) xs (by omega) (by omega) h (by omega)
      exact ⟨fun hh => .more hro (ih.1 hh), fun hh => .more hro (ih.2 hh)⟩
    | true =>
      rw [hc, cond_true] at hro
      simp only [cond_true]
      have hc' := hc
      unfold crIn at hc'
      simp only [Bool.and_eq_true, decide_eq_true_eq] at hc'
      obtain ⟨w1, w2⟩ := withW_hd h hc'.1 (cr_form ha hb ⟨h0, by omega⟩).2.2.2
      exact ⟨fun _ => .more hro (c1_loop ha hb hne n (k + 1) _ (by omega) (by omega) w1 (by omega)), fun hh => (by cases hh)⟩
end

def inR (a : Int) : Bool := decide (0 ≤ a) && decide (a < 2097152)
theorem inR_iff {a : Int} : inR a = true ↔ 0 ≤ a ∧ a < 2097152 := by unfold inR; rw [Bool.and_eq_true, decide_eq_true_eq, decide_eq_true_eq]
def hdB (xs : List Pt) : Bool := decide (xs[0]? = some (⟨0, 1⟩ : Pt))
def crossT (a b : Int) (xs : List Pt) : List Pt := bif a != b then crGo a b 33 0 xs else xs
def crOk (a b : Int) (len : Nat) (xs : List Pt) : Bool := (inR a && inR b) && (decide (len = xs.length) && (hdB xs && decide (xs.length ≤ 800)))
set_option maxHeartbeats 0 in
noncomputable def outCr (v : List SV) (R : List Row) (k : Ex → List SV → List Row → Option Res2) : Option Res2 := match v, R with
  | [.slice 0 2 0 len none, .int .i64 a, .int .i64 b, .nils, .int .i64 i], [.vec false .pt xs] =>
      bif decide (i = 0) && crOk a b len xs then
        (bif a != b then (bif crHit a b 33 0 then k (.exit 0) (valC1 (crGo a b 33 0 xs).length a b 33) (rowC1 (crGo a b 33 0 xs)) else k (.exit 0) (valC0 len a b 33) (rowC0 xs))
        else k (.exit 0) (valC0 len a b 0) (rowC0 xs)) else none
  | _, _ => none
set_option maxHeartbeats 0 in
theorem lpoCr_ok : LpOk 52 [0, 1, 0, 1] (loopF 45 [0, 1, 2, 6, 7] outCr) := by
  intro b hat s K r h
  refine loopF_ok (fuel := 100) xCr_ok lok_none hat (fun v R k r hr => ?_) h
  have hbody := at_body Try.func52 hat
  subst hbody
  unfold outCr at hr
  split at hr
  · rename_i len a b i xs
    obtain ⟨hb, hr2⟩ := cond_some hr
    unfold crOk at hb
    simp only [Bool.and_eq_true, decide_eq_true_eq] at hb
    obtain ⟨rfl, ⟨h1, h2⟩, h3, h4, h5⟩ := hb
    have e1 : len = List.length (α := Pt) xs := h3
    have h4' : Hd xs := by
      unfold hdB at h4
      have h40 := of_decide_eq_true h4
      exact h40
    have h5' : List.length (α := Pt) xs ≤ 800 := h5
    subst e1
    cases hn : a != b with
    | true =>
      rw [hn, cond_true] at hr2
      have hne : a ≠ b := by simpa using hn
      have key := c0_loop (inR_iff.1 h1) (inR_iff.1 h2) hne 33 0 xs (by omega) (by omega) h4' (by omega)
      cases hh : crHit a b 33 0 with
      | true => rw [hh, cond_true] at hr2; exact ⟨_, _, _, hr2, key.1 hh⟩
      | false => rw [hh, cond_false] at hr2; exact ⟨_, _, _, hr2, key.2 hh⟩
    | false =>
      rw [hn, cond_false] at hr2
      refine ⟨_, _, _, hr2, .done ?_ (by simp)⟩
      have hc := c0_round xs (List.length (α := Pt) xs) a b 0
      rw [hn] at hc
      exact hc
  · cases hr
noncomputable def lpoCr : Lpo := ⟨_, _, _, lpoCr_ok⟩
set_option maxRecDepth 100000 in
set_option maxHeartbeats 0 in
theorem cr_tree (xs : List Pt) (len : Nat) (a b : Int) : runK xCr (loopOf [lpoCr]) 300 52 Try.f52 9 [.slice 0 2 0 len none, .int .i64 a, .int .i64 b] [.vec false .pt xs] =
  bif crOk a b len xs then
  bif a != b then bif crHit a b 33 0 then some (.slice 1 2 0 (crGo a b 33 0 xs).length none, [.gone, .vec false .pt (crGo a b 33 0 xs)]) else some (.slice 0 2 0 len none, [.vec false .pt xs])
  else some (.slice 0 2 0 len none, [.vec false .pt xs])
  else none := by kernel_rfl
def oCross (args : List SV) (rows : List Row) : Option Eff :=
  match args with
  | [.slice id 2 0 len cap, .int .i64 a, .int .i64 b] => match rows[id]? with
    | some (.vec false .pt xs) => some { ok := crOk a b len xs, val := .slice rows.length 2 0 (crossT a b xs).length none, rd := [id], wr := [(id, .gone)], nw := [.vec false .pt (crossT a b xs)] }
    | _ => none
  | _ => none
theorem crOk_len {a b : Int} {len : Nat} {xs : List Pt} (h : crOk a b len xs = true) : len = xs.length := by
  unfold crOk at h
  simp only [Bool.and_eq_true, decide_eq_true_eq] at h
  exact h.2.1
theorem cross_main {xs : List Pt} {len id : Nat} {a b : Int} {rows : List Row} {ok : Bool} (hrow : rows[id]? = some (.vec false .pt xs)) (hok : crOk a b len xs = true) :
    FnOk Try.prog 52 [.slice id 2 0 len none, .int .i64 a, .int .i64 b] (rows[·]?) rows.length { ok := ok, val := .slice rows.length 2 0 (crossT a b xs).length none, rd := [id], wr := [(id, .gone)], nw := [.vec false .pt (crossT a b xs)] } := by
  have hv := cr_tree xs len a b
  have l1 := (List.getElem?_eq_some_iff.1 hrow).1
  obtain rfl := crOk_len hok
  rw [hok] at hv
  cases hn : a != b with
  | true =>
    rw [hn] at hv
    simp only [cond_true] at hv
    rw [show crossT a b xs = crGo a b 33 0 xs by unfold crossT; rw [hn]; rfl]
    cases hh : crHit a b 33 0 with
    | true =>
      rw [hh, cond_true] at hv
      obtain ⟨rows', hc, ht⟩ := runK_ok xCr_ok loopOf_ok Try.func52 hv
      exact fnOk_eat (k := .pt) hc (fun i hi => by simp [SV.idsL, SV.ids] at hi; omega) (by rw [take_get ht (by omega)]; rfl) l1 hrow
    | false =>
      rw [hh, cond_false] at hv
      rw [crGo_none hh]
      obtain ⟨rows', hc, ht⟩ := runK_ok xCr_ok loopOf_ok Try.func52 hv
      exact fnOk_eat (k := .pt) hc (fun i hi => by simp [SV.idsL, SV.ids] at hi; omega) (by rw [take_get ht (by omega)]; rfl) l1 hrow
  | false =>
    rw [hn] at hv
    simp only [cond_true, cond_false] at hv
    rw [show crossT a b xs = xs by unfold crossT; rw [hn]; rfl]
    obtain ⟨rows', hc, ht⟩ := runK_ok xCr_ok loopOf_ok Try.func52 hv
    exact fnOk_eat (k := .pt) hc (fun i hi => by simp [SV.idsL, SV.ids] at hi; omega) (by rw [take_get ht (by omega)]; rfl) l1 hrow
theorem oCross_ok {args : List SV} {rows : List Row} {e : Eff} (h : oCross args rows = some e) (hok : e.ok = true) : FnOk Try.prog 52 args (rows[·]?) rows.length e := by
  unfold oCross at h
  split at h
  · rename_i id len cap a b
    split at h
    · rename_i xs hrow
      cases h
      refine fnOk_weaken (args := [.slice id 2 0 len none, .int .i64 a, .int .i64 b]) (cross_main (xs := xs) hrow hok) fun ρ vs hr => ?_
      rw [RelL] at hr ⊢
      obtain ⟨u, us, rfl, h6, h7⟩ := hr
      exact ⟨u, us, rfl, rel_nocap h6, h7⟩
    · cases h
  · cases h
noncomputable def orcCross : Orc := ⟨52, oCross, fun _ _ _ h hok => oCross_ok h hok, bodied Try.func52 (by kernel_rfl)⟩

set_option maxRecDepth 100000 in
set_option maxHeartbeats 0 in
theorem rat_tree (a b : Int) (t : Pt) : runK xCr (fun _ _ => none) 200 53 Try.f53 0 [.int .i64 a, .int .i64 b, .agg t.sv] [] =
  bif !decide (IntKind.i64.wrap (t.q * 65536) = 0) then
  some (SV.int IntKind.i64 (IntKind.i64.wrap ((IntKind.i64.wrap (IntKind.i64.wrap (a * t.q) + IntKind.i64.wrap (IntKind.i64.wrap (b - a) * t.p))).tdiv (IntKind.i64.wrap (t.q * 65536)))), [])
  else none := by kernel_rfl

/-! at, between: the cells of a line's parts. -/
def inPt (t : Pt) : Bool := (decide (0 ≤ t.p) && decide (t.p ≤ t.q)) && (decide (0 < t.q) && decide (t.q ≤ 2097152))
theorem inPt_iff {t : Pt} : inPt t = true ↔ (0 ≤ t.p ∧ t.p ≤ t.q) ∧ 0 < t.q ∧ t.q ≤ 2097152 := by
  unfold inPt
  simp only [Bool.and_eq_true, decide_eq_true_eq]
theorem rat_val {a b : Int} {t : Pt} (ha : 0 ≤ a ∧ a < 2097152) (hb : 0 ≤ b ∧ b < 2097152) (ht : inPt t = true) : runK xCr (fun _ _ => none) 200 53 Try.f53 0 [.int .i64 a, .int .i64 b, .agg t.sv] [] = some (.int .i64 (cellAt a b t.p t.q), []) := by
  obtain ⟨⟨h1, h2⟩, h3, h4⟩ := inPt_iff.1 ht
  have m1 : 0 ≤ a * t.q ∧ a * t.q ≤ 2097152 * 2097152 := ⟨Int.mul_nonneg ha.1 (by omega), Int.mul_le_mul (by omega) h4 (by omega) (by omega)⟩
  have m2 : 0 ≤ b * t.p ∧ b * t.p ≤ 2097152 * 2097152 := ⟨Int.mul_nonneg hb.1 h1, Int.mul_le_mul (by omega) (by omega) h1 (by omega)⟩
  have m3 : 0 ≤ a * t.p ∧ a * t.p ≤ a * t.q := ⟨Int.mul_nonneg ha.1 h1, Int.mul_le_mul_of_nonneg_left h2 ha.1⟩
  have e : (b - a) * t.p = b * t.p - a * t.p := by rw [Int.sub_mul]
  have e0 : 0 ≤ a * t.q + (b - a) * t.p := by rw [e]; omega
  have e1 : 0 ≤ cellAt a b t.p t.q := Int.ediv_nonneg e0 (by omega)
  have e2 : cellAt a b t.p t.q ≤ a * t.q + (b - a) * t.p := by
    unfold cellAt
    have : 0 < t.q * 65536 := by omega
    exact Int.ediv_le_self _ e0
  rw [rat_tree, IntWalk.i64_in (t.q * 65536) (by omega), decide_eq_false (show ¬ t.q * 65536 = 0 by omega), IntWalk.i64_in (a * t.q) (by omega), IntWalk.i64_in (b - a) (by omega), IntWalk.i64_in ((b - a) * t.p) (by omega), IntWalk.i64_in (a * t.q + (b - a) * t.p) (by omega), Int.tdiv_eq_ediv_of_nonneg e0]
  rw [show (a * t.q + (b - a) * t.p) / (t.q * 65536) = cellAt a b t.p t.q from rfl, IntWalk.i64_in _ (by omega)]
  rfl
def oRat : List SV → Option Eff
  | [.int .i64 a, .int .i64 b, .agg [.int .i64 p, .int .i64 q]] => some { ok := (inR a && inR b) && inPt ⟨p, q⟩, val := .int .i64 (cellAt a b p q) }
  | _ => none
theorem oRat_ok {m : Nat → Option Row} {n : Nat} {args : List SV} {e : Eff} (h : oRat args = some e) (hok : e.ok = true) : FnOk Try.prog 53 args m n e := by
  unfold oRat at h
  split at h
  · rename_i a b p q
    cases h
    simp only [Bool.and_eq_true] at hok
    obtain ⟨rows', hc, _⟩ := runK_ok xCr_ok lok_none Try.func53 (rat_val (t := ⟨p, q⟩) (inR_iff.1 hok.1.1) (inR_iff.1 hok.1.2) hok.2)
    exact fnOk_pure hc rfl rfl
  · cases h
noncomputable def orcRat : Orc := ⟨53, fun args _ => oRat args, fun _ _ _ h hok => oRat_ok h hok, bodied Try.func53 (by kernel_rfl)⟩
noncomputable def xBe : Ctx := ctxOf [] [orcRat]
theorem xBe_ok : COk Try.prog xBe := ctxOf_ok (by kernel_rfl)

set_option maxRecDepth 100000 in
set_option maxHeartbeats 0 in
theorem rbe_tree (a b : Int) (s t : Pt) : runK xBe (fun _ _ => none) 200 54 Try.f54 0 [.int .i64 a, .int .i64 b, .agg s.sv, .agg t.sv] [] =
  bif decide (b < a) then bif inR a && inR b && inPt t then some (SV.int IntKind.i64 (cellAt a b t.p t.q), []) else none
  else bif inR a && inR b && inPt s then some (SV.int IntKind.i64 (cellAt a b s.p s.q), []) else none := by kernel_rfl

def betC (a b : Int) (s t : Pt) : Int := bif decide (b < a) then cellAt a b t.p t.q else cellAt a b s.p s.q
theorem rbe_val {a b : Int} {s t : Pt} (ha : inR a = true) (hb : inR b = true) (hs : inPt s = true) (ht : inPt t = true) : runK xBe (fun _ _ => none) 200 54 Try.f54 0 [.int .i64 a, .int .i64 b, .agg s.sv, .agg t.sv] [] = some (.int .i64 (betC a b s t), []) := by
  rw [rbe_tree, ha, hb, hs, ht]
  unfold betC
  cases decide (b < a) <;> rfl
def oBet : List SV → Option Eff
  | [.int .i64 a, .int .i64 b, .agg [.int .i64 p, .int .i64 q], .agg [.int .i64 r, .int .i64 s]] => some { ok := (inR a && inR b) && (inPt ⟨p, q⟩ && inPt ⟨r, s⟩), val := .int .i64 (betC a b ⟨p, q⟩ ⟨r, s⟩) }
  | _ => none
theorem oBet_ok {m : Nat → Option Row} {n : Nat} {args : List SV} {e : Eff} (h : oBet args = some e) (hok : e.ok = true) : FnOk Try.prog 54 args m n e := by
  unfold oBet at h
  split at h
  · rename_i a b p q r s
    cases h
    simp only [Bool.and_eq_true] at hok
    obtain ⟨rows', hc, _⟩ := runK_ok xBe_ok lok_none Try.func54 (rbe_val (s := ⟨p, q⟩) (t := ⟨r, s⟩) hok.1.1 hok.1.2 hok.2.1 hok.2.2)
    exact fnOk_pure hc rfl rfl
  · cases h
noncomputable def orcBet : Orc := ⟨54, fun args _ => oBet args, fun _ _ _ h hok => oBet_ok h hok, bodied Try.func54 (by kernel_rfl)⟩

end Go.Proofs.Ytboljdeeodeeeaa

namespace Go.Proofs.Ytboljdeeodeeeaa
set_option linter.unusedSimpArgs false
set_option linter.unusedVariables false
set_option maxRecDepth 100000
open Go.RowKit

noncomputable def xRv : Ctx := ctxOf [] [orcRSolid, orcCellG, orcCross, orcRat, orcBet]
theorem xRv_ok : COk Try.prog xRv := ctxOf_ok (by kernel_rfl)
def valRv (len : Nat) (i : Int) : List SV := [.ptr 1 0 0 0, .ptr 2 0 0 0, .ptr 3 0 0 0, .bool false, .slice 7 2 0 len none, .int .i64 i]
def rowRv (w d h : Int) (off ln : Nat) (xs : List Bool) (a b : V3) (l : List Pt) : List Row := [.vec true .bool xs, .own [.int .i64 w, .int .i64 d, .int .i64 h, .slice 0 1 off ln none, .unk], .own a.sv, .own b.sv, .gone, .gone, .gone, .vec false .pt l]
noncomputable def rdRv : List SV → List Row → Option Res2 := roundS xRv (fun _ _ => none) 100 26 [0, 1, 0, 1, 1, 1, 1, 1, 1, 1, 1] (bodyAt Try.f26 [0, 1, 0, 1, 1, 1, 1, 1, 1, 1, 1]) 124 8 [3, 4, 5, 6, 9, 10]

set_option maxRecDepth 100000 in
set_option maxHeartbeats 0 in
theorem rv_round (w d h : Int) (off ln : Nat) (xs : List Bool) (a b : V3) (l : List Pt) (len : Nat) (i : Int) : rdRv (valRv len i) (rowRv w d h off ln xs a b l) =
  bif decide (i < (↑len : Int)) then
  bif decide (0 ≤ i) && decide (i < (↑len : Int)) then
  bif decide (0 + i.toNat < l.length) then
  bif inR a.x && inR b.x && inPt (l.getD (0 + i.toNat) Knd.pt.dflt) then
  bif inR a.y && inR b.y && inPt (l.getD (0 + i.toNat) Knd.pt.dflt) then
  bif inR a.z && inR b.z && inPt (l.getD (0 + i.toNat) Knd.pt.dflt) then
  bif decide (off + ln ≤ xs.length) then
  bif
  (mpOf w d h ln fun j => xs.getD (off + j) false).solid (cellAt a.x b.x (l.getD (0 + i.toNat) Knd.pt.dflt).p (l.getD (0 + i.toNat) Knd.pt.dflt).q)
  (cellAt a.y b.y (l.getD (0 + i.toNat) Knd.pt.dflt).p (l.getD (0 + i.toNat) Knd.pt.dflt).q)
  (cellAt a.z b.z (l.getD (0 + i.toNat) Knd.pt.dflt).p (l.getD (0 + i.toNat) Knd.pt.dflt).q) then
  some
  (SV.tuple [SV.nils, SV.tuple [SV.ptr 1 0 0 0, SV.ptr 2 0 0 0, SV.ptr 3 0 0 0, SV.bool false, SV.slice 7 2 0 len none, SV.int IntKind.i64 i]],
  [Row.vec true Knd.bool xs, Row.own [SV.int IntKind.i64 w, SV.int IntKind.i64 d, SV.int IntKind.i64 h, SV.slice 0 1 off ln none, SV.unk],
  Row.own [SV.int IntKind.i64 a.x, SV.int IntKind.i64 a.y, SV.int IntKind.i64 a.z], Row.own [SV.int IntKind.i64 b.x, SV.int IntKind.i64 b.y, SV.int IntKind.i64 b.z], Row.gone,
  Row.gone, Row.gone, Row.vec false Knd.pt l])
  else
  bif i == 0 then
  some
  (SV.tuple [SV.nilp, SV.tuple [SV.ptr 1 0 0 0, SV.ptr 2 0 0 0, SV.ptr 3 0 0 0, SV.bool false, SV.slice 7 2 0 len none, SV.int IntKind.i64 (IntKind.i64.wrap (i + 1))]],
  [Row.vec true Knd.bool xs, Row.own [SV.int IntKind.i64 w, SV.int IntKind.i64 d, SV.int IntKind.i64 h, SV.slice 0 1 off ln none, SV.unk],
  Row.own [SV.int IntKind.i64 a.x, SV.int IntKind.i64 a.y, SV.int IntKind.i64 a.z], Row.own [SV.int IntKind.i64 b.x, SV.int IntKind.i64 b.y, SV.int IntKind.i64 b.z], Row.gone,
  Row.gone, Row.gone, Row.vec false Knd.pt l])
  else
  bif decide (0 ≤ IntKind.i64.wrap (i - 1)) && decide (IntKind.i64.wrap (i - 1) < (↑len : Int)) then
  bif decide (0 + (IntKind.i64.wrap (i - 1)).toNat < l.length) then
  bif inR a.x && inR b.x && (inPt (l.getD (0 + (IntKind.i64.wrap (i - 1)).toNat) Knd.pt.dflt) && inPt (l.getD (0 + i.toNat) Knd.pt.dflt)) then
  bif inR a.y && inR b.y && (inPt (l.getD (0 + (IntKind.i64.wrap (i - 1)).toNat) Knd.pt.dflt) && inPt (l.getD (0 + i.toNat) Knd.pt.dflt)) then
  bif inR a.z && inR b.z && (inPt (l.getD (0 + (IntKind.i64.wrap (i - 1)).toNat) Knd.pt.dflt) && inPt (l.getD (0 + i.toNat) Knd.pt.dflt)) then
  bif decide (off + ln ≤ xs.length) then
  bif
  (mpOf w d h ln fun j => xs.getD (off + j) false).solid (betC a.x b.x (l.getD (0 + (IntKind.i64.wrap (i - 1)).toNat) Knd.pt.dflt) (l.getD (0 + i.toNat) Knd.pt.dflt))
  (betC a.y b.y (l.getD (0 + (IntKind.i64.wrap (i - 1)).toNat) Knd.pt.dflt) (l.getD (0 + i.toNat) Knd.pt.dflt))
  (betC a.z b.z (l.getD (0 + (IntKind.i64.wrap (i - 1)).toNat) Knd.pt.dflt) (l.getD (0 + i.toNat) Knd.pt.dflt)) then
  some
  (SV.tuple [SV.nils, SV.tuple [SV.ptr 1 0 0 0, SV.ptr 2 0 0 0, SV.ptr 3 0 0 0, SV.bool false, SV.slice 7 2 0 len none, SV.int IntKind.i64 i]],
  [Row.vec true Knd.bool xs, Row.own [SV.int IntKind.i64 w, SV.int IntKind.i64 d, SV.int IntKind.i64 h, SV.slice 0 1 off ln none, SV.unk],
  Row.own [SV.int IntKind.i64 a.x, SV.int IntKind.i64 a.y, SV.int IntKind.i64 a.z],
  Row.own [SV.int IntKind.i64 b.x, SV.int IntKind.i64 b.y, SV.int IntKind.i64 b.z], Row.gone, Row.gone, Row.gone, Row.vec false Knd.pt l])
  else
  some
  (SV.tuple [SV.nilp, SV.tuple [SV.ptr 1 0 0 0, SV.ptr 2 0 0 0, SV.ptr 3 0 0 0, SV.bool false, SV.slice 7 2 0 len none, SV.int IntKind.i64 (IntKind.i64.wrap (i + 1))]],
  [Row.vec true Knd.bool xs, Row.own [SV.int IntKind.i64 w, SV.int IntKind.i64 d, SV.int IntKind.i64 h, SV.slice 0 1 off ln none, SV.unk],
  Row.own [SV.int IntKind.i64 a.x, SV.int IntKind.i64 a.y, SV.int IntKind.i64 a.z],
  Row.own [SV.int IntKind.i64 b.x, SV.int IntKind.i64 b.y, SV.int IntKind.i64 b.z], Row.gone, Row.gone, Row.gone, Row.vec false Knd.pt l])
  else none
  else none
  else none
  else none
  else none
  else none
  else none
  else none
  else none
  else none
  else none
  else none
  else
  some
  (SV.tuple [SV.ptr 0 0 0 0, SV.tuple [SV.ptr 1 0 0 0, SV.ptr 2 0 0 0, SV.ptr 3 0 0 0, SV.bool false, SV.slice 7 2 0 len none, SV.int IntKind.i64 i]],
  [Row.vec true Knd.bool xs, Row.own [SV.int IntKind.i64 w, SV.int IntKind.i64 d, SV.int IntKind.i64 h, SV.slice 0 1 off ln none, SV.unk],
  Row.own [SV.int IntKind.i64 a.x, SV.int IntKind.i64 a.y, SV.int IntKind.i64 a.z], Row.own [SV.int IntKind.i64 b.x, SV.int IntKind.i64 b.y, SV.int IntKind.i64 b.z], Row.gone, Row.gone,
  Row.gone, Row.vec false Knd.pt l]) := by kernel_rfl

/-- Is the line's part i, or what lies between it and the one ahead of it, in a solid cell? -/
def hitT (F : Int → Int → Int → Bool) (a b : V3) (l : List Pt) (i : Nat) : Bool :=
  F (cellAt a.x b.x (l.getD (0 + i) Knd.pt.dflt).p (l.getD (0 + i) Knd.pt.dflt).q) (cellAt a.y b.y (l.getD (0 + i) Knd.pt.dflt).p (l.getD (0 + i) Knd.pt.dflt).q) (cellAt a.z b.z (l.getD (0 + i) Knd.pt.dflt).p (l.getD (0 + i) Knd.pt.dflt).q) ||
  (!((i : Int) == 0) && F (betC a.x b.x (l.getD (0 + (i - 1)) Knd.pt.dflt) (l.getD (0 + i) Knd.pt.dflt)) (betC a.y b.y (l.getD (0 + (i - 1)) Knd.pt.dflt) (l.getD (0 + i) Knd.pt.dflt)) (betC a.z b.z (l.getD (0 + (i - 1)) Knd.pt.dflt) (l.getD (0 + i) Knd.pt.dflt)))
def rvOk (off ln : Nat) (xs : List Bool) (a b : V3) (l : List Pt) (len : Nat) : Bool := (((inR a.x && inR b.x) && ((inR a.y && inR b.y) && (inR a.z && inR b.z))) && (l.all inPt && decide (off + ln ≤ xs.length))) && (decide (len = l.length) && decide (len ≤ 900))
section
variable {w d h : Int} {off ln : Nat} {xs : List Bool} {a b : V3} {l : List Pt}
set_option maxHeartbeats 0 in
theorem rv_loop (hc : rvOk off ln xs a b l l.length = true) :
    (anyB (fun i => hitT (mpOf w d h ln fun j => xs.getD (off + j) false).solid a b l i.toNat) l.length 0 = true → LoopTo rdRv (valRv l.length 0) (rowRv w d h off ln xs a b l) .ret (valRv l.length (posB (fun i => hitT (mpOf w d h ln fun j => xs.getD (off + j) false).solid a b l i.toNat) l.length 0)) (rowRv w d h off ln xs a b l)) ∧
    (anyB (fun i => hitT (mpOf w d h ln fun j => xs.getD (off + j) false).solid a b l i.toNat) l.length 0 = false → LoopTo rdRv (valRv l.length 0) (rowRv w d h off ln xs a b l) (.exit 0) (valRv l.length (l.length : Int)) (rowRv w d h off ln xs a b l)) := by
  unfold rvOk at hc
  simp only [Bool.and_eq_true, decide_eq_true_eq] at hc
  obtain ⟨⟨⟨⟨h1, h2⟩, ⟨h3, h4⟩, h5, h6⟩, h7, h8⟩, _, h9⟩ := hc
  have key := loop_any (rd := rdRv) (val := valRv l.length) (valR := valRv l.length) (R := rowRv w d h off ln xs a b l) (p := fun i => hitT (mpOf w d h ln fun j => xs.getD (off + j) false).solid a b l i.toNat) (W := (l.length : Int)) (ex := 0) (i0 := 0) (fun i i0 i1 => ?_) ?_ l.length 0 (by omega) (by omega)
  · exact key
  · obtain ⟨i, rfl⟩ : ∃ k : Nat, i = k := ⟨i.toNat, by omega⟩
    have hin : ∀ j, j < l.length → inPt (l.getD (0 + j) Knd.pt.dflt) = true := by
      intro j hj
      show inPt (l.getD (0 + j) ⟨0, 0⟩) = true
      rw [List.getD_eq_getElem?_getD, List.getElem?_eq_getElem (by omega)]
      exact List.all_eq_true.1 h7 _ (List.getElem_mem _)
    have e1 : ((i : Int)).toNat = i := by omega
    rw [rv_round, e1, decide_eq_true i1, decide_eq_true i0, decide_eq_true (show 0 + i < l.length by omega), h1, h2, h3, h4, h5, h6, hin i (by omega), decide_eq_true h8, IntWalk.i64_in ((i : Int) + 1) (by omega)]
    simp only [Bool.and_self, cond_true]
    unfold hitT
    generalize (mpOf w d h ln fun j => xs.getD (off + j) false).solid (cellAt a.x b.x (l.getD (0 + i) Knd.pt.dflt).p (l.getD (0 + i) Knd.pt.dflt).q) (cellAt a.y b.y (l.getD (0 + i) Knd.pt.dflt).p (l.getD (0 + i) Knd.pt.dflt).q) (cellAt a.z b.z (l.getD (0 + i) Knd.pt.dflt).p (l.getD (0 + i) Knd.pt.dflt).q) = S
    cases S with
    | true => rfl
    | false =>
      simp only [cond_false, Bool.false_or]
      cases hz : (i : Int) == 0 with
      | true => rfl
      | false =>
        have hi : (i : Int) ≠ 0 := by simpa using hz
        have e2 : IntKind.i64.wrap ((i : Int) - 1) = ((i - 1 : Nat) : Int) := by rw [IntWalk.i64_in _ (by omega)]; omega
        rw [e2, show (((i - 1 : Nat) : Int)).toNat = i - 1 by omega, decide_eq_true (show (0 : Int) ≤ ((i - 1 : Nat) : Int) by omega), decide_eq_true (show ((i - 1 : Nat) : Int) < (l.length : Int) by omega), decide_eq_true (show 0 + (i - 1) < l.length by omega), hin (i - 1) (by omega)]
        simp only [Bool.and_self, cond_true, cond_false, Bool.not_false, Bool.true_and]
        rfl
  · rw [rv_round, decide_eq_false (by omega)]
    rfl
end

set_option maxHeartbeats 0 in
noncomputable def outRv (v : List SV) (R : List Row) (k : Ex → List SV → List Row → Option Res2) : Option Res2 := match v, R with
  | [.ptr 1 0 0 0, .ptr 2 0 0 0, .ptr 3 0 0 0, .bool r, .slice 7 2 0 len none, .int .i64 i], [.vec true .bool xs, .own [.int .i64 w, .int .i64 d, .int .i64 h, .slice 0 1 off ln none, .unk], .own [.int .i64 ax, .int .i64 ay, .int .i64 az], .own [.int .i64 bx, .int .i64 b_y, .int .i64 bz], .gone, .gone, .gone, .vec false .pt l] =>
      bif (!r && decide (i = 0)) && rvOk off ln xs ⟨ax, ay, az⟩ ⟨bx, b_y, bz⟩ l len then
        (bif anyB (fun i => hitT (mpOf w d h ln fun j => xs.getD (off + j) false).solid ⟨ax, ay, az⟩ ⟨bx, b_y, bz⟩ l i.toNat) len 0 then k .ret (valRv len (posB (fun i => hitT (mpOf w d h ln fun j => xs.getD (off + j) false).solid ⟨ax, ay, az⟩ ⟨bx, b_y, bz⟩ l i.toNat) len 0)) (rowRv w d h off ln xs ⟨ax, ay, az⟩ ⟨bx, b_y, bz⟩ l)
        else k (.exit 0) (valRv len (len : Int)) (rowRv w d h off ln xs ⟨ax, ay, az⟩ ⟨bx, b_y, bz⟩ l)) else none
  | _, _ => none
set_option maxHeartbeats 0 in
theorem lpoRv_ok : LpOk 26 [0, 1, 0, 1, 1, 1, 1, 1, 1, 1, 1] (loopF 124 [3, 4, 5, 6, 9, 10] outRv) := by
  intro b hat s K r h
  refine loopF_ok (fuel := 100) xRv_ok lok_none hat (fun v R k r hr => ?_) h
  have hbody := at_body Try.func26 hat
  subst hbody
  unfold outRv at hr
  split at hr
  · rename_i rr len i xs w d h off ln ax ay az bx b_y bz l
    obtain ⟨hb, hr2⟩ := cond_some hr
    simp only [Bool.and_eq_true, decide_eq_true_eq, Bool.not_eq_true'] at hb
    obtain ⟨⟨rfl, rfl⟩, h3⟩ := hb
    have e1 : len = List.length (α := Pt) l := by
      unfold rvOk at h3
      simp only [Bool.and_eq_true, decide_eq_true_eq] at h3
      exact h3.2.1
    subst e1
    have hl := rv_loop (w := w) (d := d) (h := h) h3
    cases hq : anyB (fun i => hitT (mpOf w d h ln fun j => xs.getD (off + j) false).solid ⟨ax, ay, az⟩ ⟨bx, b_y, bz⟩ l i.toNat) (List.length (α := Pt) l) 0 with
    | true => rw [hq, cond_true] at hr2; exact ⟨_, _, _, hr2, hl.1 hq⟩
    | false => rw [hq, cond_false] at hr2; exact ⟨_, _, _, hr2, hl.2 hq⟩
  · cases hr
noncomputable def lpoRv : Lpo := ⟨_, _, _, lpoRv_ok⟩

set_option maxRecDepth 100000 in
set_option maxHeartbeats 0 in
theorem rsight_tree (w d h : Int) (off ln : Nat) (xs : List Bool) (a b : V3) : runK xRv (loopOf [lpoRv]) 300 26 Try.f26 0 [mapS w d h (.slice 0 1 off ln none) .unk, .agg a.sv, .agg b.sv] [.vec true .bool xs] =
  bif in64B a.x then
  bif in64B a.y then
  bif in64B a.z then
  bif decide (off + ln ≤ xs.length) then
  bif in64B b.x then
  bif in64B b.y then
  bif in64B b.z then
  bif decide (off + ln ≤ xs.length) then
  bif
  bif (mpOf w d h ln fun j => xs.getD (off + j) false).solid (a.x / 65536) (a.y / 65536) (a.z / 65536) == false then
  (mpOf w d h ln fun j => xs.getD (off + j) false).solid (b.x / 65536) (b.y / 65536) (b.z / 65536)
  else true then
  some (SV.bool false, [])
  else
  bif crOk a.x b.x 2 [Pt.mk 0 1, Pt.mk 1 1] then
  bif crOk a.y b.y (crossT a.x b.x [Pt.mk 0 1, Pt.mk 1 1]).length (crossT a.x b.x [Pt.mk 0 1, Pt.mk 1 1]) then
  bif crOk a.z b.z (crossT a.y b.y (crossT a.x b.x [Pt.mk 0 1, Pt.mk 1 1])).length (crossT a.y b.y (crossT a.x b.x [Pt.mk 0 1, Pt.mk 1 1])) then
  bif
  rvOk off ln xs a b (crossT a.z b.z (crossT a.y b.y (crossT a.x b.x [Pt.mk 0 1, Pt.mk 1 1])))
  (crossT a.z b.z (crossT a.y b.y (crossT a.x b.x [Pt.mk 0 1, Pt.mk 1 1]))).length then
  bif
  anyB (fun i => hitT (mpOf w d h ln fun j => xs.getD (off + j) false).solid a b (crossT a.z b.z (crossT a.y b.y (crossT a.x b.x [Pt.mk 0 1, Pt.mk 1 1]))) i.toNat)
  (crossT a.z b.z (crossT a.y b.y (crossT a.x b.x [Pt.mk 0 1, Pt.mk 1 1]))).length 0 then
  some (SV.bool false, [])
  else some (SV.bool true, [])
  else none
  else none
  else none
  else none
  else none
  else none
  else none
  else none
  else none
  else none
  else none
  else none := by kernel_rfl

end Go.Proofs.Ytboljdeeodeeeaa

namespace Go.Proofs.Ytboljdeeodeeeaa
set_option linter.unusedSimpArgs false
set_option linter.unusedVariables false
set_option maxRecDepth 100000
open Go.RowKit

def Lt (s t : Pt) : Prop := s.p * t.q < t.p * s.q
theorem prod_small {s t : Pt} (hs : inPt s = true) (ht : inPt t = true) : 0 ≤ s.p * t.q ∧ s.p * t.q ≤ 2097152 * 2097152 := by
  obtain ⟨⟨h1, h2⟩, h3, h4⟩ := inPt_iff.1 hs
  obtain ⟨⟨k1, k2⟩, k3, k4⟩ := inPt_iff.1 ht
  exact ⟨Int.mul_nonneg h1 (by omega), Int.mul_le_mul (by omega) k4 (by omega) (by omega)⟩
theorem ltP_iff {s t : Pt} (hs : inPt s = true) (ht : inPt t = true) : ltP s t = true ↔ Lt s t := by
  have h1 := prod_small hs ht
  have h2 := prod_small ht hs
  unfold ltP Lt
  rw [IntWalk.i64_in (s.p * t.q) (by omega), IntWalk.i64_in (t.p * s.q) (by omega), decide_eq_true_eq]
theorem lt_trans' {s t u : Pt} (hs : 0 < s.q) (ht : 0 < t.q) (hu : 0 < u.q) (h1 : Lt s t) (h2 : Lt t u) : Lt s u := by
  unfold Lt at *
  have k1 := Int.mul_lt_mul_of_pos_right h1 hu
  have k2 := Int.mul_lt_mul_of_pos_right h2 hs
  have e1 : s.p * t.q * u.q = (s.p * u.q) * t.q := by grind
  have e2 : t.p * s.q * u.q = t.p * u.q * s.q := by grind
  have e3 : u.p * t.q * s.q = (u.p * s.q) * t.q := by grind
  rw [e1, e2] at k1
  rw [e3] at k2
  exact Int.lt_of_mul_lt_mul_right (Int.lt_trans k1 k2) (Int.le_of_lt ht)
theorem le_lt_trans' {s t u : Pt} (hs : 0 < s.q) (ht : 0 < t.q) (hu : 0 < u.q) (h1 : s.p * t.q ≤ t.p * s.q) (h2 : Lt t u) : Lt s u := by
  unfold Lt at *
  have k1 := Int.mul_le_mul_of_nonneg_right h1 (Int.le_of_lt hu)
  have k2 := Int.mul_lt_mul_of_pos_right h2 hs
  have e1 : s.p * t.q * u.q = (s.p * u.q) * t.q := by grind
  have e2 : t.p * s.q * u.q = t.p * u.q * s.q := by grind
  have e3 : u.p * t.q * s.q = (u.p * s.q) * t.q := by grind
  rw [e1, e2] at k1
  rw [e3] at k2
  exact Int.lt_of_mul_lt_mul_right (Int.lt_of_le_of_lt k1 k2) (Int.le_of_lt ht)
theorem lt_le_trans' {s t u : Pt} (hs : 0 < s.q) (ht : 0 < t.q) (hu : 0 < u.q) (h1 : Lt s t) (h2 : t.p * u.q ≤ u.p * t.q) : Lt s u := by
  unfold Lt at *
  have k1 := Int.mul_lt_mul_of_pos_right h1 hu
  have k2 := Int.mul_le_mul_of_nonneg_right h2 (Int.le_of_lt hs)
  have e1 : s.p * t.q * u.q = (s.p * u.q) * t.q := by grind
  have e2 : t.p * s.q * u.q = t.p * u.q * s.q := by grind
  have e3 : u.p * t.q * s.q = (u.p * s.q) * t.q := by grind
  rw [e1, e2] at k1
  rw [e3] at k2
  exact Int.lt_of_mul_lt_mul_right (Int.lt_of_lt_of_le k1 k2) (Int.le_of_lt ht)

theorem posW_lt {xs : List Pt} {x : Pt} : ∀ (n i j : Nat), i ≤ j → j < posW xs x n i → ltP (xs.getD (0 + j) Knd.pt.dflt) x = true
  | 0, i, j, h1, h2 => by unfold posW at h2; omega
  | n + 1, i, j, h1, h2 => by
    unfold posW at h2
    cases hc : ltP (xs.getD (0 + i) Knd.pt.dflt) x with
    | false => rw [hc] at h2; simp only [cond_false] at h2; omega
    | true =>
      rw [hc] at h2
      simp only [cond_true] at h2
      rcases Nat.lt_or_ge i j with h | h
      · exact posW_lt n (i + 1) j (by omega) h2
      · obtain rfl : i = j := by omega
        exact hc
theorem posW_not {xs : List Pt} {x : Pt} : ∀ (n i : Nat), posW xs x n i < i + n → ltP (xs.getD (0 + posW xs x n i) Knd.pt.dflt) x = false
  | 0, i, h => by unfold posW at h; omega
  | n + 1, i, h => by
    unfold posW at h ⊢
    cases hc : ltP (xs.getD (0 + i) Knd.pt.dflt) x with
    | false => simp only [cond_false]; exact hc
    | true =>
      rw [hc] at h
      simp only [cond_true] at h ⊢
      exact posW_not n (i + 1) (by omega)

/-- A row of parts as the reference keeps it. -/
structure Gd (l : List Pt) : Prop where
  ok : ∀ t ∈ l, inPt t = true
  srt : l.Pairwise Lt
  hd : Hd l
  one : ∃ t ∈ l, t.p = t.q
/-- A part of this value is in it. -/
def Has (l : List Pt) (v : Pt) : Prop := ∃ t ∈ l, t.p * v.q = v.p * t.q

theorem withW_mem {xs : List Pt} {x t : Pt} (h : t ∈ xs) : t ∈ withW xs x := by
  unfold withW
  cases foundW xs x with
  | true => exact h
  | false =>
    simp only [cond_false]
    rw [← List.take_append_drop (posW xs x xs.length 0) xs] at h
    rcases List.mem_append.1 h with h | h
    · exact List.mem_append_left _ h
    · exact List.mem_append_right _ (List.mem_cons_of_mem _ h)
theorem getD_mem {xs : List Pt} {i : Nat} (h : i < xs.length) : xs.getD (0 + i) Knd.pt.dflt ∈ xs := by
  show xs.getD (0 + i) (⟨0, 0⟩ : Pt) ∈ xs
  rw [Nat.zero_add, List.getD_eq_getElem?_getD, List.getElem?_eq_getElem h]
  exact List.getElem_mem _
theorem q_pos {t : Pt} (h : inPt t = true) : 0 < t.q := (inPt_iff.1 h).2.1
theorem withW_gd {xs : List Pt} {x : Pt} (h : Gd xs) (hx : inPt x = true) : Gd (withW xs x) ∧ Has (withW xs x) x := by
  have hxp := inPt_iff.1 hx
  have hh := withW_hd h.hd (x := x) hxp.1.1 (by omega)
  have hle := (posW_le (xs := xs) (x := x) xs.length 0).2
  cases hf : foundW xs x with
  | true =>
    have hw : withW xs x = xs := by unfold withW; rw [hf]; rfl
    rw [hw]
    refine ⟨h, ?_⟩
    unfold foundW at hf
    rw [Bool.and_eq_true, decide_eq_true_eq, Bool.not_eq_true'] at hf
    have hm := getD_mem hf.1
    have h1 := posW_not (xs := xs) (x := x) xs.length 0 (by omega)
    have h2 : ltP x (xs.getD (0 + posW xs x xs.length 0) Knd.pt.dflt) = false := by rw [Nat.zero_add]; exact hf.2
    generalize xs.getD (0 + posW xs x xs.length 0) Knd.pt.dflt = y at hm h1 h2
    have hy := h.ok y hm
    refine ⟨y, hm, ?_⟩
    have k1 : ¬ Lt y x := fun hl => by rw [(ltP_iff hy hx).2 hl] at h1; cases h1
    have k2 : ¬ Lt x y := fun hl => by rw [(ltP_iff hx hy).2 hl] at h2; cases h2
    unfold Lt at k1 k2
    omega
  | false =>
    have hw : withW xs x = xs.take (posW xs x xs.length 0) ++ x :: xs.drop (posW xs x xs.length 0) := by unfold withW; rw [hf]; rfl
    have hsub : ∀ t ∈ xs, t ∈ withW xs x := fun t ht => withW_mem ht
    refine ⟨⟨fun t ht => ?_, ?_, hh.1, ?_⟩, x, by rw [hw]; exact List.mem_append_right _ (List.mem_cons_self ..), rfl⟩
    · rw [hw] at ht
      rcases List.mem_append.1 ht with ht | ht
      · exact h.ok t (List.mem_of_mem_take ht)
      · rcases List.mem_cons.1 ht with rfl | ht
        · exact hx
        · exact h.ok t (List.mem_of_mem_drop ht)
    · rw [hw, List.pairwise_append]
      have hlow : ∀ t ∈ xs.take (posW xs x xs.length 0), Lt t x := by
        intro t ht
        obtain ⟨j, hj, rfl⟩ := List.getElem_of_mem ht
        rw [List.length_take] at hj
        have := posW_lt (xs := xs) (x := x) xs.length 0 j (by omega) (by omega)
        have hm := getD_mem (xs := xs) (i := j) (by omega)
        have e : xs.getD (0 + j) Knd.pt.dflt = (xs.take (posW xs x xs.length 0))[j]'(by rw [List.length_take]; exact hj) := by
          show xs.getD (0 + j) (⟨0, 0⟩ : Pt) = _
          rw [Nat.zero_add, List.getD_eq_getElem?_getD, List.getElem?_eq_getElem (by omega), List.getElem_take]
          rfl
        rw [e] at this hm
        exact (ltP_iff (h.ok _ hm) hx).1 this
      have hhigh : ∀ t ∈ xs.drop (posW xs x xs.length 0), Lt x t := by
        intro t ht
        have hlt : posW xs x xs.length 0 < xs.length := by
          rcases Nat.lt_or_ge (posW xs x xs.length 0) xs.length with hh | hh
          · exact hh
          · rw [List.drop_eq_nil_of_le hh] at ht; cases ht
        have hm := getD_mem hlt
        have h2 : ltP x (xs.getD (0 + posW xs x xs.length 0) Knd.pt.dflt) = true := by
          unfold foundW at hf
          rw [decide_eq_true hlt, Bool.true_and, Bool.not_eq_false'] at hf
          rw [Nat.zero_add]
          exact hf
        have h3 := (ltP_iff hx (h.ok _ hm)).1 h2
        have e : xs.getD (0 + posW xs x xs.length 0) Knd.pt.dflt = xs[posW xs x xs.length 0] := by
          show xs.getD (0 + posW xs x xs.length 0) (⟨0, 0⟩ : Pt) = _
          rw [Nat.zero_add, List.getD_eq_getElem?_getD, List.getElem?_eq_getElem hlt]
          rfl
        rw [e] at h3 hm
        rw [List.drop_eq_getElem_cons hlt] at ht
        rcases List.mem_cons.1 ht with rfl | ht
        · exact h3
        · have hs : (xs.drop (posW xs x xs.length 0)).Pairwise Lt := h.srt.sublist (List.drop_sublist ..)
          rw [List.drop_eq_getElem_cons hlt, List.pairwise_cons] at hs
          exact lt_trans' (q_pos hx) (q_pos (h.ok _ hm)) (q_pos (h.ok t (List.mem_of_mem_drop ht))) h3 (hs.1 t ht)
      refine ⟨h.srt.sublist (List.take_sublist ..), ?_, ?_⟩
      · rw [List.pairwise_cons]
        exact ⟨hhigh, h.srt.sublist (List.drop_sublist ..)⟩
      · intro s hs t ht
        rcases List.mem_cons.1 ht with rfl | ht
        · exact hlow s hs
        · exact lt_trans' (q_pos (h.ok s (List.mem_of_mem_take hs))) (q_pos hx) (q_pos (h.ok t (List.mem_of_mem_drop ht))) (hlow s hs) (hhigh t ht)
    · obtain ⟨t, ht, he⟩ := h.one
      exact ⟨t, hsub t ht, he⟩
theorem crP_ok {a b k : Int} (ha : 0 ≤ a ∧ a < 2097152) (hb : 0 ≤ b ∧ b < 2097152) (hne : a ≠ b) (hk : crIn a b k = true) : inPt (crP a b k) = true := by
  unfold crIn at hk
  simp only [Bool.and_eq_true, decide_eq_true_eq] at hk
  rw [inPt_iff]
  refine ⟨hk, ?_⟩
  unfold crP at hk ⊢
  by_cases hlt : b < a
  · rw [decide_eq_true hlt]; simp only [cond_true]; omega
  · rw [decide_eq_false hlt]; simp only [cond_false]; omega
theorem crGo_gd {a b : Int} (ha : 0 ≤ a ∧ a < 2097152) (hb : 0 ≤ b ∧ b < 2097152) (hne : a ≠ b) : ∀ (n : Nat) (k : Int) (xs : List Pt), Gd xs →
    Gd (crGo a b n k xs) ∧ (∀ t ∈ xs, t ∈ crGo a b n k xs) ∧ ∀ j, k ≤ j → j < k + n → crIn a b j = true → Has (crGo a b n k xs) (crP a b j)
  | 0, k, xs, h => ⟨h, fun _ h => h, fun j h1 h2 => by omega⟩
  | n + 1, k, xs, h => by
    unfold crGo
    cases hc : crIn a b k with
    | false =>
      simp only [cond_false]
      obtain ⟨g1, g2, g3⟩ := crGo_gd ha hb hne n (k + 1) xs h
      refine ⟨g1, g2, fun j h1 h2 h3 => ?_⟩
      rcases Int.lt_or_eq_of_le h1 with h4 | h4
      · exact g3 j (by omega) (by omega) h3
      · subst h4; rw [hc] at h3; cases h3
    | true =>
      simp only [cond_true]
      obtain ⟨w1, w2⟩ := withW_gd h (crP_ok ha hb hne hc)
      obtain ⟨g1, g2, g3⟩ := crGo_gd ha hb hne n (k + 1) _ w1
      refine ⟨g1, fun t ht => g2 t (withW_mem ht), fun j h1 h2 h3 => ?_⟩
      rcases Int.lt_or_eq_of_le h1 with h4 | h4
      · exact g3 j (by omega) (by omega) h3
      · subst h4
        obtain ⟨t, ht, he⟩ := w2
        exact ⟨t, g2 t ht, he⟩
theorem cross_gd {a b : Int} {xs : List Pt} (ha : 0 ≤ a ∧ a < 2097152) (hb : 0 ≤ b ∧ b < 2097152) (h : Gd xs) :
    Gd (crossT a b xs) ∧ (∀ t ∈ xs, t ∈ crossT a b xs) ∧ (a ≠ b → ∀ j, 0 ≤ j → j < 33 → crIn a b j = true → Has (crossT a b xs) (crP a b j)) ∧ (crossT a b xs).length ≤ xs.length + 33 := by
  unfold crossT
  by_cases hne : a = b
  · rw [show (a != b) = false by simpa using hne]
    exact ⟨h, fun _ h => h, fun hn => absurd hne hn, by simp only [cond_false]; omega⟩
  · rw [show (a != b) = true by simpa using hne]
    simp only [cond_true]
    obtain ⟨g1, g2, g3⟩ := crGo_gd ha hb hne 33 0 xs h
    exact ⟨g1, g2, fun _ j h1 h2 h3 => g3 j h1 (by omega) h3, (crGo_hd ha hb 33 0 xs (by omega) (by omega) h.hd).2⟩
theorem gd_two : Gd [⟨0, 1⟩, ⟨1, 1⟩] where
  ok := by
    intro t ht
    simp only [List.mem_cons, List.not_mem_nil, or_false] at ht
    rcases ht with rfl | rfl <;> rfl
  srt := by
    simp only [List.pairwise_cons, List.mem_cons, List.not_mem_nil, or_false, forall_eq, List.Pairwise.nil, and_true]
    refine ⟨?_, fun _ h => by cases h⟩
    show (0 : Int) * 1 < 1 * 1
    decide
  hd := rfl
  one := ⟨⟨1, 1⟩, by simp, rfl⟩
def partsT (a b : V3) : List Pt := crossT a.z b.z (crossT a.y b.y (crossT a.x b.x [⟨0, 1⟩, ⟨1, 1⟩]))
def Near (a : V3) : Prop := (0 ≤ a.x ∧ a.x < 2097152) ∧ (0 ≤ a.y ∧ a.y < 2097152) ∧ (0 ≤ a.z ∧ a.z < 2097152)
theorem has_more {l m : List Pt} {v : Pt} (h : Has l v) (hs : ∀ t ∈ l, t ∈ m) : Has m v := by
  obtain ⟨t, ht, he⟩ := h
  exact ⟨t, hs t ht, he⟩
theorem parts_gd {a b : V3} (ha : Near a) (hb : Near b) : Gd (partsT a b) ∧ (partsT a b).length ≤ 101 ∧
    (a.x ≠ b.x → ∀ j, 0 ≤ j → j < 33 → crIn a.x b.x j = true → Has (partsT a b) (crP a.x b.x j)) ∧
    (a.y ≠ b.y → ∀ j, 0 ≤ j → j < 33 → crIn a.y b.y j = true → Has (partsT a b) (crP a.y b.y j)) ∧
    (a.z ≠ b.z → ∀ j, 0 ≤ j → j < 33 → crIn a.z b.z j = true → Has (partsT a b) (crP a.z b.z j)) := by
  obtain ⟨x1, x2, x3, x4⟩ := cross_gd ha.1 hb.1 gd_two
  obtain ⟨y1, y2, y3, y4⟩ := cross_gd ha.2.1 hb.2.1 x1
  obtain ⟨z1, z2, z3, z4⟩ := cross_gd ha.2.2 hb.2.2 y1
  have e2 : ([⟨0, 1⟩, ⟨1, 1⟩] : List Pt).length = 2 := rfl
  refine ⟨z1, by unfold partsT; omega, fun hn j h1 h2 h3 => ?_, fun hn j h1 h2 h3 => ?_, fun hn j h1 h2 h3 => z3 hn j h1 h2 h3⟩
  · exact has_more (has_more (x3 hn j h1 h2 h3) y2) z2
  · exact has_more (y3 hn j h1 h2 h3) z2

end Go.Proofs.Ytboljdeeodeeeaa

namespace Go.Proofs.Ytboljdeeodeeeaa
set_option linter.unusedSimpArgs false
set_option linter.unusedVariables false
set_option maxRecDepth 100000
open Go.RowKit

theorem least {P : Nat → Prop} : ∀ (n : Nat), P n → ∃ m, P m ∧ m ≤ n ∧ ∀ j, j < m → ¬ P j
  | 0, h => ⟨0, h, Nat.le_refl _, fun j hj => by omega⟩
  | n + 1, h => by
    rcases Classical.em (∃ k, k ≤ n ∧ P k) with ⟨k, hk, hP⟩ | hn
    · obtain ⟨m, h1, h2, h3⟩ := least_le k hP
      exact ⟨m, h1, by omega, h3⟩
    · exact ⟨n + 1, h, Nat.le_refl _, fun j hj hP => hn ⟨j, by omega, hP⟩⟩
where
  least_le {P : Nat → Prop} (k : Nat) (h : P k) : ∃ m, P m ∧ m ≤ k ∧ ∀ j, j < m → ¬ P j := by
    induction k using Nat.strongRecOn with
    | ind k ih =>
      rcases Classical.em (∃ j, j < k ∧ P j) with ⟨j, hj, hP⟩ | hn
      · obtain ⟨m, h1, h2, h3⟩ := ih j hj hP
        exact ⟨m, h1, by omega, h3⟩
      · exact ⟨k, h, Nat.le_refl _, fun j hj hP => hn ⟨j, hj, hP⟩⟩

section
variable {l : List Pt}
/-- The part with this number. -/
def prt (l : List Pt) (i : Nat) : Pt := l.getD (0 + i) Knd.pt.dflt
theorem prt_eq {i : Nat} (h : i < l.length) : prt l i = l[i] := by
  unfold prt
  show l.getD (0 + i) (⟨0, 0⟩ : Pt) = _
  rw [Nat.zero_add, List.getD_eq_getElem?_getD, List.getElem?_eq_getElem h]
  rfl
theorem prt_mem {i : Nat} (h : i < l.length) : prt l i ∈ l := by rw [prt_eq h]; exact List.getElem_mem _
theorem prt_lt (hs : l.Pairwise Lt) {i j : Nat} (hij : i < j) (hj : j < l.length) : Lt (prt l i) (prt l j) := by
  rw [prt_eq (by omega), prt_eq hj]
  exact List.pairwise_iff_getElem.1 hs i j (by omega) hj hij
theorem lt_irrefl' {t : Pt} : ¬ Lt t t := fun h => by unfold Lt at h; omega
/-- A point of a line is a part, or lies between two that follow one another. -/
theorem bracket (h : Gd l) {p q : Int} (hp : 0 ≤ p) (hpq : p ≤ q) (hq : 0 < q) :
    ∃ i, i < l.length ∧ ((prt l i).p * q = p * (prt l i).q ∨ (0 < i ∧ Lt (prt l (i - 1)) ⟨p, q⟩ ∧ Lt ⟨p, q⟩ (prt l i))) := by
  obtain ⟨t, ht, he⟩ := h.one
  obtain ⟨n, hn, rfl⟩ := List.getElem_of_mem ht
  have htq := q_pos (h.ok _ ht)
  obtain ⟨m, h1, h2, h3⟩ := least (P := fun i => i < l.length ∧ p * (prt l i).q ≤ (prt l i).p * q) n ⟨hn, by
    rw [prt_eq hn, he, Int.mul_comm l[n].q q]
    exact Int.mul_le_mul_of_nonneg_right hpq (by omega)⟩
  refine ⟨m, h1.1, ?_⟩
  by_cases heq : (prt l m).p * q = p * (prt l m).q
  · exact .inl heq
  · right
    have hlt : Lt ⟨p, q⟩ (prt l m) := by
      show p * (prt l m).q < (prt l m).p * q
      have := h1.2
      omega
    have hm : 0 < m := by
      rcases Nat.eq_zero_or_pos m with h0 | h0
      · subst h0
        have e0 : prt l 0 = ⟨0, 1⟩ := by
          rw [prt_eq h1.1]
          have := h.hd
          unfold Hd at this
          rw [List.getElem?_eq_getElem h1.1] at this
          exact Option.some.inj this
        have := h1.2
        rw [e0] at this heq
        simp only at this heq
        omega
      · exact h0
    refine ⟨hm, ?_, hlt⟩
    have := h3 (m - 1) (by omega)
    show (prt l (m - 1)).p * q < p * (prt l (m - 1)).q
    rcases Int.lt_or_le ((prt l (m - 1)).p * q) (p * (prt l (m - 1)).q) with hh | hh
    · exact hh
    · exact absurd ⟨by omega, hh⟩ this
/-- Nothing lies between two that follow one another. -/
theorem no_between (h : Gd l) {i : Nat} (hi : i < l.length) (h0 : 0 < i) {y : Pt} (hy : y ∈ l) (h1 : Lt (prt l (i - 1)) y) (h2 : Lt y (prt l i)) : False := by
  obtain ⟨j, hj, rfl⟩ := List.getElem_of_mem hy
  rw [← prt_eq hj] at h1 h2 hy
  have p1 := q_pos (h.ok _ (prt_mem (l := l) (i := i - 1) (by omega)))
  have p2 := q_pos (h.ok _ (prt_mem hi))
  have p3 := q_pos (h.ok _ hy)
  rcases Nat.lt_trichotomy j (i - 1) with hh | hh | hh
  · exact lt_irrefl' (lt_trans' p1 p3 p1 h1 (prt_lt h.srt hh (by omega)))
  · subst hh; exact lt_irrefl' h1
  · rcases Nat.lt_or_ge j i with hk | hk
    · omega
    · rcases Nat.lt_or_eq_of_le hk with hk | hk
      · exact lt_irrefl' (lt_trans' p3 p2 p3 h2 (prt_lt h.srt hk hj))
      · subst hk; exact lt_irrefl' h2
theorem cell_le {a b : Int} {s u : Pt} (hs : 0 < s.q) (hu : 0 < u.q) (hab : a ≤ b) (h : Lt s u) : cellAt a b s.p s.q ≤ cellAt a b u.p u.q := by
  unfold cellAt
  have hu6 : 0 < u.q * 65536 := by omega
  have hs6 : 0 < s.q * 65536 := by omega
  rw [Int.le_ediv_iff_mul_le hu6]
  have e := Int.ediv_mul_le (a * s.q + (b - a) * s.p) (show s.q * 65536 ≠ 0 by omega)
  generalize (a * s.q + (b - a) * s.p) / (s.q * 65536) = c at e ⊢
  have k1 := Int.mul_le_mul_of_nonneg_right e (Int.le_of_lt hu)
  have k2 := Int.mul_le_mul_of_nonneg_left (Int.le_of_lt h) (show 0 ≤ b - a by omega)
  have e1 : c * (s.q * 65536) * u.q = (c * (u.q * 65536)) * s.q := by grind
  have e2 : (a * s.q + (b - a) * s.p) * u.q = a * u.q * s.q + (b - a) * (s.p * u.q) := by grind
  have e3 : (a * u.q + (b - a) * u.p) * s.q = a * u.q * s.q + (b - a) * (u.p * s.q) := by grind
  rw [e1, e2] at k1
  exact Int.le_of_mul_le_mul_right (by rw [e3]; omega) hs
theorem cell_ge {a b : Int} {s u : Pt} (hs : 0 < s.q) (hu : 0 < u.q) (hab : b ≤ a) (h : Lt u s) : cellAt a b s.p s.q ≤ cellAt a b u.p u.q := by
  unfold cellAt
  have hu6 : 0 < u.q * 65536 := by omega
  rw [Int.le_ediv_iff_mul_le hu6]
  have e := Int.ediv_mul_le (a * s.q + (b - a) * s.p) (show s.q * 65536 ≠ 0 by omega)
  generalize (a * s.q + (b - a) * s.p) / (s.q * 65536) = c at e ⊢
  have k1 := Int.mul_le_mul_of_nonneg_right e (Int.le_of_lt hu)
  have k2 := Int.mul_le_mul_of_nonneg_left (Int.le_of_lt h) (show 0 ≤ a - b by omega)
  have e1 : c * (s.q * 65536) * u.q = (c * (u.q * 65536)) * s.q := by grind
  have e2 : (a * s.q + (b - a) * s.p) * u.q = a * u.q * s.q - (a - b) * (s.p * u.q) := by grind
  have e3 : (a * u.q + (b - a) * u.p) * s.q = a * u.q * s.q - (a - b) * (u.p * s.q) := by grind
  rw [e1, e2] at k1
  exact Int.le_of_mul_le_mul_right (by rw [e3]; omega) hs
/-- Between two parts that follow one another an axis stays in its cell. -/
theorem bet_cell (h : Gd l) {i : Nat} (hi : i < l.length) (h0 : 0 < i) {a b : Int} (ha : 0 ≤ a ∧ a < 2097152) (hb : 0 ≤ b ∧ b < 2097152) (hc : a ≠ b → ∀ j, 0 ≤ j → j < 33 → crIn a b j = true → Has l (crP a b j))
    {u : Pt} (hup : 0 ≤ u.p) (hupq : u.p ≤ u.q) (hu : 0 < u.q) (h1 : Lt (prt l (i - 1)) u) (h2 : Lt u (prt l i)) : betC a b (prt l (i - 1)) (prt l i) = cellAt a b u.p u.q := by
  have ps := inPt_iff.1 (h.ok _ (prt_mem (l := l) (i := i - 1) (by omega)))
  have pt := inPt_iff.1 (h.ok _ (prt_mem hi))
  generalize hS : prt l (i - 1) = s at h1 ps ⊢
  generalize hT : prt l i = t at h2 pt ⊢
  have hin : ∀ {y : Pt}, y ∈ l → Lt s y → Lt y t → False := fun hy k1 k2 => no_between h hi h0 hy (by rw [hS]; exact k1) (by rw [hT]; exact k2)
  have hrange : 0 ≤ cellAt a b u.p u.q ∧ cellAt a b u.p u.q ≤ 31 := by
    have g1 := cellAt_ge (m := 0) hup hupq hu ha.1 hb.1
    have g2 : cellAt a b u.p u.q < 32 := by
      unfold cellAt
      rw [Int.ediv_lt_iff_lt_mul (by omega)]
      have e : a * u.q + (b - a) * u.p = a * (u.q - u.p) + b * u.p := by grind
      rw [e]
      have k1 := Int.mul_le_mul_of_nonneg_right (show a ≤ 2097151 by omega) (show 0 ≤ u.q - u.p by omega)
      have k2 := Int.mul_le_mul_of_nonneg_right (show b ≤ 2097151 by omega) hup
      omega
    omega
  unfold betC
  by_cases hlt : b < a
  · rw [decide_eq_true hlt]
    simp only [cond_true]
    refine Int.le_antisymm (cell_ge pt.2.1 hu (by omega) h2) ?_
    rcases Int.lt_or_le (cellAt a b t.p t.q) (cellAt a b u.p u.q) with hh | hh
    · exfalso
      generalize hk : cellAt a b u.p u.q = k at hh hrange
      have x1 : k * 65536 * u.q ≤ a * u.q - (a - b) * u.p := by
        have := Int.ediv_mul_le (a * u.q + (b - a) * u.p) (show u.q * 65536 ≠ 0 by omega)
        rw [show (a * u.q + (b - a) * u.p) / (u.q * 65536) = k from hk] at this
        have e1 : k * (u.q * 65536) = k * 65536 * u.q := by grind
        have e2 : a * u.q + (b - a) * u.p = a * u.q - (a - b) * u.p := by grind
        rw [e1, e2] at this
        exact this
      have x2 : a * t.q - (a - b) * t.p < k * 65536 * t.q := by
        unfold cellAt at hh
        rw [Int.ediv_lt_iff_lt_mul (by omega)] at hh
        have e1 : k * (t.q * 65536) = k * 65536 * t.q := by grind
        have e2 : a * t.q + (b - a) * t.p = a * t.q - (a - b) * t.p := by grind
        rw [e1, e2] at hh
        exact hh
      have y1 : (a - b) * u.p ≤ (a - k * 65536) * u.q := by rw [Int.sub_mul a (k * 65536) u.q]; omega
      have y2 : (a - k * 65536) * t.q < (a - b) * t.p := by rw [Int.sub_mul a (k * 65536) t.q]; omega
      have z1 : 0 ≤ a - k * 65536 := by
        rcases Int.lt_or_le (a - k * 65536) 0 with hn | hn
        · have k1 := Int.mul_lt_mul_of_pos_right hn hu
          rw [Int.zero_mul] at k1
          have k2 := Int.mul_nonneg (show 0 ≤ a - b by omega) hup
          omega
        · exact hn
      have z2 : a - k * 65536 ≤ a - b := by
        rcases Int.lt_or_le (a - b) (a - k * 65536) with hn | hn
        · have k1 := Int.mul_lt_mul_of_pos_right hn pt.2.1
          have k2 := Int.mul_le_mul_of_nonneg_left pt.1.2 (show 0 ≤ a - b by omega)
          omega
        · exact hn
      have hcr : crP a b k = ⟨a - k * 65536, a - b⟩ := by unfold crP; rw [decide_eq_true hlt]; rfl
      have hi2 : crIn a b k = true := by unfold crIn; rw [hcr, decide_eq_true z1, decide_eq_true z2]; rfl
      obtain ⟨y, hy, he⟩ := hc (by omega) k (by omega) (by omega) hi2
      rw [hcr] at he
      simp only at he
      have hyq := q_pos (h.ok y hy)
      have w1 : u.p * y.q ≤ y.p * u.q := by
        have k1 := Int.mul_le_mul_of_nonneg_right y1 (Int.le_of_lt hyq)
        have e1 : (a - b) * u.p * y.q = (u.p * y.q) * (a - b) := by grind
        have e2 : (a - k * 65536) * u.q * y.q = (y.p * u.q) * (a - b) := by
          rw [show (a - k * 65536) * u.q * y.q = ((a - k * 65536) * y.q) * u.q by grind, ← he]; grind
        rw [e1, e2] at k1
        exact Int.le_of_mul_le_mul_right k1 (by omega)
      have w2 : Lt y t := by
        have k1 := Int.mul_lt_mul_of_pos_right y2 hyq
        have e1 : (a - k * 65536) * t.q * y.q = (y.p * t.q) * (a - b) := by
          rw [show (a - k * 65536) * t.q * y.q = ((a - k * 65536) * y.q) * t.q by grind, ← he]; grind
        have e2 : (a - b) * t.p * y.q = (t.p * y.q) * (a - b) := by grind
        rw [e1, e2] at k1
        exact Int.lt_of_mul_lt_mul_right k1 (by omega)
      exact hin hy (lt_le_trans' ps.2.1 hu hyq h1 w1) w2
    · exact hh
  · rw [decide_eq_false hlt]
    simp only [cond_false]
    by_cases heq : a = b
    · subst heq
      rw [cellAt_self ps.2.1, cellAt_self hu]
    · refine Int.le_antisymm (cell_le ps.2.1 hu (by omega) h1) ?_
      rcases Int.lt_or_le (cellAt a b s.p s.q) (cellAt a b u.p u.q) with hh | hh
      · exfalso
        generalize hk : cellAt a b u.p u.q = k at hh hrange
        have x1 : k * 65536 * u.q ≤ a * u.q + (b - a) * u.p := by
          have := Int.ediv_mul_le (a * u.q + (b - a) * u.p) (show u.q * 65536 ≠ 0 by omega)
          rw [show (a * u.q + (b - a) * u.p) / (u.q * 65536) = k from hk] at this
          have e1 : k * (u.q * 65536) = k * 65536 * u.q := by grind
          rw [e1] at this
          exact this
        have x2 : a * s.q + (b - a) * s.p < k * 65536 * s.q := by
          unfold cellAt at hh
          rw [Int.ediv_lt_iff_lt_mul (by omega)] at hh
          have e1 : k * (s.q * 65536) = k * 65536 * s.q := by grind
          rw [e1] at hh
          exact hh
        have y1 : (k * 65536 - a) * u.q ≤ (b - a) * u.p := by rw [Int.sub_mul (k * 65536) a u.q]; omega
        have y2 : (b - a) * s.p < (k * 65536 - a) * s.q := by rw [Int.sub_mul (k * 65536) a s.q]; omega
        have z1 : 0 ≤ k * 65536 - a := by
          rcases Int.lt_or_le (k * 65536 - a) 0 with hn | hn
          · have k1 := Int.mul_lt_mul_of_pos_right hn ps.2.1
            rw [Int.zero_mul] at k1
            have k2 := Int.mul_nonneg (show 0 ≤ b - a by omega) ps.1.1
            omega
          · exact hn
        have z2 : k * 65536 - a ≤ b - a := by
          rcases Int.lt_or_le (b - a) (k * 65536 - a) with hn | hn
          · have k1 := Int.mul_lt_mul_of_pos_right hn hu
            have k2 := Int.mul_le_mul_of_nonneg_left hupq (show 0 ≤ b - a by omega)
            omega
          · exact hn
        have hcr : crP a b k = ⟨k * 65536 - a, b - a⟩ := by unfold crP; rw [decide_eq_false hlt]; rfl
        have hi2 : crIn a b k = true := by unfold crIn; rw [hcr, decide_eq_true z1, decide_eq_true z2]; rfl
        obtain ⟨y, hy, he⟩ := hc heq k (by omega) (by omega) hi2
        rw [hcr] at he
        simp only at he
        have hyq := q_pos (h.ok y hy)
        have w1 : y.p * u.q ≤ u.p * y.q := by
          have k1 := Int.mul_le_mul_of_nonneg_right y1 (Int.le_of_lt hyq)
          have e1 : (b - a) * u.p * y.q = (u.p * y.q) * (b - a) := by grind
          have e2 : (k * 65536 - a) * u.q * y.q = (y.p * u.q) * (b - a) := by
            rw [show (k * 65536 - a) * u.q * y.q = ((k * 65536 - a) * y.q) * u.q by grind, ← he]; grind
          rw [e1, e2] at k1
          exact Int.le_of_mul_le_mul_right k1 (by omega)
        have w2 : Lt s y := by
          have k1 := Int.mul_lt_mul_of_pos_right y2 hyq
          have e1 : (k * 65536 - a) * s.q * y.q = (y.p * s.q) * (b - a) := by
            rw [show (k * 65536 - a) * s.q * y.q = ((k * 65536 - a) * y.q) * s.q by grind, ← he]; grind
          have e2 : (b - a) * s.p * y.q = (s.p * y.q) * (b - a) := by grind
          rw [e1, e2] at k1
          exact Int.lt_of_mul_lt_mul_right k1 (by omega)
        exact hin hy w2 (le_lt_trans' hyq hu pt.2.1 w1 h2)
      · exact hh
theorem cell_same {a b p q : Int} {t : Pt} (ht : 0 < t.q) (hq : 0 < q) (h : t.p * q = p * t.q) : cellAt a b t.p t.q = cellAt a b p q := by
  rw [← cellAt_scale (a := a) (b := b) (p := t.p) (q := t.q) hq, ← cellAt_scale (a := a) (b := b) (p := p) (q := q) ht, h, Int.mul_comm t.q q]
end

/-- The reference looks at all there is to look at. -/
theorem parts_all {F : Int → Int → Int → Bool} {a b : V3} (ha : Near a) (hb : Near b) : anyB (fun i => hitT F a b (partsT a b) i.toNat) (partsT a b).length 0 = false ↔ ∀ p q, 0 ≤ p → p ≤ q → 0 < q → freeAt F a b p q := by
  obtain ⟨hg, _, c1, c2, c3⟩ := parts_gd ha hb
  rw [← Bool.not_eq_true, anyB_iff]
  have key : ∀ {i : Nat}, i < (partsT a b).length → 0 < i → ∀ {u : Pt}, 0 ≤ u.p → u.p ≤ u.q → 0 < u.q → Lt (prt (partsT a b) (i - 1)) u → Lt u (prt (partsT a b) i) →
      betC a.x b.x (prt (partsT a b) (i - 1)) (prt (partsT a b) i) = cellAt a.x b.x u.p u.q ∧ betC a.y b.y (prt (partsT a b) (i - 1)) (prt (partsT a b) i) = cellAt a.y b.y u.p u.q ∧ betC a.z b.z (prt (partsT a b) (i - 1)) (prt (partsT a b) i) = cellAt a.z b.z u.p u.q :=
    fun hi h0 _ k1 k2 k3 k4 k5 => ⟨bet_cell hg hi h0 ha.1 hb.1 c1 k1 k2 k3 k4 k5, bet_cell hg hi h0 ha.2.1 hb.2.1 c2 k1 k2 k3 k4 k5, bet_cell hg hi h0 ha.2.2 hb.2.2 c3 k1 k2 k3 k4 k5⟩
  constructor
  · intro h p q hp hpq hq
    obtain ⟨i, hi, hb1 | ⟨h0, hb2, hb3⟩⟩ := bracket hg hp hpq hq
    · have htq := q_pos (hg.ok _ (prt_mem hi))
      unfold freeAt
      rw [← cell_same htq hq hb1, ← cell_same htq hq hb1, ← cell_same htq hq hb1, ← Bool.not_eq_true]
      intro hF
      refine h ⟨(i : Int), by omega, by omega, ?_⟩
      show hitT F a b (partsT a b) ((i : Int)).toNat = true
      rw [show ((i : Int)).toNat = i by omega]
      unfold hitT
      rw [Bool.or_eq_true]
      exact .inl hF
    · obtain ⟨e1, e2, e3⟩ := key hi h0 (u := ⟨p, q⟩) hp hpq hq hb2 hb3
      unfold freeAt
      rw [← Bool.not_eq_true]
      intro hF
      refine h ⟨(i : Int), by omega, by omega, ?_⟩
      show hitT F a b (partsT a b) ((i : Int)).toNat = true
      rw [show ((i : Int)).toNat = i by omega]
      unfold hitT
      rw [Bool.or_eq_true]
      right
      rw [show ((i : Int) == 0) = false by rw [beq_eq_false_iff_ne]; omega]
      show F (betC a.x b.x (prt (partsT a b) (i - 1)) (prt (partsT a b) i)) (betC a.y b.y (prt (partsT a b) (i - 1)) (prt (partsT a b) i)) (betC a.z b.z (prt (partsT a b) (i - 1)) (prt (partsT a b) i)) = true
      rw [e1, e2, e3]
      exact hF
  · rintro h ⟨j, j0, j1, hj⟩
    obtain ⟨i, rfl⟩ : ∃ k : Nat, j = k := ⟨j.toNat, by omega⟩
    have hj : hitT F a b (partsT a b) ((i : Int)).toNat = true := hj
    rw [show ((i : Int)).toNat = i by omega] at hj
    have hi : i < (partsT a b).length := by omega
    have pt := inPt_iff.1 (hg.ok _ (prt_mem hi))
    unfold hitT at hj
    rw [Bool.or_eq_true, Bool.and_eq_true] at hj
    rcases hj with hj | ⟨hz, hj⟩
    · have := h (prt (partsT a b) i).p (prt (partsT a b) i).q pt.1.1 pt.1.2 pt.2.1
      unfold freeAt at this
      have hj' : F (cellAt a.x b.x (prt (partsT a b) i).p (prt (partsT a b) i).q) (cellAt a.y b.y (prt (partsT a b) i).p (prt (partsT a b) i).q) (cellAt a.z b.z (prt (partsT a b) i).p (prt (partsT a b) i).q) = true := hj
      rw [this] at hj'
      cases hj'
    · have h0 : 0 < i := by
        rcases Nat.eq_zero_or_pos i with h0 | h0
        · subst h0; cases hz
        · exact h0
      have ps := inPt_iff.1 (hg.ok _ (prt_mem (l := partsT a b) (i := i - 1) (by omega)))
      have hst := prt_lt hg.srt (show i - 1 < i by omega) hi
      have hj' : F (betC a.x b.x (prt (partsT a b) (i - 1)) (prt (partsT a b) i)) (betC a.y b.y (prt (partsT a b) (i - 1)) (prt (partsT a b) i)) (betC a.z b.z (prt (partsT a b) (i - 1)) (prt (partsT a b) i)) = true := hj
      generalize hS : prt (partsT a b) (i - 1) = s at ps hst hj'
      generalize hT : prt (partsT a b) i = t at pt hst hj'
      have m1 := Int.mul_nonneg ps.1.1 (Int.le_of_lt pt.2.1)
      have m2 := Int.mul_nonneg pt.1.1 (Int.le_of_lt ps.2.1)
      have m3 := Int.mul_pos ps.2.1 pt.2.1
      have m4 := Int.mul_le_mul_of_nonneg_right ps.1.2 (Int.le_of_lt pt.2.1)
      have m5 := Int.mul_le_mul_of_nonneg_right pt.1.2 (Int.le_of_lt ps.2.1)
      rw [Int.mul_comm t.q s.q] at m5
      have hst' : s.p * t.q < t.p * s.q := hst
      have l1 : Lt s ⟨s.p * t.q + t.p * s.q, 2 * (s.q * t.q)⟩ := by
        show s.p * (2 * (s.q * t.q)) < (s.p * t.q + t.p * s.q) * s.q
        have e1 : s.p * (2 * (s.q * t.q)) = (2 * (s.p * t.q)) * s.q := by grind
        rw [e1]
        exact Int.mul_lt_mul_of_pos_right (by omega) ps.2.1
      have l2 : Lt ⟨s.p * t.q + t.p * s.q, 2 * (s.q * t.q)⟩ t := by
        show (s.p * t.q + t.p * s.q) * t.q < t.p * (2 * (s.q * t.q))
        have e1 : t.p * (2 * (s.q * t.q)) = (2 * (t.p * s.q)) * t.q := by grind
        rw [e1]
        exact Int.mul_lt_mul_of_pos_right (by omega) pt.2.1
      obtain ⟨e1, e2, e3⟩ := key hi h0 (u := ⟨s.p * t.q + t.p * s.q, 2 * (s.q * t.q)⟩) (by show 0 ≤ s.p * t.q + t.p * s.q; omega) (by show s.p * t.q + t.p * s.q ≤ 2 * (s.q * t.q); omega) (by show 0 < 2 * (s.q * t.q); omega) (by rw [hS]; exact l1) (by rw [hT]; exact l2)
      rw [hS, hT] at e1 e2 e3
      rw [e1, e2, e3] at hj'
      have := h (s.p * t.q + t.p * s.q) (2 * (s.q * t.q)) (by omega) (by omega) (by omega)
      unfold freeAt at this
      rw [this] at hj'
      cases hj'

end Go.Proofs.Ytboljdeeodeeeaa

namespace Go.Proofs.Ytboljdeeodeeeaa
set_option linter.unusedSimpArgs false
set_option linter.unusedVariables false
set_option maxRecDepth 100000
open Go.RowKit

theorem crOk_ok {a b : Int} {l : List Pt} (ha : 0 ≤ a ∧ a < 2097152) (hb : 0 ≤ b ∧ b < 2097152) (h : Gd l) (hl : l.length ≤ 800) : crOk a b l.length l = true := by
  unfold crOk hdB
  rw [inR_iff.2 ha, inR_iff.2 hb, decide_eq_true rfl, decide_eq_true hl]
  have := h.hd
  unfold Hd at this
  rw [decide_eq_true this]
  rfl
theorem rsight_val {w d h : Int} {off ln : Nat} {xs : List Bool} {a b : V3} (ha : a.fits) (hb : b.fits) (hl : off + ln ≤ xs.length) :
    runK xRv (loopOf [lpoRv]) 300 26 Try.f26 0 [mapS w d h (.slice 0 1 off ln none) .unk, .agg a.sv, .agg b.sv] [.vec true .bool xs] = some (.bool ((mpOf w d h ln fun j => xs.getD (off + j) false).sight a b), []) := by
  rw [rsight_tree, in64B_iff.2 ha.1, in64B_iff.2 ha.2.1, in64B_iff.2 ha.2.2, in64B_iff.2 hb.1, in64B_iff.2 hb.2.1, in64B_iff.2 hb.2.2, decide_eq_true hl]
  simp only [cond_true, or_form]
  have hF : ∀ x y z, (mpOf w d h ln fun j => xs.getD (off + j) false).solid x y z = false → (0 ≤ x ∧ x < 32) ∧ (0 ≤ y ∧ y < 32) ∧ (0 ≤ z ∧ z < 32) := fun x y z hs => mp_solid_in x y z hs
  unfold Mp.sight
  generalize (mpOf w d h ln fun j => xs.getD (off + j) false).solid = F at hF ⊢
  have hi := sight_iff hF a b
  cases s1 : F (a.x / 65536) (a.y / 65536) (a.z / 65536) with
  | true => unfold sightF; rw [s1]; rfl
  | false =>
    cases s2 : F (b.x / 65536) (b.y / 65536) (b.z / 65536) with
    | true => unfold sightF; rw [s1, s2]; rfl
    | false =>
      have r1 := hF _ _ _ s1
      have r2 := hF _ _ _ s2
      have na : Near a := ⟨by omega, by omega, by omega⟩
      have nb : Near b := ⟨by omega, by omega, by omega⟩
      obtain ⟨x1, x2, x3, x4⟩ := cross_gd na.1 nb.1 gd_two
      obtain ⟨y1, y2, y3, y4⟩ := cross_gd na.2.1 nb.2.1 x1
      have e2 : ([⟨0, 1⟩, ⟨1, 1⟩] : List Pt).length = 2 := rfl
      have k1 := crOk_ok na.1 nb.1 gd_two (by omega)
      have k2 := crOk_ok na.2.1 nb.2.1 x1 (by omega)
      have k3 := crOk_ok na.2.2 nb.2.2 y1 (by omega)
      rw [e2] at k1
      obtain ⟨hg, hlen, _⟩ := parts_gd na nb
      have hp := parts_all (F := F) na nb
      rw [show crossT a.z b.z (crossT a.y b.y (crossT a.x b.x [⟨0, 1⟩, ⟨1, 1⟩])) = partsT a b from rfl]
      have k4 : rvOk off ln xs a b (partsT a b) (partsT a b).length = true := by
        unfold rvOk
        rw [inR_iff.2 na.1, inR_iff.2 na.2.1, inR_iff.2 na.2.2, inR_iff.2 nb.1, inR_iff.2 nb.2.1, inR_iff.2 nb.2.2, List.all_eq_true.2 hg.ok, decide_eq_true hl, decide_eq_true rfl, decide_eq_true (show (partsT a b).length ≤ 900 by omega)]
        rfl
      rw [k1, k2, k3, k4]
      simp only [Bool.or_self, cond_true, cond_false]
      cases hq : anyB (fun i => hitT F a b (partsT a b) i.toNat) (partsT a b).length 0 with
      | false =>
        rw [hi.2 (hp.1 hq)]
        rfl
      | true =>
        have : sightF F a b = false := by
          rw [← Bool.not_eq_true]
          intro hs
          rw [hp.2 (hi.1 hs)] at hq
          cases hq
        rw [this]
        rfl
noncomputable def oRSight (args : List SV) (rows : List Row) : Option Eff :=
  match args with
  | [.agg [.int .i64 w, .int .i64 d, .int .i64 h, .slice id st off len _, sp], .agg [.int .i64 x, .int .i64 y, .int .i64 z], .agg [.int .i64 p, .int .i64 q, .int .i64 r]] => match rows[id]? with
    | some (.vec _ .bool xs) => bif Nat.beq st 1 && sp.one then some { ok := (fitsB ⟨x, y, z⟩ && fitsB ⟨p, q, r⟩) && decide (off + len ≤ xs.length), val := .bool ((mpOf w d h len fun j => xs.getD (off + j) false).sight ⟨x, y, z⟩ ⟨p, q, r⟩), rd := [id] } else none
    | _ => none
  | _ => none
theorem oRSight_ok {args : List SV} {rows : List Row} {n : Nat} {e : Eff} (h : oRSight args rows = some e) (hok : e.ok = true) : FnOk Try.prog 26 args (rows[·]?) n e := by
  unfold oRSight at h
  split at h
  · rename_i wd dd hd id st off len cap sp x y z p q r
    split at h
    · rename_i ro xs hrow
      obtain ⟨hb, h⟩ := cond_some h
      cases h
      simp only [Bool.and_eq_true, decide_eq_true_eq, fitsB_iff] at hok
      exact fnOk_grid xRv_ok loopOf_ok Try.func26 hb hrow rfl rfl (rsight_val (a := ⟨x, y, z⟩) (b := ⟨p, q, r⟩) hok.1.1 hok.1.2 hok.2)
    · cases h
  · cases h
noncomputable def orcRSight : Orc := ⟨26, oRSight, fun _ _ _ h hok => oRSight_ok h hok, bodied Try.func26 (by kernel_rfl)⟩

end Go.Proofs.Ytboljdeeodeeeaa
