/- The reference's grid: trees of Sized, Solid, meets. The reference's grid: Sized and meets as contracts; a loop that ends early, in general. The reference's grid: when Clear says true (plain). The reference's grid: Clear's inner loop. The reference's grid: Clear's middle and outer loop; Clear as a contract. -/
import Derived.Test.YtikifgbbiffclaaVmDg
import Derived.Test.YtikifgbbiffclaaVmOrb
namespace Go.Proofs.Ytikifgbbiffclaa
set_option linter.unusedSimpArgs false
set_option linter.unusedVariables false
open Go.RowKit

noncomputable def xRg : Ctx := ctxOf [33] []
theorem xRg_ok : COk Try.prog xRg := ctxOf_ok (by kernel_rfl)

set_option maxRecDepth 100000 in
set_option maxHeartbeats 0 in
theorem rsized_tree (w d h : Int) (len off : Nat) (xs : List Bool) : runK xRg (fun _ _ => none) 300 33 Try.f33 0 [mapS w d h (.slice 0 1 off len none) .unk] [.vec true .bool xs] =
  bif bif decide (min (min w d) h < 1) == false then decide (max (max w d) h > 32) else true then some (SV.bool false, [])
  else some (SV.bool ((↑len : Int) == IntKind.i64.wrap (IntKind.i64.wrap (w * d) * h)), []) := by kernel_rfl

set_option maxRecDepth 100000 in
set_option maxHeartbeats 0 in
theorem rsolid_tree (w d h : Int) (len off : Nat) (xs : List Bool) (x y z : Int) : runK xRg (fun _ _ => none) 300 20 Try.f20 0 [mapS w d h (.slice 0 1 off len none) .unk, .int .i64 x, .int .i64 y, .int .i64 z] [.vec true .bool xs] =
  bif bif decide (min (min w d) h < 1) == false then decide (max (max w d) h > 32) else true then some (SV.bool true, [])
  else
  bif
  bif
  (bif (bif (bif (!(↑len : Int) == IntKind.i64.wrap (IntKind.i64.wrap (w * d) * h)) == false then decide (min (min x y) z < 0) else true) == false then decide (x ≥ w) else true) == false then
  decide (y ≥ d)
  else true) ==
  false then
  decide (z ≥ h)
  else true then
  some (SV.bool true, [])
  else
  bif
  decide (0 ≤ IntKind.i64.wrap (x + IntKind.i64.wrap (w * IntKind.i64.wrap (y + IntKind.i64.wrap (d * z))))) &&
  decide (IntKind.i64.wrap (x + IntKind.i64.wrap (w * IntKind.i64.wrap (y + IntKind.i64.wrap (d * z)))) < (↑len : Int)) then
  bif decide (off + (IntKind.i64.wrap (x + IntKind.i64.wrap (w * IntKind.i64.wrap (y + IntKind.i64.wrap (d * z))))).toNat < xs.length) then
  some (SV.bool (xs.getD (off + (IntKind.i64.wrap (x + IntKind.i64.wrap (w * IntKind.i64.wrap (y + IntKind.i64.wrap (d * z))))).toNat) Knd.bool.dflt), [])
  else none
  else none := by kernel_rfl

set_option maxRecDepth 100000 in
set_option maxHeartbeats 0 in
theorem rmeets_tree (c lo hi : Int) : runK xRg (fun _ _ => none) 300 37 Try.f37 0 [.int .i64 c, .int .i64 lo, .int .i64 hi] [] =
  some (SV.bool (decide (max lo (IntKind.i64.wrap (c * 65536)) ≤ min (IntKind.i64.wrap (hi - 1)) (IntKind.i64.wrap (IntKind.i64.wrap (c * 65536) + 65535)))), []) := by kernel_rfl

theorem rsized_val {w d h : Int} {len off : Nat} {xs : List Bool} : runK xRg (fun _ _ => none) 300 33 Try.f33 0 [mapS w d h (.slice 0 1 off len none) .unk] [.vec true .bool xs] = some (.bool (mpOf w d h len fun j => xs.getD (off + j) false).sized, []) := by
  rw [rsized_tree, or_form]
  have hs := sized_iff (m := mpOf w d h len fun j => xs.getD (off + j) false)
  rw [show (mpOf w d h len fun j => xs.getD (off + j) false).w = w from rfl, show (mpOf w d h len fun j => xs.getD (off + j) false).d = d from rfl, show (mpOf w d h len fun j => xs.getD (off + j) false).h = h from rfl, show (mpOf w d h len fun j => xs.getD (off + j) false).len = len from rfl] at hs
  generalize (mpOf w d h len fun j => xs.getD (off + j) false).sized = S at hs ⊢
  cases hc : decide (min (min w d) h < 1) || decide (max (max w d) h > 32) with
  | true =>
    have : S = false := by
      rw [Bool.eq_false_iff]
      intro h1
      have := (hs.1 h1).1
      simp only [Bool.or_eq_true, decide_eq_true_eq] at hc
      omega
    rw [this]
    rfl
  | false =>
    simp only [Bool.or_eq_false_iff, decide_eq_false_iff_not] at hc
    obtain ⟨p1, p2⟩ := prod_in (show 1 ≤ w ∧ w ≤ 32 by omega) (show 1 ≤ d ∧ d ≤ 32 by omega)
    obtain ⟨q1, q2⟩ := prod_in (a := w * d) (b := h) (show 1 ≤ w * d ∧ w * d ≤ 1024 by omega) (show 1 ≤ h ∧ h ≤ 32 by omega)
    rw [IntWalk.i64_in (w * d) (by omega), IntWalk.i64_in (w * d * h) (by omega)]
    have : S = ((len : Int) == w * d * h) := by
      rw [Bool.eq_iff_iff, hs, beq_iff_eq]
      exact ⟨fun h1 => h1.2, fun h1 => ⟨by omega, h1⟩⟩
    rw [this]
    rfl

theorem rsolid_val {w d h : Int} {len off : Nat} {xs : List Bool} {x y z : Int} (hl : off + len ≤ xs.length) : runK xRg (fun _ _ => none) 300 20 Try.f20 0 [mapS w d h (.slice 0 1 off len none) .unk, .int .i64 x, .int .i64 y, .int .i64 z] [.vec true .bool xs] = some (.bool ((mpOf w d h len fun j => xs.getD (off + j) false).solid x y z), []) := by
  rw [rsolid_tree]
  simp only [or_form]
  have hs := sized_iff (m := mpOf w d h len fun j => xs.getD (off + j) false)
  have hi := @Mp.idx_lt (mpOf w d h len fun j => xs.getD (off + j) false) x y z
  unfold Mp.solid
  have eM : (mpOf w d h len fun j => xs.getD (off + j) false).s = fun j => xs.getD (off + j) false := rfl
  rw [eM]
  rw [show (mpOf w d h len fun j => xs.getD (off + j) false).w = w from rfl, show (mpOf w d h len fun j => xs.getD (off + j) false).d = d from rfl, show (mpOf w d h len fun j => xs.getD (off + j) false).h = h from rfl, show (mpOf w d h len fun j => xs.getD (off + j) false).len = len from rfl] at *
  generalize (mpOf w d h len fun j => xs.getD (off + j) false).sized = S at hs hi ⊢
  generalize (mpOf w d h len fun j => xs.getD (off + j) false).idx x y z = I at hi ⊢
  cases hc : decide (min (min w d) h < 1) || decide (max (max w d) h > 32) with
  | true =>
    have : S = false := by
      rw [Bool.eq_false_iff]
      intro h1
      have := (hs.1 h1).1
      simp only [Bool.or_eq_true, decide_eq_true_eq] at hc
      omega
    rw [this]
    rfl
  | false =>
    simp only [Bool.or_eq_false_iff, decide_eq_false_iff_not] at hc
    obtain ⟨p1, p2⟩ := prod_in (show 1 ≤ w ∧ w ≤ 32 by omega) (show 1 ≤ d ∧ d ≤ 32 by omega)
    obtain ⟨q1, q2⟩ := prod_in (a := w * d) (b := h) (show 1 ≤ w * d ∧ w * d ≤ 1024 by omega) (show 1 ≤ h ∧ h ≤ 32 by omega)
    rw [IntWalk.i64_in (w * d) (by omega), IntWalk.i64_in (w * d * h) (by omega)]
    have eS : ((len : Int) == w * d * h) = S := by
      rw [Bool.eq_iff_iff, hs, beq_iff_eq]
      exact ⟨fun h1 => ⟨by omega, h1⟩, fun h1 => h1.2⟩
    rw [eS]
    simp only [cond_false]
    by_cases hin : S = true ∧ (0 ≤ x ∧ x < w) ∧ (0 ≤ y ∧ y < d) ∧ (0 ≤ z ∧ z < h)
    · obtain ⟨h1, h2, h3, h4⟩ := hin
      have bx : inB x w = true := by unfold inB; rw [decide_eq_true h2.1, decide_eq_true h2.2]; rfl
      have b_y : inB y d = true := by unfold inB; rw [decide_eq_true h3.1, decide_eq_true h3.2]; rfl
      have bz : inB z h = true := by unfold inB; rw [decide_eq_true h4.1, decide_eq_true h4.2]; rfl
      obtain ⟨i1, i2, i3, i4, i5, i6⟩ := hi h1 bx b_y bz
      rw [h1, bx, b_y, bz, decide_eq_false (show ¬ min (min x y) z < 0 by omega), decide_eq_false (show ¬ x ≥ w by omega), decide_eq_false (show ¬ y ≥ d by omega), decide_eq_false (show ¬ z ≥ h by omega)]
      rw [Int.mul_comm d z, IntWalk.i64_in (z * d) (by omega), Int.add_comm y (z * d), IntWalk.i64_in (z * d + y) (by omega), Int.mul_comm w (z * d + y), IntWalk.i64_in ((z * d + y) * w) (by omega), Int.add_comm x ((z * d + y) * w), i5, IntWalk.i64_in (I : Int) (by omega), show ((I : Int)).toNat = I by omega, decide_eq_true (show (0 : Int) ≤ (I : Int) by omega), decide_eq_true (show (I : Int) < (len : Int) by omega), decide_eq_true (show off + I < xs.length by omega)]
      rfl
    · have e1 : ((((!S || decide (min (min x y) z < 0)) || decide (x ≥ w)) || decide (y ≥ d)) || decide (z ≥ h)) = true := by
        cases S
        · rfl
        · simp only [Bool.not_true, Bool.false_or, Bool.or_eq_true, decide_eq_true_eq]
          simp only [true_and] at hin
          omega
      have e2 : (!S || !inB x w || !inB y d || !inB z h || xs.getD (off + I) false) = true := by
        cases S
        · rfl
        · unfold inB
          simp only [Bool.not_true, Bool.false_or, Bool.or_eq_true, Bool.not_eq_true', Bool.and_eq_false_iff, decide_eq_false_iff_not]
          simp only [true_and] at hin
          left
          omega
      rw [e1, e2]
      rfl

def oRSolid (args : List SV) (rows : List Row) : Option Eff :=
  match args with
  | [.agg [.int .i64 w, .int .i64 d, .int .i64 h, .slice id st off len _, sp], .int .i64 x, .int .i64 y, .int .i64 z] => match rows[id]? with
    | some (.vec _ .bool xs) => bif Nat.beq st 1 && sp.one then some { ok := decide (off + len ≤ xs.length), val := .bool ((mpOf w d h len fun j => xs.getD (off + j) false).solid x y z), rd := [id] } else none
    | _ => none
  | _ => none
theorem oRSolid_ok {args : List SV} {rows : List Row} {n : Nat} {e : Eff} (h : oRSolid args rows = some e) (hok : e.ok = true) : FnOk Try.prog 20 args (rows[·]?) n e := by
  unfold oRSolid at h
  split at h
  · rename_i w d hh id st off len cap sp x y z
    split at h
    · rename_i ro xs hrow
      cases hb : Nat.beq st 1 && sp.one with
      | false => simp [hb] at h
      | true =>
        simp only [hb, cond_true, Option.some.injEq] at h
        subst h
        rw [Bool.and_eq_true] at hb
        have hst := Nat.eq_of_beq_eq_true hb.1
        subst hst
        obtain ⟨rows', hc, _⟩ := runK_ok xRg_ok lok_none Try.func20 (rsolid_val (w := w) (d := d) (h := hh) (x := x) (y := y) (z := z) (xs := xs) (of_decide_eq_true hok))
        exact fnOk_map hb.2 hc rfl rfl hrow
    · cases h
  · cases h
noncomputable def orcRSolid : Orc := ⟨20, oRSolid, fun _ _ _ h hok => oRSolid_ok h hok, bodied Try.func20 (by kernel_rfl)⟩

end Go.Proofs.Ytikifgbbiffclaa

namespace Go.Proofs.Ytikifgbbiffclaa
set_option linter.unusedSimpArgs false
set_option linter.unusedVariables false
open Go.RowKit

def oRSized (args : List SV) (rows : List Row) : Option Eff :=
  match args with
  | [.agg [.int .i64 w, .int .i64 d, .int .i64 h, .slice id st off len _, sp]] => match rows[id]? with
    | some (.vec _ .bool xs) => bif Nat.beq st 1 && sp.one then some { val := .bool (mpOf w d h len fun j => xs.getD (off + j) false).sized, rd := [id] } else none
    | _ => none
  | _ => none
theorem oRSized_ok {args : List SV} {rows : List Row} {n : Nat} {e : Eff} (h : oRSized args rows = some e) (hok : e.ok = true) : FnOk Try.prog 33 args (rows[·]?) n e := by
  unfold oRSized at h
  split at h
  · rename_i w d hh id st off len cap sp
    split at h
    · rename_i ro xs hrow
      cases hb : Nat.beq st 1 && sp.one with
      | false => simp [hb] at h
      | true =>
        simp only [hb, cond_true, Option.some.injEq] at h
        subst h
        rw [Bool.and_eq_true] at hb
        have hst := Nat.eq_of_beq_eq_true hb.1
        subst hst
        obtain ⟨rows', hc, _⟩ := runK_ok xRg_ok lok_none Try.func33 (rsized_val (w := w) (d := d) (h := hh) (len := len) (off := off) (xs := xs))
        exact fnOk_map hb.2 hc rfl rfl hrow
    · cases h
  · cases h
noncomputable def orcRSized : Orc := ⟨33, oRSized, fun _ _ _ h hok => oRSized_ok h hok, bodied Try.func33 (by kernel_rfl)⟩

/-- Has a cell a point from lo on, and below hi? -/
def meetsB (c lo hi : Int) : Bool := decide (max lo (c * 65536) ≤ min (hi - 1) (c * 65536 + 65535))
def meetsOk (c lo hi : Int) : Bool := (decide (0 ≤ c) && decide (c ≤ 32)) && ((in64B lo && in64B hi) && decide (lo < hi))
theorem meets_val {c lo hi : Int} (h : meetsOk c lo hi = true) : runK xRg (fun _ _ => none) 300 37 Try.f37 0 [.int .i64 c, .int .i64 lo, .int .i64 hi] [] = some (.bool (meetsB c lo hi), []) := by
  unfold meetsOk at h
  simp only [Bool.and_eq_true, decide_eq_true_eq, in64B_iff] at h
  obtain ⟨⟨h1, h2⟩, ⟨h3, h4⟩, h5⟩ := h
  unfold In64 at h3 h4
  rw [rmeets_tree, IntWalk.i64_in (c * 65536) (by omega), IntWalk.i64_in (hi - 1) (by omega), IntWalk.i64_in (c * 65536 + 65535) (by omega)]
  rfl
def oMeets : List SV → Option Eff
  | [.int .i64 c, .int .i64 lo, .int .i64 hi] => some { ok := meetsOk c lo hi, val := .bool (meetsB c lo hi) }
  | _ => none
theorem oMeets_ok {m : Nat → Option Row} {n : Nat} {args : List SV} {e : Eff} (h : oMeets args = some e) (hok : e.ok = true) : FnOk Try.prog 37 args m n e := by
  unfold oMeets at h
  split at h
  · rename_i c lo hi
    cases h
    obtain ⟨rows', hc, _⟩ := runK_ok xRg_ok lok_none Try.func37 (meets_val hok)
    exact fnOk_pure hc rfl rfl
  · cases h
noncomputable def orcMeets : Orc := ⟨37, fun args _ => oMeets args, fun _ _ _ h hok => oMeets_ok h hok, bodied Try.func37 (by kernel_rfl)⟩

end Go.Proofs.Ytikifgbbiffclaa

namespace Go.Proofs.Ytikifgbbiffclaa
set_option linter.unusedSimpArgs false
set_option linter.unusedVariables false
open Go.RowKit

theorem solid_no {m : Mp} {x y z : Int} (h : m.solid x y z = false) : m.sized = true ∧ (0 ≤ x ∧ x < m.w) ∧ (0 ≤ y ∧ y < m.d) ∧ (0 ≤ z ∧ z < m.h) := by
  unfold Mp.solid inB at h
  simp only [Bool.or_eq_false_iff, Bool.not_eq_false', Bool.and_eq_true, decide_eq_true_eq] at h
  obtain ⟨⟨⟨⟨h1, h2⟩, h3⟩, h4⟩, _⟩ := h
  exact ⟨h1, h2, h3, h4⟩
theorem meetsB_iff {c lo hi : Int} (h : lo < hi) : meetsB c lo hi = true ↔ lo / 65536 ≤ c ∧ c ≤ (hi - 1) / 65536 := by
  unfold meetsB
  rw [decide_eq_true_eq]
  omega
/-- The cells of a row, of a layer, of all: is one solid that the box meets? -/
def Mp.hitX (m : Mp) (lo hi : V3) (z y x : Int) : Bool := ((meetsB x lo.x hi.x && meetsB y lo.y hi.y) && meetsB z lo.z hi.z) && m.solid x y z
def Mp.hitY (m : Mp) (lo hi : V3) (z y : Int) : Bool := anyB (m.hitX lo hi z y) m.w.toNat 0
def Mp.hitZ (m : Mp) (lo hi : V3) (z : Int) : Bool := anyB (m.hitY lo hi z) m.d.toNat 0
def Mp.hitAll (m : Mp) (lo hi : V3) : Bool := anyB (m.hitZ lo hi) m.h.toNat 0
theorem clear_out {m : Mp} {lo hi : V3} (h1 : lo.x < hi.x) (h2 : lo.y < hi.y) (h3 : lo.z < hi.z)
    (h : m.sized = false ∨ lo.x < 0 ∨ lo.y < 0 ∨ lo.z < 0 ∨ hi.x > m.w * 65536 ∨ hi.y > m.d * 65536 ∨ hi.z > m.h * 65536) : m.clear lo hi = false := by
  rw [Bool.eq_false_iff]
  intro hc
  rcases Mp.clear_iff.1 hc with k | k | k | k
  · omega
  · omega
  · omega
  · obtain ⟨a1, a2, a3, a4⟩ := solid_no (k (lo.x / 65536) (lo.y / 65536) (lo.z / 65536) (by omega) (by omega) (by omega) (by omega) (by omega) (by omega))
    obtain ⟨b1, b2, b3, b4⟩ := solid_no (k ((hi.x - 1) / 65536) ((hi.y - 1) / 65536) ((hi.z - 1) / 65536) (by omega) (by omega) (by omega) (by omega) (by omega) (by omega))
    rcases h with h | h | h | h | h | h | h
    · rw [h] at a1; cases a1
    all_goals omega
theorem clear_hit {m : Mp} {lo hi : V3} (h1 : lo.x < hi.x) (h2 : lo.y < hi.y) (h3 : lo.z < hi.z) (a1 : 0 ≤ lo.x) (a2 : 0 ≤ lo.y) (a3 : 0 ≤ lo.z) (b1 : hi.x ≤ m.w * 65536) (b2 : hi.y ≤ m.d * 65536) (b3 : hi.z ≤ m.h * 65536) : m.clear lo hi = !m.hitAll lo hi := by
  rw [Bool.eq_iff_iff, Mp.clear_iff, Bool.not_eq_true', ← Bool.not_eq_true]
  unfold Mp.hitAll
  constructor
  · intro hc hh
    rcases hc with k | k | k | k
    · omega
    · omega
    · omega
    · obtain ⟨z, z1, z2, hz⟩ := anyB_iff.1 hh
      obtain ⟨y, y1, y2, hy⟩ := anyB_iff.1 hz
      obtain ⟨x, x1, x2, hx⟩ := anyB_iff.1 hy
      unfold Mp.hitX at hx
      simp only [Bool.and_eq_true, meetsB_iff h1, meetsB_iff h2, meetsB_iff h3] at hx
      obtain ⟨⟨⟨hx1, hx2⟩, hx3⟩, hx4⟩ := hx
      rw [k x y z hx1.1 hx1.2 hx2.1 hx2.2 hx3.1 hx3.2] at hx4
      cases hx4
  · intro hh
    refine .inr (.inr (.inr fun i j k i1 i2 j1 j2 k1 k2 => ?_))
    rw [← Bool.not_eq_true]
    intro hs
    refine hh (anyB_iff.2 ⟨k, by omega, by omega, anyB_iff.2 ⟨j, by omega, by omega, anyB_iff.2 ⟨i, by omega, by omega, ?_⟩⟩⟩)
    unfold Mp.hitX
    simp only [Bool.and_eq_true, meetsB_iff h1, meetsB_iff h2, meetsB_iff h3]
    exact ⟨⟨⟨⟨i1, i2⟩, j1, j2⟩, k1, k2⟩, hs⟩

end Go.Proofs.Ytikifgbbiffclaa

namespace Go.Proofs.Ytikifgbbiffclaa
set_option linter.unusedSimpArgs false
set_option linter.unusedVariables false
open Go.RowKit

noncomputable def xRc : Ctx := ctxOf [] [orcRSized, orcMeets, orcRSolid]
theorem xRc_ok : COk Try.prog xRc := ctxOf_ok (by kernel_rfl)
def rowC (w d h : Int) (off len : Nat) (xs : List Bool) (lo hi : V3) : List Row := [.vec true .bool xs, .own [.int .i64 w, .int .i64 d, .int .i64 h, .slice 0 1 off len none, .unk], .own lo.sv, .own hi.sv]
def valCx (b : Bool) (z y x : Int) : List SV := [.ptr 1 0 0 0, .ptr 2 0 0 0, .ptr 3 0 0 0, .bool b, .int .i64 z, .int .i64 y, .int .i64 x]
def valCy (b : Bool) (z y : Int) : List SV := [.ptr 1 0 0 0, .ptr 2 0 0 0, .ptr 3 0 0 0, .bool b, .int .i64 z, .int .i64 y]
def valCz (b : Bool) (z : Int) : List SV := [.ptr 1 0 0 0, .ptr 2 0 0 0, .ptr 3 0 0 0, .bool b, .int .i64 z]
noncomputable def rdCx : List SV → List Row → Option Res2 := roundS xRc (fun _ _ => none) 100 22 [0, 1, 0, 0, 1, 0, 0, 1, 0, 0, 1, 0, 0, 1, 0, 1, 1, 1, 1] (bodyAt Try.f22 [0, 1, 0, 0, 1, 0, 0, 1, 0, 0, 1, 0, 0, 1, 0, 1, 1, 1, 1]) 117 4 [3, 4, 5, 6, 8, 9, 10]

set_option maxRecDepth 100000 in
set_option maxHeartbeats 0 in
theorem cx_round (w d h : Int) (off len : Nat) (xs : List Bool) (lo hi : V3) (z y x : Int) : rdCx (valCx false z y x) (rowC w d h off len xs lo hi) =
  bif decide (x < w) then
  bif meetsOk x lo.x hi.x then
  bif (meetsOk y lo.y hi.y && true && true || meetsB x lo.x hi.x != true) && (true || meetsB x lo.x hi.x == true) && true then
  bif
  (meetsOk z lo.z hi.z && true && true || (bif meetsB x lo.x hi.x == true then meetsB y lo.y hi.y else false) != true) &&
  (true || (bif meetsB x lo.x hi.x == true then meetsB y lo.y hi.y else false) == true) &&
  true then
  bif
  (decide (off + len ≤ xs.length) && true && true || (bif (bif meetsB x lo.x hi.x == true then meetsB y lo.y hi.y else false) == true then meetsB z lo.z hi.z else false) != true) &&
  (true || (bif (bif meetsB x lo.x hi.x == true then meetsB y lo.y hi.y else false) == true then meetsB z lo.z hi.z else false) == true) &&
  true then
  bif
  bif (bif (bif meetsB x lo.x hi.x == true then meetsB y lo.y hi.y else false) == true then meetsB z lo.z hi.z else false) == true then
  (mpOf w d h len fun j => xs.getD (off + j) false).solid x y z
  else false then
  some
  (SV.tuple [SV.nils, SV.tuple [SV.ptr 1 0 0 0, SV.ptr 2 0 0 0, SV.ptr 3 0 0 0, SV.bool false, SV.int IntKind.i64 z, SV.int IntKind.i64 y, SV.int IntKind.i64 x]],
  [Row.vec true Knd.bool xs, Row.own [SV.int IntKind.i64 w, SV.int IntKind.i64 d, SV.int IntKind.i64 h, SV.slice 0 1 off len none, SV.unk],
  Row.own [SV.int IntKind.i64 lo.x, SV.int IntKind.i64 lo.y, SV.int IntKind.i64 lo.z], Row.own [SV.int IntKind.i64 hi.x, SV.int IntKind.i64 hi.y, SV.int IntKind.i64 hi.z]])
  else
  some
  (SV.tuple [SV.nilp, SV.tuple [SV.ptr 1 0 0 0, SV.ptr 2 0 0 0, SV.ptr 3 0 0 0, SV.bool false, SV.int IntKind.i64 z, SV.int IntKind.i64 y, SV.int IntKind.i64 (IntKind.i64.wrap (x + 1))]],
  [Row.vec true Knd.bool xs, Row.own [SV.int IntKind.i64 w, SV.int IntKind.i64 d, SV.int IntKind.i64 h, SV.slice 0 1 off len none, SV.unk],
  Row.own [SV.int IntKind.i64 lo.x, SV.int IntKind.i64 lo.y, SV.int IntKind.i64 lo.z], Row.own [SV.int IntKind.i64 hi.x, SV.int IntKind.i64 hi.y, SV.int IntKind.i64 hi.z]])
  else none
  else none
  else none
  else none
  else
  some
  (SV.tuple [SV.ptr 4 0 0 0, SV.tuple [SV.ptr 1 0 0 0, SV.ptr 2 0 0 0, SV.ptr 3 0 0 0, SV.bool false, SV.int IntKind.i64 z, SV.int IntKind.i64 y, SV.int IntKind.i64 x]],
  [Row.vec true Knd.bool xs, Row.own [SV.int IntKind.i64 w, SV.int IntKind.i64 d, SV.int IntKind.i64 h, SV.slice 0 1 off len none, SV.unk],
  Row.own [SV.int IntKind.i64 lo.x, SV.int IntKind.i64 lo.y, SV.int IntKind.i64 lo.z], Row.own [SV.int IntKind.i64 hi.x, SV.int IntKind.i64 hi.y, SV.int IntKind.i64 hi.z]]) := by kernel_rfl

def cOk (w d h : Int) (off len : Nat) (xs : List Bool) (lo hi : V3) : Bool := ((decide (0 ≤ w) && decide (w ≤ 32)) && ((decide (0 ≤ d) && decide (d ≤ 32)) && (decide (0 ≤ h) && decide (h ≤ 32)))) && ((fitsB lo && fitsB hi) && ((decide (lo.x < hi.x) && (decide (lo.y < hi.y) && decide (lo.z < hi.z))) && decide (off + len ≤ xs.length)))
theorem cOk_iff {w d h : Int} {off len : Nat} {xs : List Bool} {lo hi : V3} : cOk w d h off len xs lo hi = true ↔ ((0 ≤ w ∧ w ≤ 32) ∧ (0 ≤ d ∧ d ≤ 32) ∧ (0 ≤ h ∧ h ≤ 32)) ∧ (lo.fits ∧ hi.fits) ∧ (lo.x < hi.x ∧ lo.y < hi.y ∧ lo.z < hi.z) ∧ off + len ≤ xs.length := by
  unfold cOk
  simp only [Bool.and_eq_true, decide_eq_true_eq, fitsB_iff]
theorem meetsOk_in {c lo hi : Int} (h0 : 0 ≤ c) (h1 : c ≤ 32) (h2 : In64 lo) (h3 : In64 hi) (h4 : lo < hi) : meetsOk c lo hi = true := by
  unfold meetsOk
  simp only [Bool.and_eq_true, decide_eq_true_eq, in64B_iff]
  exact ⟨⟨h0, h1⟩, ⟨h2, h3⟩, h4⟩

section
variable {w d h : Int} {off len : Nat} {xs : List Bool} {lo hi : V3}
theorem cx_loop (hc : cOk w d h off len xs lo hi = true) {z y : Int} (hz : 0 ≤ z ∧ z ≤ 31) (hy : 0 ≤ y ∧ y ≤ 31) :
    ((mpOf w d h len fun j => xs.getD (off + j) false).hitY lo hi z y = true → LoopTo rdCx (valCx false z y 0) (rowC w d h off len xs lo hi) .ret (valCx false z y (posB ((mpOf w d h len fun j => xs.getD (off + j) false).hitX lo hi z y) w.toNat 0)) (rowC w d h off len xs lo hi)) ∧
    ((mpOf w d h len fun j => xs.getD (off + j) false).hitY lo hi z y = false → LoopTo rdCx (valCx false z y 0) (rowC w d h off len xs lo hi) (.exit 4) (valCx false z y w) (rowC w d h off len xs lo hi)) := by
  obtain ⟨⟨h1, h2, h3⟩, ⟨f1, f2⟩, ⟨l1, l2, l3⟩, h4⟩ := cOk_iff.1 hc
  have key := loop_any (rd := rdCx) (val := valCx false z y) (valR := valCx false z y) (R := rowC w d h off len xs lo hi) (p := (mpOf w d h len fun j => xs.getD (off + j) false).hitX lo hi z y) (W := w) (ex := 4) (i0 := 0) (fun x x0 x1 => ?_) ?_ w.toNat 0 (by omega) (by omega)
  · exact key
  · rw [cx_round, decide_eq_true x1, meetsOk_in x0 (by omega) f1.1 f2.1 l1, meetsOk_in (c := y) (by omega) (by omega) f1.2.1 f2.2.1 l2, meetsOk_in (c := z) (by omega) (by omega) f1.2.2 f2.2.2 l3, decide_eq_true h4, IntWalk.i64_in (x + 1) (by omega)]
    simp only [and_form]
    unfold Mp.hitX
    generalize meetsB x lo.x hi.x = a
    generalize meetsB y lo.y hi.y = b
    generalize meetsB z lo.z hi.z = c
    cases a
    · rfl
    · cases b
      · rfl
      · cases c
        · rfl
        · simp only [Bool.and_self, Bool.true_and, Bool.true_or, cond_true, Bool.and_true]
          rfl
  · rw [cx_round, decide_eq_false (by omega)]
    rfl
end

set_option maxHeartbeats 0 in
noncomputable def outCx (v : List SV) (R : List Row) (k : Ex → List SV → List Row → Option Res2) : Option Res2 := match v, R with
  | [.ptr 1 0 0 0, .ptr 2 0 0 0, .ptr 3 0 0 0, .bool b, .int .i64 z, .int .i64 y, .int .i64 x], [.vec true .bool xs, .own [.int .i64 w, .int .i64 d, .int .i64 h, .slice 0 1 off len none, .unk], .own [.int .i64 lx, .int .i64 ly, .int .i64 lz], .own [.int .i64 hx, .int .i64 hy, .int .i64 hz]] =>
      bif (!b && decide (x = 0)) && (((decide (0 ≤ z) && decide (z ≤ 31)) && (decide (0 ≤ y) && decide (y ≤ 31))) && cOk w d h off len xs ⟨lx, ly, lz⟩ ⟨hx, hy, hz⟩) then
        (bif (mpOf w d h len fun j => xs.getD (off + j) false).hitY ⟨lx, ly, lz⟩ ⟨hx, hy, hz⟩ z y then k .ret (valCx false z y (posB ((mpOf w d h len fun j => xs.getD (off + j) false).hitX ⟨lx, ly, lz⟩ ⟨hx, hy, hz⟩ z y) w.toNat 0)) (rowC w d h off len xs ⟨lx, ly, lz⟩ ⟨hx, hy, hz⟩)
        else k (.exit 4) (valCx false z y w) (rowC w d h off len xs ⟨lx, ly, lz⟩ ⟨hx, hy, hz⟩)) else none
  | _, _ => none
set_option maxHeartbeats 0 in
theorem lpoCx_ok : LpOk 22 [0, 1, 0, 0, 1, 0, 0, 1, 0, 0, 1, 0, 0, 1, 0, 1, 1, 1, 1] (loopF 117 [3, 4, 5, 6, 8, 9, 10] outCx) := by
  intro b hat s K r h
  refine loopF_ok (fuel := 100) xRc_ok lok_none hat (fun v R k r hr => ?_) h
  have hbody := at_body Try.func22 hat
  subst hbody
  unfold outCx at hr
  split at hr
  · rename_i bb z y x xs w d h off len lx ly lz hx hy hz
    obtain ⟨hb, hr2⟩ := cond_some hr
    simp only [Bool.and_eq_true, decide_eq_true_eq, Bool.not_eq_true'] at hb
    obtain ⟨⟨rfl, rfl⟩, ⟨h1, h2⟩, h3⟩ := hb
    obtain ⟨k1, k2⟩ := cx_loop h3 h1 h2
    cases hq : (mpOf w d h len fun j => xs.getD (off + j) false).hitY ⟨lx, ly, lz⟩ ⟨hx, hy, hz⟩ z y with
    | true => rw [hq, cond_true] at hr2; exact ⟨_, _, _, hr2, k1 hq⟩
    | false => rw [hq, cond_false] at hr2; exact ⟨_, _, _, hr2, k2 hq⟩
  · cases hr
noncomputable def lpoCx : Lpo := ⟨_, _, _, lpoCx_ok⟩

noncomputable def rdCy : List SV → List Row → Option Res2 := roundS xRc (loopOf [lpoCx]) 100 22 [0, 1, 0, 0, 1, 0, 0, 1, 0, 1, 1, 1, 1] (bodyAt Try.f22 [0, 1, 0, 0, 1, 0, 0, 1, 0, 1, 1, 1, 1]) 117 4 [3, 4, 5, 6, 8, 9]

set_option maxRecDepth 100000 in
set_option maxHeartbeats 0 in
theorem cy_round (w d h : Int) (off len : Nat) (xs : List Bool) (lo hi : V3) (z y : Int) : rdCy (valCy false z y) (rowC w d h off len xs lo hi) =
  bif decide (y < d) then
  bif decide (0 ≤ z) && decide (z ≤ 31) && (decide (0 ≤ y) && decide (y ≤ 31)) && cOk w d h off len xs lo hi then
  bif (mpOf w d h len fun j => xs.getD (off + j) false).hitY lo hi z y then
  some
  (SV.tuple [SV.nils, SV.tuple [SV.ptr 1 0 0 0, SV.ptr 2 0 0 0, SV.ptr 3 0 0 0, SV.bool false, SV.int IntKind.i64 z, SV.int IntKind.i64 y]],
  [Row.vec true Knd.bool xs, Row.own [SV.int IntKind.i64 w, SV.int IntKind.i64 d, SV.int IntKind.i64 h, SV.slice 0 1 off len none, SV.unk],
  Row.own [SV.int IntKind.i64 lo.x, SV.int IntKind.i64 lo.y, SV.int IntKind.i64 lo.z], Row.own [SV.int IntKind.i64 hi.x, SV.int IntKind.i64 hi.y, SV.int IntKind.i64 hi.z]])
  else
  some
  (SV.tuple [SV.nilp, SV.tuple [SV.ptr 1 0 0 0, SV.ptr 2 0 0 0, SV.ptr 3 0 0 0, SV.bool false, SV.int IntKind.i64 z, SV.int IntKind.i64 (IntKind.i64.wrap (y + 1))]],
  [Row.vec true Knd.bool xs, Row.own [SV.int IntKind.i64 w, SV.int IntKind.i64 d, SV.int IntKind.i64 h, SV.slice 0 1 off len none, SV.unk],
  Row.own [SV.int IntKind.i64 lo.x, SV.int IntKind.i64 lo.y, SV.int IntKind.i64 lo.z], Row.own [SV.int IntKind.i64 hi.x, SV.int IntKind.i64 hi.y, SV.int IntKind.i64 hi.z]])
  else none
  else
  some
  (SV.tuple [SV.ptr 2 0 0 0, SV.tuple [SV.ptr 1 0 0 0, SV.ptr 2 0 0 0, SV.ptr 3 0 0 0, SV.bool false, SV.int IntKind.i64 z, SV.int IntKind.i64 y]],
  [Row.vec true Knd.bool xs, Row.own [SV.int IntKind.i64 w, SV.int IntKind.i64 d, SV.int IntKind.i64 h, SV.slice 0 1 off len none, SV.unk],
  Row.own [SV.int IntKind.i64 lo.x, SV.int IntKind.i64 lo.y, SV.int IntKind.i64 lo.z], Row.own [SV.int IntKind.i64 hi.x, SV.int IntKind.i64 hi.y, SV.int IntKind.i64 hi.z]]) := by kernel_rfl

end Go.Proofs.Ytikifgbbiffclaa

namespace Go.Proofs.Ytikifgbbiffclaa
set_option linter.unusedSimpArgs false
set_option linter.unusedVariables false
open Go.RowKit

section
variable {w d h : Int} {off len : Nat} {xs : List Bool} {lo hi : V3}
theorem cy_loop (hc : cOk w d h off len xs lo hi = true) {z : Int} (hz : 0 ≤ z ∧ z ≤ 31) :
    ((mpOf w d h len fun j => xs.getD (off + j) false).hitZ lo hi z = true → LoopTo rdCy (valCy false z 0) (rowC w d h off len xs lo hi) .ret (valCy false z (posB ((mpOf w d h len fun j => xs.getD (off + j) false).hitY lo hi z) d.toNat 0)) (rowC w d h off len xs lo hi)) ∧
    ((mpOf w d h len fun j => xs.getD (off + j) false).hitZ lo hi z = false → LoopTo rdCy (valCy false z 0) (rowC w d h off len xs lo hi) (.exit 2) (valCy false z d) (rowC w d h off len xs lo hi)) := by
  obtain ⟨⟨h1, h2, h3⟩, ⟨f1, f2⟩, ⟨l1, l2, l3⟩, h4⟩ := cOk_iff.1 hc
  have key := loop_any (rd := rdCy) (val := valCy false z) (valR := valCy false z) (R := rowC w d h off len xs lo hi) (p := (mpOf w d h len fun j => xs.getD (off + j) false).hitY lo hi z) (W := d) (ex := 2) (i0 := 0) (fun y y0 y1 => ?_) ?_ d.toNat 0 (by omega) (by omega)
  · exact key
  · rw [cy_round, decide_eq_true y1, hc, decide_eq_true hz.1, decide_eq_true hz.2, decide_eq_true y0, decide_eq_true (show y ≤ 31 by omega), IntWalk.i64_in (y + 1) (by omega)]
    rfl
  · rw [cy_round, decide_eq_false (by omega)]
    rfl
end

set_option maxHeartbeats 0 in
noncomputable def outCy (v : List SV) (R : List Row) (k : Ex → List SV → List Row → Option Res2) : Option Res2 := match v, R with
  | [.ptr 1 0 0 0, .ptr 2 0 0 0, .ptr 3 0 0 0, .bool b, .int .i64 z, .int .i64 y], [.vec true .bool xs, .own [.int .i64 w, .int .i64 d, .int .i64 h, .slice 0 1 off len none, .unk], .own [.int .i64 lx, .int .i64 ly, .int .i64 lz], .own [.int .i64 hx, .int .i64 hy, .int .i64 hz]] =>
      bif (!b && decide (y = 0)) && ((decide (0 ≤ z) && decide (z ≤ 31)) && cOk w d h off len xs ⟨lx, ly, lz⟩ ⟨hx, hy, hz⟩) then
        (bif (mpOf w d h len fun j => xs.getD (off + j) false).hitZ ⟨lx, ly, lz⟩ ⟨hx, hy, hz⟩ z then k .ret (valCy false z (posB ((mpOf w d h len fun j => xs.getD (off + j) false).hitY ⟨lx, ly, lz⟩ ⟨hx, hy, hz⟩ z) d.toNat 0)) (rowC w d h off len xs ⟨lx, ly, lz⟩ ⟨hx, hy, hz⟩)
        else k (.exit 2) (valCy false z d) (rowC w d h off len xs ⟨lx, ly, lz⟩ ⟨hx, hy, hz⟩)) else none
  | _, _ => none
set_option maxHeartbeats 0 in
theorem lpoCy_ok : LpOk 22 [0, 1, 0, 0, 1, 0, 0, 1, 0, 1, 1, 1, 1] (loopF 117 [3, 4, 5, 6, 8, 9] outCy) := by
  intro b hat s K r h
  refine loopF_ok (fuel := 100) xRc_ok (loopOf_ok (l := [lpoCx])) hat (fun v R k r hr => ?_) h
  have hbody := at_body Try.func22 hat
  subst hbody
  unfold outCy at hr
  split at hr
  · rename_i bb z y xs w d h off len lx ly lz hx hy hz
    obtain ⟨hb, hr2⟩ := cond_some hr
    simp only [Bool.and_eq_true, decide_eq_true_eq, Bool.not_eq_true'] at hb
    obtain ⟨⟨rfl, rfl⟩, h1, h3⟩ := hb
    obtain ⟨k1, k2⟩ := cy_loop h3 h1
    cases hq : (mpOf w d h len fun j => xs.getD (off + j) false).hitZ ⟨lx, ly, lz⟩ ⟨hx, hy, hz⟩ z with
    | true => rw [hq, cond_true] at hr2; exact ⟨_, _, _, hr2, k1 hq⟩
    | false => rw [hq, cond_false] at hr2; exact ⟨_, _, _, hr2, k2 hq⟩
  · cases hr
noncomputable def lpoCy : Lpo := ⟨_, _, _, lpoCy_ok⟩

noncomputable def rdCz : List SV → List Row → Option Res2 := roundS xRc (loopOf [lpoCy]) 100 22 [0, 1, 0, 1, 1, 1, 1] (bodyAt Try.f22 [0, 1, 0, 1, 1, 1, 1]) 117 4 [3, 4, 5, 6, 8]

set_option maxRecDepth 100000 in
set_option maxHeartbeats 0 in
theorem cz_round (w d h : Int) (off len : Nat) (xs : List Bool) (lo hi : V3) (z : Int) : rdCz (valCz false z) (rowC w d h off len xs lo hi) =
  bif decide (z < h) then
  bif decide (0 ≤ z) && decide (z ≤ 31) && cOk w d h off len xs lo hi then
  bif (mpOf w d h len fun j => xs.getD (off + j) false).hitZ lo hi z then
  some
  (SV.tuple [SV.nils, SV.tuple [SV.ptr 1 0 0 0, SV.ptr 2 0 0 0, SV.ptr 3 0 0 0, SV.bool false, SV.int IntKind.i64 z]],
  [Row.vec true Knd.bool xs, Row.own [SV.int IntKind.i64 w, SV.int IntKind.i64 d, SV.int IntKind.i64 h, SV.slice 0 1 off len none, SV.unk],
  Row.own [SV.int IntKind.i64 lo.x, SV.int IntKind.i64 lo.y, SV.int IntKind.i64 lo.z], Row.own [SV.int IntKind.i64 hi.x, SV.int IntKind.i64 hi.y, SV.int IntKind.i64 hi.z]])
  else
  some
  (SV.tuple [SV.nilp, SV.tuple [SV.ptr 1 0 0 0, SV.ptr 2 0 0 0, SV.ptr 3 0 0 0, SV.bool false, SV.int IntKind.i64 (IntKind.i64.wrap (z + 1))]],
  [Row.vec true Knd.bool xs, Row.own [SV.int IntKind.i64 w, SV.int IntKind.i64 d, SV.int IntKind.i64 h, SV.slice 0 1 off len none, SV.unk],
  Row.own [SV.int IntKind.i64 lo.x, SV.int IntKind.i64 lo.y, SV.int IntKind.i64 lo.z], Row.own [SV.int IntKind.i64 hi.x, SV.int IntKind.i64 hi.y, SV.int IntKind.i64 hi.z]])
  else none
  else
  some
  (SV.tuple [SV.ptr 0 0 0 0, SV.tuple [SV.ptr 1 0 0 0, SV.ptr 2 0 0 0, SV.ptr 3 0 0 0, SV.bool false, SV.int IntKind.i64 z]],
  [Row.vec true Knd.bool xs, Row.own [SV.int IntKind.i64 w, SV.int IntKind.i64 d, SV.int IntKind.i64 h, SV.slice 0 1 off len none, SV.unk],
  Row.own [SV.int IntKind.i64 lo.x, SV.int IntKind.i64 lo.y, SV.int IntKind.i64 lo.z], Row.own [SV.int IntKind.i64 hi.x, SV.int IntKind.i64 hi.y, SV.int IntKind.i64 hi.z]]) := by kernel_rfl

section
variable {w d h : Int} {off len : Nat} {xs : List Bool} {lo hi : V3}
theorem cz_loop (hc : cOk w d h off len xs lo hi = true) :
    ((mpOf w d h len fun j => xs.getD (off + j) false).hitAll lo hi = true → LoopTo rdCz (valCz false 0) (rowC w d h off len xs lo hi) .ret (valCz false (posB ((mpOf w d h len fun j => xs.getD (off + j) false).hitZ lo hi) h.toNat 0)) (rowC w d h off len xs lo hi)) ∧
    ((mpOf w d h len fun j => xs.getD (off + j) false).hitAll lo hi = false → LoopTo rdCz (valCz false 0) (rowC w d h off len xs lo hi) (.exit 0) (valCz false h) (rowC w d h off len xs lo hi)) := by
  obtain ⟨⟨h1, h2, h3⟩, ⟨f1, f2⟩, ⟨l1, l2, l3⟩, h4⟩ := cOk_iff.1 hc
  have key := loop_any (rd := rdCz) (val := valCz false) (valR := valCz false) (R := rowC w d h off len xs lo hi) (p := (mpOf w d h len fun j => xs.getD (off + j) false).hitZ lo hi) (W := h) (ex := 0) (i0 := 0) (fun z z0 z1 => ?_) ?_ h.toNat 0 (by omega) (by omega)
  · exact key
  · rw [cz_round, decide_eq_true z1, hc, decide_eq_true z0, decide_eq_true (show z ≤ 31 by omega), IntWalk.i64_in (z + 1) (by omega)]
    rfl
  · rw [cz_round, decide_eq_false (by omega)]
    rfl
end

set_option maxHeartbeats 0 in
noncomputable def outCz (v : List SV) (R : List Row) (k : Ex → List SV → List Row → Option Res2) : Option Res2 := match v, R with
  | [.ptr 1 0 0 0, .ptr 2 0 0 0, .ptr 3 0 0 0, .bool b, .int .i64 z], [.vec true .bool xs, .own [.int .i64 w, .int .i64 d, .int .i64 h, .slice 0 1 off len none, .unk], .own [.int .i64 lx, .int .i64 ly, .int .i64 lz], .own [.int .i64 hx, .int .i64 hy, .int .i64 hz]] =>
      bif (!b && decide (z = 0)) && cOk w d h off len xs ⟨lx, ly, lz⟩ ⟨hx, hy, hz⟩ then
        (bif (mpOf w d h len fun j => xs.getD (off + j) false).hitAll ⟨lx, ly, lz⟩ ⟨hx, hy, hz⟩ then k .ret (valCz false (posB ((mpOf w d h len fun j => xs.getD (off + j) false).hitZ ⟨lx, ly, lz⟩ ⟨hx, hy, hz⟩) h.toNat 0)) (rowC w d h off len xs ⟨lx, ly, lz⟩ ⟨hx, hy, hz⟩)
        else k (.exit 0) (valCz false h) (rowC w d h off len xs ⟨lx, ly, lz⟩ ⟨hx, hy, hz⟩)) else none
  | _, _ => none
set_option maxHeartbeats 0 in
theorem lpoCz_ok : LpOk 22 [0, 1, 0, 1, 1, 1, 1] (loopF 117 [3, 4, 5, 6, 8] outCz) := by
  intro b hat s K r h
  refine loopF_ok (fuel := 100) xRc_ok (loopOf_ok (l := [lpoCy])) hat (fun v R k r hr => ?_) h
  have hbody := at_body Try.func22 hat
  subst hbody
  unfold outCz at hr
  split at hr
  · rename_i bb z xs w d h off len lx ly lz hx hy hz
    obtain ⟨hb, hr2⟩ := cond_some hr
    simp only [Bool.and_eq_true, decide_eq_true_eq, Bool.not_eq_true'] at hb
    obtain ⟨⟨rfl, rfl⟩, h3⟩ := hb
    obtain ⟨k1, k2⟩ := cz_loop h3
    cases hq : (mpOf w d h len fun j => xs.getD (off + j) false).hitAll ⟨lx, ly, lz⟩ ⟨hx, hy, hz⟩ with
    | true => rw [hq, cond_true] at hr2; exact ⟨_, _, _, hr2, k1 hq⟩
    | false => rw [hq, cond_false] at hr2; exact ⟨_, _, _, hr2, k2 hq⟩
  · cases hr
noncomputable def lpoCz : Lpo := ⟨_, _, _, lpoCz_ok⟩

set_option maxRecDepth 100000 in
set_option maxHeartbeats 0 in
theorem rclear_tree (w d h : Int) (len off : Nat) (xs : List Bool) (lo hi : V3) : runK xRc (loopOf [lpoCz]) 300 22 Try.f22 0 [mapS w d h (.slice 0 1 off len none) .unk, .agg lo.sv, .agg hi.sv] [.vec true .bool xs] =
  bif bif (bif decide (lo.x ≥ hi.x) == false then decide (lo.y ≥ hi.y) else true) == false then decide (lo.z ≥ hi.z) else true then some (SV.bool true, [])
  else
  bif
  bif
  (bif
  (bif (bif (!(mpOf w d h len fun j => xs.getD (off + j) false).sized) == false then decide (min (min lo.x lo.y) lo.z < 0) else true) == false then
  decide (hi.x > IntKind.i64.wrap (w * 65536))
  else true) ==
  false then
  decide (hi.y > IntKind.i64.wrap (d * 65536))
  else true) ==
  false then
  decide (hi.z > IntKind.i64.wrap (h * 65536))
  else true then
  some (SV.bool false, [])
  else bif cOk w d h off len xs lo hi then bif (mpOf w d h len fun j => xs.getD (off + j) false).hitAll lo hi then some (SV.bool false, []) else some (SV.bool true, []) else none := by kernel_rfl

theorem rclear_val {w d h : Int} {len off : Nat} {xs : List Bool} {lo hi : V3} (f1 : lo.fits) (f2 : hi.fits) (hl : off + len ≤ xs.length) : runK xRc (loopOf [lpoCz]) 300 22 Try.f22 0 [mapS w d h (.slice 0 1 off len none) .unk, .agg lo.sv, .agg hi.sv] [.vec true .bool xs] = some (.bool ((mpOf w d h len fun j => xs.getD (off + j) false).clear lo hi), []) := by
  rw [rclear_tree]
  simp only [or_form]
  refine bif_law (fun h0 => ?_) (fun h0 => ?_)
  · rw [Mp.clear_true]
    simp only [Bool.or_eq_true, decide_eq_true_eq] at h0
    rcases h0 with (h0 | h0) | h0
    · exact .inl (by omega)
    · exact .inr (.inl (by omega))
    · exact .inr (.inr (.inl (by omega)))
  · simp only [Bool.or_eq_false_iff, decide_eq_false_iff_not] at h0
    obtain ⟨⟨l1, l2⟩, l3⟩ := h0
    cases hs : (mpOf w d h len fun j => xs.getD (off + j) false).sized with
    | false =>
      rw [clear_out (by omega) (by omega) (by omega) (.inl hs)]
      simp only [Bool.not_false, Bool.true_or, cond_true]
    | true =>
      have hz := (sized_iff.1 hs).1
      have e1 : (mpOf w d h len fun j => xs.getD (off + j) false).w = w := rfl
      have e2 : (mpOf w d h len fun j => xs.getD (off + j) false).d = d := rfl
      have e3 : (mpOf w d h len fun j => xs.getD (off + j) false).h = h := rfl
      rw [e1, e2, e3] at hz
      rw [IntWalk.i64_in (w * 65536) (by omega), IntWalk.i64_in (d * 65536) (by omega), IntWalk.i64_in (h * 65536) (by omega)]
      simp only [Bool.not_true, Bool.false_or]
      refine bif_law (fun h1 => ?_) (fun h1 => ?_)
      · rw [clear_out (by omega) (by omega) (by omega) (.inr ?_)]
        rw [e1, e2, e3]
        simp only [Bool.or_eq_true, decide_eq_true_eq] at h1
        omega
      · simp only [Bool.or_eq_false_iff, decide_eq_false_iff_not] at h1
        rw [clear_hit (by omega) (by omega) (by omega) (by omega) (by omega) (by omega) (by rw [e1]; omega) (by rw [e2]; omega) (by rw [e3]; omega)]
        rw [cOk_iff.2 ⟨⟨by omega, by omega, by omega⟩, ⟨f1, f2⟩, ⟨by omega, by omega, by omega⟩, hl⟩]
        simp only [cond_true]
        cases (mpOf w d h len fun j => xs.getD (off + j) false).hitAll lo hi <;> rfl

def oRClear0 (v : Mp → V3 → V3 → Bool) (args : List SV) (rows : List Row) : Option Eff :=
  match args with
  | [.agg [.int .i64 w, .int .i64 d, .int .i64 h, .slice id st off len _, sp], .agg [.int .i64 a, .int .i64 b, .int .i64 c], .agg [.int .i64 p, .int .i64 q, .int .i64 r]] => match rows[id]? with
    | some (.vec _ .bool xs) => bif Nat.beq st 1 && sp.one then some { ok := (fitsB ⟨a, b, c⟩ && fitsB ⟨p, q, r⟩) && decide (off + len ≤ xs.length), val := .bool (v (mpOf w d h len fun j => xs.getD (off + j) false) ⟨a, b, c⟩ ⟨p, q, r⟩), rd := [id] } else none
    | _ => none
  | _ => none
noncomputable def oRClear := oRClear0 Mp.clear
theorem oRClear_ok {args : List SV} {rows : List Row} {n : Nat} {e : Eff} (h : oRClear args rows = some e) (hok : e.ok = true) : FnOk Try.prog 22 args (rows[·]?) n e := by
  unfold oRClear oRClear0 at h
  split at h
  · rename_i w d hh id st off len cap sp a b c p q r
    split at h
    · rename_i ro xs hrow
      cases hb : Nat.beq st 1 && sp.one with
      | false => simp [hb] at h
      | true =>
        simp only [hb, cond_true, Option.some.injEq] at h
        subst h
        rw [Bool.and_eq_true] at hb
        have hst := Nat.eq_of_beq_eq_true hb.1
        subst hst
        simp only [Bool.and_eq_true, decide_eq_true_eq, fitsB_iff] at hok
        obtain ⟨rows', hc, _⟩ := runK_ok xRc_ok loopOf_ok Try.func22 (rclear_val (w := w) (d := d) (h := hh) hok.1.1 hok.1.2 hok.2)
        exact fnOk_map hb.2 hc rfl rfl hrow
    · cases h
  · cases h
noncomputable def orcRClear : Orc := ⟨22, oRClear, fun _ _ _ h hok => oRClear_ok h hok, bodied Try.func22 (by kernel_rfl)⟩

end Go.Proofs.Ytikifgbbiffclaa
