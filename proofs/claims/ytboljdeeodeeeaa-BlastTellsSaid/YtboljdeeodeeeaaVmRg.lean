/- The reference's grid: trees of Sized, Solid, meets. -/
import Derived.Test.YtboljdeeodeeeaaVmDg
import Derived.Test.YtboljdeeodeeeaaVmOrb
namespace Go.Proofs.Ytboljdeeodeeeaa
set_option linter.unusedSimpArgs false
set_option linter.unusedVariables false
set_option maxRecDepth 100000
open Go.RowKit

noncomputable def xRg : Ctx := ctxOf [70] []
theorem xRg_ok : COk Try.prog xRg := ctxOf_ok (by kernel_rfl)

set_option maxRecDepth 100000 in
set_option maxHeartbeats 0 in
theorem rsized_tree (w d h : Int) (len off : Nat) (xs : List Bool) : runK xRg (fun _ _ => none) 300 70 Try.f70 0 [mapS w d h (.slice 0 1 off len none) .unk] [.vec true .bool xs] =
  bif bif decide (min (min w d) h < 1) == false then decide (max (max w d) h > 32) else true then some (SV.bool false, [])
  else some (SV.bool ((↑len : Int) == IntKind.i64.wrap (IntKind.i64.wrap (w * d) * h)), []) := by kernel_rfl

set_option maxRecDepth 100000 in
set_option maxHeartbeats 0 in
theorem rsolid_tree (w d h : Int) (len off : Nat) (xs : List Bool) (x y z : Int) : runK xRg (fun _ _ => none) 300 50 Try.f50 0 [mapS w d h (.slice 0 1 off len none) .unk, .int .i64 x, .int .i64 y, .int .i64 z] [.vec true .bool xs] =
  bif bif decide (min (min w d) h < 1) == false then decide (max (max w d) h > 32) else true then some (SV.bool true, [])
  else
  bif
  bif
  (bif (bif (bif (!(↑len : Int) == IntKind.i64.wrap (IntKind.i64.wrap (w * d) * h)) == false then decide (min (min x y) z < 0) else true) == false then decide (x ≥ w) else true) == false then
  decide (y ≥ d)
  else true) ==
  false then
  decide (z ≥ h)
  else true then
  some (SV.bool true, [])
  else
  bif
  decide (0 ≤ IntKind.i64.wrap (x + IntKind.i64.wrap (w * IntKind.i64.wrap (y + IntKind.i64.wrap (d * z))))) &&
  decide (IntKind.i64.wrap (x + IntKind.i64.wrap (w * IntKind.i64.wrap (y + IntKind.i64.wrap (d * z)))) < (↑len : Int)) then
  bif decide (off + (IntKind.i64.wrap (x + IntKind.i64.wrap (w * IntKind.i64.wrap (y + IntKind.i64.wrap (d * z))))).toNat < xs.length) then
  some (SV.bool (xs.getD (off + (IntKind.i64.wrap (x + IntKind.i64.wrap (w * IntKind.i64.wrap (y + IntKind.i64.wrap (d * z))))).toNat) Knd.bool.dflt), [])
  else none
  else none := by kernel_rfl

theorem rsized_val {w d h : Int} {len off : Nat} {xs : List Bool} : runK xRg (fun _ _ => none) 300 70 Try.f70 0 [mapS w d h (.slice 0 1 off len none) .unk] [.vec true .bool xs] = some (.bool (mpOf w d h len fun j => xs.getD (off + j) false).sized, []) := by
  rw [rsized_tree, or_form]
  have hs := sized_iff (m := mpOf w d h len fun j => xs.getD (off + j) false)
  rw [show (mpOf w d h len fun j => xs.getD (off + j) false).w = w from rfl, show (mpOf w d h len fun j => xs.getD (off + j) false).d = d from rfl, show (mpOf w d h len fun j => xs.getD (off + j) false).h = h from rfl, show (mpOf w d h len fun j => xs.getD (off + j) false).len = len from rfl] at hs
  generalize (mpOf w d h len fun j => xs.getD (off + j) false).sized = S at hs ⊢
  cases hc : decide (min (min w d) h < 1) || decide (max (max w d) h > 32) with
  | true =>
    have : S = false := by
      rw [Bool.eq_false_iff]
      intro h1
      have := (hs.1 h1).1
      simp only [Bool.or_eq_true, decide_eq_true_eq] at hc
      omega
    rw [this]
    rfl
  | false =>
    simp only [Bool.or_eq_false_iff, decide_eq_false_iff_not] at hc
    obtain ⟨p1, p2⟩ := prod_in (show 1 ≤ w ∧ w ≤ 32 by omega) (show 1 ≤ d ∧ d ≤ 32 by omega)
    obtain ⟨q1, q2⟩ := prod_in (a := w * d) (b := h) (show 1 ≤ w * d ∧ w * d ≤ 1024 by omega) (show 1 ≤ h ∧ h ≤ 32 by omega)
    rw [IntWalk.i64_in (w * d) (by omega), IntWalk.i64_in (w * d * h) (by omega)]
    have : S = ((len : Int) == w * d * h) := by
      rw [Bool.eq_iff_iff, hs, beq_iff_eq]
      exact ⟨fun h1 => h1.2, fun h1 => ⟨by omega, h1⟩⟩
    rw [this]
    rfl

theorem rsolid_val {w d h : Int} {len off : Nat} {xs : List Bool} {x y z : Int} (hl : off + len ≤ xs.length) : runK xRg (fun _ _ => none) 300 50 Try.f50 0 [mapS w d h (.slice 0 1 off len none) .unk, .int .i64 x, .int .i64 y, .int .i64 z] [.vec true .bool xs] = some (.bool ((mpOf w d h len fun j => xs.getD (off + j) false).solid x y z), []) := by
  rw [rsolid_tree]
  simp only [or_form]
  have hs := sized_iff (m := mpOf w d h len fun j => xs.getD (off + j) false)
  have hi := @Mp.idx_lt (mpOf w d h len fun j => xs.getD (off + j) false) x y z
  unfold Mp.solid
  have eM : (mpOf w d h len fun j => xs.getD (off + j) false).s = fun j => xs.getD (off + j) false := rfl
  rw [eM]
  rw [show (mpOf w d h len fun j => xs.getD (off + j) false).w = w from rfl, show (mpOf w d h len fun j => xs.getD (off + j) false).d = d from rfl, show (mpOf w d h len fun j => xs.getD (off + j) false).h = h from rfl, show (mpOf w d h len fun j => xs.getD (off + j) false).len = len from rfl] at *
  generalize (mpOf w d h len fun j => xs.getD (off + j) false).sized = S at hs hi ⊢
  generalize (mpOf w d h len fun j => xs.getD (off + j) false).idx x y z = I at hi ⊢
  cases hc : decide (min (min w d) h < 1) || decide (max (max w d) h > 32) with
  | true =>
    have : S = false := by
      rw [Bool.eq_false_iff]
      intro h1
      have := (hs.1 h1).1
      simp only [Bool.or_eq_true, decide_eq_true_eq] at hc
      omega
    rw [this]
    rfl
  | false =>
    simp only [Bool.or_eq_false_iff, decide_eq_false_iff_not] at hc
    obtain ⟨p1, p2⟩ := prod_in (show 1 ≤ w ∧ w ≤ 32 by omega) (show 1 ≤ d ∧ d ≤ 32 by omega)
    obtain ⟨q1, q2⟩ := prod_in (a := w * d) (b := h) (show 1 ≤ w * d ∧ w * d ≤ 1024 by omega) (show 1 ≤ h ∧ h ≤ 32 by omega)
    rw [IntWalk.i64_in (w * d) (by omega), IntWalk.i64_in (w * d * h) (by omega)]
    have eS : ((len : Int) == w * d * h) = S := by
      rw [Bool.eq_iff_iff, hs, beq_iff_eq]
      exact ⟨fun h1 => ⟨by omega, h1⟩, fun h1 => h1.2⟩
    rw [eS]
    simp only [cond_false]
    by_cases hin : S = true ∧ (0 ≤ x ∧ x < w) ∧ (0 ≤ y ∧ y < d) ∧ (0 ≤ z ∧ z < h)
    · obtain ⟨h1, h2, h3, h4⟩ := hin
      have bx : inB x w = true := by unfold inB; rw [decide_eq_true h2.1, decide_eq_true h2.2]; rfl
      have b_y : inB y d = true := by unfold inB; rw [decide_eq_true h3.1, decide_eq_true h3.2]; rfl
      have bz : inB z h = true := by unfold inB; rw [decide_eq_true h4.1, decide_eq_true h4.2]; rfl
      obtain ⟨i1, i2, i3, i4, i5, i6⟩ := hi h1 bx b_y bz
      rw [h1, bx, b_y, bz, decide_eq_false (show ¬ min (min x y) z < 0 by omega), decide_eq_false (show ¬ x ≥ w by omega), decide_eq_false (show ¬ y ≥ d by omega), decide_eq_false (show ¬ z ≥ h by omega)]
      rw [Int.mul_comm d z, IntWalk.i64_in (z * d) (by omega), Int.add_comm y (z * d), IntWalk.i64_in (z * d + y) (by omega), Int.mul_comm w (z * d + y), IntWalk.i64_in ((z * d + y) * w) (by omega), Int.add_comm x ((z * d + y) * w), i5, IntWalk.i64_in (I : Int) (by omega), show ((I : Int)).toNat = I by omega, decide_eq_true (show (0 : Int) ≤ (I : Int) by omega), decide_eq_true (show (I : Int) < (len : Int) by omega), decide_eq_true (show off + I < xs.length by omega)]
      rfl
    · have e1 : ((((!S || decide (min (min x y) z < 0)) || decide (x ≥ w)) || decide (y ≥ d)) || decide (z ≥ h)) = true := by
        cases S
        · rfl
        · simp only [Bool.not_true, Bool.false_or, Bool.or_eq_true, decide_eq_true_eq]
          simp only [true_and] at hin
          omega
      have e2 : (!S || !inB x w || !inB y d || !inB z h || xs.getD (off + I) false) = true := by
        cases S
        · rfl
        · unfold inB
          simp only [Bool.not_true, Bool.false_or, Bool.or_eq_true, Bool.not_eq_true', Bool.and_eq_false_iff, decide_eq_false_iff_not]
          simp only [true_and] at hin
          left
          omega
      rw [e1, e2]
      rfl

def oRSolid (args : List SV) (rows : List Row) : Option Eff :=
  match args with
  | [.agg [.int .i64 w, .int .i64 d, .int .i64 h, .slice id st off len _, sp], .int .i64 x, .int .i64 y, .int .i64 z] => match rows[id]? with
    | some (.vec _ .bool xs) => bif Nat.beq st 1 && sp.one then some { ok := decide (off + len ≤ xs.length), val := .bool ((mpOf w d h len fun j => xs.getD (off + j) false).solid x y z), rd := [id] } else none
    | _ => none
  | _ => none
theorem oRSolid_ok {args : List SV} {rows : List Row} {n : Nat} {e : Eff} (h : oRSolid args rows = some e) (hok : e.ok = true) : FnOk Try.prog 50 args (rows[·]?) n e := by
  unfold oRSolid at h
  split at h
  · rename_i w d hh id st off len cap sp x y z
    split at h
    · rename_i ro xs hrow
      cases hb : Nat.beq st 1 && sp.one with
      | false => simp [hb] at h
      | true =>
        simp only [hb, cond_true, Option.some.injEq] at h
        subst h
        rw [Bool.and_eq_true] at hb
        have hst := Nat.eq_of_beq_eq_true hb.1
        subst hst
        obtain ⟨rows', hc, _⟩ := runK_ok xRg_ok lok_none Try.func50 (rsolid_val (w := w) (d := d) (h := hh) (x := x) (y := y) (z := z) (xs := xs) (of_decide_eq_true hok))
        exact fnOk_map hb.2 hc rfl rfl hrow
    · cases h
  · cases h
noncomputable def orcRSolid : Orc := ⟨50, oRSolid, fun _ _ _ h hok => oRSolid_ok h hok, bodied Try.func50 (by kernel_rfl)⟩

end Go.Proofs.Ytboljdeeodeeeaa
