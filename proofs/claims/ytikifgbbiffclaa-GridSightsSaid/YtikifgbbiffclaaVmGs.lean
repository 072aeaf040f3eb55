/- GridSights: the law's call. -/
import Derived.Test.YtikifgbbiffclaaVmRy
import Derived.Test.YtikifgbbiffclaaVmG9
namespace Go.Proofs.Ytikifgbbiffclaa
set_option linter.unusedSimpArgs false
set_option linter.unusedVariables false
open Go.RowKit

noncomputable def x9s : Ctx := ctxOf [14] [orcShown9, orcSight, orcRSight]
theorem x9s_ok : COk Try.prog x9s := ctxOf_ok (by kernel_rfl)

set_option maxRecDepth 100000 in
set_option maxHeartbeats 0 in
theorem gsights_tree (w d h : Int) (len ls : Nat) (xs : List Bool) (sp : List V3) (a b : V3) : runK x9s (fun _ _ => none) 200 4 Try.f4 0 [mapS w d h (.slice 0 1 0 len none) (.slice 1 3 0 ls none), .agg a.sv, .agg b.sv] [.vec true .bool xs, .vec true .vec sp] =
  bif decide (0 ≤ min (↑len : Int) 32768) && decide (min (↑len : Int) 32768 ≤ (↑(capOr none len) : Int)) then
  bif decide (0 ≤ min (↑ls : Int) 70) && decide (min (↑ls : Int) 70 ≤ (↑(capOr none ls) : Int)) then
  bif mapOk w d h (min (↑len : Int) 32768).toNat && (fitsB a && (fitsB b && decide (0 + (min (↑len : Int) 32768).toNat ≤ xs.length))) then
  bif fitsB a && fitsB b && decide (0 + (min (↑len : Int) 32768).toNat ≤ xs.length) then
  some
  (SV.bool ((mpOf w d h (min (↑len : Int) 32768).toNat fun j => xs.getD (0 + j) false).sight a b == (mpOf w d h (min (↑len : Int) 32768).toNat fun j => xs.getD (0 + j) false).sight a b), [])
  else none
  else none
  else none
  else none := by kernel_rfl

set_option maxHeartbeats 0 in
theorem gsights_law {w d h : Int} {len ls : Nat} {xs : List Bool} {sp : List V3} {a b : V3} (hw : In64 w) (hd : In64 d) (hh : In64 h) (hl : len ≤ 9223372036854775807) (hx : xs.length = len) (hs : ls ≤ 9223372036854775807) (hy : sp.length = ls) (ha : a.fits) (hb : b.fits) :
    runK x9s (fun _ _ => none) 200 4 Try.f4 0 [mapS w d h (.slice 0 1 0 len none) (.slice 1 3 0 ls none), .agg a.sv, .agg b.sv] [.vec true .bool xs, .vec true .vec sp] = some (.bool true, []) := by
  rw [gsights_tree]
  have c1 : (decide (0 ≤ min (len : Int) 32768) && decide (min (len : Int) 32768 ≤ ((capOr none len : Nat) : Int))) = true := by
    simp only [show capOr none len = len from rfl, Bool.and_eq_true, decide_eq_true_eq]; omega
  have c2 : (decide (0 ≤ min (ls : Int) 70) && decide (min (ls : Int) 70 ≤ ((capOr none ls : Nat) : Int))) = true := by
    simp only [show capOr none ls = ls from rfl, Bool.and_eq_true, decide_eq_true_eq]; omega
  rw [c1, c2]
  have hL1 : (min (len : Int) 32768).toNat ≤ len := by omega
  generalize (min (len : Int) 32768).toNat = L at hL1 ⊢
  have c3 : mapOk w d h L = true := by
    unfold mapOk
    simp only [Bool.and_eq_true, in64B_iff, decide_eq_true_eq]
    exact ⟨hw, hd, hh, by omega⟩
  have c4 : decide (0 + L ≤ xs.length) = true := by rw [decide_eq_true_eq]; omega
  simp only [c3, c4, fitsB_iff.2 ha, fitsB_iff.2 hb, beq_self_eq_true, Bool.and_true, Bool.true_or, cond_true]

end Go.Proofs.Ytikifgbbiffclaa
