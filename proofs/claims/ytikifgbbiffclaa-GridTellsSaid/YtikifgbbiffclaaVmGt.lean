/- GridTells: the law's call. -/
import Derived.Test.YtikifgbbiffclaaVmRr
import Derived.Test.YtikifgbbiffclaaVmG9
namespace Go.Proofs.Ytikifgbbiffclaa
set_option linter.unusedSimpArgs false
set_option linter.unusedVariables false
open Go.RowKit

noncomputable def x9t : Ctx := ctxOf [14] [orcShown9, orcAtG, orcSolid, orcClear, orcRight, orcCellG, orcRSolid, orcRClear, orcRRight]
theorem x9t_ok : COk Try.prog x9t := ctxOf_ok (by kernel_rfl)

set_option maxRecDepth 100000 in
set_option maxHeartbeats 0 in
theorem gtells_tree (w d h : Int) (len ls : Nat) (xs : List Bool) (sp : List V3) (x y z : Int) (a b : V3) : runK x9t (fun _ _ => none) 200 3 Try.f3 0 [mapS w d h (.slice 0 1 0 len none) (.slice 1 3 0 ls none), .int .i64 x, .int .i64 y, .int .i64 z, .agg a.sv, .agg b.sv] [.vec true .bool xs, .vec true .vec sp] =
  bif decide (0 ≤ min (↑len : Int) 32768) && decide (min (↑len : Int) 32768 ≤ (↑(capOr none len) : Int)) then
  bif decide (0 ≤ min (↑ls : Int) 70) && decide (min (↑ls : Int) 70 ≤ (↑(capOr none ls) : Int)) then
  bif fitsB a then
  bif in64B a.x then
  bif (in64B a.y && true && true || (a.x / 65536 == a.x / 65536) != true) && (true || (a.x / 65536 == a.x / 65536) == true) && true then
  bif
  (in64B a.z && true && true || (bif (a.x / 65536 == a.x / 65536) == true then a.y / 65536 == a.y / 65536 else false) != true) &&
  (true || (bif (a.x / 65536 == a.x / 65536) == true then a.y / 65536 == a.y / 65536 else false) == true) &&
  true then
  bif bif (bif (a.x / 65536 == a.x / 65536) == true then a.y / 65536 == a.y / 65536 else false) == true then a.z / 65536 == a.z / 65536 else false then
  bif
  mapOk w d h (min (↑len : Int) 32768).toNat &&
  (decide (0 + (min (↑len : Int) 32768).toNat ≤ xs.length) &&
  (decide (0 + (min (↑ls : Int) 70).toNat ≤ sp.length) && (decide ((min (↑ls : Int) 70).toNat ≤ 9223372036854775807) && sp.all fitsB))) then
  bif
  decide (0 + (min (↑len : Int) 32768).toNat ≤ xs.length) &&
  (decide (0 + (min (↑ls : Int) 70).toNat ≤ sp.length) && (decide ((min (↑ls : Int) 70).toNat ≤ 9223372036854775807) && sp.all fitsB)) then
  bif
  rightE ((mpOf w d h (min (↑len : Int) 32768).toNat fun j => xs.getD (0 + j) false).right (spAt sp 0) (min (↑ls : Int) 70).toNat) ==
  rightE ((mpOf w d h (min (↑len : Int) 32768).toNat fun j => xs.getD (0 + j) false).right (spAt sp 0) (min (↑ls : Int) 70).toNat) then
  bif mapOk w d h (min (↑len : Int) 32768).toNat && (in64B x && (in64B y && (in64B z && decide (0 + (min (↑len : Int) 32768).toNat ≤ xs.length)))) then
  bif decide (0 + (min (↑len : Int) 32768).toNat ≤ xs.length) then
  bif
  (mpOf w d h (min (↑len : Int) 32768).toNat fun j => xs.getD (0 + j) false).solid x y z ==
  (mpOf w d h (min (↑len : Int) 32768).toNat fun j => xs.getD (0 + j) false).solid x y z then
  bif
  mapOk w d h (min (↑len : Int) 32768).toNat &&
  (in64B (a.x / 65536) && (in64B (a.y / 65536) && (in64B (a.z / 65536) && decide (0 + (min (↑len : Int) 32768).toNat ≤ xs.length)))) then
  bif decide (0 + (min (↑len : Int) 32768).toNat ≤ xs.length) then
  bif
  (mpOf w d h (min (↑len : Int) 32768).toNat fun j => xs.getD (0 + j) false).solid (a.x / 65536) (a.y / 65536) (a.z / 65536) ==
  (mpOf w d h (min (↑len : Int) 32768).toNat fun j => xs.getD (0 + j) false).solid (a.x / 65536) (a.y / 65536) (a.z / 65536) then
  bif mapOk w d h (min (↑len : Int) 32768).toNat && (fitsB a && (fitsB b && decide (0 + (min (↑len : Int) 32768).toNat ≤ xs.length))) then
  bif fitsB a && fitsB b && decide (0 + (min (↑len : Int) 32768).toNat ≤ xs.length) then
  some
  (SV.bool
  ((mpOf w d h (min (↑len : Int) 32768).toNat fun j => xs.getD (0 + j) false).clear a b ==
  (mpOf w d h (min (↑len : Int) 32768).toNat fun j => xs.getD (0 + j) false).clear a b),
  [])
  else none
  else none
  else some (SV.bool false, [])
  else none
  else none
  else some (SV.bool false, [])
  else none
  else none
  else some (SV.bool false, [])
  else none
  else none
  else some (SV.bool false, [])
  else none
  else none
  else none
  else none
  else none
  else none := by kernel_rfl

set_option maxHeartbeats 0 in
theorem gtells_law {w d h : Int} {len ls : Nat} {xs : List Bool} {sp : List V3} {x y z : Int} {a b : V3} (hw : In64 w) (hd : In64 d) (hh : In64 h) (hl : len ≤ 9223372036854775807) (hx : xs.length = len) (hs : ls ≤ 9223372036854775807) (hy : sp.length = ls) (hf : ∀ p ∈ sp, p.fits) (kx : In64 x) (ky : In64 y) (kz : In64 z) (ha : a.fits) (hb : b.fits) :
    runK x9t (fun _ _ => none) 200 3 Try.f3 0 [mapS w d h (.slice 0 1 0 len none) (.slice 1 3 0 ls none), .int .i64 x, .int .i64 y, .int .i64 z, .agg a.sv, .agg b.sv] [.vec true .bool xs, .vec true .vec sp] = some (.bool true, []) := by
  rw [gtells_tree]
  have c1 : (decide (0 ≤ min (len : Int) 32768) && decide (min (len : Int) 32768 ≤ ((capOr none len : Nat) : Int))) = true := by
    simp only [show capOr none len = len from rfl, Bool.and_eq_true, decide_eq_true_eq]; omega
  have c2 : (decide (0 ≤ min (ls : Int) 70) && decide (min (ls : Int) 70 ≤ ((capOr none ls : Nat) : Int))) = true := by
    simp only [show capOr none ls = ls from rfl, Bool.and_eq_true, decide_eq_true_eq]; omega
  rw [c1, c2]
  have hL1 : (min (len : Int) 32768).toNat ≤ len := by omega
  have hL2 : (min (ls : Int) 70).toNat ≤ ls := by omega
  generalize (min (len : Int) 32768).toNat = L at hL1 ⊢
  generalize (min (ls : Int) 70).toNat = K at hL2 ⊢
  have c3 : mapOk w d h L = true := by
    unfold mapOk
    simp only [Bool.and_eq_true, in64B_iff, decide_eq_true_eq]
    exact ⟨hw, hd, hh, by omega⟩
  have c4 : decide (0 + L ≤ xs.length) = true := by rw [decide_eq_true_eq]; omega
  have c5 : decide (0 + K ≤ sp.length) = true := by rw [decide_eq_true_eq]; omega
  have c6 : decide (K ≤ 9223372036854775807) = true := by rw [decide_eq_true_eq]; omega
  have c7 : sp.all fitsB = true := List.all_eq_true.2 fun p hp => fitsB_iff.2 (hf p hp)
  have c8 : in64B a.x = true := in64B_iff.2 ha.1
  have c9 : in64B a.y = true := in64B_iff.2 ha.2.1
  have c10 : in64B a.z = true := in64B_iff.2 ha.2.2
  simp only [c3, c4, c5, c6, c7, c8, c9, c10, i64_div' ha.1, i64_div' ha.2.1, i64_div' ha.2.2, in64B_iff.2 kx, in64B_iff.2 ky, in64B_iff.2 kz, fitsB_iff.2 ha, fitsB_iff.2 hb, beq_self_eq_true, Bool.and_true, Bool.true_or, cond_true]

end Go.Proofs.Ytikifgbbiffclaa
