/- TraceStays: the law's call returns true. -/
import Derived.Test.YtnfhlfmcgeaagaaVmSt
namespace Go.Proofs.Ytnfhlfmcgeaagaa
set_option linter.unusedSimpArgs false
set_option linter.unusedVariables false
open Go.RowKit

set_option maxRecDepth 100000 in
set_option maxHeartbeats 0 in
theorem stays_tree (w d h : Int) (len : Nat) (xs : List Bool) (px py pz : Int) (l : List V3) (ll : Nat) : runK x10b lSt 200 4 Try.f4 0 [mapS w d h (.slice 0 1 0 len none) .unk, .agg [.int .i64 px, .int .i64 py, .int .i64 pz], .slice 1 3 0 ll none] [.vec true .bool xs, .vec true .vec l] =
  bif decide (0 ≤ min (↑len : Int) 32768) && decide (min (↑len : Int) 32768 ≤ (↑(capOr none len) : Int)) then
    bif mapOk w d h (min (↑len : Int) 32768).toNat && (fitsB { x := px, y := py, z := pz } && decide (0 + (min (↑len : Int) 32768).toNat ≤ xs.length)) then
      bif !(mpOf w d h (min (↑len : Int) 32768).toNat fun j => xs.getD (0 + j) false).free { x := px, y := py, z := pz } then some (SV.bool true, [])
      else
        bif
            mapOk w d h (min (↑len : Int) 32768).toNat &&
              (fitsB { x := px, y := py, z := pz } &&
                (decide ((min (↑len : Int) 32768).toNat ≤ xs.length) &&
                  (decide (ll ≤ l.length) && (mpOf w d h (min (↑len : Int) 32768).toNat fun j => xs.getD (0 + j) false).free { x := px, y := py, z := pz }))) then
          some (SV.bool true, [])
        else none
    else none
  else none := by kernel_rfl

theorem stays_law {w d h : Int} {len ll : Nat} {xs : List Bool} {l : List V3} {p : V3} (hw : In64 w) (hd : In64 d) (hh : In64 h) (hl : len ≤ 9223372036854775807) (hx : xs.length = len) (hll : l.length = ll) (hp : p.fits) :
    runK x10b lSt 200 4 Try.f4 0 [mapS w d h (.slice 0 1 0 len none) .unk, .agg [.int .i64 p.x, .int .i64 p.y, .int .i64 p.z], .slice 1 3 0 ll none] [.vec true .bool xs, .vec true .vec l] = some (.bool true, []) := by
  rw [stays_tree]
  have c1 : (decide (0 ≤ min (len : Int) 32768) && decide (min (len : Int) 32768 ≤ ((capOr none len : Nat) : Int))) = true := by
    simp only [show capOr none len = len from rfl, Bool.and_eq_true, decide_eq_true_eq]; omega
  rw [c1]
  have hL1 : (min (len : Int) 32768).toNat ≤ len := by omega
  generalize (min (len : Int) 32768).toNat = L at hL1 ⊢
  have c2 : mapOk w d h L = true := by
    unfold mapOk
    simp only [Bool.and_eq_true, in64B_iff, decide_eq_true_eq]
    exact ⟨hw, hd, hh, by omega⟩
  have c3 : decide (0 + L ≤ xs.length) = true := by rw [decide_eq_true_eq]; omega
  have c4 : decide (L ≤ xs.length) = true := by rw [decide_eq_true_eq]; omega
  have c5 : decide (ll ≤ l.length) = true := by rw [decide_eq_true_eq]; omega
  have ep : (⟨p.x, p.y, p.z⟩ : V3) = p := rfl
  simp only [c2, c3, c4, c5, ep, fitsB_iff.2 hp, Bool.true_and, Bool.and_true, cond_true]
  cases (mpOf w d h L fun j => xs.getD (0 + j) false).free p <;> rfl

end Go.Proofs.Ytnfhlfmcgeaagaa
