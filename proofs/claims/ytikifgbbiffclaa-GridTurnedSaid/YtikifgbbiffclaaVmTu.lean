/- GridTurned: the law's call. -/
import Derived.Test.YtikifgbbiffclaaVmX9
import Derived.Test.YtikifgbbiffclaaSightF
namespace Go.Proofs.Ytikifgbbiffclaa
set_option linter.unusedSimpArgs false
set_option linter.unusedVariables false
open Go.RowKit

set_option maxRecDepth 100000 in
set_option maxHeartbeats 0 in
theorem turned_tree (w d h : Int) (len ls : Nat) (xs : List Bool) (sp : List V3) (p q : V3) : runK x9 (fun _ _ => none) 200 5 Try.f5 0 [mapS w d h (.slice 0 1 0 len none) (.slice 1 3 0 ls none), .agg p.sv, .agg q.sv] [.vec true .bool xs, .vec true .vec sp] =
  bif decide (0 ≤ min (↑len : Int) 32768) && decide (min (↑len : Int) 32768 ≤ (↑(capOr none len) : Int)) then
    bif decide (0 ≤ min (↑ls : Int) 70) && decide (min (↑ls : Int) 70 ≤ (↑(capOr none ls) : Int)) then
      bif mapOk w d h (min (↑len : Int) 32768).toNat && (fitsB p && (fitsB q && decide (0 + (min (↑len : Int) 32768).toNat ≤ xs.length))) then
        bif mapOk w d h (min (↑len : Int) 32768).toNat && (fitsB q && (fitsB p && decide (0 + (min (↑len : Int) 32768).toNat ≤ xs.length))) then
          bif (mpOf w d h (min (↑len : Int) 32768).toNat fun j => xs.getD (0 + j) false).sight p q == (mpOf w d h (min (↑len : Int) 32768).toNat fun j => xs.getD (0 + j) false).sight q p then
            bif mapOk w d h (min (↑len : Int) 32768).toNat && (fitsB p && (fitsB p && decide (0 + (min (↑len : Int) 32768).toNat ≤ xs.length))) then
              bif
                  mapOk w d h (min (↑len : Int) 32768).toNat &&
                    (in64B (p.x.fdiv (2 ^ min (Int.toNat 16) IntKind.i64.bits)) &&
                      (in64B (p.y.fdiv (2 ^ min (Int.toNat 16) IntKind.i64.bits)) &&
                        (in64B (p.z.fdiv (2 ^ min (Int.toNat 16) IntKind.i64.bits)) && decide (0 + (min (↑len : Int) 32768).toNat ≤ xs.length)))) then
                bif
                    (mpOf w d h (min (↑len : Int) 32768).toNat fun j => xs.getD (0 + j) false).sight p p ==
                      !(mpOf w d h (min (↑len : Int) 32768).toNat fun j => xs.getD (0 + j) false).solid (p.x.fdiv (2 ^ min (Int.toNat 16) IntKind.i64.bits))
                          (p.y.fdiv (2 ^ min (Int.toNat 16) IntKind.i64.bits)) (p.z.fdiv (2 ^ min (Int.toNat 16) IntKind.i64.bits)) then
                  bif !(mpOf w d h (min (↑len : Int) 32768).toNat fun j => xs.getD (0 + j) false).sight p q then some (SV.bool true, [])
                  else
                    bif mapOk w d h (min (↑len : Int) 32768).toNat && (fitsB p && (fitsB p && decide (0 + (min (↑len : Int) 32768).toNat ≤ xs.length))) then
                      bif (mpOf w d h (min (↑len : Int) 32768).toNat fun j => xs.getD (0 + j) false).sight p p then
                        bif mapOk w d h (min (↑len : Int) 32768).toNat && (fitsB q && (fitsB q && decide (0 + (min (↑len : Int) 32768).toNat ≤ xs.length))) then
                          some (SV.bool ((mpOf w d h (min (↑len : Int) 32768).toNat fun j => xs.getD (0 + j) false).sight q q), [])
                        else none
                      else some (SV.bool false, [])
                    else none
                else some (SV.bool false, [])
              else none
            else none
          else some (SV.bool false, [])
        else none
      else none
    else none
  else none := by kernel_rfl

theorem turned_law {w d h : Int} {len ls : Nat} {xs : List Bool} {sp : List V3} {p q : V3} (hw : In64 w) (hd : In64 d) (hh : In64 h) (hl : len ≤ 9223372036854775807) (hx : xs.length = len) (hp : p.fits) (hq : q.fits) :
    runK x9 (fun _ _ => none) 200 5 Try.f5 0 [mapS w d h (.slice 0 1 0 len none) (.slice 1 3 0 ls none), .agg p.sv, .agg q.sv] [.vec true .bool xs, .vec true .vec sp] = some (.bool true, []) := by
  rw [turned_tree]
  obtain ⟨c1, c2, L, hL, c3, c4⟩ := small_facts (ls := ls) hw hd hh hl hx
  rw [hL]
  have hS := mp_inside (w := w) (d := d) (h := h) (len := L) (s := fun j => xs.getD (0 + j) false)
  have e1 := msight_turn hS p q
  have e2 := msight_self hS p
  have e3 := fun h => msight_ends (a := p) (b := q) hS h
  generalize (mpOf w d h L fun j => xs.getD (0 + j) false) = M at *
  simp only [c1, c2, c3, c4, fitsB_iff.2 hp, fitsB_iff.2 hq, Bool.true_and, Bool.and_true, cond_true, div16, i64_div' hp.1, i64_div' hp.2.1, i64_div' hp.2.2, ← e1, ← e2, beq_self_eq_true]
  cases hs : M.sight p q with
  | false => rfl
  | true =>
    obtain ⟨f1, f2⟩ := e3 hs
    simp only [Bool.not_true, cond_false, cond_true, f1, f2]

end Go.Proofs.Ytikifgbbiffclaa
