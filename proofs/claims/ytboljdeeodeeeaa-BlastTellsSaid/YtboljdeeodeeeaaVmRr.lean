/- The reference's grid: Right as a contract. -/
import Derived.Test.YtboljdeeodeeeaaVmRg
import Derived.Test.YtboljdeeodeeeaaVmRt
namespace Go.Proofs.Ytboljdeeodeeeaa
set_option linter.unusedSimpArgs false
set_option linter.unusedVariables false
set_option maxRecDepth 100000
open Go.RowKit

theorem any_free {f : V3 → Bool} {sp : Nat → V3} {ls : Nat} : anyB (fun i => !f (sp i.toNat)) ls 0 = !allFree f sp ls 0 := by
  rw [Bool.eq_iff_iff, anyB_iff, Bool.not_eq_true', ← Bool.not_eq_true, allFree_iff]
  constructor
  · rintro ⟨j, h1, h2, h3⟩ h
    rw [h j.toNat (by omega) (by omega)] at h3
    cases h3
  · intro h
    refine Classical.byContradiction fun hn => h fun j _ h2 => ?_
    cases hf : f (sp j) with
    | true => rfl
    | false => exact absurd ⟨(j : Int), by omega, by omega, by rw [show ((j : Int)).toNat = j by omega, hf]; rfl⟩ hn

/-! Cell. -/
noncomputable def xCg : Ctx := ctxOf [] []
theorem xCg_ok : COk Try.prog xCg := ctxOf_ok (by kernel_rfl)
set_option maxRecDepth 100000 in
set_option maxHeartbeats 0 in
theorem cell_tree (n : Int) : runK xCg (fun _ _ => none) 200 51 Try.f51 0 [.int .i64 n] [] =
  bif decide (IntKind.i64.wrap (IntKind.i64.wrap (n.tdiv 65536) * 65536) > n) then some (SV.int IntKind.i64 (IntKind.i64.wrap (IntKind.i64.wrap (n.tdiv 65536) - 1)), [])
  else some (SV.int IntKind.i64 (IntKind.i64.wrap (n.tdiv 65536)), []) := by kernel_rfl

theorem cell_val {n : Int} (h : In64 n) : runK xCg (fun _ _ => none) 200 51 Try.f51 0 [.int .i64 n] [] = some (.int .i64 (n / 65536), []) := by
  have hn := h
  unfold In64 at h
  rw [cell_tree]
  obtain ⟨e1, e2, e3⟩ := next_abs hn
  unfold In64 at e2
  have b : -9223372036854775808 ≤ n.tdiv 65536 * 65536 ∧ n.tdiv 65536 * 65536 ≤ 9223372036854775807 := by
    rcases Int.le_total 0 n with h0 | h0
    · rw [Int.tdiv_eq_ediv_of_nonneg h0]; omega
    · have := Int.neg_tdiv (-n) 65536
      rw [Int.neg_neg, Int.tdiv_eq_ediv_of_nonneg (a := -n) (b := 65536) (by omega)] at this
      rw [this]; omega
  rw [e1, IntWalk.i64_in (n.tdiv 65536 * 65536) b]
  have key : n / 65536 = bif decide (n.tdiv 65536 * 65536 > n) then n.tdiv 65536 - 1 else n.tdiv 65536 := by
    rcases Int.le_total 0 n with h0 | h0
    · rw [Int.tdiv_eq_ediv_of_nonneg h0, decide_eq_false (by omega)]; rfl
    · have := Int.neg_tdiv (-n) 65536
      rw [Int.neg_neg, Int.tdiv_eq_ediv_of_nonneg (a := -n) (b := 65536) (by omega)] at this
      rw [this]
      by_cases hc : -(-n / 65536) * 65536 > n
      · rw [decide_eq_true hc]; simp only [cond_true]; omega
      · rw [decide_eq_false hc]; simp only [cond_false]; omega
  rw [key]
  cases hc : decide (n.tdiv 65536 * 65536 > n) with
  | true =>
    have : -9223372036854775808 ≤ n.tdiv 65536 - 1 := by
      have := of_decide_eq_true hc
      omega
    simp only [cond_true]
    rw [IntWalk.i64_in (n.tdiv 65536 - 1) (by omega)]
  | false => rfl
def oCellG : List SV → Option Eff
  | [.int .i64 n] => some { ok := in64B n, val := .int .i64 (n / 65536) }
  | _ => none
theorem oCellG_ok {m : Nat → Option Row} {n : Nat} {args : List SV} {e : Eff} (h : oCellG args = some e) (hok : e.ok = true) : FnOk Try.prog 51 args m n e := by
  unfold oCellG at h
  split at h
  · rename_i k
    cases h
    obtain ⟨rows', hc, _⟩ := runK_ok xCg_ok lok_none Try.func51 (cell_val (in64B_iff.1 hok))
    exact fnOk_pure hc rfl rfl
  · cases h
noncomputable def orcCellG : Orc := ⟨51, fun args _ => oCellG args, fun _ _ _ h hok => oCellG_ok h hok, bodied Try.func51 (by kernel_rfl)⟩

end Go.Proofs.Ytboljdeeodeeeaa
