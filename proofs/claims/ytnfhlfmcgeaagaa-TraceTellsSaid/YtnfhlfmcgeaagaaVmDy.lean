/- The reference's numbers: Add, Sub as contracts; vectors. -/
import Derived.Test.YtnfhlfmcgeaagaaVmDx
namespace Go.Proofs.Ytnfhlfmcgeaagaa
set_option linter.unusedSimpArgs false
set_option linter.unusedVariables false
open Go.RowKit

def oAddD : List SV → Option Eff
  | [.int .i64 a, .int .i64 b] => some { ok := in64B a && in64B b, val := .int .i64 (cut64 (a + b)) }
  | _ => none
theorem oAddD_ok {m : Nat → Option Row} {n : Nat} {args : List SV} {e : Eff} (h : oAddD args = some e) (hok : e.ok = true) : FnOk Try.prog 21 args m n e := by
  unfold oAddD at h
  split at h
  · rename_i a b
    cases h
    rw [Bool.and_eq_true] at hok
    obtain ⟨rows', hc, _⟩ := runK_ok xDa_ok lok_none Try.func21 (add_val (in64B_iff.1 hok.1) (in64B_iff.1 hok.2))
    exact fnOk_pure hc rfl rfl
  · cases h
noncomputable def orcAddD : Orc := ⟨21, fun args _ => oAddD args, fun _ _ _ h hok => oAddD_ok h hok, bodied Try.func21 (by kernel_rfl)⟩
def oSubD : List SV → Option Eff
  | [.int .i64 a, .int .i64 b] => some { ok := in64B a && in64B b, val := .int .i64 (cut64 (a - b)) }
  | _ => none
theorem oSubD_ok {m : Nat → Option Row} {n : Nat} {args : List SV} {e : Eff} (h : oSubD args = some e) (hok : e.ok = true) : FnOk Try.prog 49 args m n e := by
  unfold oSubD at h
  split at h
  · rename_i a b
    cases h
    rw [Bool.and_eq_true] at hok
    obtain ⟨rows', hc, _⟩ := runK_ok xDa_ok lok_none Try.func49 (sub_val (in64B_iff.1 hok.1) (in64B_iff.1 hok.2))
    exact fnOk_pure hc rfl rfl
  · cases h
noncomputable def orcSubD : Orc := ⟨49, fun args _ => oSubD args, fun _ _ _ h hok => oSubD_ok h hok, bodied Try.func49 (by kernel_rfl)⟩

noncomputable def xDv : Ctx := ctxOf [41] [orcAddD, orcSubD]
theorem xDv_ok : COk Try.prog xDv := ctxOf_ok (by kernel_rfl)

set_option maxRecDepth 100000 in
set_option maxHeartbeats 0 in
theorem vp_tree (a b : V3) : runK xDv (fun _ _ => none) 300 27 Try.f27 0 [.agg a.sv, .agg b.sv] [] =
  bif in64B a.x && in64B b.x then
  bif in64B a.y && in64B b.y then
  bif in64B a.z && in64B b.z then some (SV.agg [SV.int IntKind.i64 (cut64 (a.x + b.x)), SV.int IntKind.i64 (cut64 (a.y + b.y)), SV.int IntKind.i64 (cut64 (a.z + b.z))], []) else none
  else none
  else none := by kernel_rfl

set_option maxRecDepth 100000 in
set_option maxHeartbeats 0 in
theorem vm_tree (a b : V3) : runK xDv (fun _ _ => none) 300 26 Try.f26 0 [.agg a.sv, .agg b.sv] [] =
  bif in64B a.x && in64B b.x then
  bif in64B a.y && in64B b.y then
  bif in64B a.z && in64B b.z then some (SV.agg [SV.int IntKind.i64 (cut64 (a.x - b.x)), SV.int IntKind.i64 (cut64 (a.y - b.y)), SV.int IntKind.i64 (cut64 (a.z - b.z))], []) else none
  else none
  else none := by kernel_rfl

set_option maxRecDepth 100000 in
set_option maxHeartbeats 0 in
theorem cl_tree (a : V3) (n : Int) : runK xDv (fun _ _ => none) 300 41 Try.f41 0 [.int .i64 a.x, .int .i64 n] [] =
  bif decide (a.x > n) then some (SV.int IntKind.i64 n, [])
  else bif decide (a.x < IntKind.i64.wrap (0 - n)) then some (SV.int IntKind.i64 (IntKind.i64.wrap (0 - n)), []) else some (SV.int IntKind.i64 a.x, []) := by kernel_rfl

def oVecPlus : List SV → Option Eff
  | [.agg [.int .i64 a, .int .i64 b, .int .i64 c], .agg [.int .i64 p, .int .i64 q, .int .i64 r]] => some { ok := fitsB ⟨a, b, c⟩ && fitsB ⟨p, q, r⟩, val := .agg (V3.plus ⟨a, b, c⟩ ⟨p, q, r⟩).sv }
  | _ => none
theorem oVecPlus_ok {m : Nat → Option Row} {n : Nat} {args : List SV} {e : Eff} (h : oVecPlus args = some e) (hok : e.ok = true) : FnOk Try.prog 27 args m n e := by
  unfold oVecPlus at h
  split at h
  · rename_i a b c p q r
    cases h
    rw [Bool.and_eq_true] at hok
    have f1 := fitsB_iff.1 hok.1
    have f2 := fitsB_iff.1 hok.2
    have hv : runK xDv (fun _ _ => none) 300 27 Try.f27 0 [.agg (V3.mk a b c).sv, .agg (V3.mk p q r).sv] [] = some (.agg (V3.plus ⟨a, b, c⟩ ⟨p, q, r⟩).sv, []) := by
      rw [vp_tree, in64B_iff.2 f1.1, in64B_iff.2 f1.2.1, in64B_iff.2 f1.2.2, in64B_iff.2 f2.1, in64B_iff.2 f2.2.1, in64B_iff.2 f2.2.2]
      rfl
    obtain ⟨rows', hc, _⟩ := runK_ok xDv_ok lok_none Try.func27 hv
    exact fnOk_pure hc rfl rfl
  · cases h
noncomputable def orcVecPlus : Orc := ⟨27, fun args _ => oVecPlus args, fun _ _ _ h hok => oVecPlus_ok h hok, bodied Try.func27 (by kernel_rfl)⟩

def oVecMinus : List SV → Option Eff
  | [.agg [.int .i64 a, .int .i64 b, .int .i64 c], .agg [.int .i64 p, .int .i64 q, .int .i64 r]] => some { ok := fitsB ⟨a, b, c⟩ && fitsB ⟨p, q, r⟩, val := .agg (V3.minus ⟨a, b, c⟩ ⟨p, q, r⟩).sv }
  | _ => none
theorem oVecMinus_ok {m : Nat → Option Row} {n : Nat} {args : List SV} {e : Eff} (h : oVecMinus args = some e) (hok : e.ok = true) : FnOk Try.prog 26 args m n e := by
  unfold oVecMinus at h
  split at h
  · rename_i a b c p q r
    cases h
    rw [Bool.and_eq_true] at hok
    have f1 := fitsB_iff.1 hok.1
    have f2 := fitsB_iff.1 hok.2
    have hv : runK xDv (fun _ _ => none) 300 26 Try.f26 0 [.agg (V3.mk a b c).sv, .agg (V3.mk p q r).sv] [] = some (.agg (V3.minus ⟨a, b, c⟩ ⟨p, q, r⟩).sv, []) := by
      rw [vm_tree, in64B_iff.2 f1.1, in64B_iff.2 f1.2.1, in64B_iff.2 f1.2.2, in64B_iff.2 f2.1, in64B_iff.2 f2.2.1, in64B_iff.2 f2.2.2]
      rfl
    obtain ⟨rows', hc, _⟩ := runK_ok xDv_ok lok_none Try.func26 hv
    exact fnOk_pure hc rfl rfl
  · cases h
noncomputable def orcVecMinus : Orc := ⟨26, fun args _ => oVecMinus args, fun _ _ _ h hok => oVecMinus_ok h hok, bodied Try.func26 (by kernel_rfl)⟩

def oBetw : List SV → Option Eff
  | [.int .i64 n, .int .i64 m] => some { ok := decide (0 ≤ m) && in64B m, val := .int .i64 (clampN m n) }
  | _ => none
theorem betw_tree (n m : Int) : runK xDv (fun _ _ => none) 300 41 Try.f41 0 [.int .i64 n, .int .i64 m] [] =
    bif decide (n > m) then some (.int .i64 m, []) else bif decide (n < IntKind.i64.wrap (0 - m)) then some (.int .i64 (IntKind.i64.wrap (0 - m)), []) else some (.int .i64 n, []) := by kernel_rfl
theorem betw_val {n m : Int} (h0 : 0 ≤ m) (h : In64 m) : runK xDv (fun _ _ => none) 300 41 Try.f41 0 [.int .i64 n, .int .i64 m] [] = some (.int .i64 (clampN m n), []) := by
  unfold In64 at h
  rw [betw_tree, IntWalk.i64_in (0 - m) (by omega)]
  have e : clampN m n = bif decide (n > m) then m else bif decide (n < 0 - m) then 0 - m else n := by
    unfold clampN
    by_cases h1 : n > m
    · rw [decide_eq_true h1]; simp only [cond_true]; omega
    · rw [decide_eq_false h1]
      by_cases h2 : n < 0 - m
      · rw [decide_eq_true h2]; simp only [cond_true, cond_false]; omega
      · rw [decide_eq_false h2]; simp only [cond_false]; omega
  rw [e]
  cases decide (n > m)
  · cases decide (n < 0 - m) <;> rfl
  · rfl
theorem oBetw_ok {k : Nat → Option Row} {j : Nat} {args : List SV} {e : Eff} (h : oBetw args = some e) (hok : e.ok = true) : FnOk Try.prog 41 args k j e := by
  unfold oBetw at h
  split at h
  · rename_i n m
    cases h
    rw [Bool.and_eq_true, decide_eq_true_eq] at hok
    obtain ⟨rows', hc, _⟩ := runK_ok xDv_ok lok_none Try.func41 (betw_val (n := n) hok.1 (in64B_iff.1 hok.2))
    exact fnOk_pure hc rfl rfl
  · cases h
noncomputable def orcBetw : Orc := ⟨41, fun args _ => oBetw args, fun _ _ _ h hok => oBetw_ok h hok, bodied Try.func41 (by kernel_rfl)⟩
noncomputable def xDc : Ctx := ctxOf [] [orcBetw]
theorem xDc_ok : COk Try.prog xDc := ctxOf_ok (by kernel_rfl)

set_option maxRecDepth 100000 in
set_option maxHeartbeats 0 in
theorem clamp_tree (a : V3) (n : Int) : runK xDc (fun _ _ => none) 300 20 Try.f20 0 [.agg a.sv, .int .i64 n] [] =
  bif decide (n < 0) then some (SV.agg [SV.int IntKind.i64 (clampN 0 a.x), SV.int IntKind.i64 (clampN 0 a.y), SV.int IntKind.i64 (clampN 0 a.z)], [])
  else
  bif decide (0 ≤ n) && in64B n then
  bif decide (0 ≤ n) && in64B n then
  bif decide (0 ≤ n) && in64B n then some (SV.agg [SV.int IntKind.i64 (clampN n a.x), SV.int IntKind.i64 (clampN n a.y), SV.int IntKind.i64 (clampN n a.z)], []) else none
  else none
  else none := by kernel_rfl

theorem clamp_val {a : V3} {n : Int} (h : In64 n) : runK xDc (fun _ _ => none) 300 20 Try.f20 0 [.agg a.sv, .int .i64 n] [] = some (.agg (a.clamp n).sv, []) := by
  rw [clamp_tree]
  by_cases h0 : n < 0
  · have e : ∀ x, clampN n x = clampN 0 x := fun x => by unfold clampN; rw [show max n 0 = 0 by omega, show max (0 : Int) 0 = 0 from rfl]
    rw [decide_eq_true h0]
    unfold V3.clamp
    rw [e, e, e]
    rfl
  · rw [decide_eq_false h0, decide_eq_true (show 0 ≤ n by omega), in64B_iff.2 h]
    rfl
def oClampD : List SV → Option Eff
  | [.agg [.int .i64 a, .int .i64 b, .int .i64 c], .int .i64 n] => some { ok := in64B n, val := .agg (V3.clamp ⟨a, b, c⟩ n).sv }
  | _ => none
theorem oClampD_ok {k : Nat → Option Row} {j : Nat} {args : List SV} {e : Eff} (h : oClampD args = some e) (hok : e.ok = true) : FnOk Try.prog 20 args k j e := by
  unfold oClampD at h
  split at h
  · rename_i a b c n
    cases h
    obtain ⟨rows', hc, _⟩ := runK_ok xDc_ok lok_none Try.func20 (clamp_val (a := ⟨a, b, c⟩) (in64B_iff.1 hok))
    exact fnOk_pure hc rfl rfl
  · cases h
noncomputable def orcClampD : Orc := ⟨20, fun args _ => oClampD args, fun _ _ _ h hok => oClampD_ok h hok, bodied Try.func20 (by kernel_rfl)⟩

end Go.Proofs.Ytnfhlfmcgeaagaa
