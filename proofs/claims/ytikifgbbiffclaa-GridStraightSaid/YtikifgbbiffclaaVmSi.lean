/- grid's axes of a line: due, ahead, along. -/
import Derived.Test.YtikifgbbiffclaaVmMp
import Derived.Test.YtikifgbbiffclaaVmN
namespace Go.Proofs.Ytikifgbbiffclaa
set_option linter.unusedSimpArgs false
set_option linter.unusedVariables false
open Go.RowKit

structure Ax where
  c : Int
  d : Int
  n : Int
  e : Int
def Ax.sv (a : Ax) : List SV := [.int .i64 a.c, .int .i64 a.d, .int .i64 a.n, .int .i64 a.e]
def Ax.due (a : Ax) : Bool := (decide (0 < a.d) && decide (a.n ≤ a.e)) || (decide (a.d < 0) && decide (a.n < a.e))
def Ax.ahead (x y : Ax) : Bool := decide (IntKind.i64.wrap (x.n * y.e) < IntKind.i64.wrap (y.n * x.e))
def Ax.step (a : Ax) : Ax := ⟨IntKind.i64.wrap (a.c + a.d), a.d, IntKind.i64.wrap (a.n + 65536), a.e⟩
/-- A line's axis, of numbers that are not great. -/
def alongA (a b : Int) : Ax := bif decide (a < b) then ⟨a / 65536, 1, (a / 65536 + 1) * 65536 - a, b - a⟩ else bif decide (b < a) then ⟨a / 65536, -1, a - a / 65536 * 65536, a - b⟩ else ⟨a / 65536, 0, 0, 0⟩
def smallB (a : Int) : Bool := decide (-1099511627776 ≤ a) && decide (a ≤ 1099511627776)

noncomputable def x0 : Ctx := ⟨vmT, fun _ => none, fun _ _ _ => none⟩
theorem x0_ok : COk Try.prog x0 where
  mixed := by kernel_rfl
  T := vmT_ok
  fn := fun _ _ h => by cases h
  call := fun _ _ _ _ h _ => by cases h

set_option maxRecDepth 100000 in
set_option maxHeartbeats 0 in
theorem due_tree (c d n e : Int) : runK x0 (fun _ _ => none) 100 41 Try.f41 0 [.agg [.int .i64 c, .int .i64 d, .int .i64 n, .int .i64 e]] [] =
  some (SV.bool (bif (bif decide (d > 0) == true then decide (n ≤ e) else false) == false then bif decide (d < 0) == true then decide (n < e) else false else true), []) := by kernel_rfl

set_option maxRecDepth 100000 in
set_option maxHeartbeats 0 in
theorem ahead_tree (c d n e c' d' n' e' : Int) : runK x0 (fun _ _ => none) 100 42 Try.f42 0 [.agg [.int .i64 c, .int .i64 d, .int .i64 n, .int .i64 e], .agg [.int .i64 c', .int .i64 d', .int .i64 n', .int .i64 e']] [] =
  some (SV.bool (decide (IntKind.i64.wrap (n * e') < IntKind.i64.wrap (n' * e))), []) := by kernel_rfl

set_option maxRecDepth 100000 in
set_option maxHeartbeats 0 in
theorem along_tree (a b : Int) : runK x0 (fun _ _ => none) 100 39 Try.f39 0 [.int .i64 a, .int .i64 b] [] =
  bif decide (b > a) then
    some
      (SV.agg
          [SV.int IntKind.i64 (a.fdiv (2 ^ min (Int.toNat 16) IntKind.i64.bits)), SV.int IntKind.i64 1,
            SV.int IntKind.i64 (IntKind.i64.wrap (IntKind.i64.wrap (IntKind.i64.wrap (a.fdiv (2 ^ min (Int.toNat 16) IntKind.i64.bits) + 1) * 2 ^ min (Int.toNat 16) IntKind.i64.bits) - a)),
            SV.int IntKind.i64 (IntKind.i64.wrap (b - a))],
        [])
  else
    bif decide (b < a) then
      some
        (SV.agg
            [SV.int IntKind.i64 (a.fdiv (2 ^ min (Int.toNat 16) IntKind.i64.bits)), SV.int IntKind.i64 (-1),
              SV.int IntKind.i64 (IntKind.i64.wrap (a - IntKind.i64.wrap (a.fdiv (2 ^ min (Int.toNat 16) IntKind.i64.bits) * 2 ^ min (Int.toNat 16) IntKind.i64.bits))),
              SV.int IntKind.i64 (IntKind.i64.wrap (a - b))],
          [])
    else some (SV.agg [SV.int IntKind.i64 (a.fdiv (2 ^ min (Int.toNat 16) IntKind.i64.bits)), SV.int IntKind.i64 0, SV.int IntKind.i64 0, SV.int IntKind.i64 0], []) := by kernel_rfl

theorem due_val (c d n e : Int) : runK x0 (fun _ _ => none) 100 41 Try.f41 0 [.agg [.int .i64 c, .int .i64 d, .int .i64 n, .int .i64 e]] [] = some (.bool (Ax.due ⟨c, d, n, e⟩), []) := by
  rw [due_tree]
  unfold Ax.due
  simp only [gt_iff_lt]
  cases decide (0 < d) <;> cases decide (n ≤ e) <;> cases decide (d < 0) <;> cases decide (n < e) <;> rfl

theorem ahead_val (c d n e c' d' n' e' : Int) : runK x0 (fun _ _ => none) 100 42 Try.f42 0 [.agg [.int .i64 c, .int .i64 d, .int .i64 n, .int .i64 e], .agg [.int .i64 c', .int .i64 d', .int .i64 n', .int .i64 e']] [] =
    some (.bool (Ax.ahead ⟨c, d, n, e⟩ ⟨c', d', n', e'⟩), []) := ahead_tree c d n e c' d' n' e'

theorem along_val {a b : Int} (ha : smallB a = true) (hb : smallB b = true) : runK x0 (fun _ _ => none) 100 39 Try.f39 0 [.int .i64 a, .int .i64 b] [] = some (.agg (alongA a b).sv, []) := by
  unfold smallB at ha hb
  simp only [Bool.and_eq_true, decide_eq_true_eq] at ha hb
  rw [along_tree]
  have p16 : (2 ^ min (Int.toNat 16) IntKind.i64.bits : Int) = 65536 := by decide
  have f16 : a.fdiv 65536 = a / 65536 := Int.fdiv_eq_ediv_of_nonneg a (by omega)
  rw [p16, f16, IntWalk.i64_in (a / 65536 + 1) (by omega), IntWalk.i64_in ((a / 65536 + 1) * 65536) (by omega), IntWalk.i64_in ((a / 65536 + 1) * 65536 - a) (by omega), IntWalk.i64_in (b - a) (by omega),
    IntWalk.i64_in (a / 65536 * 65536) (by omega), IntWalk.i64_in (a - a / 65536 * 65536) (by omega), IntWalk.i64_in (a - b) (by omega)]
  unfold alongA Ax.sv
  simp only [gt_iff_lt]
  cases decide (a < b)
  · cases decide (b < a) <;> rfl
  · rfl

def oDue : List SV → Option Eff
  | [.agg [.int .i64 c, .int .i64 d, .int .i64 n, .int .i64 e]] => some { val := .bool (Ax.due ⟨c, d, n, e⟩) }
  | _ => none
def oAhead : List SV → Option Eff
  | [.agg [.int .i64 c, .int .i64 d, .int .i64 n, .int .i64 e], .agg [.int .i64 c', .int .i64 d', .int .i64 n', .int .i64 e']] => some { val := .bool (Ax.ahead ⟨c, d, n, e⟩ ⟨c', d', n', e'⟩) }
  | _ => none
def oAlong : List SV → Option Eff
  | [.int .i64 a, .int .i64 b] => some { ok := smallB a && smallB b, val := .agg (alongA a b).sv }
  | _ => none

theorem oDue_ok {m : Nat → Option Row} {n : Nat} {args : List SV} {e : Eff} (h : oDue args = some e) : FnOk Try.prog 41 args m n e := by
  unfold oDue at h
  split at h
  · rename_i c d k f
    cases h
    obtain ⟨rows', hc, _⟩ := runK_ok x0_ok lok_none Try.func41 (due_val c d k f)
    exact fnOk_pure hc rfl rfl
  · cases h

theorem oAhead_ok {m : Nat → Option Row} {n : Nat} {args : List SV} {e : Eff} (h : oAhead args = some e) : FnOk Try.prog 42 args m n e := by
  unfold oAhead at h
  split at h
  · rename_i c d k f c' d' k' f'
    cases h
    obtain ⟨rows', hc, _⟩ := runK_ok x0_ok lok_none Try.func42 (ahead_val c d k f c' d' k' f')
    exact fnOk_pure hc rfl rfl
  · cases h

theorem oAlong_ok {m : Nat → Option Row} {n : Nat} {args : List SV} {e : Eff} (h : oAlong args = some e) (hok : e.ok = true) : FnOk Try.prog 39 args m n e := by
  unfold oAlong at h
  split at h
  · rename_i a b
    cases h
    simp only [Bool.and_eq_true] at hok
    obtain ⟨rows', hc, _⟩ := runK_ok x0_ok lok_none Try.func39 (along_val hok.1 hok.2)
    exact fnOk_pure hc rfl rfl
  · cases h

end Go.Proofs.Ytikifgbbiffclaa
