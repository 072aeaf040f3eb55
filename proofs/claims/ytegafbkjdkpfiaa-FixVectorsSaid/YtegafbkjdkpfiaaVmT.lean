/- The table of this translation's types for the small machine. -/
import Derived.Test.YtegafbkjdkpfiaaVmE
namespace Go.Proofs.Ytegafbkjdkpfiaa
set_option linter.unusedSimpArgs false
set_option linter.unusedVariables false
open Go.RowKit

theorem eqL_int {k : IntKind} {n : Int} {zs xs ys : List SV} {r : Bool} (h : eqL (.int k n :: zs) xs ys = some r) : ∃ (a b : Int) (xs' ys' : List SV) (r' : Bool), xs = .int k a :: xs' ∧ ys = .int k b :: ys' ∧ r = ((a == b) && r') ∧ eqL zs xs' ys' = some r' := by
  cases xs with
  | nil => simp [eqL] at h
  | cons x xs =>
    cases ys with
    | nil => simp [eqL] at h
    | cons y ys =>
      simp only [eqL] at h
      split at h
      · rename_i p q hp hq
        cases h
        unfold eqC at hp
        split at hp
        · rename_i k0 _ k1 a k2 b heq
          cases heq
          by_cases h1 : k1 = k <;> by_cases h2 : k2 = k <;> simp [h1, h2] at hp
          subst h1 h2
          subst hp
          exact ⟨a, b, xs, ys, q, rfl, rfl, rfl, hq⟩
        · rename_i heq; cases heq
        · cases hp
      · cases h
theorem eqL_bool {n : Bool} {zs xs ys : List SV} {r : Bool} (h : eqL (.bool n :: zs) xs ys = some r) : ∃ (a b : Bool) (xs' ys' : List SV) (r' : Bool), xs = .bool a :: xs' ∧ ys = .bool b :: ys' ∧ r = ((a == b) && r') ∧ eqL zs xs' ys' = some r' := by
  cases xs with
  | nil => simp [eqL] at h
  | cons x xs =>
    cases ys with
    | nil => simp [eqL] at h
    | cons y ys =>
      simp only [eqL] at h
      split at h
      · rename_i p q hp hq
        cases h
        unfold eqC at hp
        split at hp
        · rename_i heq; cases heq
        · rename_i a b heq
          simp only [Option.some.injEq] at hp
          subst hp
          exact ⟨a, b, xs, ys, q, rfl, rfl, rfl, hq⟩
        · cases hp
      · cases h
theorem eqL_nil {xs ys : List SV} {r : Bool} (h : eqL [] xs ys = some r) : xs = [] ∧ ys = [] ∧ r = true := by
  cases xs <;> cases ys <;> simp [eqL] at h <;> simp [h]

theorem vm_one2 : One Try.prog 2 := ⟨⟨_, Try.underlying2, rfl⟩, by kernel_rfl⟩
theorem vm_one3 : One Try.prog 3 := ⟨⟨_, Try.underlying3, rfl⟩, by kernel_rfl⟩
theorem vm_one4 : One Try.prog 4 := ⟨⟨_, Try.underlying4, rfl⟩, by kernel_rfl⟩
theorem vm_one5 : One Try.prog 5 := ⟨⟨_, Try.underlying5, rfl⟩, by kernel_rfl⟩
theorem vm_one6 : One Try.prog 6 := ⟨⟨_, Try.underlying6, rfl⟩, by kernel_rfl⟩
theorem vm_agg7 : Agg Try.prog 7 4 := ⟨⟨_, Try.underlying7, rfl⟩, by kernel_rfl⟩
theorem vm_agg8 : Agg Try.prog 8 4 := ⟨⟨_, Try.underlying8, rfl⟩, by kernel_rfl⟩
theorem vm_one12 : One Try.prog 12 := ⟨⟨_, Try.underlying12, rfl⟩, by kernel_rfl⟩
theorem vm_agg13 : Agg Try.prog 13 2 := ⟨⟨_, Try.underlying13, rfl⟩, by kernel_rfl⟩
theorem vm_agg14 : Agg Try.prog 14 2 := ⟨⟨_, Try.underlying14, rfl⟩, by kernel_rfl⟩
theorem vm_one15 : One Try.prog 15 := ⟨⟨_, Try.underlying15, rfl⟩, by kernel_rfl⟩
theorem vm_one16 : One Try.prog 16 := ⟨⟨_, Try.underlying16, rfl⟩, by kernel_rfl⟩
theorem vm_one17 : One Try.prog 17 := ⟨⟨_, Try.underlying17, rfl⟩, by kernel_rfl⟩
theorem vm_agg18 : Agg Try.prog 18 1 := ⟨⟨_, Try.underlying18, rfl⟩, by kernel_rfl⟩
theorem vm_agg19 : Agg Try.prog 19 1 := ⟨⟨_, Try.underlying19, rfl⟩, by kernel_rfl⟩
theorem vm_one21 : One Try.prog 21 := ⟨⟨_, Try.underlying21, rfl⟩, by kernel_rfl⟩
theorem vm_agg24 : Agg Try.prog 24 3 := ⟨⟨_, Try.underlying24, rfl⟩, by kernel_rfl⟩
theorem vm_agg25 : Agg Try.prog 25 3 := ⟨⟨_, Try.underlying25, rfl⟩, by kernel_rfl⟩
theorem vm_one40 : One Try.prog 40 := ⟨⟨_, Try.underlying40, rfl⟩, by kernel_rfl⟩
theorem vm_agg42 : Agg Try.prog 42 2 := ⟨⟨_, Try.underlying42, rfl⟩, by kernel_rfl⟩
theorem vm_agg43 : Agg Try.prog 43 2 := ⟨⟨_, Try.underlying43, rfl⟩, by kernel_rfl⟩
theorem vm_one55 : One Try.prog 55 := ⟨⟨_, Try.underlying55, rfl⟩, by kernel_rfl⟩
theorem vm_agg56 : Agg Try.prog 56 2 := ⟨⟨_, Try.underlying56, rfl⟩, by kernel_rfl⟩
theorem vm_agg57 : Agg Try.prog 57 2 := ⟨⟨_, Try.underlying57, rfl⟩, by kernel_rfl⟩
theorem vm_one64 : One Try.prog 64 := ⟨⟨_, Try.underlying64, rfl⟩, by kernel_rfl⟩
theorem vm_one73 : One Try.prog 73 := ⟨⟨_, Try.underlying73, rfl⟩, by kernel_rfl⟩
theorem vm_agg75 : Agg Try.prog 75 4 := ⟨⟨_, Try.underlying75, rfl⟩, by kernel_rfl⟩
theorem vm_agg76 : Agg Try.prog 76 4 := ⟨⟨_, Try.underlying76, rfl⟩, by kernel_rfl⟩
theorem vm_agg77 : Agg Try.prog 77 0 := ⟨⟨_, Try.underlying77, rfl⟩, by kernel_rfl⟩
theorem vm_agg78 : Agg Try.prog 78 0 := ⟨⟨_, Try.underlying78, rfl⟩, by kernel_rfl⟩
theorem vm_agg79 : Agg Try.prog 79 0 := ⟨⟨_, Try.underlying79, rfl⟩, by kernel_rfl⟩
theorem vm_one81 : One Try.prog 81 := ⟨⟨_, Try.underlying81, rfl⟩, by kernel_rfl⟩
theorem vm_one82 : One Try.prog 82 := ⟨⟨_, Try.underlying82, rfl⟩, by kernel_rfl⟩
theorem vm_one83 : One Try.prog 83 := ⟨⟨_, Try.underlying83, rfl⟩, by kernel_rfl⟩
theorem vm_one85 : One Try.prog 85 := ⟨⟨_, Try.underlying85, rfl⟩, by kernel_rfl⟩
theorem vm_one86 : One Try.prog 86 := ⟨⟨_, Try.underlying86, rfl⟩, by kernel_rfl⟩
theorem vm_one87 : One Try.prog 87 := ⟨⟨_, Try.underlying87, rfl⟩, by kernel_rfl⟩
theorem vm_agg88 : Agg Try.prog 88 11 := ⟨⟨_, Try.underlying88, rfl⟩, by kernel_rfl⟩
theorem vm_agg89 : Agg Try.prog 89 11 := ⟨⟨_, Try.underlying89, rfl⟩, by kernel_rfl⟩
theorem vm_agg90 : Agg Try.prog 90 1 := ⟨⟨_, Try.underlying90, rfl⟩, by kernel_rfl⟩
theorem vm_agg91 : Agg Try.prog 91 1 := ⟨⟨_, Try.underlying91, rfl⟩, by kernel_rfl⟩

theorem eqv7 (d : Nat) (w : World) (a0 : Int) (a1 : Int) (a2 : Bool) (a3 : Int) (b0 : Int) (b1 : Int) (b2 : Bool) (b3 : Int) : (Op.equalIn (d + 2) 7 (.agg #[.int .i64 a0, .int .i64 a1, .bool a2, .int .u8 a3]) (.agg #[.int .i64 b0, .int .i64 b1, .bool b2, .int .u8 b3])).run Try.prog w = .ok ((a0 == b0) && ((a1 == b1) && ((a2 == b2) && ((a3 == b3) && true)))) w :=
  eqs_of (P := Try.prog) (d := d + 1) (xs := #[.int .i64 a0, .int .i64 a1, .bool a2, .int .u8 a3]) (ys := #[.int .i64 b0, .int .i64 b1, .bool b2, .int .u8 b3]) w Try.underlying7 (by kernel_rfl) (eqf_cons w rfl (part_one vm_one2 w _ _ rfl) (part_one vm_one2 w _ _ rfl) (run_equalIn_int w _ 2 _ _ _ _ Try.underlying2) (eqf_cons w rfl (part_one vm_one3 w _ _ rfl) (part_one vm_one3 w _ _ rfl) (run_equalIn_int w _ 3 _ _ _ _ Try.underlying3) (eqf_cons w rfl (part_one vm_one4 w _ _ rfl) (part_one vm_one4 w _ _ rfl) (run_equalIn_bool w _ 4 _ _ Try.underlying4) (eqf_cons w rfl (part_one vm_one6 w _ _ rfl) (part_one vm_one6 w _ _ rfl) (run_equalIn_int w _ 6 _ _ _ _ Try.underlying6) (eqf_nil _ _ _ w)))))

theorem eql7 (xs ys : List SV) (r : Bool) (h : eqL [.int .i64 0, .int .i64 0, .bool false, .int .u8 0] xs ys = some r) (w : World) : (Op.equalIn 10000 7 (.agg (xs.map dval).toArray) (.agg (ys.map dval).toArray)).run Try.prog w = .ok r w := by
  obtain ⟨a0, b0, xs0, ys0, r0, rfl, rfl, rfl, h0⟩ := eqL_int h
  obtain ⟨a1, b1, xs1, ys1, r1, rfl, rfl, rfl, h1⟩ := eqL_int h0
  obtain ⟨a2, b2, xs2, ys2, r2, rfl, rfl, rfl, h2⟩ := eqL_bool h1
  obtain ⟨a3, b3, xs3, ys3, r3, rfl, rfl, rfl, h3⟩ := eqL_int h2
  obtain ⟨rfl, rfl, rfl⟩ := eqL_nil h3
  have e := eqv7 9998 w a0 a1 a2 a3 b0 b1 b2 b3
  simp only [Bool.and_assoc, Bool.true_and, Bool.and_true] at e ⊢
  exact e

theorem eqv8 (d : Nat) (w : World) (a0 : Int) (a1 : Int) (a2 : Bool) (a3 : Int) (b0 : Int) (b1 : Int) (b2 : Bool) (b3 : Int) : (Op.equalIn (d + 2) 8 (.agg #[.int .i64 a0, .int .i64 a1, .bool a2, .int .u8 a3]) (.agg #[.int .i64 b0, .int .i64 b1, .bool b2, .int .u8 b3])).run Try.prog w = .ok ((a0 == b0) && ((a1 == b1) && ((a2 == b2) && ((a3 == b3) && true)))) w :=
  eqs_of (P := Try.prog) (d := d + 1) (xs := #[.int .i64 a0, .int .i64 a1, .bool a2, .int .u8 a3]) (ys := #[.int .i64 b0, .int .i64 b1, .bool b2, .int .u8 b3]) w Try.underlying8 (by kernel_rfl) (eqf_cons w rfl (part_one vm_one2 w _ _ rfl) (part_one vm_one2 w _ _ rfl) (run_equalIn_int w _ 2 _ _ _ _ Try.underlying2) (eqf_cons w rfl (part_one vm_one3 w _ _ rfl) (part_one vm_one3 w _ _ rfl) (run_equalIn_int w _ 3 _ _ _ _ Try.underlying3) (eqf_cons w rfl (part_one vm_one4 w _ _ rfl) (part_one vm_one4 w _ _ rfl) (run_equalIn_bool w _ 4 _ _ Try.underlying4) (eqf_cons w rfl (part_one vm_one6 w _ _ rfl) (part_one vm_one6 w _ _ rfl) (run_equalIn_int w _ 6 _ _ _ _ Try.underlying6) (eqf_nil _ _ _ w)))))

theorem eql8 (xs ys : List SV) (r : Bool) (h : eqL [.int .i64 0, .int .i64 0, .bool false, .int .u8 0] xs ys = some r) (w : World) : (Op.equalIn 10000 8 (.agg (xs.map dval).toArray) (.agg (ys.map dval).toArray)).run Try.prog w = .ok r w := by
  obtain ⟨a0, b0, xs0, ys0, r0, rfl, rfl, rfl, h0⟩ := eqL_int h
  obtain ⟨a1, b1, xs1, ys1, r1, rfl, rfl, rfl, h1⟩ := eqL_int h0
  obtain ⟨a2, b2, xs2, ys2, r2, rfl, rfl, rfl, h2⟩ := eqL_bool h1
  obtain ⟨a3, b3, xs3, ys3, r3, rfl, rfl, rfl, h3⟩ := eqL_int h2
  obtain ⟨rfl, rfl, rfl⟩ := eqL_nil h3
  have e := eqv8 9998 w a0 a1 a2 a3 b0 b1 b2 b3
  simp only [Bool.and_assoc, Bool.true_and, Bool.and_true] at e ⊢
  exact e

theorem eqv24 (d : Nat) (w : World) (a0 : Int) (a1 : Int) (a2 : Int) (b0 : Int) (b1 : Int) (b2 : Int) : (Op.equalIn (d + 2) 24 (.agg #[.int .i64 a0, .int .i64 a1, .int .i64 a2]) (.agg #[.int .i64 b0, .int .i64 b1, .int .i64 b2])).run Try.prog w = .ok ((a0 == b0) && ((a1 == b1) && ((a2 == b2) && true))) w :=
  eqs_of (P := Try.prog) (d := d + 1) (xs := #[.int .i64 a0, .int .i64 a1, .int .i64 a2]) (ys := #[.int .i64 b0, .int .i64 b1, .int .i64 b2]) w Try.underlying24 (by kernel_rfl) (eqf_cons w rfl (part_one vm_one2 w _ _ rfl) (part_one vm_one2 w _ _ rfl) (run_equalIn_int w _ 2 _ _ _ _ Try.underlying2) (eqf_cons w rfl (part_one vm_one2 w _ _ rfl) (part_one vm_one2 w _ _ rfl) (run_equalIn_int w _ 2 _ _ _ _ Try.underlying2) (eqf_cons w rfl (part_one vm_one2 w _ _ rfl) (part_one vm_one2 w _ _ rfl) (run_equalIn_int w _ 2 _ _ _ _ Try.underlying2) (eqf_nil _ _ _ w))))

theorem eql24 (xs ys : List SV) (r : Bool) (h : eqL [.int .i64 0, .int .i64 0, .int .i64 0] xs ys = some r) (w : World) : (Op.equalIn 10000 24 (.agg (xs.map dval).toArray) (.agg (ys.map dval).toArray)).run Try.prog w = .ok r w := by
  obtain ⟨a0, b0, xs0, ys0, r0, rfl, rfl, rfl, h0⟩ := eqL_int h
  obtain ⟨a1, b1, xs1, ys1, r1, rfl, rfl, rfl, h1⟩ := eqL_int h0
  obtain ⟨a2, b2, xs2, ys2, r2, rfl, rfl, rfl, h2⟩ := eqL_int h1
  obtain ⟨rfl, rfl, rfl⟩ := eqL_nil h2
  have e := eqv24 9998 w a0 a1 a2 b0 b1 b2
  simp only [Bool.and_assoc, Bool.true_and, Bool.and_true] at e ⊢
  exact e

theorem eqv25 (d : Nat) (w : World) (a0 : Int) (a1 : Int) (a2 : Int) (b0 : Int) (b1 : Int) (b2 : Int) : (Op.equalIn (d + 2) 25 (.agg #[.int .i64 a0, .int .i64 a1, .int .i64 a2]) (.agg #[.int .i64 b0, .int .i64 b1, .int .i64 b2])).run Try.prog w = .ok ((a0 == b0) && ((a1 == b1) && ((a2 == b2) && true))) w :=
  eqs_of (P := Try.prog) (d := d + 1) (xs := #[.int .i64 a0, .int .i64 a1, .int .i64 a2]) (ys := #[.int .i64 b0, .int .i64 b1, .int .i64 b2]) w Try.underlying25 (by kernel_rfl) (eqf_cons w rfl (part_one vm_one2 w _ _ rfl) (part_one vm_one2 w _ _ rfl) (run_equalIn_int w _ 2 _ _ _ _ Try.underlying2) (eqf_cons w rfl (part_one vm_one2 w _ _ rfl) (part_one vm_one2 w _ _ rfl) (run_equalIn_int w _ 2 _ _ _ _ Try.underlying2) (eqf_cons w rfl (part_one vm_one2 w _ _ rfl) (part_one vm_one2 w _ _ rfl) (run_equalIn_int w _ 2 _ _ _ _ Try.underlying2) (eqf_nil _ _ _ w))))

theorem eql25 (xs ys : List SV) (r : Bool) (h : eqL [.int .i64 0, .int .i64 0, .int .i64 0] xs ys = some r) (w : World) : (Op.equalIn 10000 25 (.agg (xs.map dval).toArray) (.agg (ys.map dval).toArray)).run Try.prog w = .ok r w := by
  obtain ⟨a0, b0, xs0, ys0, r0, rfl, rfl, rfl, h0⟩ := eqL_int h
  obtain ⟨a1, b1, xs1, ys1, r1, rfl, rfl, rfl, h1⟩ := eqL_int h0
  obtain ⟨a2, b2, xs2, ys2, r2, rfl, rfl, rfl, h2⟩ := eqL_int h1
  obtain ⟨rfl, rfl, rfl⟩ := eqL_nil h2
  have e := eqv25 9998 w a0 a1 a2 b0 b1 b2
  simp only [Bool.and_assoc, Bool.true_and, Bool.and_true] at e ⊢
  exact e

theorem eqv42 (d : Nat) (w : World) (a0 : Int) (a1 : Int) (b0 : Int) (b1 : Int) : (Op.equalIn (d + 2) 42 (.agg #[.int .u64 a0, .int .u64 a1]) (.agg #[.int .u64 b0, .int .u64 b1])).run Try.prog w = .ok ((a0 == b0) && ((a1 == b1) && true)) w :=
  eqs_of (P := Try.prog) (d := d + 1) (xs := #[.int .u64 a0, .int .u64 a1]) (ys := #[.int .u64 b0, .int .u64 b1]) w Try.underlying42 (by kernel_rfl) (eqf_cons w rfl (part_one vm_one40 w _ _ rfl) (part_one vm_one40 w _ _ rfl) (run_equalIn_int w _ 40 _ _ _ _ Try.underlying40) (eqf_cons w rfl (part_one vm_one40 w _ _ rfl) (part_one vm_one40 w _ _ rfl) (run_equalIn_int w _ 40 _ _ _ _ Try.underlying40) (eqf_nil _ _ _ w)))

theorem eql42 (xs ys : List SV) (r : Bool) (h : eqL [.int .u64 0, .int .u64 0] xs ys = some r) (w : World) : (Op.equalIn 10000 42 (.agg (xs.map dval).toArray) (.agg (ys.map dval).toArray)).run Try.prog w = .ok r w := by
  obtain ⟨a0, b0, xs0, ys0, r0, rfl, rfl, rfl, h0⟩ := eqL_int h
  obtain ⟨a1, b1, xs1, ys1, r1, rfl, rfl, rfl, h1⟩ := eqL_int h0
  obtain ⟨rfl, rfl, rfl⟩ := eqL_nil h1
  have e := eqv42 9998 w a0 a1 b0 b1
  simp only [Bool.and_assoc, Bool.true_and, Bool.and_true] at e ⊢
  exact e

theorem eqv43 (d : Nat) (w : World) (a0 : Int) (a1 : Int) (b0 : Int) (b1 : Int) : (Op.equalIn (d + 2) 43 (.agg #[.int .u64 a0, .int .u64 a1]) (.agg #[.int .u64 b0, .int .u64 b1])).run Try.prog w = .ok ((a0 == b0) && ((a1 == b1) && true)) w :=
  eqs_of (P := Try.prog) (d := d + 1) (xs := #[.int .u64 a0, .int .u64 a1]) (ys := #[.int .u64 b0, .int .u64 b1]) w Try.underlying43 (by kernel_rfl) (eqf_cons w rfl (part_one vm_one40 w _ _ rfl) (part_one vm_one40 w _ _ rfl) (run_equalIn_int w _ 40 _ _ _ _ Try.underlying40) (eqf_cons w rfl (part_one vm_one40 w _ _ rfl) (part_one vm_one40 w _ _ rfl) (run_equalIn_int w _ 40 _ _ _ _ Try.underlying40) (eqf_nil _ _ _ w)))

theorem eql43 (xs ys : List SV) (r : Bool) (h : eqL [.int .u64 0, .int .u64 0] xs ys = some r) (w : World) : (Op.equalIn 10000 43 (.agg (xs.map dval).toArray) (.agg (ys.map dval).toArray)).run Try.prog w = .ok r w := by
  obtain ⟨a0, b0, xs0, ys0, r0, rfl, rfl, rfl, h0⟩ := eqL_int h
  obtain ⟨a1, b1, xs1, ys1, r1, rfl, rfl, rfl, h1⟩ := eqL_int h0
  obtain ⟨rfl, rfl, rfl⟩ := eqL_nil h1
  have e := eqv43 9998 w a0 a1 b0 b1
  simp only [Bool.and_assoc, Bool.true_and, Bool.and_true] at e ⊢
  exact e

def vmT : Nat → Option TI
  | 2 => some ⟨.int .i64, 1, [.int .i64 0], 8, some .i64, false⟩
  | 3 => some ⟨.int .i64, 1, [.int .i64 0], 8, some .i64, false⟩
  | 4 => some ⟨.bool, 1, [.bool false], 1, some .bool, false⟩
  | 5 => some ⟨.int .u8, 1, [.int .u8 0], 1, none, false⟩
  | 6 => some ⟨.int .u8, 1, [.int .u8 0], 1, none, false⟩
  | 7 => some ⟨.struct [(0, 2), (1, 3), (2, 4), (3, 6)], 4, [.int .i64 0, .int .i64 0, .bool false, .int .u8 0], 24, none, true⟩
  | 8 => some ⟨.struct [(0, 2), (1, 3), (2, 4), (3, 6)], 4, [.int .i64 0, .int .i64 0, .bool false, .int .u8 0], 24, none, true⟩
  | 12 => some ⟨.int .u64, 1, [.int .u64 0], 8, none, false⟩
  | 15 => some ⟨.ptr 76, 1, [.nilp], 8, none, false⟩
  | 16 => some ⟨.ptr 79, 1, [.nilp], 8, none, false⟩
  | 17 => some ⟨.ptr 89, 1, [.nilp], 8, none, false⟩
  | 18 => some ⟨.struct [(0, 17)], 1, [.nilp], 8, none, false⟩
  | 19 => some ⟨.struct [(0, 17)], 1, [.nilp], 8, none, false⟩
  | 21 => some ⟨.int .i32, 1, [.int .i32 0], 4, none, false⟩
  | 24 => some ⟨.struct [(0, 2), (1, 2), (2, 2)], 3, [.int .i64 0, .int .i64 0, .int .i64 0], 24, none, true⟩
  | 25 => some ⟨.struct [(0, 2), (1, 2), (2, 2)], 3, [.int .i64 0, .int .i64 0, .int .i64 0], 24, some .vec, true⟩
  | 40 => some ⟨.int .u64, 1, [.int .u64 0], 8, some .u64, false⟩
  | 42 => some ⟨.struct [(0, 40), (1, 40)], 2, [.int .u64 0, .int .u64 0], 16, none, true⟩
  | 43 => some ⟨.struct [(0, 40), (1, 40)], 2, [.int .u64 0, .int .u64 0], 16, none, true⟩
  | 55 => some ⟨.slice 40, 1, [.nils], 24, none, false⟩
  | 56 => some ⟨.struct [(0, 4), (1, 55)], 2, [.bool false, .nils], 32, none, false⟩
  | 57 => some ⟨.struct [(0, 4), (1, 55)], 2, [.bool false, .nils], 32, none, false⟩
  | 64 => some ⟨.int .u64, 1, [.int .u64 0], 8, none, false⟩
  | 73 => some ⟨.ptr 91, 1, [.nilp], 8, none, false⟩
  | 77 => some ⟨.array 0 16, 0, [], 0, none, false⟩
  | 78 => some ⟨.struct [(0, 77)], 0, [], 0, none, false⟩
  | 79 => some ⟨.struct [(0, 77)], 0, [], 0, none, false⟩
  | 81 => some ⟨.int .u32, 1, [.int .u32 0], 4, none, false⟩
  | 82 => some ⟨.int .u8, 1, [.int .u8 0], 1, none, false⟩
  | 83 => some ⟨.int .u8, 1, [.int .u8 0], 1, none, false⟩
  | 85 => some ⟨.ptr 5, 1, [.nilp], 8, none, false⟩
  | 86 => some ⟨.int .i32, 1, [.int .i32 0], 4, none, false⟩
  | 87 => some ⟨.int .i32, 1, [.int .i32 0], 4, none, false⟩
  | _ => none

theorem vm_ok2 : TIOk Try.prog 2 ⟨.int .i64, 1, [.int .i64 0], 8, some .i64, false⟩ :=
  ⟨by kernel_rfl, by kernel_rfl, Try.underlying2, ⟨.int .i64 0, by kernel_rfl, (by simp only [Array.toList, Value.cells, relL_cons, relL_nil, Rel, and_self])⟩, (fun h => by cases h)⟩
theorem vm_ok3 : TIOk Try.prog 3 ⟨.int .i64, 1, [.int .i64 0], 8, some .i64, false⟩ :=
  ⟨by kernel_rfl, by kernel_rfl, Try.underlying3, ⟨.int .i64 0, by kernel_rfl, (by simp only [Array.toList, Value.cells, relL_cons, relL_nil, Rel, and_self])⟩, (fun h => by cases h)⟩
theorem vm_ok4 : TIOk Try.prog 4 ⟨.bool, 1, [.bool false], 1, some .bool, false⟩ :=
  ⟨by kernel_rfl, by kernel_rfl, Try.underlying4, ⟨.bool false, by kernel_rfl, (by simp only [Array.toList, Value.cells, relL_cons, relL_nil, Rel, and_self])⟩, (fun h => by cases h)⟩
theorem vm_ok5 : TIOk Try.prog 5 ⟨.int .u8, 1, [.int .u8 0], 1, none, false⟩ :=
  ⟨by kernel_rfl, by kernel_rfl, Try.underlying5, ⟨.int .u8 0, by kernel_rfl, (by simp only [Array.toList, Value.cells, relL_cons, relL_nil, Rel, and_self])⟩, (fun h => by cases h)⟩
theorem vm_ok6 : TIOk Try.prog 6 ⟨.int .u8, 1, [.int .u8 0], 1, none, false⟩ :=
  ⟨by kernel_rfl, by kernel_rfl, Try.underlying6, ⟨.int .u8 0, by kernel_rfl, (by simp only [Array.toList, Value.cells, relL_cons, relL_nil, Rel, and_self])⟩, (fun h => by cases h)⟩
theorem vm_ok7 : TIOk Try.prog 7 ⟨.struct [(0, 2), (1, 3), (2, 4), (3, 6)], 4, [.int .i64 0, .int .i64 0, .bool false, .int .u8 0], 24, none, true⟩ :=
  ⟨by kernel_rfl, by kernel_rfl, ⟨_, Try.underlying7, rfl⟩, ⟨.agg #[.int .i64 0, .int .i64 0, .bool false, .int .u8 0], by kernel_rfl, (by simp only [Array.toList, Value.cells, relL_cons, relL_nil, Rel, and_self])⟩, (fun _ => ⟨by kernel_rfl, eql7⟩)⟩
theorem vm_ok8 : TIOk Try.prog 8 ⟨.struct [(0, 2), (1, 3), (2, 4), (3, 6)], 4, [.int .i64 0, .int .i64 0, .bool false, .int .u8 0], 24, none, true⟩ :=
  ⟨by kernel_rfl, by kernel_rfl, ⟨_, Try.underlying8, rfl⟩, ⟨.agg #[.int .i64 0, .int .i64 0, .bool false, .int .u8 0], by kernel_rfl, (by simp only [Array.toList, Value.cells, relL_cons, relL_nil, Rel, and_self])⟩, (fun _ => ⟨by kernel_rfl, eql8⟩)⟩
theorem vm_ok12 : TIOk Try.prog 12 ⟨.int .u64, 1, [.int .u64 0], 8, none, false⟩ :=
  ⟨by kernel_rfl, by kernel_rfl, Try.underlying12, ⟨.int .u64 0, by kernel_rfl, (by simp only [Array.toList, Value.cells, relL_cons, relL_nil, Rel, and_self])⟩, (fun h => by cases h)⟩
theorem vm_ok15 : TIOk Try.prog 15 ⟨.ptr 76, 1, [.nilp], 8, none, false⟩ :=
  ⟨by kernel_rfl, by kernel_rfl, Try.underlying15, ⟨.pointer none, by kernel_rfl, (by simp only [Array.toList, Value.cells, relL_cons, relL_nil, Rel, and_self])⟩, (fun h => by cases h)⟩
theorem vm_ok16 : TIOk Try.prog 16 ⟨.ptr 79, 1, [.nilp], 8, none, false⟩ :=
  ⟨by kernel_rfl, by kernel_rfl, Try.underlying16, ⟨.pointer none, by kernel_rfl, (by simp only [Array.toList, Value.cells, relL_cons, relL_nil, Rel, and_self])⟩, (fun h => by cases h)⟩
theorem vm_ok17 : TIOk Try.prog 17 ⟨.ptr 89, 1, [.nilp], 8, none, false⟩ :=
  ⟨by kernel_rfl, by kernel_rfl, Try.underlying17, ⟨.pointer none, by kernel_rfl, (by simp only [Array.toList, Value.cells, relL_cons, relL_nil, Rel, and_self])⟩, (fun h => by cases h)⟩
theorem vm_ok18 : TIOk Try.prog 18 ⟨.struct [(0, 17)], 1, [.nilp], 8, none, false⟩ :=
  ⟨by kernel_rfl, by kernel_rfl, ⟨_, Try.underlying18, rfl⟩, ⟨.agg #[.pointer none], by kernel_rfl, (by simp only [Array.toList, Value.cells, relL_cons, relL_nil, Rel, and_self])⟩, (fun h => by cases h)⟩
theorem vm_ok19 : TIOk Try.prog 19 ⟨.struct [(0, 17)], 1, [.nilp], 8, none, false⟩ :=
  ⟨by kernel_rfl, by kernel_rfl, ⟨_, Try.underlying19, rfl⟩, ⟨.agg #[.pointer none], by kernel_rfl, (by simp only [Array.toList, Value.cells, relL_cons, relL_nil, Rel, and_self])⟩, (fun h => by cases h)⟩
theorem vm_ok21 : TIOk Try.prog 21 ⟨.int .i32, 1, [.int .i32 0], 4, none, false⟩ :=
  ⟨by kernel_rfl, by kernel_rfl, Try.underlying21, ⟨.int .i32 0, by kernel_rfl, (by simp only [Array.toList, Value.cells, relL_cons, relL_nil, Rel, and_self])⟩, (fun h => by cases h)⟩
theorem vm_ok24 : TIOk Try.prog 24 ⟨.struct [(0, 2), (1, 2), (2, 2)], 3, [.int .i64 0, .int .i64 0, .int .i64 0], 24, none, true⟩ :=
  ⟨by kernel_rfl, by kernel_rfl, ⟨_, Try.underlying24, rfl⟩, ⟨.agg #[.int .i64 0, .int .i64 0, .int .i64 0], by kernel_rfl, (by simp only [Array.toList, Value.cells, relL_cons, relL_nil, Rel, and_self])⟩, (fun _ => ⟨by kernel_rfl, eql24⟩)⟩
theorem vm_ok25 : TIOk Try.prog 25 ⟨.struct [(0, 2), (1, 2), (2, 2)], 3, [.int .i64 0, .int .i64 0, .int .i64 0], 24, some .vec, true⟩ :=
  ⟨by kernel_rfl, by kernel_rfl, ⟨_, Try.underlying25, rfl⟩, ⟨.agg #[.int .i64 0, .int .i64 0, .int .i64 0], by kernel_rfl, (by simp only [Array.toList, Value.cells, relL_cons, relL_nil, Rel, and_self])⟩, (fun _ => ⟨by kernel_rfl, eql25⟩)⟩
theorem vm_ok40 : TIOk Try.prog 40 ⟨.int .u64, 1, [.int .u64 0], 8, some .u64, false⟩ :=
  ⟨by kernel_rfl, by kernel_rfl, Try.underlying40, ⟨.int .u64 0, by kernel_rfl, (by simp only [Array.toList, Value.cells, relL_cons, relL_nil, Rel, and_self])⟩, (fun h => by cases h)⟩
theorem vm_ok42 : TIOk Try.prog 42 ⟨.struct [(0, 40), (1, 40)], 2, [.int .u64 0, .int .u64 0], 16, none, true⟩ :=
  ⟨by kernel_rfl, by kernel_rfl, ⟨_, Try.underlying42, rfl⟩, ⟨.agg #[.int .u64 0, .int .u64 0], by kernel_rfl, (by simp only [Array.toList, Value.cells, relL_cons, relL_nil, Rel, and_self])⟩, (fun _ => ⟨by kernel_rfl, eql42⟩)⟩
theorem vm_ok43 : TIOk Try.prog 43 ⟨.struct [(0, 40), (1, 40)], 2, [.int .u64 0, .int .u64 0], 16, none, true⟩ :=
  ⟨by kernel_rfl, by kernel_rfl, ⟨_, Try.underlying43, rfl⟩, ⟨.agg #[.int .u64 0, .int .u64 0], by kernel_rfl, (by simp only [Array.toList, Value.cells, relL_cons, relL_nil, Rel, and_self])⟩, (fun _ => ⟨by kernel_rfl, eql43⟩)⟩
theorem vm_ok55 : TIOk Try.prog 55 ⟨.slice 40, 1, [.nils], 24, none, false⟩ :=
  ⟨by kernel_rfl, by kernel_rfl, Try.underlying55, ⟨.slice none 0 0, by kernel_rfl, (by simp only [Array.toList, Value.cells, relL_cons, relL_nil, Rel, and_self])⟩, (fun h => by cases h)⟩
theorem vm_ok56 : TIOk Try.prog 56 ⟨.struct [(0, 4), (1, 55)], 2, [.bool false, .nils], 32, none, false⟩ :=
  ⟨by kernel_rfl, by kernel_rfl, ⟨_, Try.underlying56, rfl⟩, ⟨.agg #[.bool false, .slice none 0 0], by kernel_rfl, (by simp only [Array.toList, Value.cells, relL_cons, relL_nil, Rel, and_self])⟩, (fun h => by cases h)⟩
theorem vm_ok57 : TIOk Try.prog 57 ⟨.struct [(0, 4), (1, 55)], 2, [.bool false, .nils], 32, none, false⟩ :=
  ⟨by kernel_rfl, by kernel_rfl, ⟨_, Try.underlying57, rfl⟩, ⟨.agg #[.bool false, .slice none 0 0], by kernel_rfl, (by simp only [Array.toList, Value.cells, relL_cons, relL_nil, Rel, and_self])⟩, (fun h => by cases h)⟩
theorem vm_ok64 : TIOk Try.prog 64 ⟨.int .u64, 1, [.int .u64 0], 8, none, false⟩ :=
  ⟨by kernel_rfl, by kernel_rfl, Try.underlying64, ⟨.int .u64 0, by kernel_rfl, (by simp only [Array.toList, Value.cells, relL_cons, relL_nil, Rel, and_self])⟩, (fun h => by cases h)⟩
theorem vm_ok73 : TIOk Try.prog 73 ⟨.ptr 91, 1, [.nilp], 8, none, false⟩ :=
  ⟨by kernel_rfl, by kernel_rfl, Try.underlying73, ⟨.pointer none, by kernel_rfl, (by simp only [Array.toList, Value.cells, relL_cons, relL_nil, Rel, and_self])⟩, (fun h => by cases h)⟩
theorem vm_ok77 : TIOk Try.prog 77 ⟨.array 0 16, 0, [], 0, none, false⟩ :=
  ⟨by kernel_rfl, by kernel_rfl, Try.underlying77, ⟨.agg #[], by kernel_rfl, (by simp only [Array.toList, Value.cells, relL_cons, relL_nil, Rel, and_self])⟩, (fun h => by cases h)⟩
theorem vm_ok78 : TIOk Try.prog 78 ⟨.struct [(0, 77)], 0, [], 0, none, false⟩ :=
  ⟨by kernel_rfl, by kernel_rfl, ⟨_, Try.underlying78, rfl⟩, ⟨.agg #[], by kernel_rfl, (by simp only [Array.toList, Value.cells, relL_cons, relL_nil, Rel, and_self])⟩, (fun h => by cases h)⟩
theorem vm_ok79 : TIOk Try.prog 79 ⟨.struct [(0, 77)], 0, [], 0, none, false⟩ :=
  ⟨by kernel_rfl, by kernel_rfl, ⟨_, Try.underlying79, rfl⟩, ⟨.agg #[], by kernel_rfl, (by simp only [Array.toList, Value.cells, relL_cons, relL_nil, Rel, and_self])⟩, (fun h => by cases h)⟩
theorem vm_ok81 : TIOk Try.prog 81 ⟨.int .u32, 1, [.int .u32 0], 4, none, false⟩ :=
  ⟨by kernel_rfl, by kernel_rfl, Try.underlying81, ⟨.int .u32 0, by kernel_rfl, (by simp only [Array.toList, Value.cells, relL_cons, relL_nil, Rel, and_self])⟩, (fun h => by cases h)⟩
theorem vm_ok82 : TIOk Try.prog 82 ⟨.int .u8, 1, [.int .u8 0], 1, none, false⟩ :=
  ⟨by kernel_rfl, by kernel_rfl, Try.underlying82, ⟨.int .u8 0, by kernel_rfl, (by simp only [Array.toList, Value.cells, relL_cons, relL_nil, Rel, and_self])⟩, (fun h => by cases h)⟩
theorem vm_ok83 : TIOk Try.prog 83 ⟨.int .u8, 1, [.int .u8 0], 1, none, false⟩ :=
  ⟨by kernel_rfl, by kernel_rfl, Try.underlying83, ⟨.int .u8 0, by kernel_rfl, (by simp only [Array.toList, Value.cells, relL_cons, relL_nil, Rel, and_self])⟩, (fun h => by cases h)⟩
theorem vm_ok85 : TIOk Try.prog 85 ⟨.ptr 5, 1, [.nilp], 8, none, false⟩ :=
  ⟨by kernel_rfl, by kernel_rfl, Try.underlying85, ⟨.pointer none, by kernel_rfl, (by simp only [Array.toList, Value.cells, relL_cons, relL_nil, Rel, and_self])⟩, (fun h => by cases h)⟩
theorem vm_ok86 : TIOk Try.prog 86 ⟨.int .i32, 1, [.int .i32 0], 4, none, false⟩ :=
  ⟨by kernel_rfl, by kernel_rfl, Try.underlying86, ⟨.int .i32 0, by kernel_rfl, (by simp only [Array.toList, Value.cells, relL_cons, relL_nil, Rel, and_self])⟩, (fun h => by cases h)⟩
theorem vm_ok87 : TIOk Try.prog 87 ⟨.int .i32, 1, [.int .i32 0], 4, none, false⟩ :=
  ⟨by kernel_rfl, by kernel_rfl, Try.underlying87, ⟨.int .i32 0, by kernel_rfl, (by simp only [Array.toList, Value.cells, relL_cons, relL_nil, Rel, and_self])⟩, (fun h => by cases h)⟩

theorem vmT_ok : ∀ t ti, vmT t = some ti → TIOk Try.prog t ti := by
  intro t ti h
  unfold vmT at h
  split at h <;> first | (cases h; done) | (simp only [Option.some.injEq] at h; subst h)
  · exact vm_ok2
  · exact vm_ok3
  · exact vm_ok4
  · exact vm_ok5
  · exact vm_ok6
  · exact vm_ok7
  · exact vm_ok8
  · exact vm_ok12
  · exact vm_ok15
  · exact vm_ok16
  · exact vm_ok17
  · exact vm_ok18
  · exact vm_ok19
  · exact vm_ok21
  · exact vm_ok24
  · exact vm_ok25
  · exact vm_ok40
  · exact vm_ok42
  · exact vm_ok43
  · exact vm_ok55
  · exact vm_ok56
  · exact vm_ok57
  · exact vm_ok64
  · exact vm_ok73
  · exact vm_ok77
  · exact vm_ok78
  · exact vm_ok79
  · exact vm_ok81
  · exact vm_ok82
  · exact vm_ok83
  · exact vm_ok85
  · exact vm_ok86
  · exact vm_ok87

end Go.Proofs.Ytegafbkjdkpfiaa
