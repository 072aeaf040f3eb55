/- The table of this translation's types for the small machine. -/
import Derived.Test.YtihpfaeabocdbaaVmE
namespace Go.Proofs.Ytihpfaeabocdbaa
set_option linter.unusedSimpArgs false
set_option linter.unusedVariables false
set_option maxRecDepth 100000
open Go.RowKit

theorem eqL_int {k : IntKind} {n : Int} {zs xs ys : List SV} {r : Bool} (h : eqL (.int k n :: zs) xs ys = some r) : ∃ (a b : Int) (xs' ys' : List SV) (r' : Bool), xs = .int k a :: xs' ∧ ys = .int k b :: ys' ∧ r = ((a == b) && r') ∧ eqL zs xs' ys' = some r' := by
  cases xs with
  | nil => simp [eqL] at h
  | cons x xs =>
    cases ys with
    | nil => simp [eqL] at h
    | cons y ys =>
      simp only [eqL] at h
      split at h
      · rename_i p q hp hq
        cases h
        unfold eqC at hp
        split at hp
        · rename_i k0 _ k1 a k2 b heq
          cases heq
          by_cases h1 : k1 = k <;> by_cases h2 : k2 = k <;> simp [h1, h2] at hp
          subst h1 h2
          subst hp
          exact ⟨a, b, xs, ys, q, rfl, rfl, rfl, hq⟩
        · rename_i heq; cases heq
        · cases hp
      · cases h
theorem eqL_bool {n : Bool} {zs xs ys : List SV} {r : Bool} (h : eqL (.bool n :: zs) xs ys = some r) : ∃ (a b : Bool) (xs' ys' : List SV) (r' : Bool), xs = .bool a :: xs' ∧ ys = .bool b :: ys' ∧ r = ((a == b) && r') ∧ eqL zs xs' ys' = some r' := by
  cases xs with
  | nil => simp [eqL] at h
  | cons x xs =>
    cases ys with
    | nil => simp [eqL] at h
    | cons y ys =>
      simp only [eqL] at h
      split at h
      · rename_i p q hp hq
        cases h
        unfold eqC at hp
        split at hp
        · rename_i heq; cases heq
        · rename_i a b heq
          simp only [Option.some.injEq] at hp
          subst hp
          exact ⟨a, b, xs, ys, q, rfl, rfl, rfl, hq⟩
        · cases hp
      · cases h
theorem eqL_nil {xs ys : List SV} {r : Bool} (h : eqL [] xs ys = some r) : xs = [] ∧ ys = [] ∧ r = true := by
  cases xs <;> cases ys <;> simp [eqL] at h <;> simp [h]

theorem vm_one2 : One Try.prog 2 := ⟨⟨_, Try.underlying2, rfl⟩, by kernel_rfl⟩
theorem vm_one3 : One Try.prog 3 := ⟨⟨_, Try.underlying3, rfl⟩, by kernel_rfl⟩
theorem vm_one4 : One Try.prog 4 := ⟨⟨_, Try.underlying4, rfl⟩, by kernel_rfl⟩
theorem vm_one5 : One Try.prog 5 := ⟨⟨_, Try.underlying5, rfl⟩, by kernel_rfl⟩
theorem vm_one6 : One Try.prog 6 := ⟨⟨_, Try.underlying6, rfl⟩, by kernel_rfl⟩
theorem vm_agg7 : Agg Try.prog 7 4 := ⟨⟨_, Try.underlying7, rfl⟩, by kernel_rfl⟩
theorem vm_agg8 : Agg Try.prog 8 4 := ⟨⟨_, Try.underlying8, rfl⟩, by kernel_rfl⟩
theorem vm_one12 : One Try.prog 12 := ⟨⟨_, Try.underlying12, rfl⟩, by kernel_rfl⟩
theorem vm_agg13 : Agg Try.prog 13 2 := ⟨⟨_, Try.underlying13, rfl⟩, by kernel_rfl⟩
theorem vm_agg14 : Agg Try.prog 14 2 := ⟨⟨_, Try.underlying14, rfl⟩, by kernel_rfl⟩
theorem vm_one15 : One Try.prog 15 := ⟨⟨_, Try.underlying15, rfl⟩, by kernel_rfl⟩
theorem vm_one16 : One Try.prog 16 := ⟨⟨_, Try.underlying16, rfl⟩, by kernel_rfl⟩
theorem vm_one17 : One Try.prog 17 := ⟨⟨_, Try.underlying17, rfl⟩, by kernel_rfl⟩
theorem vm_agg18 : Agg Try.prog 18 1 := ⟨⟨_, Try.underlying18, rfl⟩, by kernel_rfl⟩
theorem vm_agg19 : Agg Try.prog 19 1 := ⟨⟨_, Try.underlying19, rfl⟩, by kernel_rfl⟩
theorem vm_one21 : One Try.prog 21 := ⟨⟨_, Try.underlying21, rfl⟩, by kernel_rfl⟩
theorem vm_one22 : One Try.prog 22 := ⟨⟨_, Try.underlying22, rfl⟩, by kernel_rfl⟩
theorem vm_one23 : One Try.prog 23 := ⟨⟨_, Try.underlying23, rfl⟩, by kernel_rfl⟩
theorem vm_agg24 : Agg Try.prog 24 5 := ⟨⟨_, Try.underlying24, rfl⟩, by kernel_rfl⟩
theorem vm_agg25 : Agg Try.prog 25 5 := ⟨⟨_, Try.underlying25, rfl⟩, by kernel_rfl⟩
theorem vm_agg26 : Agg Try.prog 26 3 := ⟨⟨_, Try.underlying26, rfl⟩, by kernel_rfl⟩
theorem vm_agg27 : Agg Try.prog 27 3 := ⟨⟨_, Try.underlying27, rfl⟩, by kernel_rfl⟩
theorem vm_agg28 : Agg Try.prog 28 2 := ⟨⟨_, Try.underlying28, rfl⟩, by kernel_rfl⟩
theorem vm_agg29 : Agg Try.prog 29 15 := ⟨⟨_, Try.underlying29, rfl⟩, by kernel_rfl⟩
theorem vm_agg30 : Agg Try.prog 30 15 := ⟨⟨_, Try.underlying30, rfl⟩, by kernel_rfl⟩
theorem vm_one31 : One Try.prog 31 := ⟨⟨_, Try.underlying31, rfl⟩, by kernel_rfl⟩
theorem vm_one32 : One Try.prog 32 := ⟨⟨_, Try.underlying32, rfl⟩, by kernel_rfl⟩
theorem vm_agg33 : Agg Try.prog 33 5 := ⟨⟨_, Try.underlying33, rfl⟩, by kernel_rfl⟩
theorem vm_agg34 : Agg Try.prog 34 5 := ⟨⟨_, Try.underlying34, rfl⟩, by kernel_rfl⟩
theorem vm_one40 : One Try.prog 40 := ⟨⟨_, Try.underlying40, rfl⟩, by kernel_rfl⟩
theorem vm_one46 : One Try.prog 46 := ⟨⟨_, Try.underlying46, rfl⟩, by kernel_rfl⟩
theorem vm_one48 : One Try.prog 48 := ⟨⟨_, Try.underlying48, rfl⟩, by kernel_rfl⟩
theorem vm_agg49 : Agg Try.prog 49 3 := ⟨⟨_, Try.underlying49, rfl⟩, by kernel_rfl⟩
theorem vm_one51 : One Try.prog 51 := ⟨⟨_, Try.underlying51, rfl⟩, by kernel_rfl⟩
theorem vm_agg55 : Agg Try.prog 55 3 := ⟨⟨_, Try.underlying55, rfl⟩, by kernel_rfl⟩
theorem vm_agg64 : Agg Try.prog 64 3 := ⟨⟨_, Try.underlying64, rfl⟩, by kernel_rfl⟩
theorem vm_one74 : One Try.prog 74 := ⟨⟨_, Try.underlying74, rfl⟩, by kernel_rfl⟩
theorem vm_agg75 : Agg Try.prog 75 2 := ⟨⟨_, Try.underlying75, rfl⟩, by kernel_rfl⟩
theorem vm_agg76 : Agg Try.prog 76 2 := ⟨⟨_, Try.underlying76, rfl⟩, by kernel_rfl⟩
theorem vm_one80 : One Try.prog 80 := ⟨⟨_, Try.underlying80, rfl⟩, by kernel_rfl⟩
theorem vm_agg81 : Agg Try.prog 81 2 := ⟨⟨_, Try.underlying81, rfl⟩, by kernel_rfl⟩
theorem vm_agg82 : Agg Try.prog 82 2 := ⟨⟨_, Try.underlying82, rfl⟩, by kernel_rfl⟩
theorem vm_one85 : One Try.prog 85 := ⟨⟨_, Try.underlying85, rfl⟩, by kernel_rfl⟩
theorem vm_agg95 : Agg Try.prog 95 4 := ⟨⟨_, Try.underlying95, rfl⟩, by kernel_rfl⟩
theorem vm_agg96 : Agg Try.prog 96 4 := ⟨⟨_, Try.underlying96, rfl⟩, by kernel_rfl⟩
theorem vm_agg97 : Agg Try.prog 97 0 := ⟨⟨_, Try.underlying97, rfl⟩, by kernel_rfl⟩
theorem vm_agg98 : Agg Try.prog 98 0 := ⟨⟨_, Try.underlying98, rfl⟩, by kernel_rfl⟩
theorem vm_agg99 : Agg Try.prog 99 0 := ⟨⟨_, Try.underlying99, rfl⟩, by kernel_rfl⟩
theorem vm_one101 : One Try.prog 101 := ⟨⟨_, Try.underlying101, rfl⟩, by kernel_rfl⟩
theorem vm_one102 : One Try.prog 102 := ⟨⟨_, Try.underlying102, rfl⟩, by kernel_rfl⟩
theorem vm_one103 : One Try.prog 103 := ⟨⟨_, Try.underlying103, rfl⟩, by kernel_rfl⟩
theorem vm_one105 : One Try.prog 105 := ⟨⟨_, Try.underlying105, rfl⟩, by kernel_rfl⟩
theorem vm_one106 : One Try.prog 106 := ⟨⟨_, Try.underlying106, rfl⟩, by kernel_rfl⟩
theorem vm_one107 : One Try.prog 107 := ⟨⟨_, Try.underlying107, rfl⟩, by kernel_rfl⟩
theorem vm_agg108 : Agg Try.prog 108 11 := ⟨⟨_, Try.underlying108, rfl⟩, by kernel_rfl⟩
theorem vm_agg109 : Agg Try.prog 109 11 := ⟨⟨_, Try.underlying109, rfl⟩, by kernel_rfl⟩

theorem eqv7 (d : Nat) (w : World) (a0 : Int) (a1 : Int) (a2 : Bool) (a3 : Int) (b0 : Int) (b1 : Int) (b2 : Bool) (b3 : Int) : (Op.equalIn (d + 2) 7 (.agg #[.int .i64 a0, .int .i64 a1, .bool a2, .int .u8 a3]) (.agg #[.int .i64 b0, .int .i64 b1, .bool b2, .int .u8 b3])).run Try.prog w = .ok ((a0 == b0) && ((a1 == b1) && ((a2 == b2) && ((a3 == b3) && true)))) w :=
  eqs_of (P := Try.prog) (d := d + 1) (xs := #[.int .i64 a0, .int .i64 a1, .bool a2, .int .u8 a3]) (ys := #[.int .i64 b0, .int .i64 b1, .bool b2, .int .u8 b3]) w Try.underlying7 (by kernel_rfl) (eqf_cons w rfl (part_one vm_one2 w _ _ rfl) (part_one vm_one2 w _ _ rfl) (run_equalIn_int w _ 2 _ _ _ _ Try.underlying2) (eqf_cons w rfl (part_one vm_one3 w _ _ rfl) (part_one vm_one3 w _ _ rfl) (run_equalIn_int w _ 3 _ _ _ _ Try.underlying3) (eqf_cons w rfl (part_one vm_one4 w _ _ rfl) (part_one vm_one4 w _ _ rfl) (run_equalIn_bool w _ 4 _ _ Try.underlying4) (eqf_cons w rfl (part_one vm_one6 w _ _ rfl) (part_one vm_one6 w _ _ rfl) (run_equalIn_int w _ 6 _ _ _ _ Try.underlying6) (eqf_nil _ _ _ w)))))

theorem eql7 (xs ys : List SV) (r : Bool) (h : eqL [.int .i64 0, .int .i64 0, .bool false, .int .u8 0] xs ys = some r) (w : World) : (Op.equalIn 10000 7 (.agg (xs.map dval).toArray) (.agg (ys.map dval).toArray)).run Try.prog w = .ok r w := by
  obtain ⟨a0, b0, xs0, ys0, r0, rfl, rfl, rfl, h0⟩ := eqL_int h
  obtain ⟨a1, b1, xs1, ys1, r1, rfl, rfl, rfl, h1⟩ := eqL_int h0
  obtain ⟨a2, b2, xs2, ys2, r2, rfl, rfl, rfl, h2⟩ := eqL_bool h1
  obtain ⟨a3, b3, xs3, ys3, r3, rfl, rfl, rfl, h3⟩ := eqL_int h2
  obtain ⟨rfl, rfl, rfl⟩ := eqL_nil h3
  have e := eqv7 9998 w a0 a1 a2 a3 b0 b1 b2 b3
  simp only [Bool.and_assoc, Bool.true_and, Bool.and_true] at e ⊢
  exact e

theorem eqv8 (d : Nat) (w : World) (a0 : Int) (a1 : Int) (a2 : Bool) (a3 : Int) (b0 : Int) (b1 : Int) (b2 : Bool) (b3 : Int) : (Op.equalIn (d + 2) 8 (.agg #[.int .i64 a0, .int .i64 a1, .bool a2, .int .u8 a3]) (.agg #[.int .i64 b0, .int .i64 b1, .bool b2, .int .u8 b3])).run Try.prog w = .ok ((a0 == b0) && ((a1 == b1) && ((a2 == b2) && ((a3 == b3) && true)))) w :=
  eqs_of (P := Try.prog) (d := d + 1) (xs := #[.int .i64 a0, .int .i64 a1, .bool a2, .int .u8 a3]) (ys := #[.int .i64 b0, .int .i64 b1, .bool b2, .int .u8 b3]) w Try.underlying8 (by kernel_rfl) (eqf_cons w rfl (part_one vm_one2 w _ _ rfl) (part_one vm_one2 w _ _ rfl) (run_equalIn_int w _ 2 _ _ _ _ Try.underlying2) (eqf_cons w rfl (part_one vm_one3 w _ _ rfl) (part_one vm_one3 w _ _ rfl) (run_equalIn_int w _ 3 _ _ _ _ Try.underlying3) (eqf_cons w rfl (part_one vm_one4 w _ _ rfl) (part_one vm_one4 w _ _ rfl) (run_equalIn_bool w _ 4 _ _ Try.underlying4) (eqf_cons w rfl (part_one vm_one6 w _ _ rfl) (part_one vm_one6 w _ _ rfl) (run_equalIn_int w _ 6 _ _ _ _ Try.underlying6) (eqf_nil _ _ _ w)))))

theorem eql8 (xs ys : List SV) (r : Bool) (h : eqL [.int .i64 0, .int .i64 0, .bool false, .int .u8 0] xs ys = some r) (w : World) : (Op.equalIn 10000 8 (.agg (xs.map dval).toArray) (.agg (ys.map dval).toArray)).run Try.prog w = .ok r w := by
  obtain ⟨a0, b0, xs0, ys0, r0, rfl, rfl, rfl, h0⟩ := eqL_int h
  obtain ⟨a1, b1, xs1, ys1, r1, rfl, rfl, rfl, h1⟩ := eqL_int h0
  obtain ⟨a2, b2, xs2, ys2, r2, rfl, rfl, rfl, h2⟩ := eqL_bool h1
  obtain ⟨a3, b3, xs3, ys3, r3, rfl, rfl, rfl, h3⟩ := eqL_int h2
  obtain ⟨rfl, rfl, rfl⟩ := eqL_nil h3
  have e := eqv8 9998 w a0 a1 a2 a3 b0 b1 b2 b3
  simp only [Bool.and_assoc, Bool.true_and, Bool.and_true] at e ⊢
  exact e

theorem eqv26 (d : Nat) (w : World) (a0 : Int) (a1 : Int) (a2 : Int) (b0 : Int) (b1 : Int) (b2 : Int) : (Op.equalIn (d + 2) 26 (.agg #[.int .i64 a0, .int .i64 a1, .int .i64 a2]) (.agg #[.int .i64 b0, .int .i64 b1, .int .i64 b2])).run Try.prog w = .ok ((a0 == b0) && ((a1 == b1) && ((a2 == b2) && true))) w :=
  eqs_of (P := Try.prog) (d := d + 1) (xs := #[.int .i64 a0, .int .i64 a1, .int .i64 a2]) (ys := #[.int .i64 b0, .int .i64 b1, .int .i64 b2]) w Try.underlying26 (by kernel_rfl) (eqf_cons w rfl (part_one vm_one2 w _ _ rfl) (part_one vm_one2 w _ _ rfl) (run_equalIn_int w _ 2 _ _ _ _ Try.underlying2) (eqf_cons w rfl (part_one vm_one2 w _ _ rfl) (part_one vm_one2 w _ _ rfl) (run_equalIn_int w _ 2 _ _ _ _ Try.underlying2) (eqf_cons w rfl (part_one vm_one2 w _ _ rfl) (part_one vm_one2 w _ _ rfl) (run_equalIn_int w _ 2 _ _ _ _ Try.underlying2) (eqf_nil _ _ _ w))))

theorem eql26 (xs ys : List SV) (r : Bool) (h : eqL [.int .i64 0, .int .i64 0, .int .i64 0] xs ys = some r) (w : World) : (Op.equalIn 10000 26 (.agg (xs.map dval).toArray) (.agg (ys.map dval).toArray)).run Try.prog w = .ok r w := by
  obtain ⟨a0, b0, xs0, ys0, r0, rfl, rfl, rfl, h0⟩ := eqL_int h
  obtain ⟨a1, b1, xs1, ys1, r1, rfl, rfl, rfl, h1⟩ := eqL_int h0
  obtain ⟨a2, b2, xs2, ys2, r2, rfl, rfl, rfl, h2⟩ := eqL_int h1
  obtain ⟨rfl, rfl, rfl⟩ := eqL_nil h2
  have e := eqv26 9998 w a0 a1 a2 b0 b1 b2
  simp only [Bool.and_assoc, Bool.true_and, Bool.and_true] at e ⊢
  exact e

theorem eqv27 (d : Nat) (w : World) (a0 : Int) (a1 : Int) (a2 : Int) (b0 : Int) (b1 : Int) (b2 : Int) : (Op.equalIn (d + 2) 27 (.agg #[.int .i64 a0, .int .i64 a1, .int .i64 a2]) (.agg #[.int .i64 b0, .int .i64 b1, .int .i64 b2])).run Try.prog w = .ok ((a0 == b0) && ((a1 == b1) && ((a2 == b2) && true))) w :=
  eqs_of (P := Try.prog) (d := d + 1) (xs := #[.int .i64 a0, .int .i64 a1, .int .i64 a2]) (ys := #[.int .i64 b0, .int .i64 b1, .int .i64 b2]) w Try.underlying27 (by kernel_rfl) (eqf_cons w rfl (part_one vm_one2 w _ _ rfl) (part_one vm_one2 w _ _ rfl) (run_equalIn_int w _ 2 _ _ _ _ Try.underlying2) (eqf_cons w rfl (part_one vm_one2 w _ _ rfl) (part_one vm_one2 w _ _ rfl) (run_equalIn_int w _ 2 _ _ _ _ Try.underlying2) (eqf_cons w rfl (part_one vm_one2 w _ _ rfl) (part_one vm_one2 w _ _ rfl) (run_equalIn_int w _ 2 _ _ _ _ Try.underlying2) (eqf_nil _ _ _ w))))

theorem eql27 (xs ys : List SV) (r : Bool) (h : eqL [.int .i64 0, .int .i64 0, .int .i64 0] xs ys = some r) (w : World) : (Op.equalIn 10000 27 (.agg (xs.map dval).toArray) (.agg (ys.map dval).toArray)).run Try.prog w = .ok r w := by
  obtain ⟨a0, b0, xs0, ys0, r0, rfl, rfl, rfl, h0⟩ := eqL_int h
  obtain ⟨a1, b1, xs1, ys1, r1, rfl, rfl, rfl, h1⟩ := eqL_int h0
  obtain ⟨a2, b2, xs2, ys2, r2, rfl, rfl, rfl, h2⟩ := eqL_int h1
  obtain ⟨rfl, rfl, rfl⟩ := eqL_nil h2
  have e := eqv27 9998 w a0 a1 a2 b0 b1 b2
  simp only [Bool.and_assoc, Bool.true_and, Bool.and_true] at e ⊢
  exact e

theorem eqv28 (d : Nat) (w : World) (a0 : Int) (a1 : Int) (b0 : Int) (b1 : Int) : (Op.equalIn (d + 2) 28 (.agg #[.int .i64 a0, .int .i64 a1]) (.agg #[.int .i64 b0, .int .i64 b1])).run Try.prog w = .ok ((a0 == b0) && (a1 == b1)) w :=
  eqa_two (d := d + 1) (n := 1) w Try.underlying28 vm_one3.size (part_one vm_one3 w _ _ rfl) (part_one vm_one3 w _ _ rfl) (part_one vm_one3 w _ _ rfl) (part_one vm_one3 w _ _ rfl) (run_equalIn_int w _ 3 _ _ _ _ Try.underlying3) (run_equalIn_int w _ 3 _ _ _ _ Try.underlying3)

theorem eql28 (xs ys : List SV) (r : Bool) (h : eqL [.int .i64 0, .int .i64 0] xs ys = some r) (w : World) : (Op.equalIn 10000 28 (.agg (xs.map dval).toArray) (.agg (ys.map dval).toArray)).run Try.prog w = .ok r w := by
  obtain ⟨a0, b0, xs0, ys0, r0, rfl, rfl, rfl, h0⟩ := eqL_int h
  obtain ⟨a1, b1, xs1, ys1, r1, rfl, rfl, rfl, h1⟩ := eqL_int h0
  obtain ⟨rfl, rfl, rfl⟩ := eqL_nil h1
  have e := eqv28 9998 w a0 a1 b0 b1
  simp only [Bool.and_assoc, Bool.true_and, Bool.and_true] at e ⊢
  exact e

theorem eqv33 (d : Nat) (w : World) (a0 : Int) (a1 : Int) (a2 : Int) (a3 : Int) (a4 : Int) (b0 : Int) (b1 : Int) (b2 : Int) (b3 : Int) (b4 : Int) : (Op.equalIn (d + 2) 33 (.agg #[.int .u16 a0, .int .u8 a1, .int .i8 a2, .int .i8 a3, .int .i64 a4]) (.agg #[.int .u16 b0, .int .u8 b1, .int .i8 b2, .int .i8 b3, .int .i64 b4])).run Try.prog w = .ok ((a0 == b0) && ((a1 == b1) && ((a2 == b2) && ((a3 == b3) && ((a4 == b4) && true))))) w :=
  eqs_of (P := Try.prog) (d := d + 1) (xs := #[.int .u16 a0, .int .u8 a1, .int .i8 a2, .int .i8 a3, .int .i64 a4]) (ys := #[.int .u16 b0, .int .u8 b1, .int .i8 b2, .int .i8 b3, .int .i64 b4]) w Try.underlying33 (by kernel_rfl) (eqf_cons w rfl (part_one vm_one31 w _ _ rfl) (part_one vm_one31 w _ _ rfl) (run_equalIn_int w _ 31 _ _ _ _ Try.underlying31) (eqf_cons w rfl (part_one vm_one5 w _ _ rfl) (part_one vm_one5 w _ _ rfl) (run_equalIn_int w _ 5 _ _ _ _ Try.underlying5) (eqf_cons w rfl (part_one vm_one32 w _ _ rfl) (part_one vm_one32 w _ _ rfl) (run_equalIn_int w _ 32 _ _ _ _ Try.underlying32) (eqf_cons w rfl (part_one vm_one32 w _ _ rfl) (part_one vm_one32 w _ _ rfl) (run_equalIn_int w _ 32 _ _ _ _ Try.underlying32) (eqf_cons w rfl (part_one vm_one3 w _ _ rfl) (part_one vm_one3 w _ _ rfl) (run_equalIn_int w _ 3 _ _ _ _ Try.underlying3) (eqf_nil _ _ _ w))))))

theorem eql33 (xs ys : List SV) (r : Bool) (h : eqL [.int .u16 0, .int .u8 0, .int .i8 0, .int .i8 0, .int .i64 0] xs ys = some r) (w : World) : (Op.equalIn 10000 33 (.agg (xs.map dval).toArray) (.agg (ys.map dval).toArray)).run Try.prog w = .ok r w := by
  obtain ⟨a0, b0, xs0, ys0, r0, rfl, rfl, rfl, h0⟩ := eqL_int h
  obtain ⟨a1, b1, xs1, ys1, r1, rfl, rfl, rfl, h1⟩ := eqL_int h0
  obtain ⟨a2, b2, xs2, ys2, r2, rfl, rfl, rfl, h2⟩ := eqL_int h1
  obtain ⟨a3, b3, xs3, ys3, r3, rfl, rfl, rfl, h3⟩ := eqL_int h2
  obtain ⟨a4, b4, xs4, ys4, r4, rfl, rfl, rfl, h4⟩ := eqL_int h3
  obtain ⟨rfl, rfl, rfl⟩ := eqL_nil h4
  have e := eqv33 9998 w a0 a1 a2 a3 a4 b0 b1 b2 b3 b4
  simp only [Bool.and_assoc, Bool.true_and, Bool.and_true] at e ⊢
  exact e

theorem eqv34 (d : Nat) (w : World) (a0 : Int) (a1 : Int) (a2 : Int) (a3 : Int) (a4 : Int) (b0 : Int) (b1 : Int) (b2 : Int) (b3 : Int) (b4 : Int) : (Op.equalIn (d + 2) 34 (.agg #[.int .u16 a0, .int .u8 a1, .int .i8 a2, .int .i8 a3, .int .i64 a4]) (.agg #[.int .u16 b0, .int .u8 b1, .int .i8 b2, .int .i8 b3, .int .i64 b4])).run Try.prog w = .ok ((a0 == b0) && ((a1 == b1) && ((a2 == b2) && ((a3 == b3) && ((a4 == b4) && true))))) w :=
  eqs_of (P := Try.prog) (d := d + 1) (xs := #[.int .u16 a0, .int .u8 a1, .int .i8 a2, .int .i8 a3, .int .i64 a4]) (ys := #[.int .u16 b0, .int .u8 b1, .int .i8 b2, .int .i8 b3, .int .i64 b4]) w Try.underlying34 (by kernel_rfl) (eqf_cons w rfl (part_one vm_one31 w _ _ rfl) (part_one vm_one31 w _ _ rfl) (run_equalIn_int w _ 31 _ _ _ _ Try.underlying31) (eqf_cons w rfl (part_one vm_one5 w _ _ rfl) (part_one vm_one5 w _ _ rfl) (run_equalIn_int w _ 5 _ _ _ _ Try.underlying5) (eqf_cons w rfl (part_one vm_one32 w _ _ rfl) (part_one vm_one32 w _ _ rfl) (run_equalIn_int w _ 32 _ _ _ _ Try.underlying32) (eqf_cons w rfl (part_one vm_one32 w _ _ rfl) (part_one vm_one32 w _ _ rfl) (run_equalIn_int w _ 32 _ _ _ _ Try.underlying32) (eqf_cons w rfl (part_one vm_one3 w _ _ rfl) (part_one vm_one3 w _ _ rfl) (run_equalIn_int w _ 3 _ _ _ _ Try.underlying3) (eqf_nil _ _ _ w))))))

theorem eql34 (xs ys : List SV) (r : Bool) (h : eqL [.int .u16 0, .int .u8 0, .int .i8 0, .int .i8 0, .int .i64 0] xs ys = some r) (w : World) : (Op.equalIn 10000 34 (.agg (xs.map dval).toArray) (.agg (ys.map dval).toArray)).run Try.prog w = .ok r w := by
  obtain ⟨a0, b0, xs0, ys0, r0, rfl, rfl, rfl, h0⟩ := eqL_int h
  obtain ⟨a1, b1, xs1, ys1, r1, rfl, rfl, rfl, h1⟩ := eqL_int h0
  obtain ⟨a2, b2, xs2, ys2, r2, rfl, rfl, rfl, h2⟩ := eqL_int h1
  obtain ⟨a3, b3, xs3, ys3, r3, rfl, rfl, rfl, h3⟩ := eqL_int h2
  obtain ⟨a4, b4, xs4, ys4, r4, rfl, rfl, rfl, h4⟩ := eqL_int h3
  obtain ⟨rfl, rfl, rfl⟩ := eqL_nil h4
  have e := eqv34 9998 w a0 a1 a2 a3 a4 b0 b1 b2 b3 b4
  simp only [Bool.and_assoc, Bool.true_and, Bool.and_true] at e ⊢
  exact e

theorem eqv55 (d : Nat) (w : World) (a0 : Bool) (a1 : Bool) (a2 : Bool) (b0 : Bool) (b1 : Bool) (b2 : Bool) : (Op.equalIn (d + 2) 55 (.agg #[.bool a0, .bool a1, .bool a2]) (.agg #[.bool b0, .bool b1, .bool b2])).run Try.prog w = .ok ((a0 == b0) && ((a1 == b1) && (a2 == b2))) w :=
  eqa_three (d := d + 1) (n := 1) w Try.underlying55 vm_one4.size (part_one vm_one4 w _ _ rfl) (part_one vm_one4 w _ _ rfl) (part_one vm_one4 w _ _ rfl) (part_one vm_one4 w _ _ rfl) (part_one vm_one4 w _ _ rfl) (part_one vm_one4 w _ _ rfl) (run_equalIn_bool w _ 4 _ _ Try.underlying4) (run_equalIn_bool w _ 4 _ _ Try.underlying4) (run_equalIn_bool w _ 4 _ _ Try.underlying4)

theorem eql55 (xs ys : List SV) (r : Bool) (h : eqL [.bool false, .bool false, .bool false] xs ys = some r) (w : World) : (Op.equalIn 10000 55 (.agg (xs.map dval).toArray) (.agg (ys.map dval).toArray)).run Try.prog w = .ok r w := by
  obtain ⟨a0, b0, xs0, ys0, r0, rfl, rfl, rfl, h0⟩ := eqL_bool h
  obtain ⟨a1, b1, xs1, ys1, r1, rfl, rfl, rfl, h1⟩ := eqL_bool h0
  obtain ⟨a2, b2, xs2, ys2, r2, rfl, rfl, rfl, h2⟩ := eqL_bool h1
  obtain ⟨rfl, rfl, rfl⟩ := eqL_nil h2
  have e := eqv55 9998 w a0 a1 a2 b0 b1 b2
  simp only [Bool.and_assoc, Bool.true_and, Bool.and_true] at e ⊢
  exact e

theorem eqv64 (d : Nat) (w : World) (a0 : Int) (a1 : Int) (a2 : Int) (b0 : Int) (b1 : Int) (b2 : Int) : (Op.equalIn (d + 2) 64 (.agg #[.int .i64 a0, .int .i64 a1, .int .i64 a2]) (.agg #[.int .i64 b0, .int .i64 b1, .int .i64 b2])).run Try.prog w = .ok ((a0 == b0) && ((a1 == b1) && (a2 == b2))) w :=
  eqa_three (d := d + 1) (n := 1) w Try.underlying64 vm_one2.size (part_one vm_one2 w _ _ rfl) (part_one vm_one2 w _ _ rfl) (part_one vm_one2 w _ _ rfl) (part_one vm_one2 w _ _ rfl) (part_one vm_one2 w _ _ rfl) (part_one vm_one2 w _ _ rfl) (run_equalIn_int w _ 2 _ _ _ _ Try.underlying2) (run_equalIn_int w _ 2 _ _ _ _ Try.underlying2) (run_equalIn_int w _ 2 _ _ _ _ Try.underlying2)

theorem eql64 (xs ys : List SV) (r : Bool) (h : eqL [.int .i64 0, .int .i64 0, .int .i64 0] xs ys = some r) (w : World) : (Op.equalIn 10000 64 (.agg (xs.map dval).toArray) (.agg (ys.map dval).toArray)).run Try.prog w = .ok r w := by
  obtain ⟨a0, b0, xs0, ys0, r0, rfl, rfl, rfl, h0⟩ := eqL_int h
  obtain ⟨a1, b1, xs1, ys1, r1, rfl, rfl, rfl, h1⟩ := eqL_int h0
  obtain ⟨a2, b2, xs2, ys2, r2, rfl, rfl, rfl, h2⟩ := eqL_int h1
  obtain ⟨rfl, rfl, rfl⟩ := eqL_nil h2
  have e := eqv64 9998 w a0 a1 a2 b0 b1 b2
  simp only [Bool.and_assoc, Bool.true_and, Bool.and_true] at e ⊢
  exact e

theorem eqv75 (d : Nat) (w : World) (a0 : Int) (a1 : Int) (b0 : Int) (b1 : Int) : (Op.equalIn (d + 2) 75 (.agg #[.int .u64 a0, .int .u64 a1]) (.agg #[.int .u64 b0, .int .u64 b1])).run Try.prog w = .ok ((a0 == b0) && ((a1 == b1) && true)) w :=
  eqs_of (P := Try.prog) (d := d + 1) (xs := #[.int .u64 a0, .int .u64 a1]) (ys := #[.int .u64 b0, .int .u64 b1]) w Try.underlying75 (by kernel_rfl) (eqf_cons w rfl (part_one vm_one74 w _ _ rfl) (part_one vm_one74 w _ _ rfl) (run_equalIn_int w _ 74 _ _ _ _ Try.underlying74) (eqf_cons w rfl (part_one vm_one74 w _ _ rfl) (part_one vm_one74 w _ _ rfl) (run_equalIn_int w _ 74 _ _ _ _ Try.underlying74) (eqf_nil _ _ _ w)))

theorem eql75 (xs ys : List SV) (r : Bool) (h : eqL [.int .u64 0, .int .u64 0] xs ys = some r) (w : World) : (Op.equalIn 10000 75 (.agg (xs.map dval).toArray) (.agg (ys.map dval).toArray)).run Try.prog w = .ok r w := by
  obtain ⟨a0, b0, xs0, ys0, r0, rfl, rfl, rfl, h0⟩ := eqL_int h
  obtain ⟨a1, b1, xs1, ys1, r1, rfl, rfl, rfl, h1⟩ := eqL_int h0
  obtain ⟨rfl, rfl, rfl⟩ := eqL_nil h1
  have e := eqv75 9998 w a0 a1 b0 b1
  simp only [Bool.and_assoc, Bool.true_and, Bool.and_true] at e ⊢
  exact e

theorem eqv76 (d : Nat) (w : World) (a0 : Int) (a1 : Int) (b0 : Int) (b1 : Int) : (Op.equalIn (d + 2) 76 (.agg #[.int .u64 a0, .int .u64 a1]) (.agg #[.int .u64 b0, .int .u64 b1])).run Try.prog w = .ok ((a0 == b0) && ((a1 == b1) && true)) w :=
  eqs_of (P := Try.prog) (d := d + 1) (xs := #[.int .u64 a0, .int .u64 a1]) (ys := #[.int .u64 b0, .int .u64 b1]) w Try.underlying76 (by kernel_rfl) (eqf_cons w rfl (part_one vm_one74 w _ _ rfl) (part_one vm_one74 w _ _ rfl) (run_equalIn_int w _ 74 _ _ _ _ Try.underlying74) (eqf_cons w rfl (part_one vm_one74 w _ _ rfl) (part_one vm_one74 w _ _ rfl) (run_equalIn_int w _ 74 _ _ _ _ Try.underlying74) (eqf_nil _ _ _ w)))

theorem eql76 (xs ys : List SV) (r : Bool) (h : eqL [.int .u64 0, .int .u64 0] xs ys = some r) (w : World) : (Op.equalIn 10000 76 (.agg (xs.map dval).toArray) (.agg (ys.map dval).toArray)).run Try.prog w = .ok r w := by
  obtain ⟨a0, b0, xs0, ys0, r0, rfl, rfl, rfl, h0⟩ := eqL_int h
  obtain ⟨a1, b1, xs1, ys1, r1, rfl, rfl, rfl, h1⟩ := eqL_int h0
  obtain ⟨rfl, rfl, rfl⟩ := eqL_nil h1
  have e := eqv76 9998 w a0 a1 b0 b1
  simp only [Bool.and_assoc, Bool.true_and, Bool.and_true] at e ⊢
  exact e

theorem eqv29 (d : Nat) (w : World) (a0 : Int) (a1 : Int) (a2 : Int) (a3 : Int) (a4 : Int) (a5 : Int) (a6 : Int) (a7 : Bool) (a8 : Int) (a9 : Int) (a10 : Int) (a11 : Int) (a12 : Int) (a13 : Int) (a14 : Int) (b0 : Int) (b1 : Int) (b2 : Int) (b3 : Int) (b4 : Int) (b5 : Int) (b6 : Int) (b7 : Bool) (b8 : Int) (b9 : Int) (b10 : Int) (b11 : Int) (b12 : Int) (b13 : Int) (b14 : Int) : (Op.equalIn (d + 3) 29 (.agg #[.int .i64 a0, .int .i64 a1, .int .i64 a2, .int .i64 a3, .int .i64 a4, .int .i64 a5, .int .i64 a6, .bool a7, .int .i64 a8, .int .i64 a9, .int .i64 a10, .int .i64 a11, .int .i64 a12, .int .i64 a13, .int .i64 a14]) (.agg #[.int .i64 b0, .int .i64 b1, .int .i64 b2, .int .i64 b3, .int .i64 b4, .int .i64 b5, .int .i64 b6, .bool b7, .int .i64 b8, .int .i64 b9, .int .i64 b10, .int .i64 b11, .int .i64 b12, .int .i64 b13, .int .i64 b14])).run Try.prog w = .ok ((a0 == b0) && (((a1 == b1) && ((a2 == b2) && ((a3 == b3) && true))) && (((a4 == b4) && ((a5 == b5) && ((a6 == b6) && true))) && ((a7 == b7) && ((a8 == b8) && ((a9 == b9) && ((a10 == b10) && (((a11 == b11) && (a12 == b12)) && ((a13 == b13) && ((a14 == b14) && true)))))))))) w :=
  eqs_of (P := Try.prog) (d := d + 2) (xs := #[.int .i64 a0, .int .i64 a1, .int .i64 a2, .int .i64 a3, .int .i64 a4, .int .i64 a5, .int .i64 a6, .bool a7, .int .i64 a8, .int .i64 a9, .int .i64 a10, .int .i64 a11, .int .i64 a12, .int .i64 a13, .int .i64 a14]) (ys := #[.int .i64 b0, .int .i64 b1, .int .i64 b2, .int .i64 b3, .int .i64 b4, .int .i64 b5, .int .i64 b6, .bool b7, .int .i64 b8, .int .i64 b9, .int .i64 b10, .int .i64 b11, .int .i64 b12, .int .i64 b13, .int .i64 b14]) w Try.underlying29 (by kernel_rfl) (eqf_cons w rfl (part_one vm_one3 w _ _ rfl) (part_one vm_one3 w _ _ rfl) (run_equalIn_int w _ 3 _ _ _ _ Try.underlying3) (eqf_cons w rfl (part_agg vm_agg27 w _ _ rfl) (part_agg vm_agg27 w _ _ rfl) (eqv27 _ w a1 a2 a3 b1 b2 b3) (eqf_cons w rfl (part_agg vm_agg27 w _ _ rfl) (part_agg vm_agg27 w _ _ rfl) (eqv27 _ w a4 a5 a6 b4 b5 b6) (eqf_cons w rfl (part_one vm_one4 w _ _ rfl) (part_one vm_one4 w _ _ rfl) (run_equalIn_bool w _ 4 _ _ Try.underlying4) (eqf_cons w rfl (part_one vm_one3 w _ _ rfl) (part_one vm_one3 w _ _ rfl) (run_equalIn_int w _ 3 _ _ _ _ Try.underlying3) (eqf_cons w rfl (part_one vm_one3 w _ _ rfl) (part_one vm_one3 w _ _ rfl) (run_equalIn_int w _ 3 _ _ _ _ Try.underlying3) (eqf_cons w rfl (part_one vm_one3 w _ _ rfl) (part_one vm_one3 w _ _ rfl) (run_equalIn_int w _ 3 _ _ _ _ Try.underlying3) (eqf_cons w rfl (part_agg vm_agg28 w _ _ rfl) (part_agg vm_agg28 w _ _ rfl) (eqv28 _ w a11 a12 b11 b12) (eqf_cons w rfl (part_one vm_one3 w _ _ rfl) (part_one vm_one3 w _ _ rfl) (run_equalIn_int w _ 3 _ _ _ _ Try.underlying3) (eqf_cons w rfl (part_one vm_one3 w _ _ rfl) (part_one vm_one3 w _ _ rfl) (run_equalIn_int w _ 3 _ _ _ _ Try.underlying3) (eqf_nil _ _ _ w)))))))))))

theorem eql29 (xs ys : List SV) (r : Bool) (h : eqL [.int .i64 0, .int .i64 0, .int .i64 0, .int .i64 0, .int .i64 0, .int .i64 0, .int .i64 0, .bool false, .int .i64 0, .int .i64 0, .int .i64 0, .int .i64 0, .int .i64 0, .int .i64 0, .int .i64 0] xs ys = some r) (w : World) : (Op.equalIn 10000 29 (.agg (xs.map dval).toArray) (.agg (ys.map dval).toArray)).run Try.prog w = .ok r w := by
  obtain ⟨a0, b0, xs0, ys0, r0, rfl, rfl, rfl, h0⟩ := eqL_int h
  obtain ⟨a1, b1, xs1, ys1, r1, rfl, rfl, rfl, h1⟩ := eqL_int h0
  obtain ⟨a2, b2, xs2, ys2, r2, rfl, rfl, rfl, h2⟩ := eqL_int h1
  obtain ⟨a3, b3, xs3, ys3, r3, rfl, rfl, rfl, h3⟩ := eqL_int h2
  obtain ⟨a4, b4, xs4, ys4, r4, rfl, rfl, rfl, h4⟩ := eqL_int h3
  obtain ⟨a5, b5, xs5, ys5, r5, rfl, rfl, rfl, h5⟩ := eqL_int h4
  obtain ⟨a6, b6, xs6, ys6, r6, rfl, rfl, rfl, h6⟩ := eqL_int h5
  obtain ⟨a7, b7, xs7, ys7, r7, rfl, rfl, rfl, h7⟩ := eqL_bool h6
  obtain ⟨a8, b8, xs8, ys8, r8, rfl, rfl, rfl, h8⟩ := eqL_int h7
  obtain ⟨a9, b9, xs9, ys9, r9, rfl, rfl, rfl, h9⟩ := eqL_int h8
  obtain ⟨a10, b10, xs10, ys10, r10, rfl, rfl, rfl, h10⟩ := eqL_int h9
  obtain ⟨a11, b11, xs11, ys11, r11, rfl, rfl, rfl, h11⟩ := eqL_int h10
  obtain ⟨a12, b12, xs12, ys12, r12, rfl, rfl, rfl, h12⟩ := eqL_int h11
  obtain ⟨a13, b13, xs13, ys13, r13, rfl, rfl, rfl, h13⟩ := eqL_int h12
  obtain ⟨a14, b14, xs14, ys14, r14, rfl, rfl, rfl, h14⟩ := eqL_int h13
  obtain ⟨rfl, rfl, rfl⟩ := eqL_nil h14
  have e := eqv29 9997 w a0 a1 a2 a3 a4 a5 a6 a7 a8 a9 a10 a11 a12 a13 a14 b0 b1 b2 b3 b4 b5 b6 b7 b8 b9 b10 b11 b12 b13 b14
  simp only [Bool.and_assoc, Bool.true_and, Bool.and_true] at e ⊢
  exact e

theorem eqv30 (d : Nat) (w : World) (a0 : Int) (a1 : Int) (a2 : Int) (a3 : Int) (a4 : Int) (a5 : Int) (a6 : Int) (a7 : Bool) (a8 : Int) (a9 : Int) (a10 : Int) (a11 : Int) (a12 : Int) (a13 : Int) (a14 : Int) (b0 : Int) (b1 : Int) (b2 : Int) (b3 : Int) (b4 : Int) (b5 : Int) (b6 : Int) (b7 : Bool) (b8 : Int) (b9 : Int) (b10 : Int) (b11 : Int) (b12 : Int) (b13 : Int) (b14 : Int) : (Op.equalIn (d + 3) 30 (.agg #[.int .i64 a0, .int .i64 a1, .int .i64 a2, .int .i64 a3, .int .i64 a4, .int .i64 a5, .int .i64 a6, .bool a7, .int .i64 a8, .int .i64 a9, .int .i64 a10, .int .i64 a11, .int .i64 a12, .int .i64 a13, .int .i64 a14]) (.agg #[.int .i64 b0, .int .i64 b1, .int .i64 b2, .int .i64 b3, .int .i64 b4, .int .i64 b5, .int .i64 b6, .bool b7, .int .i64 b8, .int .i64 b9, .int .i64 b10, .int .i64 b11, .int .i64 b12, .int .i64 b13, .int .i64 b14])).run Try.prog w = .ok ((a0 == b0) && (((a1 == b1) && ((a2 == b2) && ((a3 == b3) && true))) && (((a4 == b4) && ((a5 == b5) && ((a6 == b6) && true))) && ((a7 == b7) && ((a8 == b8) && ((a9 == b9) && ((a10 == b10) && (((a11 == b11) && (a12 == b12)) && ((a13 == b13) && ((a14 == b14) && true)))))))))) w :=
  eqs_of (P := Try.prog) (d := d + 2) (xs := #[.int .i64 a0, .int .i64 a1, .int .i64 a2, .int .i64 a3, .int .i64 a4, .int .i64 a5, .int .i64 a6, .bool a7, .int .i64 a8, .int .i64 a9, .int .i64 a10, .int .i64 a11, .int .i64 a12, .int .i64 a13, .int .i64 a14]) (ys := #[.int .i64 b0, .int .i64 b1, .int .i64 b2, .int .i64 b3, .int .i64 b4, .int .i64 b5, .int .i64 b6, .bool b7, .int .i64 b8, .int .i64 b9, .int .i64 b10, .int .i64 b11, .int .i64 b12, .int .i64 b13, .int .i64 b14]) w Try.underlying30 (by kernel_rfl) (eqf_cons w rfl (part_one vm_one3 w _ _ rfl) (part_one vm_one3 w _ _ rfl) (run_equalIn_int w _ 3 _ _ _ _ Try.underlying3) (eqf_cons w rfl (part_agg vm_agg27 w _ _ rfl) (part_agg vm_agg27 w _ _ rfl) (eqv27 _ w a1 a2 a3 b1 b2 b3) (eqf_cons w rfl (part_agg vm_agg27 w _ _ rfl) (part_agg vm_agg27 w _ _ rfl) (eqv27 _ w a4 a5 a6 b4 b5 b6) (eqf_cons w rfl (part_one vm_one4 w _ _ rfl) (part_one vm_one4 w _ _ rfl) (run_equalIn_bool w _ 4 _ _ Try.underlying4) (eqf_cons w rfl (part_one vm_one3 w _ _ rfl) (part_one vm_one3 w _ _ rfl) (run_equalIn_int w _ 3 _ _ _ _ Try.underlying3) (eqf_cons w rfl (part_one vm_one3 w _ _ rfl) (part_one vm_one3 w _ _ rfl) (run_equalIn_int w _ 3 _ _ _ _ Try.underlying3) (eqf_cons w rfl (part_one vm_one3 w _ _ rfl) (part_one vm_one3 w _ _ rfl) (run_equalIn_int w _ 3 _ _ _ _ Try.underlying3) (eqf_cons w rfl (part_agg vm_agg28 w _ _ rfl) (part_agg vm_agg28 w _ _ rfl) (eqv28 _ w a11 a12 b11 b12) (eqf_cons w rfl (part_one vm_one3 w _ _ rfl) (part_one vm_one3 w _ _ rfl) (run_equalIn_int w _ 3 _ _ _ _ Try.underlying3) (eqf_cons w rfl (part_one vm_one3 w _ _ rfl) (part_one vm_one3 w _ _ rfl) (run_equalIn_int w _ 3 _ _ _ _ Try.underlying3) (eqf_nil _ _ _ w)))))))))))

theorem eql30 (xs ys : List SV) (r : Bool) (h : eqL [.int .i64 0, .int .i64 0, .int .i64 0, .int .i64 0, .int .i64 0, .int .i64 0, .int .i64 0, .bool false, .int .i64 0, .int .i64 0, .int .i64 0, .int .i64 0, .int .i64 0, .int .i64 0, .int .i64 0] xs ys = some r) (w : World) : (Op.equalIn 10000 30 (.agg (xs.map dval).toArray) (.agg (ys.map dval).toArray)).run Try.prog w = .ok r w := by
  obtain ⟨a0, b0, xs0, ys0, r0, rfl, rfl, rfl, h0⟩ := eqL_int h
  obtain ⟨a1, b1, xs1, ys1, r1, rfl, rfl, rfl, h1⟩ := eqL_int h0
  obtain ⟨a2, b2, xs2, ys2, r2, rfl, rfl, rfl, h2⟩ := eqL_int h1
  obtain ⟨a3, b3, xs3, ys3, r3, rfl, rfl, rfl, h3⟩ := eqL_int h2
  obtain ⟨a4, b4, xs4, ys4, r4, rfl, rfl, rfl, h4⟩ := eqL_int h3
  obtain ⟨a5, b5, xs5, ys5, r5, rfl, rfl, rfl, h5⟩ := eqL_int h4
  obtain ⟨a6, b6, xs6, ys6, r6, rfl, rfl, rfl, h6⟩ := eqL_int h5
  obtain ⟨a7, b7, xs7, ys7, r7, rfl, rfl, rfl, h7⟩ := eqL_bool h6
  obtain ⟨a8, b8, xs8, ys8, r8, rfl, rfl, rfl, h8⟩ := eqL_int h7
  obtain ⟨a9, b9, xs9, ys9, r9, rfl, rfl, rfl, h9⟩ := eqL_int h8
  obtain ⟨a10, b10, xs10, ys10, r10, rfl, rfl, rfl, h10⟩ := eqL_int h9
  obtain ⟨a11, b11, xs11, ys11, r11, rfl, rfl, rfl, h11⟩ := eqL_int h10
  obtain ⟨a12, b12, xs12, ys12, r12, rfl, rfl, rfl, h12⟩ := eqL_int h11
  obtain ⟨a13, b13, xs13, ys13, r13, rfl, rfl, rfl, h13⟩ := eqL_int h12
  obtain ⟨a14, b14, xs14, ys14, r14, rfl, rfl, rfl, h14⟩ := eqL_int h13
  obtain ⟨rfl, rfl, rfl⟩ := eqL_nil h14
  have e := eqv30 9997 w a0 a1 a2 a3 a4 a5 a6 a7 a8 a9 a10 a11 a12 a13 a14 b0 b1 b2 b3 b4 b5 b6 b7 b8 b9 b10 b11 b12 b13 b14
  simp only [Bool.and_assoc, Bool.true_and, Bool.and_true] at e ⊢
  exact e

def vmT : Nat → Option TI
  | 2 => some ⟨.int .i64, 1, [.int .i64 0], 8, some .i64, false⟩
  | 3 => some ⟨.int .i64, 1, [.int .i64 0], 8, some .i64, false⟩
  | 4 => some ⟨.bool, 1, [.bool false], 1, some .bool, false⟩
  | 5 => some ⟨.int .u8, 1, [.int .u8 0], 1, none, false⟩
  | 6 => some ⟨.int .u8, 1, [.int .u8 0], 1, none, false⟩
  | 7 => some ⟨.struct [(0, 2), (1, 3), (2, 4), (3, 6)], 4, [.int .i64 0, .int .i64 0, .bool false, .int .u8 0], 24, none, true⟩
  | 8 => some ⟨.struct [(0, 2), (1, 3), (2, 4), (3, 6)], 4, [.int .i64 0, .int .i64 0, .bool false, .int .u8 0], 24, none, true⟩
  | 12 => some ⟨.int .u64, 1, [.int .u64 0], 8, none, false⟩
  | 15 => some ⟨.ptr 96, 1, [.nilp], 8, none, false⟩
  | 16 => some ⟨.ptr 99, 1, [.nilp], 8, none, false⟩
  | 17 => some ⟨.ptr 109, 1, [.nilp], 8, none, false⟩
  | 18 => some ⟨.struct [(0, 17)], 1, [.nilp], 8, none, false⟩
  | 19 => some ⟨.struct [(0, 17)], 1, [.nilp], 8, none, false⟩
  | 21 => some ⟨.int .i32, 1, [.int .i32 0], 4, none, false⟩
  | 22 => some ⟨.slice 4, 1, [.nils], 24, none, false⟩
  | 23 => some ⟨.slice 27, 1, [.nils], 24, none, false⟩
  | 24 => some ⟨.struct [(0, 3), (1, 3), (2, 3), (3, 22), (4, 23)], 5, [.int .i64 0, .int .i64 0, .int .i64 0, .nils, .nils], 72, none, false⟩
  | 25 => some ⟨.struct [(0, 3), (1, 3), (2, 3), (3, 22), (4, 23)], 5, [.int .i64 0, .int .i64 0, .int .i64 0, .nils, .nils], 72, none, false⟩
  | 26 => some ⟨.struct [(0, 2), (1, 2), (2, 2)], 3, [.int .i64 0, .int .i64 0, .int .i64 0], 24, none, true⟩
  | 27 => some ⟨.struct [(0, 2), (1, 2), (2, 2)], 3, [.int .i64 0, .int .i64 0, .int .i64 0], 24, some .vec, true⟩
  | 28 => some ⟨.array 2 3, 2, [.int .i64 0, .int .i64 0], 16, none, true⟩
  | 29 => some ⟨.struct [(0, 3), (1, 27), (4, 27), (7, 4), (8, 3), (9, 3), (10, 3), (11, 28), (13, 3), (14, 3)], 15, [.int .i64 0, .int .i64 0, .int .i64 0, .int .i64 0, .int .i64 0, .int .i64 0, .int .i64 0, .bool false, .int .i64 0, .int .i64 0, .int .i64 0, .int .i64 0, .int .i64 0, .int .i64 0, .int .i64 0], 120, none, true⟩
  | 30 => some ⟨.struct [(0, 3), (1, 27), (4, 27), (7, 4), (8, 3), (9, 3), (10, 3), (11, 28), (13, 3), (14, 3)], 15, [.int .i64 0, .int .i64 0, .int .i64 0, .int .i64 0, .int .i64 0, .int .i64 0, .int .i64 0, .bool false, .int .i64 0, .int .i64 0, .int .i64 0, .int .i64 0, .int .i64 0, .int .i64 0, .int .i64 0], 120, some .pl, true⟩
  | 31 => some ⟨.int .u16, 1, [.int .u16 0], 2, none, false⟩
  | 32 => some ⟨.int .i8, 1, [.int .i8 0], 1, none, false⟩
  | 33 => some ⟨.struct [(0, 31), (1, 5), (2, 32), (3, 32), (4, 3)], 5, [.int .u16 0, .int .u8 0, .int .i8 0, .int .i8 0, .int .i64 0], 16, none, true⟩
  | 34 => some ⟨.struct [(0, 31), (1, 5), (2, 32), (3, 32), (4, 3)], 5, [.int .u16 0, .int .u8 0, .int .i8 0, .int .i8 0, .int .i64 0], 16, some .cm, true⟩
  | 40 => some ⟨.slice 34, 1, [.nils], 24, none, false⟩
  | 46 => some ⟨.int .i64, 1, [.int .i64 0], 8, none, false⟩
  | 48 => some ⟨.ptr 2, 1, [.nilp], 8, none, false⟩
  | 49 => some ⟨.array 3 48, 3, [.nilp, .nilp, .nilp], 24, none, false⟩
  | 51 => some ⟨.ptr 27, 1, [.nilp], 8, none, false⟩
  | 55 => some ⟨.array 3 4, 3, [.bool false, .bool false, .bool false], 3, none, true⟩
  | 64 => some ⟨.array 3 2, 3, [.int .i64 0, .int .i64 0, .int .i64 0], 24, none, true⟩
  | 74 => some ⟨.int .u64, 1, [.int .u64 0], 8, some .u64, false⟩
  | 75 => some ⟨.struct [(0, 74), (1, 74)], 2, [.int .u64 0, .int .u64 0], 16, none, true⟩
  | 76 => some ⟨.struct [(0, 74), (1, 74)], 2, [.int .u64 0, .int .u64 0], 16, none, true⟩
  | 80 => some ⟨.slice 74, 1, [.nils], 24, none, false⟩
  | 81 => some ⟨.struct [(0, 4), (1, 80)], 2, [.bool false, .nils], 32, none, false⟩
  | 82 => some ⟨.struct [(0, 4), (1, 80)], 2, [.bool false, .nils], 32, none, false⟩
  | 85 => some ⟨.int .u64, 1, [.int .u64 0], 8, none, false⟩
  | 97 => some ⟨.array 0 16, 0, [], 0, none, false⟩
  | 98 => some ⟨.struct [(0, 97)], 0, [], 0, none, false⟩
  | 99 => some ⟨.struct [(0, 97)], 0, [], 0, none, false⟩
  | 101 => some ⟨.int .u32, 1, [.int .u32 0], 4, none, false⟩
  | 102 => some ⟨.int .u8, 1, [.int .u8 0], 1, none, false⟩
  | 103 => some ⟨.int .u8, 1, [.int .u8 0], 1, none, false⟩
  | 105 => some ⟨.ptr 5, 1, [.nilp], 8, none, false⟩
  | 106 => some ⟨.int .i32, 1, [.int .i32 0], 4, none, false⟩
  | 107 => some ⟨.int .i32, 1, [.int .i32 0], 4, none, false⟩
  | _ => none

theorem vm_ok2 : TIOk Try.prog 2 ⟨.int .i64, 1, [.int .i64 0], 8, some .i64, false⟩ :=
  ⟨by kernel_rfl, by kernel_rfl, Try.underlying2, ⟨.int .i64 0, by kernel_rfl, (by simp only [Array.toList, Value.cells, relL_cons, relL_nil, Rel, and_self])⟩, (fun h => by cases h)⟩
theorem vm_ok3 : TIOk Try.prog 3 ⟨.int .i64, 1, [.int .i64 0], 8, some .i64, false⟩ :=
  ⟨by kernel_rfl, by kernel_rfl, Try.underlying3, ⟨.int .i64 0, by kernel_rfl, (by simp only [Array.toList, Value.cells, relL_cons, relL_nil, Rel, and_self])⟩, (fun h => by cases h)⟩
theorem vm_ok4 : TIOk Try.prog 4 ⟨.bool, 1, [.bool false], 1, some .bool, false⟩ :=
  ⟨by kernel_rfl, by kernel_rfl, Try.underlying4, ⟨.bool false, by kernel_rfl, (by simp only [Array.toList, Value.cells, relL_cons, relL_nil, Rel, and_self])⟩, (fun h => by cases h)⟩
theorem vm_ok5 : TIOk Try.prog 5 ⟨.int .u8, 1, [.int .u8 0], 1, none, false⟩ :=
  ⟨by kernel_rfl, by kernel_rfl, Try.underlying5, ⟨.int .u8 0, by kernel_rfl, (by simp only [Array.toList, Value.cells, relL_cons, relL_nil, Rel, and_self])⟩, (fun h => by cases h)⟩
theorem vm_ok6 : TIOk Try.prog 6 ⟨.int .u8, 1, [.int .u8 0], 1, none, false⟩ :=
  ⟨by kernel_rfl, by kernel_rfl, Try.underlying6, ⟨.int .u8 0, by kernel_rfl, (by simp only [Array.toList, Value.cells, relL_cons, relL_nil, Rel, and_self])⟩, (fun h => by cases h)⟩
theorem vm_ok7 : TIOk Try.prog 7 ⟨.struct [(0, 2), (1, 3), (2, 4), (3, 6)], 4, [.int .i64 0, .int .i64 0, .bool false, .int .u8 0], 24, none, true⟩ :=
  ⟨by kernel_rfl, by kernel_rfl, ⟨_, Try.underlying7, rfl⟩, ⟨.agg #[.int .i64 0, .int .i64 0, .bool false, .int .u8 0], by kernel_rfl, (by simp only [Array.toList, Value.cells, relL_cons, relL_nil, Rel, and_self])⟩, (fun _ => ⟨by kernel_rfl, eql7⟩)⟩
theorem vm_ok8 : TIOk Try.prog 8 ⟨.struct [(0, 2), (1, 3), (2, 4), (3, 6)], 4, [.int .i64 0, .int .i64 0, .bool false, .int .u8 0], 24, none, true⟩ :=
  ⟨by kernel_rfl, by kernel_rfl, ⟨_, Try.underlying8, rfl⟩, ⟨.agg #[.int .i64 0, .int .i64 0, .bool false, .int .u8 0], by kernel_rfl, (by simp only [Array.toList, Value.cells, relL_cons, relL_nil, Rel, and_self])⟩, (fun _ => ⟨by kernel_rfl, eql8⟩)⟩
theorem vm_ok12 : TIOk Try.prog 12 ⟨.int .u64, 1, [.int .u64 0], 8, none, false⟩ :=
  ⟨by kernel_rfl, by kernel_rfl, Try.underlying12, ⟨.int .u64 0, by kernel_rfl, (by simp only [Array.toList, Value.cells, relL_cons, relL_nil, Rel, and_self])⟩, (fun h => by cases h)⟩
theorem vm_ok15 : TIOk Try.prog 15 ⟨.ptr 96, 1, [.nilp], 8, none, false⟩ :=
  ⟨by kernel_rfl, by kernel_rfl, Try.underlying15, ⟨.pointer none, by kernel_rfl, (by simp only [Array.toList, Value.cells, relL_cons, relL_nil, Rel, and_self])⟩, (fun h => by cases h)⟩
theorem vm_ok16 : TIOk Try.prog 16 ⟨.ptr 99, 1, [.nilp], 8, none, false⟩ :=
  ⟨by kernel_rfl, by kernel_rfl, Try.underlying16, ⟨.pointer none, by kernel_rfl, (by simp only [Array.toList, Value.cells, relL_cons, relL_nil, Rel, and_self])⟩, (fun h => by cases h)⟩
theorem vm_ok17 : TIOk Try.prog 17 ⟨.ptr 109, 1, [.nilp], 8, none, false⟩ :=
  ⟨by kernel_rfl, by kernel_rfl, Try.underlying17, ⟨.pointer none, by kernel_rfl, (by simp only [Array.toList, Value.cells, relL_cons, relL_nil, Rel, and_self])⟩, (fun h => by cases h)⟩
theorem vm_ok18 : TIOk Try.prog 18 ⟨.struct [(0, 17)], 1, [.nilp], 8, none, false⟩ :=
  ⟨by kernel_rfl, by kernel_rfl, ⟨_, Try.underlying18, rfl⟩, ⟨.agg #[.pointer none], by kernel_rfl, (by simp only [Array.toList, Value.cells, relL_cons, relL_nil, Rel, and_self])⟩, (fun h => by cases h)⟩
theorem vm_ok19 : TIOk Try.prog 19 ⟨.struct [(0, 17)], 1, [.nilp], 8, none, false⟩ :=
  ⟨by kernel_rfl, by kernel_rfl, ⟨_, Try.underlying19, rfl⟩, ⟨.agg #[.pointer none], by kernel_rfl, (by simp only [Array.toList, Value.cells, relL_cons, relL_nil, Rel, and_self])⟩, (fun h => by cases h)⟩
theorem vm_ok21 : TIOk Try.prog 21 ⟨.int .i32, 1, [.int .i32 0], 4, none, false⟩ :=
  ⟨by kernel_rfl, by kernel_rfl, Try.underlying21, ⟨.int .i32 0, by kernel_rfl, (by simp only [Array.toList, Value.cells, relL_cons, relL_nil, Rel, and_self])⟩, (fun h => by cases h)⟩
theorem vm_ok22 : TIOk Try.prog 22 ⟨.slice 4, 1, [.nils], 24, none, false⟩ :=
  ⟨by kernel_rfl, by kernel_rfl, Try.underlying22, ⟨.slice none 0 0, by kernel_rfl, (by simp only [Array.toList, Value.cells, relL_cons, relL_nil, Rel, and_self])⟩, (fun h => by cases h)⟩
theorem vm_ok23 : TIOk Try.prog 23 ⟨.slice 27, 1, [.nils], 24, none, false⟩ :=
  ⟨by kernel_rfl, by kernel_rfl, Try.underlying23, ⟨.slice none 0 0, by kernel_rfl, (by simp only [Array.toList, Value.cells, relL_cons, relL_nil, Rel, and_self])⟩, (fun h => by cases h)⟩
theorem vm_ok24 : TIOk Try.prog 24 ⟨.struct [(0, 3), (1, 3), (2, 3), (3, 22), (4, 23)], 5, [.int .i64 0, .int .i64 0, .int .i64 0, .nils, .nils], 72, none, false⟩ :=
  ⟨by kernel_rfl, by kernel_rfl, ⟨_, Try.underlying24, rfl⟩, ⟨.agg #[.int .i64 0, .int .i64 0, .int .i64 0, .slice none 0 0, .slice none 0 0], by kernel_rfl, (by simp only [Array.toList, Value.cells, relL_cons, relL_nil, Rel, and_self])⟩, (fun h => by cases h)⟩
theorem vm_ok25 : TIOk Try.prog 25 ⟨.struct [(0, 3), (1, 3), (2, 3), (3, 22), (4, 23)], 5, [.int .i64 0, .int .i64 0, .int .i64 0, .nils, .nils], 72, none, false⟩ :=
  ⟨by kernel_rfl, by kernel_rfl, ⟨_, Try.underlying25, rfl⟩, ⟨.agg #[.int .i64 0, .int .i64 0, .int .i64 0, .slice none 0 0, .slice none 0 0], by kernel_rfl, (by simp only [Array.toList, Value.cells, relL_cons, relL_nil, Rel, and_self])⟩, (fun h => by cases h)⟩
theorem vm_ok26 : TIOk Try.prog 26 ⟨.struct [(0, 2), (1, 2), (2, 2)], 3, [.int .i64 0, .int .i64 0, .int .i64 0], 24, none, true⟩ :=
  ⟨by kernel_rfl, by kernel_rfl, ⟨_, Try.underlying26, rfl⟩, ⟨.agg #[.int .i64 0, .int .i64 0, .int .i64 0], by kernel_rfl, (by simp only [Array.toList, Value.cells, relL_cons, relL_nil, Rel, and_self])⟩, (fun _ => ⟨by kernel_rfl, eql26⟩)⟩
theorem vm_ok27 : TIOk Try.prog 27 ⟨.struct [(0, 2), (1, 2), (2, 2)], 3, [.int .i64 0, .int .i64 0, .int .i64 0], 24, some .vec, true⟩ :=
  ⟨by kernel_rfl, by kernel_rfl, ⟨_, Try.underlying27, rfl⟩, ⟨.agg #[.int .i64 0, .int .i64 0, .int .i64 0], by kernel_rfl, (by simp only [Array.toList, Value.cells, relL_cons, relL_nil, Rel, and_self])⟩, (fun _ => ⟨by kernel_rfl, eql27⟩)⟩
theorem vm_ok28 : TIOk Try.prog 28 ⟨.array 2 3, 2, [.int .i64 0, .int .i64 0], 16, none, true⟩ :=
  ⟨by kernel_rfl, by kernel_rfl, Try.underlying28, ⟨.agg #[.int .i64 0, .int .i64 0], by kernel_rfl, (by simp only [Array.toList, Value.cells, relL_cons, relL_nil, Rel, and_self])⟩, (fun _ => ⟨by kernel_rfl, eql28⟩)⟩
theorem vm_ok29 : TIOk Try.prog 29 ⟨.struct [(0, 3), (1, 27), (4, 27), (7, 4), (8, 3), (9, 3), (10, 3), (11, 28), (13, 3), (14, 3)], 15, [.int .i64 0, .int .i64 0, .int .i64 0, .int .i64 0, .int .i64 0, .int .i64 0, .int .i64 0, .bool false, .int .i64 0, .int .i64 0, .int .i64 0, .int .i64 0, .int .i64 0, .int .i64 0, .int .i64 0], 120, none, true⟩ :=
  ⟨by kernel_rfl, by kernel_rfl, ⟨_, Try.underlying29, rfl⟩, ⟨.agg #[.int .i64 0, .int .i64 0, .int .i64 0, .int .i64 0, .int .i64 0, .int .i64 0, .int .i64 0, .bool false, .int .i64 0, .int .i64 0, .int .i64 0, .int .i64 0, .int .i64 0, .int .i64 0, .int .i64 0], by kernel_rfl, (by simp only [Array.toList, Value.cells, relL_cons, relL_nil, Rel, and_self])⟩, (fun _ => ⟨by kernel_rfl, eql29⟩)⟩
theorem vm_ok30 : TIOk Try.prog 30 ⟨.struct [(0, 3), (1, 27), (4, 27), (7, 4), (8, 3), (9, 3), (10, 3), (11, 28), (13, 3), (14, 3)], 15, [.int .i64 0, .int .i64 0, .int .i64 0, .int .i64 0, .int .i64 0, .int .i64 0, .int .i64 0, .bool false, .int .i64 0, .int .i64 0, .int .i64 0, .int .i64 0, .int .i64 0, .int .i64 0, .int .i64 0], 120, some .pl, true⟩ :=
  ⟨by kernel_rfl, by kernel_rfl, ⟨_, Try.underlying30, rfl⟩, ⟨.agg #[.int .i64 0, .int .i64 0, .int .i64 0, .int .i64 0, .int .i64 0, .int .i64 0, .int .i64 0, .bool false, .int .i64 0, .int .i64 0, .int .i64 0, .int .i64 0, .int .i64 0, .int .i64 0, .int .i64 0], by kernel_rfl, (by simp only [Array.toList, Value.cells, relL_cons, relL_nil, Rel, and_self])⟩, (fun _ => ⟨by kernel_rfl, eql30⟩)⟩
theorem vm_ok31 : TIOk Try.prog 31 ⟨.int .u16, 1, [.int .u16 0], 2, none, false⟩ :=
  ⟨by kernel_rfl, by kernel_rfl, Try.underlying31, ⟨.int .u16 0, by kernel_rfl, (by simp only [Array.toList, Value.cells, relL_cons, relL_nil, Rel, and_self])⟩, (fun h => by cases h)⟩
theorem vm_ok32 : TIOk Try.prog 32 ⟨.int .i8, 1, [.int .i8 0], 1, none, false⟩ :=
  ⟨by kernel_rfl, by kernel_rfl, Try.underlying32, ⟨.int .i8 0, by kernel_rfl, (by simp only [Array.toList, Value.cells, relL_cons, relL_nil, Rel, and_self])⟩, (fun h => by cases h)⟩
theorem vm_ok33 : TIOk Try.prog 33 ⟨.struct [(0, 31), (1, 5), (2, 32), (3, 32), (4, 3)], 5, [.int .u16 0, .int .u8 0, .int .i8 0, .int .i8 0, .int .i64 0], 16, none, true⟩ :=
  ⟨by kernel_rfl, by kernel_rfl, ⟨_, Try.underlying33, rfl⟩, ⟨.agg #[.int .u16 0, .int .u8 0, .int .i8 0, .int .i8 0, .int .i64 0], by kernel_rfl, (by simp only [Array.toList, Value.cells, relL_cons, relL_nil, Rel, and_self])⟩, (fun _ => ⟨by kernel_rfl, eql33⟩)⟩
theorem vm_ok34 : TIOk Try.prog 34 ⟨.struct [(0, 31), (1, 5), (2, 32), (3, 32), (4, 3)], 5, [.int .u16 0, .int .u8 0, .int .i8 0, .int .i8 0, .int .i64 0], 16, some .cm, true⟩ :=
  ⟨by kernel_rfl, by kernel_rfl, ⟨_, Try.underlying34, rfl⟩, ⟨.agg #[.int .u16 0, .int .u8 0, .int .i8 0, .int .i8 0, .int .i64 0], by kernel_rfl, (by simp only [Array.toList, Value.cells, relL_cons, relL_nil, Rel, and_self])⟩, (fun _ => ⟨by kernel_rfl, eql34⟩)⟩
theorem vm_ok40 : TIOk Try.prog 40 ⟨.slice 34, 1, [.nils], 24, none, false⟩ :=
  ⟨by kernel_rfl, by kernel_rfl, Try.underlying40, ⟨.slice none 0 0, by kernel_rfl, (by simp only [Array.toList, Value.cells, relL_cons, relL_nil, Rel, and_self])⟩, (fun h => by cases h)⟩
theorem vm_ok46 : TIOk Try.prog 46 ⟨.int .i64, 1, [.int .i64 0], 8, none, false⟩ :=
  ⟨by kernel_rfl, by kernel_rfl, Try.underlying46, ⟨.int .i64 0, by kernel_rfl, (by simp only [Array.toList, Value.cells, relL_cons, relL_nil, Rel, and_self])⟩, (fun h => by cases h)⟩
theorem vm_ok48 : TIOk Try.prog 48 ⟨.ptr 2, 1, [.nilp], 8, none, false⟩ :=
  ⟨by kernel_rfl, by kernel_rfl, Try.underlying48, ⟨.pointer none, by kernel_rfl, (by simp only [Array.toList, Value.cells, relL_cons, relL_nil, Rel, and_self])⟩, (fun h => by cases h)⟩
theorem vm_ok49 : TIOk Try.prog 49 ⟨.array 3 48, 3, [.nilp, .nilp, .nilp], 24, none, false⟩ :=
  ⟨by kernel_rfl, by kernel_rfl, Try.underlying49, ⟨.agg #[.pointer none, .pointer none, .pointer none], by kernel_rfl, (by simp only [Array.toList, Value.cells, relL_cons, relL_nil, Rel, and_self])⟩, (fun h => by cases h)⟩
theorem vm_ok51 : TIOk Try.prog 51 ⟨.ptr 27, 1, [.nilp], 8, none, false⟩ :=
  ⟨by kernel_rfl, by kernel_rfl, Try.underlying51, ⟨.pointer none, by kernel_rfl, (by simp only [Array.toList, Value.cells, relL_cons, relL_nil, Rel, and_self])⟩, (fun h => by cases h)⟩
theorem vm_ok55 : TIOk Try.prog 55 ⟨.array 3 4, 3, [.bool false, .bool false, .bool false], 3, none, true⟩ :=
  ⟨by kernel_rfl, by kernel_rfl, Try.underlying55, ⟨.agg #[.bool false, .bool false, .bool false], by kernel_rfl, (by simp only [Array.toList, Value.cells, relL_cons, relL_nil, Rel, and_self])⟩, (fun _ => ⟨by kernel_rfl, eql55⟩)⟩
theorem vm_ok64 : TIOk Try.prog 64 ⟨.array 3 2, 3, [.int .i64 0, .int .i64 0, .int .i64 0], 24, none, true⟩ :=
  ⟨by kernel_rfl, by kernel_rfl, Try.underlying64, ⟨.agg #[.int .i64 0, .int .i64 0, .int .i64 0], by kernel_rfl, (by simp only [Array.toList, Value.cells, relL_cons, relL_nil, Rel, and_self])⟩, (fun _ => ⟨by kernel_rfl, eql64⟩)⟩
theorem vm_ok74 : TIOk Try.prog 74 ⟨.int .u64, 1, [.int .u64 0], 8, some .u64, false⟩ :=
  ⟨by kernel_rfl, by kernel_rfl, Try.underlying74, ⟨.int .u64 0, by kernel_rfl, (by simp only [Array.toList, Value.cells, relL_cons, relL_nil, Rel, and_self])⟩, (fun h => by cases h)⟩
theorem vm_ok75 : TIOk Try.prog 75 ⟨.struct [(0, 74), (1, 74)], 2, [.int .u64 0, .int .u64 0], 16, none, true⟩ :=
  ⟨by kernel_rfl, by kernel_rfl, ⟨_, Try.underlying75, rfl⟩, ⟨.agg #[.int .u64 0, .int .u64 0], by kernel_rfl, (by simp only [Array.toList, Value.cells, relL_cons, relL_nil, Rel, and_self])⟩, (fun _ => ⟨by kernel_rfl, eql75⟩)⟩
theorem vm_ok76 : TIOk Try.prog 76 ⟨.struct [(0, 74), (1, 74)], 2, [.int .u64 0, .int .u64 0], 16, none, true⟩ :=
  ⟨by kernel_rfl, by kernel_rfl, ⟨_, Try.underlying76, rfl⟩, ⟨.agg #[.int .u64 0, .int .u64 0], by kernel_rfl, (by simp only [Array.toList, Value.cells, relL_cons, relL_nil, Rel, and_self])⟩, (fun _ => ⟨by kernel_rfl, eql76⟩)⟩
theorem vm_ok80 : TIOk Try.prog 80 ⟨.slice 74, 1, [.nils], 24, none, false⟩ :=
  ⟨by kernel_rfl, by kernel_rfl, Try.underlying80, ⟨.slice none 0 0, by kernel_rfl, (by simp only [Array.toList, Value.cells, relL_cons, relL_nil, Rel, and_self])⟩, (fun h => by cases h)⟩
theorem vm_ok81 : TIOk Try.prog 81 ⟨.struct [(0, 4), (1, 80)], 2, [.bool false, .nils], 32, none, false⟩ :=
  ⟨by kernel_rfl, by kernel_rfl, ⟨_, Try.underlying81, rfl⟩, ⟨.agg #[.bool false, .slice none 0 0], by kernel_rfl, (by simp only [Array.toList, Value.cells, relL_cons, relL_nil, Rel, and_self])⟩, (fun h => by cases h)⟩
theorem vm_ok82 : TIOk Try.prog 82 ⟨.struct [(0, 4), (1, 80)], 2, [.bool false, .nils], 32, none, false⟩ :=
  ⟨by kernel_rfl, by kernel_rfl, ⟨_, Try.underlying82, rfl⟩, ⟨.agg #[.bool false, .slice none 0 0], by kernel_rfl, (by simp only [Array.toList, Value.cells, relL_cons, relL_nil, Rel, and_self])⟩, (fun h => by cases h)⟩
theorem vm_ok85 : TIOk Try.prog 85 ⟨.int .u64, 1, [.int .u64 0], 8, none, false⟩ :=
  ⟨by kernel_rfl, by kernel_rfl, Try.underlying85, ⟨.int .u64 0, by kernel_rfl, (by simp only [Array.toList, Value.cells, relL_cons, relL_nil, Rel, and_self])⟩, (fun h => by cases h)⟩
theorem vm_ok97 : TIOk Try.prog 97 ⟨.array 0 16, 0, [], 0, none, false⟩ :=
  ⟨by kernel_rfl, by kernel_rfl, Try.underlying97, ⟨.agg #[], by kernel_rfl, (by simp only [Array.toList, Value.cells, relL_cons, relL_nil, Rel, and_self])⟩, (fun h => by cases h)⟩
theorem vm_ok98 : TIOk Try.prog 98 ⟨.struct [(0, 97)], 0, [], 0, none, false⟩ :=
  ⟨by kernel_rfl, by kernel_rfl, ⟨_, Try.underlying98, rfl⟩, ⟨.agg #[], by kernel_rfl, (by simp only [Array.toList, Value.cells, relL_cons, relL_nil, Rel, and_self])⟩, (fun h => by cases h)⟩
theorem vm_ok99 : TIOk Try.prog 99 ⟨.struct [(0, 97)], 0, [], 0, none, false⟩ :=
  ⟨by kernel_rfl, by kernel_rfl, ⟨_, Try.underlying99, rfl⟩, ⟨.agg #[], by kernel_rfl, (by simp only [Array.toList, Value.cells, relL_cons, relL_nil, Rel, and_self])⟩, (fun h => by cases h)⟩
theorem vm_ok101 : TIOk Try.prog 101 ⟨.int .u32, 1, [.int .u32 0], 4, none, false⟩ :=
  ⟨by kernel_rfl, by kernel_rfl, Try.underlying101, ⟨.int .u32 0, by kernel_rfl, (by simp only [Array.toList, Value.cells, relL_cons, relL_nil, Rel, and_self])⟩, (fun h => by cases h)⟩
theorem vm_ok102 : TIOk Try.prog 102 ⟨.int .u8, 1, [.int .u8 0], 1, none, false⟩ :=
  ⟨by kernel_rfl, by kernel_rfl, Try.underlying102, ⟨.int .u8 0, by kernel_rfl, (by simp only [Array.toList, Value.cells, relL_cons, relL_nil, Rel, and_self])⟩, (fun h => by cases h)⟩
theorem vm_ok103 : TIOk Try.prog 103 ⟨.int .u8, 1, [.int .u8 0], 1, none, false⟩ :=
  ⟨by kernel_rfl, by kernel_rfl, Try.underlying103, ⟨.int .u8 0, by kernel_rfl, (by simp only [Array.toList, Value.cells, relL_cons, relL_nil, Rel, and_self])⟩, (fun h => by cases h)⟩
theorem vm_ok105 : TIOk Try.prog 105 ⟨.ptr 5, 1, [.nilp], 8, none, false⟩ :=
  ⟨by kernel_rfl, by kernel_rfl, Try.underlying105, ⟨.pointer none, by kernel_rfl, (by simp only [Array.toList, Value.cells, relL_cons, relL_nil, Rel, and_self])⟩, (fun h => by cases h)⟩
theorem vm_ok106 : TIOk Try.prog 106 ⟨.int .i32, 1, [.int .i32 0], 4, none, false⟩ :=
  ⟨by kernel_rfl, by kernel_rfl, Try.underlying106, ⟨.int .i32 0, by kernel_rfl, (by simp only [Array.toList, Value.cells, relL_cons, relL_nil, Rel, and_self])⟩, (fun h => by cases h)⟩
theorem vm_ok107 : TIOk Try.prog 107 ⟨.int .i32, 1, [.int .i32 0], 4, none, false⟩ :=
  ⟨by kernel_rfl, by kernel_rfl, Try.underlying107, ⟨.int .i32 0, by kernel_rfl, (by simp only [Array.toList, Value.cells, relL_cons, relL_nil, Rel, and_self])⟩, (fun h => by cases h)⟩

theorem vmT_ok : ∀ t ti, vmT t = some ti → TIOk Try.prog t ti := by
  intro t ti h
  unfold vmT at h
  split at h <;> first | (cases h; done) | (simp only [Option.some.injEq] at h; subst h)
  · exact vm_ok2
  · exact vm_ok3
  · exact vm_ok4
  · exact vm_ok5
  · exact vm_ok6
  · exact vm_ok7
  · exact vm_ok8
  · exact vm_ok12
  · exact vm_ok15
  · exact vm_ok16
  · exact vm_ok17
  · exact vm_ok18
  · exact vm_ok19
  · exact vm_ok21
  · exact vm_ok22
  · exact vm_ok23
  · exact vm_ok24
  · exact vm_ok25
  · exact vm_ok26
  · exact vm_ok27
  · exact vm_ok28
  · exact vm_ok29
  · exact vm_ok30
  · exact vm_ok31
  · exact vm_ok32
  · exact vm_ok33
  · exact vm_ok34
  · exact vm_ok40
  · exact vm_ok46
  · exact vm_ok48
  · exact vm_ok49
  · exact vm_ok51
  · exact vm_ok55
  · exact vm_ok64
  · exact vm_ok74
  · exact vm_ok75
  · exact vm_ok76
  · exact vm_ok80
  · exact vm_ok81
  · exact vm_ok82
  · exact vm_ok85
  · exact vm_ok97
  · exact vm_ok98
  · exact vm_ok99
  · exact vm_ok101
  · exact vm_ok102
  · exact vm_ok103
  · exact vm_ok105
  · exact vm_ok106
  · exact vm_ok107

end Go.Proofs.Ytihpfaeabocdbaa
