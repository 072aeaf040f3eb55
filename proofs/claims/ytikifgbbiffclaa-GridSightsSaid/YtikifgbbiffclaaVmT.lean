/- The table of this translation's types for the small machine. -/
import Derived.Test.YtikifgbbiffclaaVmE
namespace Go.Proofs.Ytikifgbbiffclaa
set_option linter.unusedSimpArgs false
set_option linter.unusedVariables false
open Go.RowKit

theorem eqL_int {k : IntKind} {n : Int} {zs xs ys : List SV} {r : Bool} (h : eqL (.int k n :: zs) xs ys = some r) : ∃ (a b : Int) (xs' ys' : List SV) (r' : Bool), xs = .int k a :: xs' ∧ ys = .int k b :: ys' ∧ r = ((a == b) && r') ∧ eqL zs xs' ys' = some r' := by
  cases xs with
  | nil => simp [eqL] at h
  | cons x xs =>
    cases ys with
    | nil => simp [eqL] at h
    | cons y ys =>
      simp only [eqL] at h
      split at h
      · rename_i p q hp hq
        cases h
        unfold eqC at hp
        split at hp
        · rename_i k0 _ k1 a k2 b heq
          cases heq
          by_cases h1 : k1 = k <;> by_cases h2 : k2 = k <;> simp [h1, h2] at hp
          subst h1 h2
          subst hp
          exact ⟨a, b, xs, ys, q, rfl, rfl, rfl, hq⟩
        · rename_i heq; cases heq
        · cases hp
      · cases h
theorem eqL_bool {n : Bool} {zs xs ys : List SV} {r : Bool} (h : eqL (.bool n :: zs) xs ys = some r) : ∃ (a b : Bool) (xs' ys' : List SV) (r' : Bool), xs = .bool a :: xs' ∧ ys = .bool b :: ys' ∧ r = ((a == b) && r') ∧ eqL zs xs' ys' = some r' := by
  cases xs with
  | nil => simp [eqL] at h
  | cons x xs =>
    cases ys with
    | nil => simp [eqL] at h
    | cons y ys =>
      simp only [eqL] at h
      split at h
      · rename_i p q hp hq
        cases h
        unfold eqC at hp
        split at hp
        · rename_i heq; cases heq
        · rename_i a b heq
          simp only [Option.some.injEq] at hp
          subst hp
          exact ⟨a, b, xs, ys, q, rfl, rfl, rfl, hq⟩
        · cases hp
      · cases h
theorem eqL_nil {xs ys : List SV} {r : Bool} (h : eqL [] xs ys = some r) : xs = [] ∧ ys = [] ∧ r = true := by
  cases xs <;> cases ys <;> simp [eqL] at h <;> simp [h]

theorem vm_one2 : One Try.prog 2 := ⟨⟨_, Try.underlying2, rfl⟩, by kernel_rfl⟩
theorem vm_one3 : One Try.prog 3 := ⟨⟨_, Try.underlying3, rfl⟩, by kernel_rfl⟩
theorem vm_one4 : One Try.prog 4 := ⟨⟨_, Try.underlying4, rfl⟩, by kernel_rfl⟩
theorem vm_one5 : One Try.prog 5 := ⟨⟨_, Try.underlying5, rfl⟩, by kernel_rfl⟩
theorem vm_one6 : One Try.prog 6 := ⟨⟨_, Try.underlying6, rfl⟩, by kernel_rfl⟩
theorem vm_agg7 : Agg Try.prog 7 4 := ⟨⟨_, Try.underlying7, rfl⟩, by kernel_rfl⟩
theorem vm_agg8 : Agg Try.prog 8 4 := ⟨⟨_, Try.underlying8, rfl⟩, by kernel_rfl⟩
theorem vm_one12 : One Try.prog 12 := ⟨⟨_, Try.underlying12, rfl⟩, by kernel_rfl⟩
theorem vm_agg13 : Agg Try.prog 13 2 := ⟨⟨_, Try.underlying13, rfl⟩, by kernel_rfl⟩
theorem vm_agg14 : Agg Try.prog 14 2 := ⟨⟨_, Try.underlying14, rfl⟩, by kernel_rfl⟩
theorem vm_one15 : One Try.prog 15 := ⟨⟨_, Try.underlying15, rfl⟩, by kernel_rfl⟩
theorem vm_one16 : One Try.prog 16 := ⟨⟨_, Try.underlying16, rfl⟩, by kernel_rfl⟩
theorem vm_one17 : One Try.prog 17 := ⟨⟨_, Try.underlying17, rfl⟩, by kernel_rfl⟩
theorem vm_agg18 : Agg Try.prog 18 1 := ⟨⟨_, Try.underlying18, rfl⟩, by kernel_rfl⟩
theorem vm_agg19 : Agg Try.prog 19 1 := ⟨⟨_, Try.underlying19, rfl⟩, by kernel_rfl⟩
theorem vm_one21 : One Try.prog 21 := ⟨⟨_, Try.underlying21, rfl⟩, by kernel_rfl⟩
theorem vm_one22 : One Try.prog 22 := ⟨⟨_, Try.underlying22, rfl⟩, by kernel_rfl⟩
theorem vm_one23 : One Try.prog 23 := ⟨⟨_, Try.underlying23, rfl⟩, by kernel_rfl⟩
theorem vm_agg24 : Agg Try.prog 24 5 := ⟨⟨_, Try.underlying24, rfl⟩, by kernel_rfl⟩
theorem vm_agg25 : Agg Try.prog 25 5 := ⟨⟨_, Try.underlying25, rfl⟩, by kernel_rfl⟩
theorem vm_agg26 : Agg Try.prog 26 3 := ⟨⟨_, Try.underlying26, rfl⟩, by kernel_rfl⟩
theorem vm_agg27 : Agg Try.prog 27 3 := ⟨⟨_, Try.underlying27, rfl⟩, by kernel_rfl⟩
theorem vm_one33 : One Try.prog 33 := ⟨⟨_, Try.underlying33, rfl⟩, by kernel_rfl⟩
theorem vm_one43 : One Try.prog 43 := ⟨⟨_, Try.underlying43, rfl⟩, by kernel_rfl⟩
theorem vm_one47 : One Try.prog 47 := ⟨⟨_, Try.underlying47, rfl⟩, by kernel_rfl⟩
theorem vm_agg54 : Agg Try.prog 54 4 := ⟨⟨_, Try.underlying54, rfl⟩, by kernel_rfl⟩
theorem vm_agg55 : Agg Try.prog 55 4 := ⟨⟨_, Try.underlying55, rfl⟩, by kernel_rfl⟩
theorem vm_agg57 : Agg Try.prog 57 12 := ⟨⟨_, Try.underlying57, rfl⟩, by kernel_rfl⟩
theorem vm_one58 : One Try.prog 58 := ⟨⟨_, Try.underlying58, rfl⟩, by kernel_rfl⟩
theorem vm_agg61 : Agg Try.prog 61 2 := ⟨⟨_, Try.underlying61, rfl⟩, by kernel_rfl⟩
theorem vm_agg62 : Agg Try.prog 62 2 := ⟨⟨_, Try.underlying62, rfl⟩, by kernel_rfl⟩
theorem vm_one63 : One Try.prog 63 := ⟨⟨_, Try.underlying63, rfl⟩, by kernel_rfl⟩
theorem vm_one73 : One Try.prog 73 := ⟨⟨_, Try.underlying73, rfl⟩, by kernel_rfl⟩
theorem vm_agg74 : Agg Try.prog 74 2 := ⟨⟨_, Try.underlying74, rfl⟩, by kernel_rfl⟩
theorem vm_agg75 : Agg Try.prog 75 2 := ⟨⟨_, Try.underlying75, rfl⟩, by kernel_rfl⟩
theorem vm_one78 : One Try.prog 78 := ⟨⟨_, Try.underlying78, rfl⟩, by kernel_rfl⟩
theorem vm_agg79 : Agg Try.prog 79 2 := ⟨⟨_, Try.underlying79, rfl⟩, by kernel_rfl⟩
theorem vm_agg80 : Agg Try.prog 80 2 := ⟨⟨_, Try.underlying80, rfl⟩, by kernel_rfl⟩
theorem vm_agg93 : Agg Try.prog 93 4 := ⟨⟨_, Try.underlying93, rfl⟩, by kernel_rfl⟩
theorem vm_agg94 : Agg Try.prog 94 4 := ⟨⟨_, Try.underlying94, rfl⟩, by kernel_rfl⟩
theorem vm_agg95 : Agg Try.prog 95 0 := ⟨⟨_, Try.underlying95, rfl⟩, by kernel_rfl⟩
theorem vm_agg96 : Agg Try.prog 96 0 := ⟨⟨_, Try.underlying96, rfl⟩, by kernel_rfl⟩
theorem vm_agg97 : Agg Try.prog 97 0 := ⟨⟨_, Try.underlying97, rfl⟩, by kernel_rfl⟩
theorem vm_one99 : One Try.prog 99 := ⟨⟨_, Try.underlying99, rfl⟩, by kernel_rfl⟩
theorem vm_one100 : One Try.prog 100 := ⟨⟨_, Try.underlying100, rfl⟩, by kernel_rfl⟩
theorem vm_one101 : One Try.prog 101 := ⟨⟨_, Try.underlying101, rfl⟩, by kernel_rfl⟩
theorem vm_one103 : One Try.prog 103 := ⟨⟨_, Try.underlying103, rfl⟩, by kernel_rfl⟩
theorem vm_one104 : One Try.prog 104 := ⟨⟨_, Try.underlying104, rfl⟩, by kernel_rfl⟩
theorem vm_one105 : One Try.prog 105 := ⟨⟨_, Try.underlying105, rfl⟩, by kernel_rfl⟩
theorem vm_agg106 : Agg Try.prog 106 11 := ⟨⟨_, Try.underlying106, rfl⟩, by kernel_rfl⟩
theorem vm_agg107 : Agg Try.prog 107 11 := ⟨⟨_, Try.underlying107, rfl⟩, by kernel_rfl⟩

theorem eqv7 (d : Nat) (w : World) (a0 : Int) (a1 : Int) (a2 : Bool) (a3 : Int) (b0 : Int) (b1 : Int) (b2 : Bool) (b3 : Int) : (Op.equalIn (d + 2) 7 (.agg #[.int .i64 a0, .int .i64 a1, .bool a2, .int .u8 a3]) (.agg #[.int .i64 b0, .int .i64 b1, .bool b2, .int .u8 b3])).run Try.prog w = .ok ((a0 == b0) && ((a1 == b1) && ((a2 == b2) && ((a3 == b3) && true)))) w :=
  eqs_of (P := Try.prog) (d := d + 1) (xs := #[.int .i64 a0, .int .i64 a1, .bool a2, .int .u8 a3]) (ys := #[.int .i64 b0, .int .i64 b1, .bool b2, .int .u8 b3]) w Try.underlying7 (by kernel_rfl) (eqf_cons w rfl (part_one vm_one2 w _ _ rfl) (part_one vm_one2 w _ _ rfl) (run_equalIn_int w _ 2 _ _ _ _ Try.underlying2) (eqf_cons w rfl (part_one vm_one3 w _ _ rfl) (part_one vm_one3 w _ _ rfl) (run_equalIn_int w _ 3 _ _ _ _ Try.underlying3) (eqf_cons w rfl (part_one vm_one4 w _ _ rfl) (part_one vm_one4 w _ _ rfl) (run_equalIn_bool w _ 4 _ _ Try.underlying4) (eqf_cons w rfl (part_one vm_one6 w _ _ rfl) (part_one vm_one6 w _ _ rfl) (run_equalIn_int w _ 6 _ _ _ _ Try.underlying6) (eqf_nil _ _ _ w)))))

theorem eql7 (xs ys : List SV) (r : Bool) (h : eqL [.int .i64 0, .int .i64 0, .bool false, .int .u8 0] xs ys = some r) (w : World) : (Op.equalIn 10000 7 (.agg (xs.map dval).toArray) (.agg (ys.map dval).toArray)).run Try.prog w = .ok r w := by
  obtain ⟨a0, b0, xs0, ys0, r0, rfl, rfl, rfl, h0⟩ := eqL_int h
  obtain ⟨a1, b1, xs1, ys1, r1, rfl, rfl, rfl, h1⟩ := eqL_int h0
  obtain ⟨a2, b2, xs2, ys2, r2, rfl, rfl, rfl, h2⟩ := eqL_bool h1
  obtain ⟨a3, b3, xs3, ys3, r3, rfl, rfl, rfl, h3⟩ := eqL_int h2
  obtain ⟨rfl, rfl, rfl⟩ := eqL_nil h3
  have e := eqv7 9998 w a0 a1 a2 a3 b0 b1 b2 b3
  simp only [Bool.and_assoc, Bool.true_and, Bool.and_true] at e ⊢
  exact e

theorem eqv8 (d : Nat) (w : World) (a0 : Int) (a1 : Int) (a2 : Bool) (a3 : Int) (b0 : Int) (b1 : Int) (b2 : Bool) (b3 : Int) : (Op.equalIn (d + 2) 8 (.agg #[.int .i64 a0, .int .i64 a1, .bool a2, .int .u8 a3]) (.agg #[.int .i64 b0, .int .i64 b1, .bool b2, .int .u8 b3])).run Try.prog w = .ok ((a0 == b0) && ((a1 == b1) && ((a2 == b2) && ((a3 == b3) && true)))) w :=
  eqs_of (P := Try.prog) (d := d + 1) (xs := #[.int .i64 a0, .int .i64 a1, .bool a2, .int .u8 a3]) (ys := #[.int .i64 b0, .int .i64 b1, .bool b2, .int .u8 b3]) w Try.underlying8 (by kernel_rfl) (eqf_cons w rfl (part_one vm_one2 w _ _ rfl) (part_one vm_one2 w _ _ rfl) (run_equalIn_int w _ 2 _ _ _ _ Try.underlying2) (eqf_cons w rfl (part_one vm_one3 w _ _ rfl) (part_one vm_one3 w _ _ rfl) (run_equalIn_int w _ 3 _ _ _ _ Try.underlying3) (eqf_cons w rfl (part_one vm_one4 w _ _ rfl) (part_one vm_one4 w _ _ rfl) (run_equalIn_bool w _ 4 _ _ Try.underlying4) (eqf_cons w rfl (part_one vm_one6 w _ _ rfl) (part_one vm_one6 w _ _ rfl) (run_equalIn_int w _ 6 _ _ _ _ Try.underlying6) (eqf_nil _ _ _ w)))))

theorem eql8 (xs ys : List SV) (r : Bool) (h : eqL [.int .i64 0, .int .i64 0, .bool false, .int .u8 0] xs ys = some r) (w : World) : (Op.equalIn 10000 8 (.agg (xs.map dval).toArray) (.agg (ys.map dval).toArray)).run Try.prog w = .ok r w := by
  obtain ⟨a0, b0, xs0, ys0, r0, rfl, rfl, rfl, h0⟩ := eqL_int h
  obtain ⟨a1, b1, xs1, ys1, r1, rfl, rfl, rfl, h1⟩ := eqL_int h0
  obtain ⟨a2, b2, xs2, ys2, r2, rfl, rfl, rfl, h2⟩ := eqL_bool h1
  obtain ⟨a3, b3, xs3, ys3, r3, rfl, rfl, rfl, h3⟩ := eqL_int h2
  obtain ⟨rfl, rfl, rfl⟩ := eqL_nil h3
  have e := eqv8 9998 w a0 a1 a2 a3 b0 b1 b2 b3
  simp only [Bool.and_assoc, Bool.true_and, Bool.and_true] at e ⊢
  exact e

theorem eqv26 (d : Nat) (w : World) (a0 : Int) (a1 : Int) (a2 : Int) (b0 : Int) (b1 : Int) (b2 : Int) : (Op.equalIn (d + 2) 26 (.agg #[.int .i64 a0, .int .i64 a1, .int .i64 a2]) (.agg #[.int .i64 b0, .int .i64 b1, .int .i64 b2])).run Try.prog w = .ok ((a0 == b0) && ((a1 == b1) && ((a2 == b2) && true))) w :=
  eqs_of (P := Try.prog) (d := d + 1) (xs := #[.int .i64 a0, .int .i64 a1, .int .i64 a2]) (ys := #[.int .i64 b0, .int .i64 b1, .int .i64 b2]) w Try.underlying26 (by kernel_rfl) (eqf_cons w rfl (part_one vm_one2 w _ _ rfl) (part_one vm_one2 w _ _ rfl) (run_equalIn_int w _ 2 _ _ _ _ Try.underlying2) (eqf_cons w rfl (part_one vm_one2 w _ _ rfl) (part_one vm_one2 w _ _ rfl) (run_equalIn_int w _ 2 _ _ _ _ Try.underlying2) (eqf_cons w rfl (part_one vm_one2 w _ _ rfl) (part_one vm_one2 w _ _ rfl) (run_equalIn_int w _ 2 _ _ _ _ Try.underlying2) (eqf_nil _ _ _ w))))

theorem eql26 (xs ys : List SV) (r : Bool) (h : eqL [.int .i64 0, .int .i64 0, .int .i64 0] xs ys = some r) (w : World) : (Op.equalIn 10000 26 (.agg (xs.map dval).toArray) (.agg (ys.map dval).toArray)).run Try.prog w = .ok r w := by
  obtain ⟨a0, b0, xs0, ys0, r0, rfl, rfl, rfl, h0⟩ := eqL_int h
  obtain ⟨a1, b1, xs1, ys1, r1, rfl, rfl, rfl, h1⟩ := eqL_int h0
  obtain ⟨a2, b2, xs2, ys2, r2, rfl, rfl, rfl, h2⟩ := eqL_int h1
  obtain ⟨rfl, rfl, rfl⟩ := eqL_nil h2
  have e := eqv26 9998 w a0 a1 a2 b0 b1 b2
  simp only [Bool.and_assoc, Bool.true_and, Bool.and_true] at e ⊢
  exact e

theorem eqv27 (d : Nat) (w : World) (a0 : Int) (a1 : Int) (a2 : Int) (b0 : Int) (b1 : Int) (b2 : Int) : (Op.equalIn (d + 2) 27 (.agg #[.int .i64 a0, .int .i64 a1, .int .i64 a2]) (.agg #[.int .i64 b0, .int .i64 b1, .int .i64 b2])).run Try.prog w = .ok ((a0 == b0) && ((a1 == b1) && ((a2 == b2) && true))) w :=
  eqs_of (P := Try.prog) (d := d + 1) (xs := #[.int .i64 a0, .int .i64 a1, .int .i64 a2]) (ys := #[.int .i64 b0, .int .i64 b1, .int .i64 b2]) w Try.underlying27 (by kernel_rfl) (eqf_cons w rfl (part_one vm_one2 w _ _ rfl) (part_one vm_one2 w _ _ rfl) (run_equalIn_int w _ 2 _ _ _ _ Try.underlying2) (eqf_cons w rfl (part_one vm_one2 w _ _ rfl) (part_one vm_one2 w _ _ rfl) (run_equalIn_int w _ 2 _ _ _ _ Try.underlying2) (eqf_cons w rfl (part_one vm_one2 w _ _ rfl) (part_one vm_one2 w _ _ rfl) (run_equalIn_int w _ 2 _ _ _ _ Try.underlying2) (eqf_nil _ _ _ w))))

theorem eql27 (xs ys : List SV) (r : Bool) (h : eqL [.int .i64 0, .int .i64 0, .int .i64 0] xs ys = some r) (w : World) : (Op.equalIn 10000 27 (.agg (xs.map dval).toArray) (.agg (ys.map dval).toArray)).run Try.prog w = .ok r w := by
  obtain ⟨a0, b0, xs0, ys0, r0, rfl, rfl, rfl, h0⟩ := eqL_int h
  obtain ⟨a1, b1, xs1, ys1, r1, rfl, rfl, rfl, h1⟩ := eqL_int h0
  obtain ⟨a2, b2, xs2, ys2, r2, rfl, rfl, rfl, h2⟩ := eqL_int h1
  obtain ⟨rfl, rfl, rfl⟩ := eqL_nil h2
  have e := eqv27 9998 w a0 a1 a2 b0 b1 b2
  simp only [Bool.and_assoc, Bool.true_and, Bool.and_true] at e ⊢
  exact e

theorem eqv54 (d : Nat) (w : World) (a0 : Int) (a1 : Int) (a2 : Int) (a3 : Int) (b0 : Int) (b1 : Int) (b2 : Int) (b3 : Int) : (Op.equalIn (d + 2) 54 (.agg #[.int .i64 a0, .int .i64 a1, .int .i64 a2, .int .i64 a3]) (.agg #[.int .i64 b0, .int .i64 b1, .int .i64 b2, .int .i64 b3])).run Try.prog w = .ok ((a0 == b0) && ((a1 == b1) && ((a2 == b2) && ((a3 == b3) && true)))) w :=
  eqs_of (P := Try.prog) (d := d + 1) (xs := #[.int .i64 a0, .int .i64 a1, .int .i64 a2, .int .i64 a3]) (ys := #[.int .i64 b0, .int .i64 b1, .int .i64 b2, .int .i64 b3]) w Try.underlying54 (by kernel_rfl) (eqf_cons w rfl (part_one vm_one3 w _ _ rfl) (part_one vm_one3 w _ _ rfl) (run_equalIn_int w _ 3 _ _ _ _ Try.underlying3) (eqf_cons w rfl (part_one vm_one3 w _ _ rfl) (part_one vm_one3 w _ _ rfl) (run_equalIn_int w _ 3 _ _ _ _ Try.underlying3) (eqf_cons w rfl (part_one vm_one2 w _ _ rfl) (part_one vm_one2 w _ _ rfl) (run_equalIn_int w _ 2 _ _ _ _ Try.underlying2) (eqf_cons w rfl (part_one vm_one2 w _ _ rfl) (part_one vm_one2 w _ _ rfl) (run_equalIn_int w _ 2 _ _ _ _ Try.underlying2) (eqf_nil _ _ _ w)))))

theorem eql54 (xs ys : List SV) (r : Bool) (h : eqL [.int .i64 0, .int .i64 0, .int .i64 0, .int .i64 0] xs ys = some r) (w : World) : (Op.equalIn 10000 54 (.agg (xs.map dval).toArray) (.agg (ys.map dval).toArray)).run Try.prog w = .ok r w := by
  obtain ⟨a0, b0, xs0, ys0, r0, rfl, rfl, rfl, h0⟩ := eqL_int h
  obtain ⟨a1, b1, xs1, ys1, r1, rfl, rfl, rfl, h1⟩ := eqL_int h0
  obtain ⟨a2, b2, xs2, ys2, r2, rfl, rfl, rfl, h2⟩ := eqL_int h1
  obtain ⟨a3, b3, xs3, ys3, r3, rfl, rfl, rfl, h3⟩ := eqL_int h2
  obtain ⟨rfl, rfl, rfl⟩ := eqL_nil h3
  have e := eqv54 9998 w a0 a1 a2 a3 b0 b1 b2 b3
  simp only [Bool.and_assoc, Bool.true_and, Bool.and_true] at e ⊢
  exact e

theorem eqv55 (d : Nat) (w : World) (a0 : Int) (a1 : Int) (a2 : Int) (a3 : Int) (b0 : Int) (b1 : Int) (b2 : Int) (b3 : Int) : (Op.equalIn (d + 2) 55 (.agg #[.int .i64 a0, .int .i64 a1, .int .i64 a2, .int .i64 a3]) (.agg #[.int .i64 b0, .int .i64 b1, .int .i64 b2, .int .i64 b3])).run Try.prog w = .ok ((a0 == b0) && ((a1 == b1) && ((a2 == b2) && ((a3 == b3) && true)))) w :=
  eqs_of (P := Try.prog) (d := d + 1) (xs := #[.int .i64 a0, .int .i64 a1, .int .i64 a2, .int .i64 a3]) (ys := #[.int .i64 b0, .int .i64 b1, .int .i64 b2, .int .i64 b3]) w Try.underlying55 (by kernel_rfl) (eqf_cons w rfl (part_one vm_one3 w _ _ rfl) (part_one vm_one3 w _ _ rfl) (run_equalIn_int w _ 3 _ _ _ _ Try.underlying3) (eqf_cons w rfl (part_one vm_one3 w _ _ rfl) (part_one vm_one3 w _ _ rfl) (run_equalIn_int w _ 3 _ _ _ _ Try.underlying3) (eqf_cons w rfl (part_one vm_one2 w _ _ rfl) (part_one vm_one2 w _ _ rfl) (run_equalIn_int w _ 2 _ _ _ _ Try.underlying2) (eqf_cons w rfl (part_one vm_one2 w _ _ rfl) (part_one vm_one2 w _ _ rfl) (run_equalIn_int w _ 2 _ _ _ _ Try.underlying2) (eqf_nil _ _ _ w)))))

theorem eql55 (xs ys : List SV) (r : Bool) (h : eqL [.int .i64 0, .int .i64 0, .int .i64 0, .int .i64 0] xs ys = some r) (w : World) : (Op.equalIn 10000 55 (.agg (xs.map dval).toArray) (.agg (ys.map dval).toArray)).run Try.prog w = .ok r w := by
  obtain ⟨a0, b0, xs0, ys0, r0, rfl, rfl, rfl, h0⟩ := eqL_int h
  obtain ⟨a1, b1, xs1, ys1, r1, rfl, rfl, rfl, h1⟩ := eqL_int h0
  obtain ⟨a2, b2, xs2, ys2, r2, rfl, rfl, rfl, h2⟩ := eqL_int h1
  obtain ⟨a3, b3, xs3, ys3, r3, rfl, rfl, rfl, h3⟩ := eqL_int h2
  obtain ⟨rfl, rfl, rfl⟩ := eqL_nil h3
  have e := eqv55 9998 w a0 a1 a2 a3 b0 b1 b2 b3
  simp only [Bool.and_assoc, Bool.true_and, Bool.and_true] at e ⊢
  exact e

theorem eqv61 (d : Nat) (w : World) (a0 : Int) (a1 : Int) (b0 : Int) (b1 : Int) : (Op.equalIn (d + 2) 61 (.agg #[.int .i64 a0, .int .i64 a1]) (.agg #[.int .i64 b0, .int .i64 b1])).run Try.prog w = .ok ((a0 == b0) && ((a1 == b1) && true)) w :=
  eqs_of (P := Try.prog) (d := d + 1) (xs := #[.int .i64 a0, .int .i64 a1]) (ys := #[.int .i64 b0, .int .i64 b1]) w Try.underlying61 (by kernel_rfl) (eqf_cons w rfl (part_one vm_one2 w _ _ rfl) (part_one vm_one2 w _ _ rfl) (run_equalIn_int w _ 2 _ _ _ _ Try.underlying2) (eqf_cons w rfl (part_one vm_one2 w _ _ rfl) (part_one vm_one2 w _ _ rfl) (run_equalIn_int w _ 2 _ _ _ _ Try.underlying2) (eqf_nil _ _ _ w)))

theorem eql61 (xs ys : List SV) (r : Bool) (h : eqL [.int .i64 0, .int .i64 0] xs ys = some r) (w : World) : (Op.equalIn 10000 61 (.agg (xs.map dval).toArray) (.agg (ys.map dval).toArray)).run Try.prog w = .ok r w := by
  obtain ⟨a0, b0, xs0, ys0, r0, rfl, rfl, rfl, h0⟩ := eqL_int h
  obtain ⟨a1, b1, xs1, ys1, r1, rfl, rfl, rfl, h1⟩ := eqL_int h0
  obtain ⟨rfl, rfl, rfl⟩ := eqL_nil h1
  have e := eqv61 9998 w a0 a1 b0 b1
  simp only [Bool.and_assoc, Bool.true_and, Bool.and_true] at e ⊢
  exact e

theorem eqv62 (d : Nat) (w : World) (a0 : Int) (a1 : Int) (b0 : Int) (b1 : Int) : (Op.equalIn (d + 2) 62 (.agg #[.int .i64 a0, .int .i64 a1]) (.agg #[.int .i64 b0, .int .i64 b1])).run Try.prog w = .ok ((a0 == b0) && ((a1 == b1) && true)) w :=
  eqs_of (P := Try.prog) (d := d + 1) (xs := #[.int .i64 a0, .int .i64 a1]) (ys := #[.int .i64 b0, .int .i64 b1]) w Try.underlying62 (by kernel_rfl) (eqf_cons w rfl (part_one vm_one2 w _ _ rfl) (part_one vm_one2 w _ _ rfl) (run_equalIn_int w _ 2 _ _ _ _ Try.underlying2) (eqf_cons w rfl (part_one vm_one2 w _ _ rfl) (part_one vm_one2 w _ _ rfl) (run_equalIn_int w _ 2 _ _ _ _ Try.underlying2) (eqf_nil _ _ _ w)))

theorem eql62 (xs ys : List SV) (r : Bool) (h : eqL [.int .i64 0, .int .i64 0] xs ys = some r) (w : World) : (Op.equalIn 10000 62 (.agg (xs.map dval).toArray) (.agg (ys.map dval).toArray)).run Try.prog w = .ok r w := by
  obtain ⟨a0, b0, xs0, ys0, r0, rfl, rfl, rfl, h0⟩ := eqL_int h
  obtain ⟨a1, b1, xs1, ys1, r1, rfl, rfl, rfl, h1⟩ := eqL_int h0
  obtain ⟨rfl, rfl, rfl⟩ := eqL_nil h1
  have e := eqv62 9998 w a0 a1 b0 b1
  simp only [Bool.and_assoc, Bool.true_and, Bool.and_true] at e ⊢
  exact e

theorem eqv74 (d : Nat) (w : World) (a0 : Int) (a1 : Int) (b0 : Int) (b1 : Int) : (Op.equalIn (d + 2) 74 (.agg #[.int .u64 a0, .int .u64 a1]) (.agg #[.int .u64 b0, .int .u64 b1])).run Try.prog w = .ok ((a0 == b0) && ((a1 == b1) && true)) w :=
  eqs_of (P := Try.prog) (d := d + 1) (xs := #[.int .u64 a0, .int .u64 a1]) (ys := #[.int .u64 b0, .int .u64 b1]) w Try.underlying74 (by kernel_rfl) (eqf_cons w rfl (part_one vm_one73 w _ _ rfl) (part_one vm_one73 w _ _ rfl) (run_equalIn_int w _ 73 _ _ _ _ Try.underlying73) (eqf_cons w rfl (part_one vm_one73 w _ _ rfl) (part_one vm_one73 w _ _ rfl) (run_equalIn_int w _ 73 _ _ _ _ Try.underlying73) (eqf_nil _ _ _ w)))

theorem eql74 (xs ys : List SV) (r : Bool) (h : eqL [.int .u64 0, .int .u64 0] xs ys = some r) (w : World) : (Op.equalIn 10000 74 (.agg (xs.map dval).toArray) (.agg (ys.map dval).toArray)).run Try.prog w = .ok r w := by
  obtain ⟨a0, b0, xs0, ys0, r0, rfl, rfl, rfl, h0⟩ := eqL_int h
  obtain ⟨a1, b1, xs1, ys1, r1, rfl, rfl, rfl, h1⟩ := eqL_int h0
  obtain ⟨rfl, rfl, rfl⟩ := eqL_nil h1
  have e := eqv74 9998 w a0 a1 b0 b1
  simp only [Bool.and_assoc, Bool.true_and, Bool.and_true] at e ⊢
  exact e

theorem eqv75 (d : Nat) (w : World) (a0 : Int) (a1 : Int) (b0 : Int) (b1 : Int) : (Op.equalIn (d + 2) 75 (.agg #[.int .u64 a0, .int .u64 a1]) (.agg #[.int .u64 b0, .int .u64 b1])).run Try.prog w = .ok ((a0 == b0) && ((a1 == b1) && true)) w :=
  eqs_of (P := Try.prog) (d := d + 1) (xs := #[.int .u64 a0, .int .u64 a1]) (ys := #[.int .u64 b0, .int .u64 b1]) w Try.underlying75 (by kernel_rfl) (eqf_cons w rfl (part_one vm_one73 w _ _ rfl) (part_one vm_one73 w _ _ rfl) (run_equalIn_int w _ 73 _ _ _ _ Try.underlying73) (eqf_cons w rfl (part_one vm_one73 w _ _ rfl) (part_one vm_one73 w _ _ rfl) (run_equalIn_int w _ 73 _ _ _ _ Try.underlying73) (eqf_nil _ _ _ w)))

theorem eql75 (xs ys : List SV) (r : Bool) (h : eqL [.int .u64 0, .int .u64 0] xs ys = some r) (w : World) : (Op.equalIn 10000 75 (.agg (xs.map dval).toArray) (.agg (ys.map dval).toArray)).run Try.prog w = .ok r w := by
  obtain ⟨a0, b0, xs0, ys0, r0, rfl, rfl, rfl, h0⟩ := eqL_int h
  obtain ⟨a1, b1, xs1, ys1, r1, rfl, rfl, rfl, h1⟩ := eqL_int h0
  obtain ⟨rfl, rfl, rfl⟩ := eqL_nil h1
  have e := eqv75 9998 w a0 a1 b0 b1
  simp only [Bool.and_assoc, Bool.true_and, Bool.and_true] at e ⊢
  exact e

theorem eqv57 (d : Nat) (w : World) (a0 : Int) (a1 : Int) (a2 : Int) (a3 : Int) (a4 : Int) (a5 : Int) (a6 : Int) (a7 : Int) (a8 : Int) (a9 : Int) (a10 : Int) (a11 : Int) (b0 : Int) (b1 : Int) (b2 : Int) (b3 : Int) (b4 : Int) (b5 : Int) (b6 : Int) (b7 : Int) (b8 : Int) (b9 : Int) (b10 : Int) (b11 : Int) : (Op.equalIn (d + 3) 57 (.agg #[.int .i64 a0, .int .i64 a1, .int .i64 a2, .int .i64 a3, .int .i64 a4, .int .i64 a5, .int .i64 a6, .int .i64 a7, .int .i64 a8, .int .i64 a9, .int .i64 a10, .int .i64 a11]) (.agg #[.int .i64 b0, .int .i64 b1, .int .i64 b2, .int .i64 b3, .int .i64 b4, .int .i64 b5, .int .i64 b6, .int .i64 b7, .int .i64 b8, .int .i64 b9, .int .i64 b10, .int .i64 b11])).run Try.prog w = .ok (((a0 == b0) && ((a1 == b1) && ((a2 == b2) && ((a3 == b3) && true)))) && (((a4 == b4) && ((a5 == b5) && ((a6 == b6) && ((a7 == b7) && true)))) && ((a8 == b8) && ((a9 == b9) && ((a10 == b10) && ((a11 == b11) && true)))))) w :=
  eqa_three (d := d + 2) (n := 4) w Try.underlying57 vm_agg55.size (part_agg vm_agg55 w _ _ rfl) (part_agg vm_agg55 w _ _ rfl) (part_agg vm_agg55 w _ _ rfl) (part_agg vm_agg55 w _ _ rfl) (part_agg vm_agg55 w _ _ rfl) (part_agg vm_agg55 w _ _ rfl) (eqv55 _ w a0 a1 a2 a3 b0 b1 b2 b3) (eqv55 _ w a4 a5 a6 a7 b4 b5 b6 b7) (eqv55 _ w a8 a9 a10 a11 b8 b9 b10 b11)

theorem eql57 (xs ys : List SV) (r : Bool) (h : eqL [.int .i64 0, .int .i64 0, .int .i64 0, .int .i64 0, .int .i64 0, .int .i64 0, .int .i64 0, .int .i64 0, .int .i64 0, .int .i64 0, .int .i64 0, .int .i64 0] xs ys = some r) (w : World) : (Op.equalIn 10000 57 (.agg (xs.map dval).toArray) (.agg (ys.map dval).toArray)).run Try.prog w = .ok r w := by
  obtain ⟨a0, b0, xs0, ys0, r0, rfl, rfl, rfl, h0⟩ := eqL_int h
  obtain ⟨a1, b1, xs1, ys1, r1, rfl, rfl, rfl, h1⟩ := eqL_int h0
  obtain ⟨a2, b2, xs2, ys2, r2, rfl, rfl, rfl, h2⟩ := eqL_int h1
  obtain ⟨a3, b3, xs3, ys3, r3, rfl, rfl, rfl, h3⟩ := eqL_int h2
  obtain ⟨a4, b4, xs4, ys4, r4, rfl, rfl, rfl, h4⟩ := eqL_int h3
  obtain ⟨a5, b5, xs5, ys5, r5, rfl, rfl, rfl, h5⟩ := eqL_int h4
  obtain ⟨a6, b6, xs6, ys6, r6, rfl, rfl, rfl, h6⟩ := eqL_int h5
  obtain ⟨a7, b7, xs7, ys7, r7, rfl, rfl, rfl, h7⟩ := eqL_int h6
  obtain ⟨a8, b8, xs8, ys8, r8, rfl, rfl, rfl, h8⟩ := eqL_int h7
  obtain ⟨a9, b9, xs9, ys9, r9, rfl, rfl, rfl, h9⟩ := eqL_int h8
  obtain ⟨a10, b10, xs10, ys10, r10, rfl, rfl, rfl, h10⟩ := eqL_int h9
  obtain ⟨a11, b11, xs11, ys11, r11, rfl, rfl, rfl, h11⟩ := eqL_int h10
  obtain ⟨rfl, rfl, rfl⟩ := eqL_nil h11
  have e := eqv57 9997 w a0 a1 a2 a3 a4 a5 a6 a7 a8 a9 a10 a11 b0 b1 b2 b3 b4 b5 b6 b7 b8 b9 b10 b11
  simp only [Bool.and_assoc, Bool.true_and, Bool.and_true] at e ⊢
  exact e

def vmT : Nat → Option TI
  | 2 => some ⟨.int .i64, 1, [.int .i64 0], 8, some .i64, false⟩
  | 3 => some ⟨.int .i64, 1, [.int .i64 0], 8, some .i64, false⟩
  | 4 => some ⟨.bool, 1, [.bool false], 1, some .bool, false⟩
  | 5 => some ⟨.int .u8, 1, [.int .u8 0], 1, none, false⟩
  | 6 => some ⟨.int .u8, 1, [.int .u8 0], 1, none, false⟩
  | 7 => some ⟨.struct [(0, 2), (1, 3), (2, 4), (3, 6)], 4, [.int .i64 0, .int .i64 0, .bool false, .int .u8 0], 24, none, true⟩
  | 8 => some ⟨.struct [(0, 2), (1, 3), (2, 4), (3, 6)], 4, [.int .i64 0, .int .i64 0, .bool false, .int .u8 0], 24, none, true⟩
  | 12 => some ⟨.int .u64, 1, [.int .u64 0], 8, none, false⟩
  | 15 => some ⟨.ptr 94, 1, [.nilp], 8, none, false⟩
  | 16 => some ⟨.ptr 97, 1, [.nilp], 8, none, false⟩
  | 17 => some ⟨.ptr 107, 1, [.nilp], 8, none, false⟩
  | 18 => some ⟨.struct [(0, 17)], 1, [.nilp], 8, none, false⟩
  | 19 => some ⟨.struct [(0, 17)], 1, [.nilp], 8, none, false⟩
  | 21 => some ⟨.int .i32, 1, [.int .i32 0], 4, none, false⟩
  | 22 => some ⟨.slice 4, 1, [.nils], 24, none, false⟩
  | 23 => some ⟨.slice 27, 1, [.nils], 24, none, false⟩
  | 24 => some ⟨.struct [(0, 3), (1, 3), (2, 3), (3, 22), (4, 23)], 5, [.int .i64 0, .int .i64 0, .int .i64 0, .nils, .nils], 72, none, false⟩
  | 25 => some ⟨.struct [(0, 3), (1, 3), (2, 3), (3, 22), (4, 23)], 5, [.int .i64 0, .int .i64 0, .int .i64 0, .nils, .nils], 72, none, false⟩
  | 26 => some ⟨.struct [(0, 2), (1, 2), (2, 2)], 3, [.int .i64 0, .int .i64 0, .int .i64 0], 24, none, true⟩
  | 27 => some ⟨.struct [(0, 2), (1, 2), (2, 2)], 3, [.int .i64 0, .int .i64 0, .int .i64 0], 24, some .vec, true⟩
  | 33 => some ⟨.int .i64, 1, [.int .i64 0], 8, none, false⟩
  | 43 => some ⟨.int .i16, 1, [.int .i16 0], 2, none, false⟩
  | 47 => some ⟨.int .u64, 1, [.int .u64 0], 8, none, false⟩
  | 54 => some ⟨.struct [(0, 3), (1, 3), (2, 2), (3, 2)], 4, [.int .i64 0, .int .i64 0, .int .i64 0, .int .i64 0], 32, none, true⟩
  | 55 => some ⟨.struct [(0, 3), (1, 3), (2, 2), (3, 2)], 4, [.int .i64 0, .int .i64 0, .int .i64 0, .int .i64 0], 32, none, true⟩
  | 57 => some ⟨.array 3 55, 12, [.int .i64 0, .int .i64 0, .int .i64 0, .int .i64 0, .int .i64 0, .int .i64 0, .int .i64 0, .int .i64 0, .int .i64 0, .int .i64 0, .int .i64 0, .int .i64 0], 96, none, true⟩
  | 58 => some ⟨.ptr 55, 1, [.nilp], 8, none, false⟩
  | 61 => some ⟨.struct [(0, 2), (1, 2)], 2, [.int .i64 0, .int .i64 0], 16, none, true⟩
  | 62 => some ⟨.struct [(0, 2), (1, 2)], 2, [.int .i64 0, .int .i64 0], 16, some .pt, true⟩
  | 63 => some ⟨.slice 62, 1, [.nils], 24, none, false⟩
  | 73 => some ⟨.int .u64, 1, [.int .u64 0], 8, some .u64, false⟩
  | 74 => some ⟨.struct [(0, 73), (1, 73)], 2, [.int .u64 0, .int .u64 0], 16, none, true⟩
  | 75 => some ⟨.struct [(0, 73), (1, 73)], 2, [.int .u64 0, .int .u64 0], 16, none, true⟩
  | 78 => some ⟨.slice 73, 1, [.nils], 24, none, false⟩
  | 79 => some ⟨.struct [(0, 4), (1, 78)], 2, [.bool false, .nils], 32, none, false⟩
  | 80 => some ⟨.struct [(0, 4), (1, 78)], 2, [.bool false, .nils], 32, none, false⟩
  | 95 => some ⟨.array 0 16, 0, [], 0, none, false⟩
  | 96 => some ⟨.struct [(0, 95)], 0, [], 0, none, false⟩
  | 97 => some ⟨.struct [(0, 95)], 0, [], 0, none, false⟩
  | 99 => some ⟨.int .u32, 1, [.int .u32 0], 4, none, false⟩
  | 100 => some ⟨.int .u8, 1, [.int .u8 0], 1, none, false⟩
  | 101 => some ⟨.int .u8, 1, [.int .u8 0], 1, none, false⟩
  | 103 => some ⟨.ptr 5, 1, [.nilp], 8, none, false⟩
  | 104 => some ⟨.int .i32, 1, [.int .i32 0], 4, none, false⟩
  | 105 => some ⟨.int .i32, 1, [.int .i32 0], 4, none, false⟩
  | _ => none

theorem vm_ok2 : TIOk Try.prog 2 ⟨.int .i64, 1, [.int .i64 0], 8, some .i64, false⟩ :=
  ⟨by kernel_rfl, by kernel_rfl, Try.underlying2, ⟨.int .i64 0, by kernel_rfl, (by simp only [Array.toList, Value.cells, relL_cons, relL_nil, Rel, and_self])⟩, (fun h => by cases h)⟩
theorem vm_ok3 : TIOk Try.prog 3 ⟨.int .i64, 1, [.int .i64 0], 8, some .i64, false⟩ :=
  ⟨by kernel_rfl, by kernel_rfl, Try.underlying3, ⟨.int .i64 0, by kernel_rfl, (by simp only [Array.toList, Value.cells, relL_cons, relL_nil, Rel, and_self])⟩, (fun h => by cases h)⟩
theorem vm_ok4 : TIOk Try.prog 4 ⟨.bool, 1, [.bool false], 1, some .bool, false⟩ :=
  ⟨by kernel_rfl, by kernel_rfl, Try.underlying4, ⟨.bool false, by kernel_rfl, (by simp only [Array.toList, Value.cells, relL_cons, relL_nil, Rel, and_self])⟩, (fun h => by cases h)⟩
theorem vm_ok5 : TIOk Try.prog 5 ⟨.int .u8, 1, [.int .u8 0], 1, none, false⟩ :=
  ⟨by kernel_rfl, by kernel_rfl, Try.underlying5, ⟨.int .u8 0, by kernel_rfl, (by simp only [Array.toList, Value.cells, relL_cons, relL_nil, Rel, and_self])⟩, (fun h => by cases h)⟩
theorem vm_ok6 : TIOk Try.prog 6 ⟨.int .u8, 1, [.int .u8 0], 1, none, false⟩ :=
  ⟨by kernel_rfl, by kernel_rfl, Try.underlying6, ⟨.int .u8 0, by kernel_rfl, (by simp only [Array.toList, Value.cells, relL_cons, relL_nil, Rel, and_self])⟩, (fun h => by cases h)⟩
theorem vm_ok7 : TIOk Try.prog 7 ⟨.struct [(0, 2), (1, 3), (2, 4), (3, 6)], 4, [.int .i64 0, .int .i64 0, .bool false, .int .u8 0], 24, none, true⟩ :=
  ⟨by kernel_rfl, by kernel_rfl, ⟨_, Try.underlying7, rfl⟩, ⟨.agg #[.int .i64 0, .int .i64 0, .bool false, .int .u8 0], by kernel_rfl, (by simp only [Array.toList, Value.cells, relL_cons, relL_nil, Rel, and_self])⟩, (fun _ => ⟨by kernel_rfl, eql7⟩)⟩
theorem vm_ok8 : TIOk Try.prog 8 ⟨.struct [(0, 2), (1, 3), (2, 4), (3, 6)], 4, [.int .i64 0, .int .i64 0, .bool false, .int .u8 0], 24, none, true⟩ :=
  ⟨by kernel_rfl, by kernel_rfl, ⟨_, Try.underlying8, rfl⟩, ⟨.agg #[.int .i64 0, .int .i64 0, .bool false, .int .u8 0], by kernel_rfl, (by simp only [Array.toList, Value.cells, relL_cons, relL_nil, Rel, and_self])⟩, (fun _ => ⟨by kernel_rfl, eql8⟩)⟩
theorem vm_ok12 : TIOk Try.prog 12 ⟨.int .u64, 1, [.int .u64 0], 8, none, false⟩ :=
  ⟨by kernel_rfl, by kernel_rfl, Try.underlying12, ⟨.int .u64 0, by kernel_rfl, (by simp only [Array.toList, Value.cells, relL_cons, relL_nil, Rel, and_self])⟩, (fun h => by cases h)⟩
theorem vm_ok15 : TIOk Try.prog 15 ⟨.ptr 94, 1, [.nilp], 8, none, false⟩ :=
  ⟨by kernel_rfl, by kernel_rfl, Try.underlying15, ⟨.pointer none, by kernel_rfl, (by simp only [Array.toList, Value.cells, relL_cons, relL_nil, Rel, and_self])⟩, (fun h => by cases h)⟩
theorem vm_ok16 : TIOk Try.prog 16 ⟨.ptr 97, 1, [.nilp], 8, none, false⟩ :=
  ⟨by kernel_rfl, by kernel_rfl, Try.underlying16, ⟨.pointer none, by kernel_rfl, (by simp only [Array.toList, Value.cells, relL_cons, relL_nil, Rel, and_self])⟩, (fun h => by cases h)⟩
theorem vm_ok17 : TIOk Try.prog 17 ⟨.ptr 107, 1, [.nilp], 8, none, false⟩ :=
  ⟨by kernel_rfl, by kernel_rfl, Try.underlying17, ⟨.pointer none, by kernel_rfl, (by simp only [Array.toList, Value.cells, relL_cons, relL_nil, Rel, and_self])⟩, (fun h => by cases h)⟩
theorem vm_ok18 : TIOk Try.prog 18 ⟨.struct [(0, 17)], 1, [.nilp], 8, none, false⟩ :=
  ⟨by kernel_rfl, by kernel_rfl, ⟨_, Try.underlying18, rfl⟩, ⟨.agg #[.pointer none], by kernel_rfl, (by simp only [Array.toList, Value.cells, relL_cons, relL_nil, Rel, and_self])⟩, (fun h => by cases h)⟩
theorem vm_ok19 : TIOk Try.prog 19 ⟨.struct [(0, 17)], 1, [.nilp], 8, none, false⟩ :=
  ⟨by kernel_rfl, by kernel_rfl, ⟨_, Try.underlying19, rfl⟩, ⟨.agg #[.pointer none], by kernel_rfl, (by simp only [Array.toList, Value.cells, relL_cons, relL_nil, Rel, and_self])⟩, (fun h => by cases h)⟩
theorem vm_ok21 : TIOk Try.prog 21 ⟨.int .i32, 1, [.int .i32 0], 4, none, false⟩ :=
  ⟨by kernel_rfl, by kernel_rfl, Try.underlying21, ⟨.int .i32 0, by kernel_rfl, (by simp only [Array.toList, Value.cells, relL_cons, relL_nil, Rel, and_self])⟩, (fun h => by cases h)⟩
theorem vm_ok22 : TIOk Try.prog 22 ⟨.slice 4, 1, [.nils], 24, none, false⟩ :=
  ⟨by kernel_rfl, by kernel_rfl, Try.underlying22, ⟨.slice none 0 0, by kernel_rfl, (by simp only [Array.toList, Value.cells, relL_cons, relL_nil, Rel, and_self])⟩, (fun h => by cases h)⟩
theorem vm_ok23 : TIOk Try.prog 23 ⟨.slice 27, 1, [.nils], 24, none, false⟩ :=
  ⟨by kernel_rfl, by kernel_rfl, Try.underlying23, ⟨.slice none 0 0, by kernel_rfl, (by simp only [Array.toList, Value.cells, relL_cons, relL_nil, Rel, and_self])⟩, (fun h => by cases h)⟩
theorem vm_ok24 : TIOk Try.prog 24 ⟨.struct [(0, 3), (1, 3), (2, 3), (3, 22), (4, 23)], 5, [.int .i64 0, .int .i64 0, .int .i64 0, .nils, .nils], 72, none, false⟩ :=
  ⟨by kernel_rfl, by kernel_rfl, ⟨_, Try.underlying24, rfl⟩, ⟨.agg #[.int .i64 0, .int .i64 0, .int .i64 0, .slice none 0 0, .slice none 0 0], by kernel_rfl, (by simp only [Array.toList, Value.cells, relL_cons, relL_nil, Rel, and_self])⟩, (fun h => by cases h)⟩
theorem vm_ok25 : TIOk Try.prog 25 ⟨.struct [(0, 3), (1, 3), (2, 3), (3, 22), (4, 23)], 5, [.int .i64 0, .int .i64 0, .int .i64 0, .nils, .nils], 72, none, false⟩ :=
  ⟨by kernel_rfl, by kernel_rfl, ⟨_, Try.underlying25, rfl⟩, ⟨.agg #[.int .i64 0, .int .i64 0, .int .i64 0, .slice none 0 0, .slice none 0 0], by kernel_rfl, (by simp only [Array.toList, Value.cells, relL_cons, relL_nil, Rel, and_self])⟩, (fun h => by cases h)⟩
theorem vm_ok26 : TIOk Try.prog 26 ⟨.struct [(0, 2), (1, 2), (2, 2)], 3, [.int .i64 0, .int .i64 0, .int .i64 0], 24, none, true⟩ :=
  ⟨by kernel_rfl, by kernel_rfl, ⟨_, Try.underlying26, rfl⟩, ⟨.agg #[.int .i64 0, .int .i64 0, .int .i64 0], by kernel_rfl, (by simp only [Array.toList, Value.cells, relL_cons, relL_nil, Rel, and_self])⟩, (fun _ => ⟨by kernel_rfl, eql26⟩)⟩
theorem vm_ok27 : TIOk Try.prog 27 ⟨.struct [(0, 2), (1, 2), (2, 2)], 3, [.int .i64 0, .int .i64 0, .int .i64 0], 24, some .vec, true⟩ :=
  ⟨by kernel_rfl, by kernel_rfl, ⟨_, Try.underlying27, rfl⟩, ⟨.agg #[.int .i64 0, .int .i64 0, .int .i64 0], by kernel_rfl, (by simp only [Array.toList, Value.cells, relL_cons, relL_nil, Rel, and_self])⟩, (fun _ => ⟨by kernel_rfl, eql27⟩)⟩
theorem vm_ok33 : TIOk Try.prog 33 ⟨.int .i64, 1, [.int .i64 0], 8, none, false⟩ :=
  ⟨by kernel_rfl, by kernel_rfl, Try.underlying33, ⟨.int .i64 0, by kernel_rfl, (by simp only [Array.toList, Value.cells, relL_cons, relL_nil, Rel, and_self])⟩, (fun h => by cases h)⟩
theorem vm_ok43 : TIOk Try.prog 43 ⟨.int .i16, 1, [.int .i16 0], 2, none, false⟩ :=
  ⟨by kernel_rfl, by kernel_rfl, Try.underlying43, ⟨.int .i16 0, by kernel_rfl, (by simp only [Array.toList, Value.cells, relL_cons, relL_nil, Rel, and_self])⟩, (fun h => by cases h)⟩
theorem vm_ok47 : TIOk Try.prog 47 ⟨.int .u64, 1, [.int .u64 0], 8, none, false⟩ :=
  ⟨by kernel_rfl, by kernel_rfl, Try.underlying47, ⟨.int .u64 0, by kernel_rfl, (by simp only [Array.toList, Value.cells, relL_cons, relL_nil, Rel, and_self])⟩, (fun h => by cases h)⟩
theorem vm_ok54 : TIOk Try.prog 54 ⟨.struct [(0, 3), (1, 3), (2, 2), (3, 2)], 4, [.int .i64 0, .int .i64 0, .int .i64 0, .int .i64 0], 32, none, true⟩ :=
  ⟨by kernel_rfl, by kernel_rfl, ⟨_, Try.underlying54, rfl⟩, ⟨.agg #[.int .i64 0, .int .i64 0, .int .i64 0, .int .i64 0], by kernel_rfl, (by simp only [Array.toList, Value.cells, relL_cons, relL_nil, Rel, and_self])⟩, (fun _ => ⟨by kernel_rfl, eql54⟩)⟩
theorem vm_ok55 : TIOk Try.prog 55 ⟨.struct [(0, 3), (1, 3), (2, 2), (3, 2)], 4, [.int .i64 0, .int .i64 0, .int .i64 0, .int .i64 0], 32, none, true⟩ :=
  ⟨by kernel_rfl, by kernel_rfl, ⟨_, Try.underlying55, rfl⟩, ⟨.agg #[.int .i64 0, .int .i64 0, .int .i64 0, .int .i64 0], by kernel_rfl, (by simp only [Array.toList, Value.cells, relL_cons, relL_nil, Rel, and_self])⟩, (fun _ => ⟨by kernel_rfl, eql55⟩)⟩
theorem vm_ok57 : TIOk Try.prog 57 ⟨.array 3 55, 12, [.int .i64 0, .int .i64 0, .int .i64 0, .int .i64 0, .int .i64 0, .int .i64 0, .int .i64 0, .int .i64 0, .int .i64 0, .int .i64 0, .int .i64 0, .int .i64 0], 96, none, true⟩ :=
  ⟨by kernel_rfl, by kernel_rfl, Try.underlying57, ⟨.agg #[.int .i64 0, .int .i64 0, .int .i64 0, .int .i64 0, .int .i64 0, .int .i64 0, .int .i64 0, .int .i64 0, .int .i64 0, .int .i64 0, .int .i64 0, .int .i64 0], by kernel_rfl, (by simp only [Array.toList, Value.cells, relL_cons, relL_nil, Rel, and_self])⟩, (fun _ => ⟨by kernel_rfl, eql57⟩)⟩
theorem vm_ok58 : TIOk Try.prog 58 ⟨.ptr 55, 1, [.nilp], 8, none, false⟩ :=
  ⟨by kernel_rfl, by kernel_rfl, Try.underlying58, ⟨.pointer none, by kernel_rfl, (by simp only [Array.toList, Value.cells, relL_cons, relL_nil, Rel, and_self])⟩, (fun h => by cases h)⟩
theorem vm_ok61 : TIOk Try.prog 61 ⟨.struct [(0, 2), (1, 2)], 2, [.int .i64 0, .int .i64 0], 16, none, true⟩ :=
  ⟨by kernel_rfl, by kernel_rfl, ⟨_, Try.underlying61, rfl⟩, ⟨.agg #[.int .i64 0, .int .i64 0], by kernel_rfl, (by simp only [Array.toList, Value.cells, relL_cons, relL_nil, Rel, and_self])⟩, (fun _ => ⟨by kernel_rfl, eql61⟩)⟩
theorem vm_ok62 : TIOk Try.prog 62 ⟨.struct [(0, 2), (1, 2)], 2, [.int .i64 0, .int .i64 0], 16, some .pt, true⟩ :=
  ⟨by kernel_rfl, by kernel_rfl, ⟨_, Try.underlying62, rfl⟩, ⟨.agg #[.int .i64 0, .int .i64 0], by kernel_rfl, (by simp only [Array.toList, Value.cells, relL_cons, relL_nil, Rel, and_self])⟩, (fun _ => ⟨by kernel_rfl, eql62⟩)⟩
theorem vm_ok63 : TIOk Try.prog 63 ⟨.slice 62, 1, [.nils], 24, none, false⟩ :=
  ⟨by kernel_rfl, by kernel_rfl, Try.underlying63, ⟨.slice none 0 0, by kernel_rfl, (by simp only [Array.toList, Value.cells, relL_cons, relL_nil, Rel, and_self])⟩, (fun h => by cases h)⟩
theorem vm_ok73 : TIOk Try.prog 73 ⟨.int .u64, 1, [.int .u64 0], 8, some .u64, false⟩ :=
  ⟨by kernel_rfl, by kernel_rfl, Try.underlying73, ⟨.int .u64 0, by kernel_rfl, (by simp only [Array.toList, Value.cells, relL_cons, relL_nil, Rel, and_self])⟩, (fun h => by cases h)⟩
theorem vm_ok74 : TIOk Try.prog 74 ⟨.struct [(0, 73), (1, 73)], 2, [.int .u64 0, .int .u64 0], 16, none, true⟩ :=
  ⟨by kernel_rfl, by kernel_rfl, ⟨_, Try.underlying74, rfl⟩, ⟨.agg #[.int .u64 0, .int .u64 0], by kernel_rfl, (by simp only [Array.toList, Value.cells, relL_cons, relL_nil, Rel, and_self])⟩, (fun _ => ⟨by kernel_rfl, eql74⟩)⟩
theorem vm_ok75 : TIOk Try.prog 75 ⟨.struct [(0, 73), (1, 73)], 2, [.int .u64 0, .int .u64 0], 16, none, true⟩ :=
  ⟨by kernel_rfl, by kernel_rfl, ⟨_, Try.underlying75, rfl⟩, ⟨.agg #[.int .u64 0, .int .u64 0], by kernel_rfl, (by simp only [Array.toList, Value.cells, relL_cons, relL_nil, Rel, and_self])⟩, (fun _ => ⟨by kernel_rfl, eql75⟩)⟩
theorem vm_ok78 : TIOk Try.prog 78 ⟨.slice 73, 1, [.nils], 24, none, false⟩ :=
  ⟨by kernel_rfl, by kernel_rfl, Try.underlying78, ⟨.slice none 0 0, by kernel_rfl, (by simp only [Array.toList, Value.cells, relL_cons, relL_nil, Rel, and_self])⟩, (fun h => by cases h)⟩
theorem vm_ok79 : TIOk Try.prog 79 ⟨.struct [(0, 4), (1, 78)], 2, [.bool false, .nils], 32, none, false⟩ :=
  ⟨by kernel_rfl, by kernel_rfl, ⟨_, Try.underlying79, rfl⟩, ⟨.agg #[.bool false, .slice none 0 0], by kernel_rfl, (by simp only [Array.toList, Value.cells, relL_cons, relL_nil, Rel, and_self])⟩, (fun h => by cases h)⟩
theorem vm_ok80 : TIOk Try.prog 80 ⟨.struct [(0, 4), (1, 78)], 2, [.bool false, .nils], 32, none, false⟩ :=
  ⟨by kernel_rfl, by kernel_rfl, ⟨_, Try.underlying80, rfl⟩, ⟨.agg #[.bool false, .slice none 0 0], by kernel_rfl, (by simp only [Array.toList, Value.cells, relL_cons, relL_nil, Rel, and_self])⟩, (fun h => by cases h)⟩
theorem vm_ok95 : TIOk Try.prog 95 ⟨.array 0 16, 0, [], 0, none, false⟩ :=
  ⟨by kernel_rfl, by kernel_rfl, Try.underlying95, ⟨.agg #[], by kernel_rfl, (by simp only [Array.toList, Value.cells, relL_cons, relL_nil, Rel, and_self])⟩, (fun h => by cases h)⟩
theorem vm_ok96 : TIOk Try.prog 96 ⟨.struct [(0, 95)], 0, [], 0, none, false⟩ :=
  ⟨by kernel_rfl, by kernel_rfl, ⟨_, Try.underlying96, rfl⟩, ⟨.agg #[], by kernel_rfl, (by simp only [Array.toList, Value.cells, relL_cons, relL_nil, Rel, and_self])⟩, (fun h => by cases h)⟩
theorem vm_ok97 : TIOk Try.prog 97 ⟨.struct [(0, 95)], 0, [], 0, none, false⟩ :=
  ⟨by kernel_rfl, by kernel_rfl, ⟨_, Try.underlying97, rfl⟩, ⟨.agg #[], by kernel_rfl, (by simp only [Array.toList, Value.cells, relL_cons, relL_nil, Rel, and_self])⟩, (fun h => by cases h)⟩
theorem vm_ok99 : TIOk Try.prog 99 ⟨.int .u32, 1, [.int .u32 0], 4, none, false⟩ :=
  ⟨by kernel_rfl, by kernel_rfl, Try.underlying99, ⟨.int .u32 0, by kernel_rfl, (by simp only [Array.toList, Value.cells, relL_cons, relL_nil, Rel, and_self])⟩, (fun h => by cases h)⟩
theorem vm_ok100 : TIOk Try.prog 100 ⟨.int .u8, 1, [.int .u8 0], 1, none, false⟩ :=
  ⟨by kernel_rfl, by kernel_rfl, Try.underlying100, ⟨.int .u8 0, by kernel_rfl, (by simp only [Array.toList, Value.cells, relL_cons, relL_nil, Rel, and_self])⟩, (fun h => by cases h)⟩
theorem vm_ok101 : TIOk Try.prog 101 ⟨.int .u8, 1, [.int .u8 0], 1, none, false⟩ :=
  ⟨by kernel_rfl, by kernel_rfl, Try.underlying101, ⟨.int .u8 0, by kernel_rfl, (by simp only [Array.toList, Value.cells, relL_cons, relL_nil, Rel, and_self])⟩, (fun h => by cases h)⟩
theorem vm_ok103 : TIOk Try.prog 103 ⟨.ptr 5, 1, [.nilp], 8, none, false⟩ :=
  ⟨by kernel_rfl, by kernel_rfl, Try.underlying103, ⟨.pointer none, by kernel_rfl, (by simp only [Array.toList, Value.cells, relL_cons, relL_nil, Rel, and_self])⟩, (fun h => by cases h)⟩
theorem vm_ok104 : TIOk Try.prog 104 ⟨.int .i32, 1, [.int .i32 0], 4, none, false⟩ :=
  ⟨by kernel_rfl, by kernel_rfl, Try.underlying104, ⟨.int .i32 0, by kernel_rfl, (by simp only [Array.toList, Value.cells, relL_cons, relL_nil, Rel, and_self])⟩, (fun h => by cases h)⟩
theorem vm_ok105 : TIOk Try.prog 105 ⟨.int .i32, 1, [.int .i32 0], 4, none, false⟩ :=
  ⟨by kernel_rfl, by kernel_rfl, Try.underlying105, ⟨.int .i32 0, by kernel_rfl, (by simp only [Array.toList, Value.cells, relL_cons, relL_nil, Rel, and_self])⟩, (fun h => by cases h)⟩

theorem vmT_ok : ∀ t ti, vmT t = some ti → TIOk Try.prog t ti := by
  intro t ti h
  unfold vmT at h
  split at h <;> first | (cases h; done) | (simp only [Option.some.injEq] at h; subst h)
  · exact vm_ok2
  · exact vm_ok3
  · exact vm_ok4
  · exact vm_ok5
  · exact vm_ok6
  · exact vm_ok7
  · exact vm_ok8
  · exact vm_ok12
  · exact vm_ok15
  · exact vm_ok16
  · exact vm_ok17
  · exact vm_ok18
  · exact vm_ok19
  · exact vm_ok21
  · exact vm_ok22
  · exact vm_ok23
  · exact vm_ok24
  · exact vm_ok25
  · exact vm_ok26
  · exact vm_ok27
  · exact vm_ok33
  · exact vm_ok43
  · exact vm_ok47
  · exact vm_ok54
  · exact vm_ok55
  · exact vm_ok57
  · exact vm_ok58
  · exact vm_ok61
  · exact vm_ok62
  · exact vm_ok63
  · exact vm_ok73
  · exact vm_ok74
  · exact vm_ok75
  · exact vm_ok78
  · exact vm_ok79
  · exact vm_ok80
  · exact vm_ok95
  · exact vm_ok96
  · exact vm_ok97
  · exact vm_ok99
  · exact vm_ok100
  · exact vm_ok101
  · exact vm_ok103
  · exact vm_ok104
  · exact vm_ok105

end Go.Proofs.Ytikifgbbiffclaa
