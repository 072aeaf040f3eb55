/- The table of this translation's types for the small machine. -/
import Derived.Test.YtboljdeeodeeeaaVmE
namespace Go.Proofs.Ytboljdeeodeeeaa
set_option linter.unusedSimpArgs false
set_option linter.unusedVariables false
set_option maxRecDepth 100000
open Go.RowKit

theorem eqL_int {k : IntKind} {n : Int} {zs xs ys : List SV} {r : Bool} (h : eqL (.int k n :: zs) xs ys = some r) : ∃ (a b : Int) (xs' ys' : List SV) (r' : Bool), xs = .int k a :: xs' ∧ ys = .int k b :: ys' ∧ r = ((a == b) && r') ∧ eqL zs xs' ys' = some r' := by
  cases xs with
  | nil => simp [eqL] at h
  | cons x xs =>
    cases ys with
    | nil => simp [eqL] at h
    | cons y ys =>
      simp only [eqL] at h
      split at h
      · rename_i p q hp hq
        cases h
        unfold eqC at hp
        split at hp
        · rename_i k0 _ k1 a k2 b heq
          cases heq
          by_cases h1 : k1 = k <;> by_cases h2 : k2 = k <;> simp [h1, h2] at hp
          subst h1 h2
          subst hp
          exact ⟨a, b, xs, ys, q, rfl, rfl, rfl, hq⟩
        · rename_i heq; cases heq
        · cases hp
      · cases h
theorem eqL_bool {n : Bool} {zs xs ys : List SV} {r : Bool} (h : eqL (.bool n :: zs) xs ys = some r) : ∃ (a b : Bool) (xs' ys' : List SV) (r' : Bool), xs = .bool a :: xs' ∧ ys = .bool b :: ys' ∧ r = ((a == b) && r') ∧ eqL zs xs' ys' = some r' := by
  cases xs with
  | nil => simp [eqL] at h
  | cons x xs =>
    cases ys with
    | nil => simp [eqL] at h
    | cons y ys =>
      simp only [eqL] at h
      split at h
      · rename_i p q hp hq
        cases h
        unfold eqC at hp
        split at hp
        · rename_i heq; cases heq
        · rename_i a b heq
          simp only [Option.some.injEq] at hp
          subst hp
          exact ⟨a, b, xs, ys, q, rfl, rfl, rfl, hq⟩
        · cases hp
      · cases h
theorem eqL_nil {xs ys : List SV} {r : Bool} (h : eqL [] xs ys = some r) : xs = [] ∧ ys = [] ∧ r = true := by
  cases xs <;> cases ys <;> simp [eqL] at h <;> simp [h]

theorem vm_one2 : One Try.prog 2 := ⟨⟨_, Try.underlying2, rfl⟩, by kernel_rfl⟩
theorem vm_one3 : One Try.prog 3 := ⟨⟨_, Try.underlying3, rfl⟩, by kernel_rfl⟩
theorem vm_one4 : One Try.prog 4 := ⟨⟨_, Try.underlying4, rfl⟩, by kernel_rfl⟩
theorem vm_one5 : One Try.prog 5 := ⟨⟨_, Try.underlying5, rfl⟩, by kernel_rfl⟩
theorem vm_one6 : One Try.prog 6 := ⟨⟨_, Try.underlying6, rfl⟩, by kernel_rfl⟩
theorem vm_agg7 : Agg Try.prog 7 4 := ⟨⟨_, Try.underlying7, rfl⟩, by kernel_rfl⟩
theorem vm_agg8 : Agg Try.prog 8 4 := ⟨⟨_, Try.underlying8, rfl⟩, by kernel_rfl⟩
theorem vm_one12 : One Try.prog 12 := ⟨⟨_, Try.underlying12, rfl⟩, by kernel_rfl⟩
theorem vm_agg13 : Agg Try.prog 13 2 := ⟨⟨_, Try.underlying13, rfl⟩, by kernel_rfl⟩
theorem vm_agg14 : Agg Try.prog 14 2 := ⟨⟨_, Try.underlying14, rfl⟩, by kernel_rfl⟩
theorem vm_one15 : One Try.prog 15 := ⟨⟨_, Try.underlying15, rfl⟩, by kernel_rfl⟩
theorem vm_one16 : One Try.prog 16 := ⟨⟨_, Try.underlying16, rfl⟩, by kernel_rfl⟩
theorem vm_one17 : One Try.prog 17 := ⟨⟨_, Try.underlying17, rfl⟩, by kernel_rfl⟩
theorem vm_agg18 : Agg Try.prog 18 1 := ⟨⟨_, Try.underlying18, rfl⟩, by kernel_rfl⟩
theorem vm_agg19 : Agg Try.prog 19 1 := ⟨⟨_, Try.underlying19, rfl⟩, by kernel_rfl⟩
theorem vm_one21 : One Try.prog 21 := ⟨⟨_, Try.underlying21, rfl⟩, by kernel_rfl⟩
theorem vm_agg22 : Agg Try.prog 22 3 := ⟨⟨_, Try.underlying22, rfl⟩, by kernel_rfl⟩
theorem vm_agg23 : Agg Try.prog 23 3 := ⟨⟨_, Try.underlying23, rfl⟩, by kernel_rfl⟩
theorem vm_agg24 : Agg Try.prog 24 2 := ⟨⟨_, Try.underlying24, rfl⟩, by kernel_rfl⟩
theorem vm_agg25 : Agg Try.prog 25 15 := ⟨⟨_, Try.underlying25, rfl⟩, by kernel_rfl⟩
theorem vm_agg26 : Agg Try.prog 26 15 := ⟨⟨_, Try.underlying26, rfl⟩, by kernel_rfl⟩
theorem vm_one30 : One Try.prog 30 := ⟨⟨_, Try.underlying30, rfl⟩, by kernel_rfl⟩
theorem vm_one31 : One Try.prog 31 := ⟨⟨_, Try.underlying31, rfl⟩, by kernel_rfl⟩
theorem vm_agg32 : Agg Try.prog 32 5 := ⟨⟨_, Try.underlying32, rfl⟩, by kernel_rfl⟩
theorem vm_agg33 : Agg Try.prog 33 5 := ⟨⟨_, Try.underlying33, rfl⟩, by kernel_rfl⟩
theorem vm_one34 : One Try.prog 34 := ⟨⟨_, Try.underlying34, rfl⟩, by kernel_rfl⟩
theorem vm_one48 : One Try.prog 48 := ⟨⟨_, Try.underlying48, rfl⟩, by kernel_rfl⟩
theorem vm_agg55 : Agg Try.prog 55 4 := ⟨⟨_, Try.underlying55, rfl⟩, by kernel_rfl⟩
theorem vm_agg56 : Agg Try.prog 56 4 := ⟨⟨_, Try.underlying56, rfl⟩, by kernel_rfl⟩
theorem vm_agg58 : Agg Try.prog 58 12 := ⟨⟨_, Try.underlying58, rfl⟩, by kernel_rfl⟩
theorem vm_one59 : One Try.prog 59 := ⟨⟨_, Try.underlying59, rfl⟩, by kernel_rfl⟩
theorem vm_one63 : One Try.prog 63 := ⟨⟨_, Try.underlying63, rfl⟩, by kernel_rfl⟩
theorem vm_agg64 : Agg Try.prog 64 2 := ⟨⟨_, Try.underlying64, rfl⟩, by kernel_rfl⟩
theorem vm_agg65 : Agg Try.prog 65 2 := ⟨⟨_, Try.underlying65, rfl⟩, by kernel_rfl⟩
theorem vm_one72 : One Try.prog 72 := ⟨⟨_, Try.underlying72, rfl⟩, by kernel_rfl⟩
theorem vm_agg73 : Agg Try.prog 73 2 := ⟨⟨_, Try.underlying73, rfl⟩, by kernel_rfl⟩
theorem vm_agg74 : Agg Try.prog 74 2 := ⟨⟨_, Try.underlying74, rfl⟩, by kernel_rfl⟩
theorem vm_agg79 : Agg Try.prog 79 2 := ⟨⟨_, Try.underlying79, rfl⟩, by kernel_rfl⟩
theorem vm_agg80 : Agg Try.prog 80 2 := ⟨⟨_, Try.underlying80, rfl⟩, by kernel_rfl⟩
theorem vm_one81 : One Try.prog 81 := ⟨⟨_, Try.underlying81, rfl⟩, by kernel_rfl⟩
theorem vm_one85 : One Try.prog 85 := ⟨⟨_, Try.underlying85, rfl⟩, by kernel_rfl⟩
theorem vm_agg105 : Agg Try.prog 105 4 := ⟨⟨_, Try.underlying105, rfl⟩, by kernel_rfl⟩
theorem vm_agg106 : Agg Try.prog 106 4 := ⟨⟨_, Try.underlying106, rfl⟩, by kernel_rfl⟩
theorem vm_agg107 : Agg Try.prog 107 0 := ⟨⟨_, Try.underlying107, rfl⟩, by kernel_rfl⟩
theorem vm_agg108 : Agg Try.prog 108 0 := ⟨⟨_, Try.underlying108, rfl⟩, by kernel_rfl⟩
theorem vm_agg109 : Agg Try.prog 109 0 := ⟨⟨_, Try.underlying109, rfl⟩, by kernel_rfl⟩
theorem vm_one111 : One Try.prog 111 := ⟨⟨_, Try.underlying111, rfl⟩, by kernel_rfl⟩
theorem vm_one112 : One Try.prog 112 := ⟨⟨_, Try.underlying112, rfl⟩, by kernel_rfl⟩
theorem vm_one113 : One Try.prog 113 := ⟨⟨_, Try.underlying113, rfl⟩, by kernel_rfl⟩
theorem vm_one115 : One Try.prog 115 := ⟨⟨_, Try.underlying115, rfl⟩, by kernel_rfl⟩
theorem vm_one116 : One Try.prog 116 := ⟨⟨_, Try.underlying116, rfl⟩, by kernel_rfl⟩
theorem vm_one117 : One Try.prog 117 := ⟨⟨_, Try.underlying117, rfl⟩, by kernel_rfl⟩
theorem vm_agg118 : Agg Try.prog 118 11 := ⟨⟨_, Try.underlying118, rfl⟩, by kernel_rfl⟩
theorem vm_agg119 : Agg Try.prog 119 11 := ⟨⟨_, Try.underlying119, rfl⟩, by kernel_rfl⟩

theorem eqv7 (d : Nat) (w : World) (a0 : Int) (a1 : Int) (a2 : Bool) (a3 : Int) (b0 : Int) (b1 : Int) (b2 : Bool) (b3 : Int) : (Op.equalIn (d + 2) 7 (.agg #[.int .i64 a0, .int .i64 a1, .bool a2, .int .u8 a3]) (.agg #[.int .i64 b0, .int .i64 b1, .bool b2, .int .u8 b3])).run Try.prog w = .ok ((a0 == b0) && ((a1 == b1) && ((a2 == b2) && ((a3 == b3) && true)))) w :=
  eqs_of (P := Try.prog) (d := d + 1) (xs := #[.int .i64 a0, .int .i64 a1, .bool a2, .int .u8 a3]) (ys := #[.int .i64 b0, .int .i64 b1, .bool b2, .int .u8 b3]) w Try.underlying7 (by kernel_rfl) (eqf_cons w rfl (part_one vm_one2 w _ _ rfl) (part_one vm_one2 w _ _ rfl) (run_equalIn_int w _ 2 _ _ _ _ Try.underlying2) (eqf_cons w rfl (part_one vm_one3 w _ _ rfl) (part_one vm_one3 w _ _ rfl) (run_equalIn_int w _ 3 _ _ _ _ Try.underlying3) (eqf_cons w rfl (part_one vm_one4 w _ _ rfl) (part_one vm_one4 w _ _ rfl) (run_equalIn_bool w _ 4 _ _ Try.underlying4) (eqf_cons w rfl (part_one vm_one6 w _ _ rfl) (part_one vm_one6 w _ _ rfl) (run_equalIn_int w _ 6 _ _ _ _ Try.underlying6) (eqf_nil _ _ _ w)))))

theorem eql7 (xs ys : List SV) (r : Bool) (h : eqL [.int .i64 0, .int .i64 0, .bool false, .int .u8 0] xs ys = some r) (w : World) : (Op.equalIn 10000 7 (.agg (xs.map dval).toArray) (.agg (ys.map dval).toArray)).run Try.prog w = .ok r w := by
  obtain ⟨a0, b0, xs0, ys0, r0, rfl, rfl, rfl, h0⟩ := eqL_int h
  obtain ⟨a1, b1, xs1, ys1, r1, rfl, rfl, rfl, h1⟩ := eqL_int h0
  obtain ⟨a2, b2, xs2, ys2, r2, rfl, rfl, rfl, h2⟩ := eqL_bool h1
  obtain ⟨a3, b3, xs3, ys3, r3, rfl, rfl, rfl, h3⟩ := eqL_int h2
  obtain ⟨rfl, rfl, rfl⟩ := eqL_nil h3
  have e := eqv7 9998 w a0 a1 a2 a3 b0 b1 b2 b3
  simp only [Bool.and_assoc, Bool.true_and, Bool.and_true] at e ⊢
  exact e

theorem eqv8 (d : Nat) (w : World) (a0 : Int) (a1 : Int) (a2 : Bool) (a3 : Int) (b0 : Int) (b1 : Int) (b2 : Bool) (b3 : Int) : (Op.equalIn (d + 2) 8 (.agg #[.int .i64 a0, .int .i64 a1, .bool a2, .int .u8 a3]) (.agg #[.int .i64 b0, .int .i64 b1, .bool b2, .int .u8 b3])).run Try.prog w = .ok ((a0 == b0) && ((a1 == b1) && ((a2 == b2) && ((a3 == b3) && true)))) w :=
  eqs_of (P := Try.prog) (d := d + 1) (xs := #[.int .i64 a0, .int .i64 a1, .bool a2, .int .u8 a3]) (ys := #[.int .i64 b0, .int .i64 b1, .bool b2, .int .u8 b3]) w Try.underlying8 (by kernel_rfl) (eqf_cons w rfl (part_one vm_one2 w _ _ rfl) (part_one vm_one2 w _ _ rfl) (run_equalIn_int w _ 2 _ _ _ _ Try.underlying2) (eqf_cons w rfl (part_one vm_one3 w _ _ rfl) (part_one vm_one3 w _ _ rfl) (run_equalIn_int w _ 3 _ _ _ _ Try.underlying3) (eqf_cons w rfl (part_one vm_one4 w _ _ rfl) (part_one vm_one4 w _ _ rfl) (run_equalIn_bool w _ 4 _ _ Try.underlying4) (eqf_cons w rfl (part_one vm_one6 w _ _ rfl) (part_one vm_one6 w _ _ rfl) (run_equalIn_int w _ 6 _ _ _ _ Try.underlying6) (eqf_nil _ _ _ w)))))

theorem eql8 (xs ys : List SV) (r : Bool) (h : eqL [.int .i64 0, .int .i64 0, .bool false, .int .u8 0] xs ys = some r) (w : World) : (Op.equalIn 10000 8 (.agg (xs.map dval).toArray) (.agg (ys.map dval).toArray)).run Try.prog w = .ok r w := by
  obtain ⟨a0, b0, xs0, ys0, r0, rfl, rfl, rfl, h0⟩ := eqL_int h
  obtain ⟨a1, b1, xs1, ys1, r1, rfl, rfl, rfl, h1⟩ := eqL_int h0
  obtain ⟨a2, b2, xs2, ys2, r2, rfl, rfl, rfl, h2⟩ := eqL_bool h1
  obtain ⟨a3, b3, xs3, ys3, r3, rfl, rfl, rfl, h3⟩ := eqL_int h2
  obtain ⟨rfl, rfl, rfl⟩ := eqL_nil h3
  have e := eqv8 9998 w a0 a1 a2 a3 b0 b1 b2 b3
  simp only [Bool.and_assoc, Bool.true_and, Bool.and_true] at e ⊢
  exact e

theorem eqv22 (d : Nat) (w : World) (a0 : Int) (a1 : Int) (a2 : Int) (b0 : Int) (b1 : Int) (b2 : Int) : (Op.equalIn (d + 2) 22 (.agg #[.int .i64 a0, .int .i64 a1, .int .i64 a2]) (.agg #[.int .i64 b0, .int .i64 b1, .int .i64 b2])).run Try.prog w = .ok ((a0 == b0) && ((a1 == b1) && ((a2 == b2) && true))) w :=
  eqs_of (P := Try.prog) (d := d + 1) (xs := #[.int .i64 a0, .int .i64 a1, .int .i64 a2]) (ys := #[.int .i64 b0, .int .i64 b1, .int .i64 b2]) w Try.underlying22 (by kernel_rfl) (eqf_cons w rfl (part_one vm_one2 w _ _ rfl) (part_one vm_one2 w _ _ rfl) (run_equalIn_int w _ 2 _ _ _ _ Try.underlying2) (eqf_cons w rfl (part_one vm_one2 w _ _ rfl) (part_one vm_one2 w _ _ rfl) (run_equalIn_int w _ 2 _ _ _ _ Try.underlying2) (eqf_cons w rfl (part_one vm_one2 w _ _ rfl) (part_one vm_one2 w _ _ rfl) (run_equalIn_int w _ 2 _ _ _ _ Try.underlying2) (eqf_nil _ _ _ w))))

theorem eql22 (xs ys : List SV) (r : Bool) (h : eqL [.int .i64 0, .int .i64 0, .int .i64 0] xs ys = some r) (w : World) : (Op.equalIn 10000 22 (.agg (xs.map dval).toArray) (.agg (ys.map dval).toArray)).run Try.prog w = .ok r w := by
  obtain ⟨a0, b0, xs0, ys0, r0, rfl, rfl, rfl, h0⟩ := eqL_int h
  obtain ⟨a1, b1, xs1, ys1, r1, rfl, rfl, rfl, h1⟩ := eqL_int h0
  obtain ⟨a2, b2, xs2, ys2, r2, rfl, rfl, rfl, h2⟩ := eqL_int h1
  obtain ⟨rfl, rfl, rfl⟩ := eqL_nil h2
  have e := eqv22 9998 w a0 a1 a2 b0 b1 b2
  simp only [Bool.and_assoc, Bool.true_and, Bool.and_true] at e ⊢
  exact e

theorem eqv23 (d : Nat) (w : World) (a0 : Int) (a1 : Int) (a2 : Int) (b0 : Int) (b1 : Int) (b2 : Int) : (Op.equalIn (d + 2) 23 (.agg #[.int .i64 a0, .int .i64 a1, .int .i64 a2]) (.agg #[.int .i64 b0, .int .i64 b1, .int .i64 b2])).run Try.prog w = .ok ((a0 == b0) && ((a1 == b1) && ((a2 == b2) && true))) w :=
  eqs_of (P := Try.prog) (d := d + 1) (xs := #[.int .i64 a0, .int .i64 a1, .int .i64 a2]) (ys := #[.int .i64 b0, .int .i64 b1, .int .i64 b2]) w Try.underlying23 (by kernel_rfl) (eqf_cons w rfl (part_one vm_one2 w _ _ rfl) (part_one vm_one2 w _ _ rfl) (run_equalIn_int w _ 2 _ _ _ _ Try.underlying2) (eqf_cons w rfl (part_one vm_one2 w _ _ rfl) (part_one vm_one2 w _ _ rfl) (run_equalIn_int w _ 2 _ _ _ _ Try.underlying2) (eqf_cons w rfl (part_one vm_one2 w _ _ rfl) (part_one vm_one2 w _ _ rfl) (run_equalIn_int w _ 2 _ _ _ _ Try.underlying2) (eqf_nil _ _ _ w))))

theorem eql23 (xs ys : List SV) (r : Bool) (h : eqL [.int .i64 0, .int .i64 0, .int .i64 0] xs ys = some r) (w : World) : (Op.equalIn 10000 23 (.agg (xs.map dval).toArray) (.agg (ys.map dval).toArray)).run Try.prog w = .ok r w := by
  obtain ⟨a0, b0, xs0, ys0, r0, rfl, rfl, rfl, h0⟩ := eqL_int h
  obtain ⟨a1, b1, xs1, ys1, r1, rfl, rfl, rfl, h1⟩ := eqL_int h0
  obtain ⟨a2, b2, xs2, ys2, r2, rfl, rfl, rfl, h2⟩ := eqL_int h1
  obtain ⟨rfl, rfl, rfl⟩ := eqL_nil h2
  have e := eqv23 9998 w a0 a1 a2 b0 b1 b2
  simp only [Bool.and_assoc, Bool.true_and, Bool.and_true] at e ⊢
  exact e

theorem eqv24 (d : Nat) (w : World) (a0 : Int) (a1 : Int) (b0 : Int) (b1 : Int) : (Op.equalIn (d + 2) 24 (.agg #[.int .i64 a0, .int .i64 a1]) (.agg #[.int .i64 b0, .int .i64 b1])).run Try.prog w = .ok ((a0 == b0) && (a1 == b1)) w :=
  eqa_two (d := d + 1) (n := 1) w Try.underlying24 vm_one3.size (part_one vm_one3 w _ _ rfl) (part_one vm_one3 w _ _ rfl) (part_one vm_one3 w _ _ rfl) (part_one vm_one3 w _ _ rfl) (run_equalIn_int w _ 3 _ _ _ _ Try.underlying3) (run_equalIn_int w _ 3 _ _ _ _ Try.underlying3)

theorem eql24 (xs ys : List SV) (r : Bool) (h : eqL [.int .i64 0, .int .i64 0] xs ys = some r) (w : World) : (Op.equalIn 10000 24 (.agg (xs.map dval).toArray) (.agg (ys.map dval).toArray)).run Try.prog w = .ok r w := by
  obtain ⟨a0, b0, xs0, ys0, r0, rfl, rfl, rfl, h0⟩ := eqL_int h
  obtain ⟨a1, b1, xs1, ys1, r1, rfl, rfl, rfl, h1⟩ := eqL_int h0
  obtain ⟨rfl, rfl, rfl⟩ := eqL_nil h1
  have e := eqv24 9998 w a0 a1 b0 b1
  simp only [Bool.and_assoc, Bool.true_and, Bool.and_true] at e ⊢
  exact e

theorem eqv55 (d : Nat) (w : World) (a0 : Int) (a1 : Int) (a2 : Int) (a3 : Int) (b0 : Int) (b1 : Int) (b2 : Int) (b3 : Int) : (Op.equalIn (d + 2) 55 (.agg #[.int .i64 a0, .int .i64 a1, .int .i64 a2, .int .i64 a3]) (.agg #[.int .i64 b0, .int .i64 b1, .int .i64 b2, .int .i64 b3])).run Try.prog w = .ok ((a0 == b0) && ((a1 == b1) && ((a2 == b2) && ((a3 == b3) && true)))) w :=
  eqs_of (P := Try.prog) (d := d + 1) (xs := #[.int .i64 a0, .int .i64 a1, .int .i64 a2, .int .i64 a3]) (ys := #[.int .i64 b0, .int .i64 b1, .int .i64 b2, .int .i64 b3]) w Try.underlying55 (by kernel_rfl) (eqf_cons w rfl (part_one vm_one3 w _ _ rfl) (part_one vm_one3 w _ _ rfl) (run_equalIn_int w _ 3 _ _ _ _ Try.underlying3) (eqf_cons w rfl (part_one vm_one3 w _ _ rfl) (part_one vm_one3 w _ _ rfl) (run_equalIn_int w _ 3 _ _ _ _ Try.underlying3) (eqf_cons w rfl (part_one vm_one2 w _ _ rfl) (part_one vm_one2 w _ _ rfl) (run_equalIn_int w _ 2 _ _ _ _ Try.underlying2) (eqf_cons w rfl (part_one vm_one2 w _ _ rfl) (part_one vm_one2 w _ _ rfl) (run_equalIn_int w _ 2 _ _ _ _ Try.underlying2) (eqf_nil _ _ _ w)))))

theorem eql55 (xs ys : List SV) (r : Bool) (h : eqL [.int .i64 0, .int .i64 0, .int .i64 0, .int .i64 0] xs ys = some r) (w : World) : (Op.equalIn 10000 55 (.agg (xs.map dval).toArray) (.agg (ys.map dval).toArray)).run Try.prog w = .ok r w := by
  obtain ⟨a0, b0, xs0, ys0, r0, rfl, rfl, rfl, h0⟩ := eqL_int h
  obtain ⟨a1, b1, xs1, ys1, r1, rfl, rfl, rfl, h1⟩ := eqL_int h0
  obtain ⟨a2, b2, xs2, ys2, r2, rfl, rfl, rfl, h2⟩ := eqL_int h1
  obtain ⟨a3, b3, xs3, ys3, r3, rfl, rfl, rfl, h3⟩ := eqL_int h2
  obtain ⟨rfl, rfl, rfl⟩ := eqL_nil h3
  have e := eqv55 9998 w a0 a1 a2 a3 b0 b1 b2 b3
  simp only [Bool.and_assoc, Bool.true_and, Bool.and_true] at e ⊢
  exact e

theorem eqv56 (d : Nat) (w : World) (a0 : Int) (a1 : Int) (a2 : Int) (a3 : Int) (b0 : Int) (b1 : Int) (b2 : Int) (b3 : Int) : (Op.equalIn (d + 2) 56 (.agg #[.int .i64 a0, .int .i64 a1, .int .i64 a2, .int .i64 a3]) (.agg #[.int .i64 b0, .int .i64 b1, .int .i64 b2, .int .i64 b3])).run Try.prog w = .ok ((a0 == b0) && ((a1 == b1) && ((a2 == b2) && ((a3 == b3) && true)))) w :=
  eqs_of (P := Try.prog) (d := d + 1) (xs := #[.int .i64 a0, .int .i64 a1, .int .i64 a2, .int .i64 a3]) (ys := #[.int .i64 b0, .int .i64 b1, .int .i64 b2, .int .i64 b3]) w Try.underlying56 (by kernel_rfl) (eqf_cons w rfl (part_one vm_one3 w _ _ rfl) (part_one vm_one3 w _ _ rfl) (run_equalIn_int w _ 3 _ _ _ _ Try.underlying3) (eqf_cons w rfl (part_one vm_one3 w _ _ rfl) (part_one vm_one3 w _ _ rfl) (run_equalIn_int w _ 3 _ _ _ _ Try.underlying3) (eqf_cons w rfl (part_one vm_one2 w _ _ rfl) (part_one vm_one2 w _ _ rfl) (run_equalIn_int w _ 2 _ _ _ _ Try.underlying2) (eqf_cons w rfl (part_one vm_one2 w _ _ rfl) (part_one vm_one2 w _ _ rfl) (run_equalIn_int w _ 2 _ _ _ _ Try.underlying2) (eqf_nil _ _ _ w)))))

theorem eql56 (xs ys : List SV) (r : Bool) (h : eqL [.int .i64 0, .int .i64 0, .int .i64 0, .int .i64 0] xs ys = some r) (w : World) : (Op.equalIn 10000 56 (.agg (xs.map dval).toArray) (.agg (ys.map dval).toArray)).run Try.prog w = .ok r w := by
  obtain ⟨a0, b0, xs0, ys0, r0, rfl, rfl, rfl, h0⟩ := eqL_int h
  obtain ⟨a1, b1, xs1, ys1, r1, rfl, rfl, rfl, h1⟩ := eqL_int h0
  obtain ⟨a2, b2, xs2, ys2, r2, rfl, rfl, rfl, h2⟩ := eqL_int h1
  obtain ⟨a3, b3, xs3, ys3, r3, rfl, rfl, rfl, h3⟩ := eqL_int h2
  obtain ⟨rfl, rfl, rfl⟩ := eqL_nil h3
  have e := eqv56 9998 w a0 a1 a2 a3 b0 b1 b2 b3
  simp only [Bool.and_assoc, Bool.true_and, Bool.and_true] at e ⊢
  exact e

theorem eqv64 (d : Nat) (w : World) (a0 : Int) (a1 : Int) (b0 : Int) (b1 : Int) : (Op.equalIn (d + 2) 64 (.agg #[.int .u64 a0, .int .u64 a1]) (.agg #[.int .u64 b0, .int .u64 b1])).run Try.prog w = .ok ((a0 == b0) && ((a1 == b1) && true)) w :=
  eqs_of (P := Try.prog) (d := d + 1) (xs := #[.int .u64 a0, .int .u64 a1]) (ys := #[.int .u64 b0, .int .u64 b1]) w Try.underlying64 (by kernel_rfl) (eqf_cons w rfl (part_one vm_one63 w _ _ rfl) (part_one vm_one63 w _ _ rfl) (run_equalIn_int w _ 63 _ _ _ _ Try.underlying63) (eqf_cons w rfl (part_one vm_one63 w _ _ rfl) (part_one vm_one63 w _ _ rfl) (run_equalIn_int w _ 63 _ _ _ _ Try.underlying63) (eqf_nil _ _ _ w)))

theorem eql64 (xs ys : List SV) (r : Bool) (h : eqL [.int .u64 0, .int .u64 0] xs ys = some r) (w : World) : (Op.equalIn 10000 64 (.agg (xs.map dval).toArray) (.agg (ys.map dval).toArray)).run Try.prog w = .ok r w := by
  obtain ⟨a0, b0, xs0, ys0, r0, rfl, rfl, rfl, h0⟩ := eqL_int h
  obtain ⟨a1, b1, xs1, ys1, r1, rfl, rfl, rfl, h1⟩ := eqL_int h0
  obtain ⟨rfl, rfl, rfl⟩ := eqL_nil h1
  have e := eqv64 9998 w a0 a1 b0 b1
  simp only [Bool.and_assoc, Bool.true_and, Bool.and_true] at e ⊢
  exact e

theorem eqv65 (d : Nat) (w : World) (a0 : Int) (a1 : Int) (b0 : Int) (b1 : Int) : (Op.equalIn (d + 2) 65 (.agg #[.int .u64 a0, .int .u64 a1]) (.agg #[.int .u64 b0, .int .u64 b1])).run Try.prog w = .ok ((a0 == b0) && ((a1 == b1) && true)) w :=
  eqs_of (P := Try.prog) (d := d + 1) (xs := #[.int .u64 a0, .int .u64 a1]) (ys := #[.int .u64 b0, .int .u64 b1]) w Try.underlying65 (by kernel_rfl) (eqf_cons w rfl (part_one vm_one63 w _ _ rfl) (part_one vm_one63 w _ _ rfl) (run_equalIn_int w _ 63 _ _ _ _ Try.underlying63) (eqf_cons w rfl (part_one vm_one63 w _ _ rfl) (part_one vm_one63 w _ _ rfl) (run_equalIn_int w _ 63 _ _ _ _ Try.underlying63) (eqf_nil _ _ _ w)))

theorem eql65 (xs ys : List SV) (r : Bool) (h : eqL [.int .u64 0, .int .u64 0] xs ys = some r) (w : World) : (Op.equalIn 10000 65 (.agg (xs.map dval).toArray) (.agg (ys.map dval).toArray)).run Try.prog w = .ok r w := by
  obtain ⟨a0, b0, xs0, ys0, r0, rfl, rfl, rfl, h0⟩ := eqL_int h
  obtain ⟨a1, b1, xs1, ys1, r1, rfl, rfl, rfl, h1⟩ := eqL_int h0
  obtain ⟨rfl, rfl, rfl⟩ := eqL_nil h1
  have e := eqv65 9998 w a0 a1 b0 b1
  simp only [Bool.and_assoc, Bool.true_and, Bool.and_true] at e ⊢
  exact e

theorem eqv79 (d : Nat) (w : World) (a0 : Int) (a1 : Int) (b0 : Int) (b1 : Int) : (Op.equalIn (d + 2) 79 (.agg #[.int .i64 a0, .int .i64 a1]) (.agg #[.int .i64 b0, .int .i64 b1])).run Try.prog w = .ok ((a0 == b0) && ((a1 == b1) && true)) w :=
  eqs_of (P := Try.prog) (d := d + 1) (xs := #[.int .i64 a0, .int .i64 a1]) (ys := #[.int .i64 b0, .int .i64 b1]) w Try.underlying79 (by kernel_rfl) (eqf_cons w rfl (part_one vm_one2 w _ _ rfl) (part_one vm_one2 w _ _ rfl) (run_equalIn_int w _ 2 _ _ _ _ Try.underlying2) (eqf_cons w rfl (part_one vm_one2 w _ _ rfl) (part_one vm_one2 w _ _ rfl) (run_equalIn_int w _ 2 _ _ _ _ Try.underlying2) (eqf_nil _ _ _ w)))

theorem eql79 (xs ys : List SV) (r : Bool) (h : eqL [.int .i64 0, .int .i64 0] xs ys = some r) (w : World) : (Op.equalIn 10000 79 (.agg (xs.map dval).toArray) (.agg (ys.map dval).toArray)).run Try.prog w = .ok r w := by
  obtain ⟨a0, b0, xs0, ys0, r0, rfl, rfl, rfl, h0⟩ := eqL_int h
  obtain ⟨a1, b1, xs1, ys1, r1, rfl, rfl, rfl, h1⟩ := eqL_int h0
  obtain ⟨rfl, rfl, rfl⟩ := eqL_nil h1
  have e := eqv79 9998 w a0 a1 b0 b1
  simp only [Bool.and_assoc, Bool.true_and, Bool.and_true] at e ⊢
  exact e

theorem eqv80 (d : Nat) (w : World) (a0 : Int) (a1 : Int) (b0 : Int) (b1 : Int) : (Op.equalIn (d + 2) 80 (.agg #[.int .i64 a0, .int .i64 a1]) (.agg #[.int .i64 b0, .int .i64 b1])).run Try.prog w = .ok ((a0 == b0) && ((a1 == b1) && true)) w :=
  eqs_of (P := Try.prog) (d := d + 1) (xs := #[.int .i64 a0, .int .i64 a1]) (ys := #[.int .i64 b0, .int .i64 b1]) w Try.underlying80 (by kernel_rfl) (eqf_cons w rfl (part_one vm_one2 w _ _ rfl) (part_one vm_one2 w _ _ rfl) (run_equalIn_int w _ 2 _ _ _ _ Try.underlying2) (eqf_cons w rfl (part_one vm_one2 w _ _ rfl) (part_one vm_one2 w _ _ rfl) (run_equalIn_int w _ 2 _ _ _ _ Try.underlying2) (eqf_nil _ _ _ w)))

theorem eql80 (xs ys : List SV) (r : Bool) (h : eqL [.int .i64 0, .int .i64 0] xs ys = some r) (w : World) : (Op.equalIn 10000 80 (.agg (xs.map dval).toArray) (.agg (ys.map dval).toArray)).run Try.prog w = .ok r w := by
  obtain ⟨a0, b0, xs0, ys0, r0, rfl, rfl, rfl, h0⟩ := eqL_int h
  obtain ⟨a1, b1, xs1, ys1, r1, rfl, rfl, rfl, h1⟩ := eqL_int h0
  obtain ⟨rfl, rfl, rfl⟩ := eqL_nil h1
  have e := eqv80 9998 w a0 a1 b0 b1
  simp only [Bool.and_assoc, Bool.true_and, Bool.and_true] at e ⊢
  exact e

theorem eqv25 (d : Nat) (w : World) (a0 : Int) (a1 : Int) (a2 : Int) (a3 : Int) (a4 : Int) (a5 : Int) (a6 : Int) (a7 : Bool) (a8 : Int) (a9 : Int) (a10 : Int) (a11 : Int) (a12 : Int) (a13 : Int) (a14 : Int) (b0 : Int) (b1 : Int) (b2 : Int) (b3 : Int) (b4 : Int) (b5 : Int) (b6 : Int) (b7 : Bool) (b8 : Int) (b9 : Int) (b10 : Int) (b11 : Int) (b12 : Int) (b13 : Int) (b14 : Int) : (Op.equalIn (d + 3) 25 (.agg #[.int .i64 a0, .int .i64 a1, .int .i64 a2, .int .i64 a3, .int .i64 a4, .int .i64 a5, .int .i64 a6, .bool a7, .int .i64 a8, .int .i64 a9, .int .i64 a10, .int .i64 a11, .int .i64 a12, .int .i64 a13, .int .i64 a14]) (.agg #[.int .i64 b0, .int .i64 b1, .int .i64 b2, .int .i64 b3, .int .i64 b4, .int .i64 b5, .int .i64 b6, .bool b7, .int .i64 b8, .int .i64 b9, .int .i64 b10, .int .i64 b11, .int .i64 b12, .int .i64 b13, .int .i64 b14])).run Try.prog w = .ok ((a0 == b0) && (((a1 == b1) && ((a2 == b2) && ((a3 == b3) && true))) && (((a4 == b4) && ((a5 == b5) && ((a6 == b6) && true))) && ((a7 == b7) && ((a8 == b8) && ((a9 == b9) && ((a10 == b10) && (((a11 == b11) && (a12 == b12)) && ((a13 == b13) && ((a14 == b14) && true)))))))))) w :=
  eqs_of (P := Try.prog) (d := d + 2) (xs := #[.int .i64 a0, .int .i64 a1, .int .i64 a2, .int .i64 a3, .int .i64 a4, .int .i64 a5, .int .i64 a6, .bool a7, .int .i64 a8, .int .i64 a9, .int .i64 a10, .int .i64 a11, .int .i64 a12, .int .i64 a13, .int .i64 a14]) (ys := #[.int .i64 b0, .int .i64 b1, .int .i64 b2, .int .i64 b3, .int .i64 b4, .int .i64 b5, .int .i64 b6, .bool b7, .int .i64 b8, .int .i64 b9, .int .i64 b10, .int .i64 b11, .int .i64 b12, .int .i64 b13, .int .i64 b14]) w Try.underlying25 (by kernel_rfl) (eqf_cons w rfl (part_one vm_one3 w _ _ rfl) (part_one vm_one3 w _ _ rfl) (run_equalIn_int w _ 3 _ _ _ _ Try.underlying3) (eqf_cons w rfl (part_agg vm_agg23 w _ _ rfl) (part_agg vm_agg23 w _ _ rfl) (eqv23 _ w a1 a2 a3 b1 b2 b3) (eqf_cons w rfl (part_agg vm_agg23 w _ _ rfl) (part_agg vm_agg23 w _ _ rfl) (eqv23 _ w a4 a5 a6 b4 b5 b6) (eqf_cons w rfl (part_one vm_one4 w _ _ rfl) (part_one vm_one4 w _ _ rfl) (run_equalIn_bool w _ 4 _ _ Try.underlying4) (eqf_cons w rfl (part_one vm_one3 w _ _ rfl) (part_one vm_one3 w _ _ rfl) (run_equalIn_int w _ 3 _ _ _ _ Try.underlying3) (eqf_cons w rfl (part_one vm_one3 w _ _ rfl) (part_one vm_one3 w _ _ rfl) (run_equalIn_int w _ 3 _ _ _ _ Try.underlying3) (eqf_cons w rfl (part_one vm_one3 w _ _ rfl) (part_one vm_one3 w _ _ rfl) (run_equalIn_int w _ 3 _ _ _ _ Try.underlying3) (eqf_cons w rfl (part_agg vm_agg24 w _ _ rfl) (part_agg vm_agg24 w _ _ rfl) (eqv24 _ w a11 a12 b11 b12) (eqf_cons w rfl (part_one vm_one3 w _ _ rfl) (part_one vm_one3 w _ _ rfl) (run_equalIn_int w _ 3 _ _ _ _ Try.underlying3) (eqf_cons w rfl (part_one vm_one3 w _ _ rfl) (part_one vm_one3 w _ _ rfl) (run_equalIn_int w _ 3 _ _ _ _ Try.underlying3) (eqf_nil _ _ _ w)))))))))))

theorem eql25 (xs ys : List SV) (r : Bool) (h : eqL [.int .i64 0, .int .i64 0, .int .i64 0, .int .i64 0, .int .i64 0, .int .i64 0, .int .i64 0, .bool false, .int .i64 0, .int .i64 0, .int .i64 0, .int .i64 0, .int .i64 0, .int .i64 0, .int .i64 0] xs ys = some r) (w : World) : (Op.equalIn 10000 25 (.agg (xs.map dval).toArray) (.agg (ys.map dval).toArray)).run Try.prog w = .ok r w := by
  obtain ⟨a0, b0, xs0, ys0, r0, rfl, rfl, rfl, h0⟩ := eqL_int h
  obtain ⟨a1, b1, xs1, ys1, r1, rfl, rfl, rfl, h1⟩ := eqL_int h0
  obtain ⟨a2, b2, xs2, ys2, r2, rfl, rfl, rfl, h2⟩ := eqL_int h1
  obtain ⟨a3, b3, xs3, ys3, r3, rfl, rfl, rfl, h3⟩ := eqL_int h2
  obtain ⟨a4, b4, xs4, ys4, r4, rfl, rfl, rfl, h4⟩ := eqL_int h3
  obtain ⟨a5, b5, xs5, ys5, r5, rfl, rfl, rfl, h5⟩ := eqL_int h4
  obtain ⟨a6, b6, xs6, ys6, r6, rfl, rfl, rfl, h6⟩ := eqL_int h5
  obtain ⟨a7, b7, xs7, ys7, r7, rfl, rfl, rfl, h7⟩ := eqL_bool h6
  obtain ⟨a8, b8, xs8, ys8, r8, rfl, rfl, rfl, h8⟩ := eqL_int h7
  obtain ⟨a9, b9, xs9, ys9, r9, rfl, rfl, rfl, h9⟩ := eqL_int h8
  obtain ⟨a10, b10, xs10, ys10, r10, rfl, rfl, rfl, h10⟩ := eqL_int h9
  obtain ⟨a11, b11, xs11, ys11, r11, rfl, rfl, rfl, h11⟩ := eqL_int h10
  obtain ⟨a12, b12, xs12, ys12, r12, rfl, rfl, rfl, h12⟩ := eqL_int h11
  obtain ⟨a13, b13, xs13, ys13, r13, rfl, rfl, rfl, h13⟩ := eqL_int h12
  obtain ⟨a14, b14, xs14, ys14, r14, rfl, rfl, rfl, h14⟩ := eqL_int h13
  obtain ⟨rfl, rfl, rfl⟩ := eqL_nil h14
  have e := eqv25 9997 w a0 a1 a2 a3 a4 a5 a6 a7 a8 a9 a10 a11 a12 a13 a14 b0 b1 b2 b3 b4 b5 b6 b7 b8 b9 b10 b11 b12 b13 b14
  simp only [Bool.and_assoc, Bool.true_and, Bool.and_true] at e ⊢
  exact e

theorem eqv26 (d : Nat) (w : World) (a0 : Int) (a1 : Int) (a2 : Int) (a3 : Int) (a4 : Int) (a5 : Int) (a6 : Int) (a7 : Bool) (a8 : Int) (a9 : Int) (a10 : Int) (a11 : Int) (a12 : Int) (a13 : Int) (a14 : Int) (b0 : Int) (b1 : Int) (b2 : Int) (b3 : Int) (b4 : Int) (b5 : Int) (b6 : Int) (b7 : Bool) (b8 : Int) (b9 : Int) (b10 : Int) (b11 : Int) (b12 : Int) (b13 : Int) (b14 : Int) : (Op.equalIn (d + 3) 26 (.agg #[.int .i64 a0, .int .i64 a1, .int .i64 a2, .int .i64 a3, .int .i64 a4, .int .i64 a5, .int .i64 a6, .bool a7, .int .i64 a8, .int .i64 a9, .int .i64 a10, .int .i64 a11, .int .i64 a12, .int .i64 a13, .int .i64 a14]) (.agg #[.int .i64 b0, .int .i64 b1, .int .i64 b2, .int .i64 b3, .int .i64 b4, .int .i64 b5, .int .i64 b6, .bool b7, .int .i64 b8, .int .i64 b9, .int .i64 b10, .int .i64 b11, .int .i64 b12, .int .i64 b13, .int .i64 b14])).run Try.prog w = .ok ((a0 == b0) && (((a1 == b1) && ((a2 == b2) && ((a3 == b3) && true))) && (((a4 == b4) && ((a5 == b5) && ((a6 == b6) && true))) && ((a7 == b7) && ((a8 == b8) && ((a9 == b9) && ((a10 == b10) && (((a11 == b11) && (a12 == b12)) && ((a13 == b13) && ((a14 == b14) && true)))))))))) w :=
  eqs_of (P := Try.prog) (d := d + 2) (xs := #[.int .i64 a0, .int .i64 a1, .int .i64 a2, .int .i64 a3, .int .i64 a4, .int .i64 a5, .int .i64 a6, .bool a7, .int .i64 a8, .int .i64 a9, .int .i64 a10, .int .i64 a11, .int .i64 a12, .int .i64 a13, .int .i64 a14]) (ys := #[.int .i64 b0, .int .i64 b1, .int .i64 b2, .int .i64 b3, .int .i64 b4, .int .i64 b5, .int .i64 b6, .bool b7, .int .i64 b8, .int .i64 b9, .int .i64 b10, .int .i64 b11, .int .i64 b12, .int .i64 b13, .int .i64 b14]) w Try.underlying26 (by kernel_rfl) (eqf_cons w rfl (part_one vm_one3 w _ _ rfl) (part_one vm_one3 w _ _ rfl) (run_equalIn_int w _ 3 _ _ _ _ Try.underlying3) (eqf_cons w rfl (part_agg vm_agg23 w _ _ rfl) (part_agg vm_agg23 w _ _ rfl) (eqv23 _ w a1 a2 a3 b1 b2 b3) (eqf_cons w rfl (part_agg vm_agg23 w _ _ rfl) (part_agg vm_agg23 w _ _ rfl) (eqv23 _ w a4 a5 a6 b4 b5 b6) (eqf_cons w rfl (part_one vm_one4 w _ _ rfl) (part_one vm_one4 w _ _ rfl) (run_equalIn_bool w _ 4 _ _ Try.underlying4) (eqf_cons w rfl (part_one vm_one3 w _ _ rfl) (part_one vm_one3 w _ _ rfl) (run_equalIn_int w _ 3 _ _ _ _ Try.underlying3) (eqf_cons w rfl (part_one vm_one3 w _ _ rfl) (part_one vm_one3 w _ _ rfl) (run_equalIn_int w _ 3 _ _ _ _ Try.underlying3) (eqf_cons w rfl (part_one vm_one3 w _ _ rfl) (part_one vm_one3 w _ _ rfl) (run_equalIn_int w _ 3 _ _ _ _ Try.underlying3) (eqf_cons w rfl (part_agg vm_agg24 w _ _ rfl) (part_agg vm_agg24 w _ _ rfl) (eqv24 _ w a11 a12 b11 b12) (eqf_cons w rfl (part_one vm_one3 w _ _ rfl) (part_one vm_one3 w _ _ rfl) (run_equalIn_int w _ 3 _ _ _ _ Try.underlying3) (eqf_cons w rfl (part_one vm_one3 w _ _ rfl) (part_one vm_one3 w _ _ rfl) (run_equalIn_int w _ 3 _ _ _ _ Try.underlying3) (eqf_nil _ _ _ w)))))))))))

theorem eql26 (xs ys : List SV) (r : Bool) (h : eqL [.int .i64 0, .int .i64 0, .int .i64 0, .int .i64 0, .int .i64 0, .int .i64 0, .int .i64 0, .bool false, .int .i64 0, .int .i64 0, .int .i64 0, .int .i64 0, .int .i64 0, .int .i64 0, .int .i64 0] xs ys = some r) (w : World) : (Op.equalIn 10000 26 (.agg (xs.map dval).toArray) (.agg (ys.map dval).toArray)).run Try.prog w = .ok r w := by
  obtain ⟨a0, b0, xs0, ys0, r0, rfl, rfl, rfl, h0⟩ := eqL_int h
  obtain ⟨a1, b1, xs1, ys1, r1, rfl, rfl, rfl, h1⟩ := eqL_int h0
  obtain ⟨a2, b2, xs2, ys2, r2, rfl, rfl, rfl, h2⟩ := eqL_int h1
  obtain ⟨a3, b3, xs3, ys3, r3, rfl, rfl, rfl, h3⟩ := eqL_int h2
  obtain ⟨a4, b4, xs4, ys4, r4, rfl, rfl, rfl, h4⟩ := eqL_int h3
  obtain ⟨a5, b5, xs5, ys5, r5, rfl, rfl, rfl, h5⟩ := eqL_int h4
  obtain ⟨a6, b6, xs6, ys6, r6, rfl, rfl, rfl, h6⟩ := eqL_int h5
  obtain ⟨a7, b7, xs7, ys7, r7, rfl, rfl, rfl, h7⟩ := eqL_bool h6
  obtain ⟨a8, b8, xs8, ys8, r8, rfl, rfl, rfl, h8⟩ := eqL_int h7
  obtain ⟨a9, b9, xs9, ys9, r9, rfl, rfl, rfl, h9⟩ := eqL_int h8
  obtain ⟨a10, b10, xs10, ys10, r10, rfl, rfl, rfl, h10⟩ := eqL_int h9
  obtain ⟨a11, b11, xs11, ys11, r11, rfl, rfl, rfl, h11⟩ := eqL_int h10
  obtain ⟨a12, b12, xs12, ys12, r12, rfl, rfl, rfl, h12⟩ := eqL_int h11
  obtain ⟨a13, b13, xs13, ys13, r13, rfl, rfl, rfl, h13⟩ := eqL_int h12
  obtain ⟨a14, b14, xs14, ys14, r14, rfl, rfl, rfl, h14⟩ := eqL_int h13
  obtain ⟨rfl, rfl, rfl⟩ := eqL_nil h14
  have e := eqv26 9997 w a0 a1 a2 a3 a4 a5 a6 a7 a8 a9 a10 a11 a12 a13 a14 b0 b1 b2 b3 b4 b5 b6 b7 b8 b9 b10 b11 b12 b13 b14
  simp only [Bool.and_assoc, Bool.true_and, Bool.and_true] at e ⊢
  exact e

theorem eqv58 (d : Nat) (w : World) (a0 : Int) (a1 : Int) (a2 : Int) (a3 : Int) (a4 : Int) (a5 : Int) (a6 : Int) (a7 : Int) (a8 : Int) (a9 : Int) (a10 : Int) (a11 : Int) (b0 : Int) (b1 : Int) (b2 : Int) (b3 : Int) (b4 : Int) (b5 : Int) (b6 : Int) (b7 : Int) (b8 : Int) (b9 : Int) (b10 : Int) (b11 : Int) : (Op.equalIn (d + 3) 58 (.agg #[.int .i64 a0, .int .i64 a1, .int .i64 a2, .int .i64 a3, .int .i64 a4, .int .i64 a5, .int .i64 a6, .int .i64 a7, .int .i64 a8, .int .i64 a9, .int .i64 a10, .int .i64 a11]) (.agg #[.int .i64 b0, .int .i64 b1, .int .i64 b2, .int .i64 b3, .int .i64 b4, .int .i64 b5, .int .i64 b6, .int .i64 b7, .int .i64 b8, .int .i64 b9, .int .i64 b10, .int .i64 b11])).run Try.prog w = .ok (((a0 == b0) && ((a1 == b1) && ((a2 == b2) && ((a3 == b3) && true)))) && (((a4 == b4) && ((a5 == b5) && ((a6 == b6) && ((a7 == b7) && true)))) && ((a8 == b8) && ((a9 == b9) && ((a10 == b10) && ((a11 == b11) && true)))))) w :=
  eqa_three (d := d + 2) (n := 4) w Try.underlying58 vm_agg56.size (part_agg vm_agg56 w _ _ rfl) (part_agg vm_agg56 w _ _ rfl) (part_agg vm_agg56 w _ _ rfl) (part_agg vm_agg56 w _ _ rfl) (part_agg vm_agg56 w _ _ rfl) (part_agg vm_agg56 w _ _ rfl) (eqv56 _ w a0 a1 a2 a3 b0 b1 b2 b3) (eqv56 _ w a4 a5 a6 a7 b4 b5 b6 b7) (eqv56 _ w a8 a9 a10 a11 b8 b9 b10 b11)

theorem eql58 (xs ys : List SV) (r : Bool) (h : eqL [.int .i64 0, .int .i64 0, .int .i64 0, .int .i64 0, .int .i64 0, .int .i64 0, .int .i64 0, .int .i64 0, .int .i64 0, .int .i64 0, .int .i64 0, .int .i64 0] xs ys = some r) (w : World) : (Op.equalIn 10000 58 (.agg (xs.map dval).toArray) (.agg (ys.map dval).toArray)).run Try.prog w = .ok r w := by
  obtain ⟨a0, b0, xs0, ys0, r0, rfl, rfl, rfl, h0⟩ := eqL_int h
  obtain ⟨a1, b1, xs1, ys1, r1, rfl, rfl, rfl, h1⟩ := eqL_int h0
  obtain ⟨a2, b2, xs2, ys2, r2, rfl, rfl, rfl, h2⟩ := eqL_int h1
  obtain ⟨a3, b3, xs3, ys3, r3, rfl, rfl, rfl, h3⟩ := eqL_int h2
  obtain ⟨a4, b4, xs4, ys4, r4, rfl, rfl, rfl, h4⟩ := eqL_int h3
  obtain ⟨a5, b5, xs5, ys5, r5, rfl, rfl, rfl, h5⟩ := eqL_int h4
  obtain ⟨a6, b6, xs6, ys6, r6, rfl, rfl, rfl, h6⟩ := eqL_int h5
  obtain ⟨a7, b7, xs7, ys7, r7, rfl, rfl, rfl, h7⟩ := eqL_int h6
  obtain ⟨a8, b8, xs8, ys8, r8, rfl, rfl, rfl, h8⟩ := eqL_int h7
  obtain ⟨a9, b9, xs9, ys9, r9, rfl, rfl, rfl, h9⟩ := eqL_int h8
  obtain ⟨a10, b10, xs10, ys10, r10, rfl, rfl, rfl, h10⟩ := eqL_int h9
  obtain ⟨a11, b11, xs11, ys11, r11, rfl, rfl, rfl, h11⟩ := eqL_int h10
  obtain ⟨rfl, rfl, rfl⟩ := eqL_nil h11
  have e := eqv58 9997 w a0 a1 a2 a3 a4 a5 a6 a7 a8 a9 a10 a11 b0 b1 b2 b3 b4 b5 b6 b7 b8 b9 b10 b11
  simp only [Bool.and_assoc, Bool.true_and, Bool.and_true] at e ⊢
  exact e

def vmT : Nat → Option TI
  | 2 => some ⟨.int .i64, 1, [.int .i64 0], 8, some .i64, false⟩
  | 3 => some ⟨.int .i64, 1, [.int .i64 0], 8, some .i64, false⟩
  | 4 => some ⟨.bool, 1, [.bool false], 1, some .bool, false⟩
  | 5 => some ⟨.int .u8, 1, [.int .u8 0], 1, none, false⟩
  | 6 => some ⟨.int .u8, 1, [.int .u8 0], 1, none, false⟩
  | 7 => some ⟨.struct [(0, 2), (1, 3), (2, 4), (3, 6)], 4, [.int .i64 0, .int .i64 0, .bool false, .int .u8 0], 24, none, true⟩
  | 8 => some ⟨.struct [(0, 2), (1, 3), (2, 4), (3, 6)], 4, [.int .i64 0, .int .i64 0, .bool false, .int .u8 0], 24, none, true⟩
  | 12 => some ⟨.int .u64, 1, [.int .u64 0], 8, none, false⟩
  | 15 => some ⟨.ptr 106, 1, [.nilp], 8, none, false⟩
  | 16 => some ⟨.ptr 109, 1, [.nilp], 8, none, false⟩
  | 17 => some ⟨.ptr 119, 1, [.nilp], 8, none, false⟩
  | 18 => some ⟨.struct [(0, 17)], 1, [.nilp], 8, none, false⟩
  | 19 => some ⟨.struct [(0, 17)], 1, [.nilp], 8, none, false⟩
  | 21 => some ⟨.int .i32, 1, [.int .i32 0], 4, none, false⟩
  | 22 => some ⟨.struct [(0, 2), (1, 2), (2, 2)], 3, [.int .i64 0, .int .i64 0, .int .i64 0], 24, none, true⟩
  | 23 => some ⟨.struct [(0, 2), (1, 2), (2, 2)], 3, [.int .i64 0, .int .i64 0, .int .i64 0], 24, some .vec, true⟩
  | 24 => some ⟨.array 2 3, 2, [.int .i64 0, .int .i64 0], 16, none, true⟩
  | 25 => some ⟨.struct [(0, 3), (1, 23), (4, 23), (7, 4), (8, 3), (9, 3), (10, 3), (11, 24), (13, 3), (14, 3)], 15, [.int .i64 0, .int .i64 0, .int .i64 0, .int .i64 0, .int .i64 0, .int .i64 0, .int .i64 0, .bool false, .int .i64 0, .int .i64 0, .int .i64 0, .int .i64 0, .int .i64 0, .int .i64 0, .int .i64 0], 120, none, true⟩
  | 26 => some ⟨.struct [(0, 3), (1, 23), (4, 23), (7, 4), (8, 3), (9, 3), (10, 3), (11, 24), (13, 3), (14, 3)], 15, [.int .i64 0, .int .i64 0, .int .i64 0, .int .i64 0, .int .i64 0, .int .i64 0, .int .i64 0, .bool false, .int .i64 0, .int .i64 0, .int .i64 0, .int .i64 0, .int .i64 0, .int .i64 0, .int .i64 0], 120, some .pl, true⟩
  | 30 => some ⟨.slice 4, 1, [.nils], 24, none, false⟩
  | 31 => some ⟨.slice 23, 1, [.nils], 24, none, false⟩
  | 32 => some ⟨.struct [(0, 3), (1, 3), (2, 3), (3, 30), (4, 31)], 5, [.int .i64 0, .int .i64 0, .int .i64 0, .nils, .nils], 72, none, false⟩
  | 33 => some ⟨.struct [(0, 3), (1, 3), (2, 3), (3, 30), (4, 31)], 5, [.int .i64 0, .int .i64 0, .int .i64 0, .nils, .nils], 72, none, false⟩
  | 34 => some ⟨.slice 26, 1, [.nils], 24, none, false⟩
  | 48 => some ⟨.int .i64, 1, [.int .i64 0], 8, none, false⟩
  | 55 => some ⟨.struct [(0, 3), (1, 3), (2, 2), (3, 2)], 4, [.int .i64 0, .int .i64 0, .int .i64 0, .int .i64 0], 32, none, true⟩
  | 56 => some ⟨.struct [(0, 3), (1, 3), (2, 2), (3, 2)], 4, [.int .i64 0, .int .i64 0, .int .i64 0, .int .i64 0], 32, none, true⟩
  | 58 => some ⟨.array 3 56, 12, [.int .i64 0, .int .i64 0, .int .i64 0, .int .i64 0, .int .i64 0, .int .i64 0, .int .i64 0, .int .i64 0, .int .i64 0, .int .i64 0, .int .i64 0, .int .i64 0], 96, none, true⟩
  | 59 => some ⟨.ptr 56, 1, [.nilp], 8, none, false⟩
  | 63 => some ⟨.int .u64, 1, [.int .u64 0], 8, some .u64, false⟩
  | 64 => some ⟨.struct [(0, 63), (1, 63)], 2, [.int .u64 0, .int .u64 0], 16, none, true⟩
  | 65 => some ⟨.struct [(0, 63), (1, 63)], 2, [.int .u64 0, .int .u64 0], 16, none, true⟩
  | 72 => some ⟨.slice 63, 1, [.nils], 24, none, false⟩
  | 73 => some ⟨.struct [(0, 4), (1, 72)], 2, [.bool false, .nils], 32, none, false⟩
  | 74 => some ⟨.struct [(0, 4), (1, 72)], 2, [.bool false, .nils], 32, none, false⟩
  | 79 => some ⟨.struct [(0, 2), (1, 2)], 2, [.int .i64 0, .int .i64 0], 16, none, true⟩
  | 80 => some ⟨.struct [(0, 2), (1, 2)], 2, [.int .i64 0, .int .i64 0], 16, some .pt, true⟩
  | 81 => some ⟨.slice 80, 1, [.nils], 24, none, false⟩
  | 85 => some ⟨.int .u64, 1, [.int .u64 0], 8, none, false⟩
  | 107 => some ⟨.array 0 16, 0, [], 0, none, false⟩
  | 108 => some ⟨.struct [(0, 107)], 0, [], 0, none, false⟩
  | 109 => some ⟨.struct [(0, 107)], 0, [], 0, none, false⟩
  | 111 => some ⟨.int .u32, 1, [.int .u32 0], 4, none, false⟩
  | 112 => some ⟨.int .u8, 1, [.int .u8 0], 1, none, false⟩
  | 113 => some ⟨.int .u8, 1, [.int .u8 0], 1, none, false⟩
  | 115 => some ⟨.ptr 5, 1, [.nilp], 8, none, false⟩
  | 116 => some ⟨.int .i32, 1, [.int .i32 0], 4, none, false⟩
  | 117 => some ⟨.int .i32, 1, [.int .i32 0], 4, none, false⟩
  | _ => none

theorem vm_ok2 : TIOk Try.prog 2 ⟨.int .i64, 1, [.int .i64 0], 8, some .i64, false⟩ :=
  ⟨by kernel_rfl, by kernel_rfl, Try.underlying2, ⟨.int .i64 0, by kernel_rfl, (by simp only [Array.toList, Value.cells, relL_cons, relL_nil, Rel, and_self])⟩, (fun h => by cases h)⟩
theorem vm_ok3 : TIOk Try.prog 3 ⟨.int .i64, 1, [.int .i64 0], 8, some .i64, false⟩ :=
  ⟨by kernel_rfl, by kernel_rfl, Try.underlying3, ⟨.int .i64 0, by kernel_rfl, (by simp only [Array.toList, Value.cells, relL_cons, relL_nil, Rel, and_self])⟩, (fun h => by cases h)⟩
theorem vm_ok4 : TIOk Try.prog 4 ⟨.bool, 1, [.bool false], 1, some .bool, false⟩ :=
  ⟨by kernel_rfl, by kernel_rfl, Try.underlying4, ⟨.bool false, by kernel_rfl, (by simp only [Array.toList, Value.cells, relL_cons, relL_nil, Rel, and_self])⟩, (fun h => by cases h)⟩
theorem vm_ok5 : TIOk Try.prog 5 ⟨.int .u8, 1, [.int .u8 0], 1, none, false⟩ :=
  ⟨by kernel_rfl, by kernel_rfl, Try.underlying5, ⟨.int .u8 0, by kernel_rfl, (by simp only [Array.toList, Value.cells, relL_cons, relL_nil, Rel, and_self])⟩, (fun h => by cases h)⟩
theorem vm_ok6 : TIOk Try.prog 6 ⟨.int .u8, 1, [.int .u8 0], 1, none, false⟩ :=
  ⟨by kernel_rfl, by kernel_rfl, Try.underlying6, ⟨.int .u8 0, by kernel_rfl, (by simp only [Array.toList, Value.cells, relL_cons, relL_nil, Rel, and_self])⟩, (fun h => by cases h)⟩
theorem vm_ok7 : TIOk Try.prog 7 ⟨.struct [(0, 2), (1, 3), (2, 4), (3, 6)], 4, [.int .i64 0, .int .i64 0, .bool false, .int .u8 0], 24, none, true⟩ :=
  ⟨by kernel_rfl, by kernel_rfl, ⟨_, Try.underlying7, rfl⟩, ⟨.agg #[.int .i64 0, .int .i64 0, .bool false, .int .u8 0], by kernel_rfl, (by simp only [Array.toList, Value.cells, relL_cons, relL_nil, Rel, and_self])⟩, (fun _ => ⟨by kernel_rfl, eql7⟩)⟩
theorem vm_ok8 : TIOk Try.prog 8 ⟨.struct [(0, 2), (1, 3), (2, 4), (3, 6)], 4, [.int .i64 0, .int .i64 0, .bool false, .int .u8 0], 24, none, true⟩ :=
  ⟨by kernel_rfl, by kernel_rfl, ⟨_, Try.underlying8, rfl⟩, ⟨.agg #[.int .i64 0, .int .i64 0, .bool false, .int .u8 0], by kernel_rfl, (by simp only [Array.toList, Value.cells, relL_cons, relL_nil, Rel, and_self])⟩, (fun _ => ⟨by kernel_rfl, eql8⟩)⟩
theorem vm_ok12 : TIOk Try.prog 12 ⟨.int .u64, 1, [.int .u64 0], 8, none, false⟩ :=
  ⟨by kernel_rfl, by kernel_rfl, Try.underlying12, ⟨.int .u64 0, by kernel_rfl, (by simp only [Array.toList, Value.cells, relL_cons, relL_nil, Rel, and_self])⟩, (fun h => by cases h)⟩
theorem vm_ok15 : TIOk Try.prog 15 ⟨.ptr 106, 1, [.nilp], 8, none, false⟩ :=
  ⟨by kernel_rfl, by kernel_rfl, Try.underlying15, ⟨.pointer none, by kernel_rfl, (by simp only [Array.toList, Value.cells, relL_cons, relL_nil, Rel, and_self])⟩, (fun h => by cases h)⟩
theorem vm_ok16 : TIOk Try.prog 16 ⟨.ptr 109, 1, [.nilp], 8, none, false⟩ :=
  ⟨by kernel_rfl, by kernel_rfl, Try.underlying16, ⟨.pointer none, by kernel_rfl, (by simp only [Array.toList, Value.cells, relL_cons, relL_nil, Rel, and_self])⟩, (fun h => by cases h)⟩
theorem vm_ok17 : TIOk Try.prog 17 ⟨.ptr 119, 1, [.nilp], 8, none, false⟩ :=
  ⟨by kernel_rfl, by kernel_rfl, Try.underlying17, ⟨.pointer none, by kernel_rfl, (by simp only [Array.toList, Value.cells, relL_cons, relL_nil, Rel, and_self])⟩, (fun h => by cases h)⟩
theorem vm_ok18 : TIOk Try.prog 18 ⟨.struct [(0, 17)], 1, [.nilp], 8, none, false⟩ :=
  ⟨by kernel_rfl, by kernel_rfl, ⟨_, Try.underlying18, rfl⟩, ⟨.agg #[.pointer none], by kernel_rfl, (by simp only [Array.toList, Value.cells, relL_cons, relL_nil, Rel, and_self])⟩, (fun h => by cases h)⟩
theorem vm_ok19 : TIOk Try.prog 19 ⟨.struct [(0, 17)], 1, [.nilp], 8, none, false⟩ :=
  ⟨by kernel_rfl, by kernel_rfl, ⟨_, Try.underlying19, rfl⟩, ⟨.agg #[.pointer none], by kernel_rfl, (by simp only [Array.toList, Value.cells, relL_cons, relL_nil, Rel, and_self])⟩, (fun h => by cases h)⟩
theorem vm_ok21 : TIOk Try.prog 21 ⟨.int .i32, 1, [.int .i32 0], 4, none, false⟩ :=
  ⟨by kernel_rfl, by kernel_rfl, Try.underlying21, ⟨.int .i32 0, by kernel_rfl, (by simp only [Array.toList, Value.cells, relL_cons, relL_nil, Rel, and_self])⟩, (fun h => by cases h)⟩
theorem vm_ok22 : TIOk Try.prog 22 ⟨.struct [(0, 2), (1, 2), (2, 2)], 3, [.int .i64 0, .int .i64 0, .int .i64 0], 24, none, true⟩ :=
  ⟨by kernel_rfl, by kernel_rfl, ⟨_, Try.underlying22, rfl⟩, ⟨.agg #[.int .i64 0, .int .i64 0, .int .i64 0], by kernel_rfl, (by simp only [Array.toList, Value.cells, relL_cons, relL_nil, Rel, and_self])⟩, (fun _ => ⟨by kernel_rfl, eql22⟩)⟩
theorem vm_ok23 : TIOk Try.prog 23 ⟨.struct [(0, 2), (1, 2), (2, 2)], 3, [.int .i64 0, .int .i64 0, .int .i64 0], 24, some .vec, true⟩ :=
  ⟨by kernel_rfl, by kernel_rfl, ⟨_, Try.underlying23, rfl⟩, ⟨.agg #[.int .i64 0, .int .i64 0, .int .i64 0], by kernel_rfl, (by simp only [Array.toList, Value.cells, relL_cons, relL_nil, Rel, and_self])⟩, (fun _ => ⟨by kernel_rfl, eql23⟩)⟩
theorem vm_ok24 : TIOk Try.prog 24 ⟨.array 2 3, 2, [.int .i64 0, .int .i64 0], 16, none, true⟩ :=
  ⟨by kernel_rfl, by kernel_rfl, Try.underlying24, ⟨.agg #[.int .i64 0, .int .i64 0], by kernel_rfl, (by simp only [Array.toList, Value.cells, relL_cons, relL_nil, Rel, and_self])⟩, (fun _ => ⟨by kernel_rfl, eql24⟩)⟩
theorem vm_ok25 : TIOk Try.prog 25 ⟨.struct [(0, 3), (1, 23), (4, 23), (7, 4), (8, 3), (9, 3), (10, 3), (11, 24), (13, 3), (14, 3)], 15, [.int .i64 0, .int .i64 0, .int .i64 0, .int .i64 0, .int .i64 0, .int .i64 0, .int .i64 0, .bool false, .int .i64 0, .int .i64 0, .int .i64 0, .int .i64 0, .int .i64 0, .int .i64 0, .int .i64 0], 120, none, true⟩ :=
  ⟨by kernel_rfl, by kernel_rfl, ⟨_, Try.underlying25, rfl⟩, ⟨.agg #[.int .i64 0, .int .i64 0, .int .i64 0, .int .i64 0, .int .i64 0, .int .i64 0, .int .i64 0, .bool false, .int .i64 0, .int .i64 0, .int .i64 0, .int .i64 0, .int .i64 0, .int .i64 0, .int .i64 0], by kernel_rfl, (by simp only [Array.toList, Value.cells, relL_cons, relL_nil, Rel, and_self])⟩, (fun _ => ⟨by kernel_rfl, eql25⟩)⟩
theorem vm_ok26 : TIOk Try.prog 26 ⟨.struct [(0, 3), (1, 23), (4, 23), (7, 4), (8, 3), (9, 3), (10, 3), (11, 24), (13, 3), (14, 3)], 15, [.int .i64 0, .int .i64 0, .int .i64 0, .int .i64 0, .int .i64 0, .int .i64 0, .int .i64 0, .bool false, .int .i64 0, .int .i64 0, .int .i64 0, .int .i64 0, .int .i64 0, .int .i64 0, .int .i64 0], 120, some .pl, true⟩ :=
  ⟨by kernel_rfl, by kernel_rfl, ⟨_, Try.underlying26, rfl⟩, ⟨.agg #[.int .i64 0, .int .i64 0, .int .i64 0, .int .i64 0, .int .i64 0, .int .i64 0, .int .i64 0, .bool false, .int .i64 0, .int .i64 0, .int .i64 0, .int .i64 0, .int .i64 0, .int .i64 0, .int .i64 0], by kernel_rfl, (by simp only [Array.toList, Value.cells, relL_cons, relL_nil, Rel, and_self])⟩, (fun _ => ⟨by kernel_rfl, eql26⟩)⟩
theorem vm_ok30 : TIOk Try.prog 30 ⟨.slice 4, 1, [.nils], 24, none, false⟩ :=
  ⟨by kernel_rfl, by kernel_rfl, Try.underlying30, ⟨.slice none 0 0, by kernel_rfl, (by simp only [Array.toList, Value.cells, relL_cons, relL_nil, Rel, and_self])⟩, (fun h => by cases h)⟩
theorem vm_ok31 : TIOk Try.prog 31 ⟨.slice 23, 1, [.nils], 24, none, false⟩ :=
  ⟨by kernel_rfl, by kernel_rfl, Try.underlying31, ⟨.slice none 0 0, by kernel_rfl, (by simp only [Array.toList, Value.cells, relL_cons, relL_nil, Rel, and_self])⟩, (fun h => by cases h)⟩
theorem vm_ok32 : TIOk Try.prog 32 ⟨.struct [(0, 3), (1, 3), (2, 3), (3, 30), (4, 31)], 5, [.int .i64 0, .int .i64 0, .int .i64 0, .nils, .nils], 72, none, false⟩ :=
  ⟨by kernel_rfl, by kernel_rfl, ⟨_, Try.underlying32, rfl⟩, ⟨.agg #[.int .i64 0, .int .i64 0, .int .i64 0, .slice none 0 0, .slice none 0 0], by kernel_rfl, (by simp only [Array.toList, Value.cells, relL_cons, relL_nil, Rel, and_self])⟩, (fun h => by cases h)⟩
theorem vm_ok33 : TIOk Try.prog 33 ⟨.struct [(0, 3), (1, 3), (2, 3), (3, 30), (4, 31)], 5, [.int .i64 0, .int .i64 0, .int .i64 0, .nils, .nils], 72, none, false⟩ :=
  ⟨by kernel_rfl, by kernel_rfl, ⟨_, Try.underlying33, rfl⟩, ⟨.agg #[.int .i64 0, .int .i64 0, .int .i64 0, .slice none 0 0, .slice none 0 0], by kernel_rfl, (by simp only [Array.toList, Value.cells, relL_cons, relL_nil, Rel, and_self])⟩, (fun h => by cases h)⟩
theorem vm_ok34 : TIOk Try.prog 34 ⟨.slice 26, 1, [.nils], 24, none, false⟩ :=
  ⟨by kernel_rfl, by kernel_rfl, Try.underlying34, ⟨.slice none 0 0, by kernel_rfl, (by simp only [Array.toList, Value.cells, relL_cons, relL_nil, Rel, and_self])⟩, (fun h => by cases h)⟩
theorem vm_ok48 : TIOk Try.prog 48 ⟨.int .i64, 1, [.int .i64 0], 8, none, false⟩ :=
  ⟨by kernel_rfl, by kernel_rfl, Try.underlying48, ⟨.int .i64 0, by kernel_rfl, (by simp only [Array.toList, Value.cells, relL_cons, relL_nil, Rel, and_self])⟩, (fun h => by cases h)⟩
theorem vm_ok55 : TIOk Try.prog 55 ⟨.struct [(0, 3), (1, 3), (2, 2), (3, 2)], 4, [.int .i64 0, .int .i64 0, .int .i64 0, .int .i64 0], 32, none, true⟩ :=
  ⟨by kernel_rfl, by kernel_rfl, ⟨_, Try.underlying55, rfl⟩, ⟨.agg #[.int .i64 0, .int .i64 0, .int .i64 0, .int .i64 0], by kernel_rfl, (by simp only [Array.toList, Value.cells, relL_cons, relL_nil, Rel, and_self])⟩, (fun _ => ⟨by kernel_rfl, eql55⟩)⟩
theorem vm_ok56 : TIOk Try.prog 56 ⟨.struct [(0, 3), (1, 3), (2, 2), (3, 2)], 4, [.int .i64 0, .int .i64 0, .int .i64 0, .int .i64 0], 32, none, true⟩ :=
  ⟨by kernel_rfl, by kernel_rfl, ⟨_, Try.underlying56, rfl⟩, ⟨.agg #[.int .i64 0, .int .i64 0, .int .i64 0, .int .i64 0], by kernel_rfl, (by simp only [Array.toList, Value.cells, relL_cons, relL_nil, Rel, and_self])⟩, (fun _ => ⟨by kernel_rfl, eql56⟩)⟩
theorem vm_ok58 : TIOk Try.prog 58 ⟨.array 3 56, 12, [.int .i64 0, .int .i64 0, .int .i64 0, .int .i64 0, .int .i64 0, .int .i64 0, .int .i64 0, .int .i64 0, .int .i64 0, .int .i64 0, .int .i64 0, .int .i64 0], 96, none, true⟩ :=
  ⟨by kernel_rfl, by kernel_rfl, Try.underlying58, ⟨.agg #[.int .i64 0, .int .i64 0, .int .i64 0, .int .i64 0, .int .i64 0, .int .i64 0, .int .i64 0, .int .i64 0, .int .i64 0, .int .i64 0, .int .i64 0, .int .i64 0], by kernel_rfl, (by simp only [Array.toList, Value.cells, relL_cons, relL_nil, Rel, and_self])⟩, (fun _ => ⟨by kernel_rfl, eql58⟩)⟩
theorem vm_ok59 : TIOk Try.prog 59 ⟨.ptr 56, 1, [.nilp], 8, none, false⟩ :=
  ⟨by kernel_rfl, by kernel_rfl, Try.underlying59, ⟨.pointer none, by kernel_rfl, (by simp only [Array.toList, Value.cells, relL_cons, relL_nil, Rel, and_self])⟩, (fun h => by cases h)⟩
theorem vm_ok63 : TIOk Try.prog 63 ⟨.int .u64, 1, [.int .u64 0], 8, some .u64, false⟩ :=
  ⟨by kernel_rfl, by kernel_rfl, Try.underlying63, ⟨.int .u64 0, by kernel_rfl, (by simp only [Array.toList, Value.cells, relL_cons, relL_nil, Rel, and_self])⟩, (fun h => by cases h)⟩
theorem vm_ok64 : TIOk Try.prog 64 ⟨.struct [(0, 63), (1, 63)], 2, [.int .u64 0, .int .u64 0], 16, none, true⟩ :=
  ⟨by kernel_rfl, by kernel_rfl, ⟨_, Try.underlying64, rfl⟩, ⟨.agg #[.int .u64 0, .int .u64 0], by kernel_rfl, (by simp only [Array.toList, Value.cells, relL_cons, relL_nil, Rel, and_self])⟩, (fun _ => ⟨by kernel_rfl, eql64⟩)⟩
theorem vm_ok65 : TIOk Try.prog 65 ⟨.struct [(0, 63), (1, 63)], 2, [.int .u64 0, .int .u64 0], 16, none, true⟩ :=
  ⟨by kernel_rfl, by kernel_rfl, ⟨_, Try.underlying65, rfl⟩, ⟨.agg #[.int .u64 0, .int .u64 0], by kernel_rfl, (by simp only [Array.toList, Value.cells, relL_cons, relL_nil, Rel, and_self])⟩, (fun _ => ⟨by kernel_rfl, eql65⟩)⟩
theorem vm_ok72 : TIOk Try.prog 72 ⟨.slice 63, 1, [.nils], 24, none, false⟩ :=
  ⟨by kernel_rfl, by kernel_rfl, Try.underlying72, ⟨.slice none 0 0, by kernel_rfl, (by simp only [Array.toList, Value.cells, relL_cons, relL_nil, Rel, and_self])⟩, (fun h => by cases h)⟩
theorem vm_ok73 : TIOk Try.prog 73 ⟨.struct [(0, 4), (1, 72)], 2, [.bool false, .nils], 32, none, false⟩ :=
  ⟨by kernel_rfl, by kernel_rfl, ⟨_, Try.underlying73, rfl⟩, ⟨.agg #[.bool false, .slice none 0 0], by kernel_rfl, (by simp only [Array.toList, Value.cells, relL_cons, relL_nil, Rel, and_self])⟩, (fun h => by cases h)⟩
theorem vm_ok74 : TIOk Try.prog 74 ⟨.struct [(0, 4), (1, 72)], 2, [.bool false, .nils], 32, none, false⟩ :=
  ⟨by kernel_rfl, by kernel_rfl, ⟨_, Try.underlying74, rfl⟩, ⟨.agg #[.bool false, .slice none 0 0], by kernel_rfl, (by simp only [Array.toList, Value.cells, relL_cons, relL_nil, Rel, and_self])⟩, (fun h => by cases h)⟩
theorem vm_ok79 : TIOk Try.prog 79 ⟨.struct [(0, 2), (1, 2)], 2, [.int .i64 0, .int .i64 0], 16, none, true⟩ :=
  ⟨by kernel_rfl, by kernel_rfl, ⟨_, Try.underlying79, rfl⟩, ⟨.agg #[.int .i64 0, .int .i64 0], by kernel_rfl, (by simp only [Array.toList, Value.cells, relL_cons, relL_nil, Rel, and_self])⟩, (fun _ => ⟨by kernel_rfl, eql79⟩)⟩
theorem vm_ok80 : TIOk Try.prog 80 ⟨.struct [(0, 2), (1, 2)], 2, [.int .i64 0, .int .i64 0], 16, some .pt, true⟩ :=
  ⟨by kernel_rfl, by kernel_rfl, ⟨_, Try.underlying80, rfl⟩, ⟨.agg #[.int .i64 0, .int .i64 0], by kernel_rfl, (by simp only [Array.toList, Value.cells, relL_cons, relL_nil, Rel, and_self])⟩, (fun _ => ⟨by kernel_rfl, eql80⟩)⟩
theorem vm_ok81 : TIOk Try.prog 81 ⟨.slice 80, 1, [.nils], 24, none, false⟩ :=
  ⟨by kernel_rfl, by kernel_rfl, Try.underlying81, ⟨.slice none 0 0, by kernel_rfl, (by simp only [Array.toList, Value.cells, relL_cons, relL_nil, Rel, and_self])⟩, (fun h => by cases h)⟩
theorem vm_ok85 : TIOk Try.prog 85 ⟨.int .u64, 1, [.int .u64 0], 8, none, false⟩ :=
  ⟨by kernel_rfl, by kernel_rfl, Try.underlying85, ⟨.int .u64 0, by kernel_rfl, (by simp only [Array.toList, Value.cells, relL_cons, relL_nil, Rel, and_self])⟩, (fun h => by cases h)⟩
theorem vm_ok107 : TIOk Try.prog 107 ⟨.array 0 16, 0, [], 0, none, false⟩ :=
  ⟨by kernel_rfl, by kernel_rfl, Try.underlying107, ⟨.agg #[], by kernel_rfl, (by simp only [Array.toList, Value.cells, relL_cons, relL_nil, Rel, and_self])⟩, (fun h => by cases h)⟩
theorem vm_ok108 : TIOk Try.prog 108 ⟨.struct [(0, 107)], 0, [], 0, none, false⟩ :=
  ⟨by kernel_rfl, by kernel_rfl, ⟨_, Try.underlying108, rfl⟩, ⟨.agg #[], by kernel_rfl, (by simp only [Array.toList, Value.cells, relL_cons, relL_nil, Rel, and_self])⟩, (fun h => by cases h)⟩
theorem vm_ok109 : TIOk Try.prog 109 ⟨.struct [(0, 107)], 0, [], 0, none, false⟩ :=
  ⟨by kernel_rfl, by kernel_rfl, ⟨_, Try.underlying109, rfl⟩, ⟨.agg #[], by kernel_rfl, (by simp only [Array.toList, Value.cells, relL_cons, relL_nil, Rel, and_self])⟩, (fun h => by cases h)⟩
theorem vm_ok111 : TIOk Try.prog 111 ⟨.int .u32, 1, [.int .u32 0], 4, none, false⟩ :=
  ⟨by kernel_rfl, by kernel_rfl, Try.underlying111, ⟨.int .u32 0, by kernel_rfl, (by simp only [Array.toList, Value.cells, relL_cons, relL_nil, Rel, and_self])⟩, (fun h => by cases h)⟩
theorem vm_ok112 : TIOk Try.prog 112 ⟨.int .u8, 1, [.int .u8 0], 1, none, false⟩ :=
  ⟨by kernel_rfl, by kernel_rfl, Try.underlying112, ⟨.int .u8 0, by kernel_rfl, (by simp only [Array.toList, Value.cells, relL_cons, relL_nil, Rel, and_self])⟩, (fun h => by cases h)⟩
theorem vm_ok113 : TIOk Try.prog 113 ⟨.int .u8, 1, [.int .u8 0], 1, none, false⟩ :=
  ⟨by kernel_rfl, by kernel_rfl, Try.underlying113, ⟨.int .u8 0, by kernel_rfl, (by simp only [Array.toList, Value.cells, relL_cons, relL_nil, Rel, and_self])⟩, (fun h => by cases h)⟩
theorem vm_ok115 : TIOk Try.prog 115 ⟨.ptr 5, 1, [.nilp], 8, none, false⟩ :=
  ⟨by kernel_rfl, by kernel_rfl, Try.underlying115, ⟨.pointer none, by kernel_rfl, (by simp only [Array.toList, Value.cells, relL_cons, relL_nil, Rel, and_self])⟩, (fun h => by cases h)⟩
theorem vm_ok116 : TIOk Try.prog 116 ⟨.int .i32, 1, [.int .i32 0], 4, none, false⟩ :=
  ⟨by kernel_rfl, by kernel_rfl, Try.underlying116, ⟨.int .i32 0, by kernel_rfl, (by simp only [Array.toList, Value.cells, relL_cons, relL_nil, Rel, and_self])⟩, (fun h => by cases h)⟩
theorem vm_ok117 : TIOk Try.prog 117 ⟨.int .i32, 1, [.int .i32 0], 4, none, false⟩ :=
  ⟨by kernel_rfl, by kernel_rfl, Try.underlying117, ⟨.int .i32 0, by kernel_rfl, (by simp only [Array.toList, Value.cells, relL_cons, relL_nil, Rel, and_self])⟩, (fun h => by cases h)⟩

theorem vmT_ok : ∀ t ti, vmT t = some ti → TIOk Try.prog t ti := by
  intro t ti h
  unfold vmT at h
  split at h <;> first | (cases h; done) | (simp only [Option.some.injEq] at h; subst h)
  · exact vm_ok2
  · exact vm_ok3
  · exact vm_ok4
  · exact vm_ok5
  · exact vm_ok6
  · exact vm_ok7
  · exact vm_ok8
  · exact vm_ok12
  · exact vm_ok15
  · exact vm_ok16
  · exact vm_ok17
  · exact vm_ok18
  · exact vm_ok19
  · exact vm_ok21
  · exact vm_ok22
  · exact vm_ok23
  · exact vm_ok24
  · exact vm_ok25
  · exact vm_ok26
  · exact vm_ok30
  · exact vm_ok31
  · exact vm_ok32
  · exact vm_ok33
  · exact vm_ok34
  · exact vm_ok48
  · exact vm_ok55
  · exact vm_ok56
  · exact vm_ok58
  · exact vm_ok59
  · exact vm_ok63
  · exact vm_ok64
  · exact vm_ok65
  · exact vm_ok72
  · exact vm_ok73
  · exact vm_ok74
  · exact vm_ok79
  · exact vm_ok80
  · exact vm_ok81
  · exact vm_ok85
  · exact vm_ok107
  · exact vm_ok108
  · exact vm_ok109
  · exact vm_ok111
  · exact vm_ok112
  · exact vm_ok113
  · exact vm_ok115
  · exact vm_ok116
  · exact vm_ok117

end Go.Proofs.Ytboljdeeodeeeaa
