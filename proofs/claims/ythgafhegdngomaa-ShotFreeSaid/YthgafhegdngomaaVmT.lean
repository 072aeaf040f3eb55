/- The table of this translation's types for the small machine. -/
import Derived.Test.YthgafhegdngomaaVmE
namespace Go.Proofs.Ythgafhegdngomaa
set_option linter.unusedSimpArgs false
set_option linter.unusedVariables false
open Go.RowKit

theorem eqL_int {k : IntKind} {n : Int} {zs xs ys : List SV} {r : Bool} (h : eqL (.int k n :: zs) xs ys = some r) : ∃ (a b : Int) (xs' ys' : List SV) (r' : Bool), xs = .int k a :: xs' ∧ ys = .int k b :: ys' ∧ r = ((a == b) && r') ∧ eqL zs xs' ys' = some r' := by
  cases xs with
  | nil => simp [eqL] at h
  | cons x xs =>
    cases ys with
    | nil => simp [eqL] at h
    | cons y ys =>
      simp only [eqL] at h
      split at h
      · rename_i p q hp hq
        cases h
        unfold eqC at hp
        split at hp
        · rename_i k0 _ k1 a k2 b heq
          cases heq
          by_cases h1 : k1 = k <;> by_cases h2 : k2 = k <;> simp [h1, h2] at hp
          subst h1 h2
          subst hp
          exact ⟨a, b, xs, ys, q, rfl, rfl, rfl, hq⟩
        · rename_i heq; cases heq
        · cases hp
      · cases h
theorem eqL_bool {n : Bool} {zs xs ys : List SV} {r : Bool} (h : eqL (.bool n :: zs) xs ys = some r) : ∃ (a b : Bool) (xs' ys' : List SV) (r' : Bool), xs = .bool a :: xs' ∧ ys = .bool b :: ys' ∧ r = ((a == b) && r') ∧ eqL zs xs' ys' = some r' := by
  cases xs with
  | nil => simp [eqL] at h
  | cons x xs =>
    cases ys with
    | nil => simp [eqL] at h
    | cons y ys =>
      simp only [eqL] at h
      split at h
      · rename_i p q hp hq
        cases h
        unfold eqC at hp
        split at hp
        · rename_i heq; cases heq
        · rename_i a b heq
          simp only [Option.some.injEq] at hp
          subst hp
          exact ⟨a, b, xs, ys, q, rfl, rfl, rfl, hq⟩
        · cases hp
      · cases h
theorem eqL_nil {xs ys : List SV} {r : Bool} (h : eqL [] xs ys = some r) : xs = [] ∧ ys = [] ∧ r = true := by
  cases xs <;> cases ys <;> simp [eqL] at h <;> simp [h]

theorem vm_one2 : One Try.prog 2 := ⟨⟨_, Try.underlying2, rfl⟩, by kernel_rfl⟩
theorem vm_one3 : One Try.prog 3 := ⟨⟨_, Try.underlying3, rfl⟩, by kernel_rfl⟩
theorem vm_one4 : One Try.prog 4 := ⟨⟨_, Try.underlying4, rfl⟩, by kernel_rfl⟩
theorem vm_one5 : One Try.prog 5 := ⟨⟨_, Try.underlying5, rfl⟩, by kernel_rfl⟩
theorem vm_one6 : One Try.prog 6 := ⟨⟨_, Try.underlying6, rfl⟩, by kernel_rfl⟩
theorem vm_agg7 : Agg Try.prog 7 4 := ⟨⟨_, Try.underlying7, rfl⟩, by kernel_rfl⟩
theorem vm_agg8 : Agg Try.prog 8 4 := ⟨⟨_, Try.underlying8, rfl⟩, by kernel_rfl⟩
theorem vm_one12 : One Try.prog 12 := ⟨⟨_, Try.underlying12, rfl⟩, by kernel_rfl⟩
theorem vm_agg13 : Agg Try.prog 13 2 := ⟨⟨_, Try.underlying13, rfl⟩, by kernel_rfl⟩
theorem vm_agg14 : Agg Try.prog 14 2 := ⟨⟨_, Try.underlying14, rfl⟩, by kernel_rfl⟩
theorem vm_one15 : One Try.prog 15 := ⟨⟨_, Try.underlying15, rfl⟩, by kernel_rfl⟩
theorem vm_one16 : One Try.prog 16 := ⟨⟨_, Try.underlying16, rfl⟩, by kernel_rfl⟩
theorem vm_one17 : One Try.prog 17 := ⟨⟨_, Try.underlying17, rfl⟩, by kernel_rfl⟩
theorem vm_agg18 : Agg Try.prog 18 1 := ⟨⟨_, Try.underlying18, rfl⟩, by kernel_rfl⟩
theorem vm_agg19 : Agg Try.prog 19 1 := ⟨⟨_, Try.underlying19, rfl⟩, by kernel_rfl⟩
theorem vm_one21 : One Try.prog 21 := ⟨⟨_, Try.underlying21, rfl⟩, by kernel_rfl⟩
theorem vm_agg22 : Agg Try.prog 22 3 := ⟨⟨_, Try.underlying22, rfl⟩, by kernel_rfl⟩
theorem vm_agg23 : Agg Try.prog 23 3 := ⟨⟨_, Try.underlying23, rfl⟩, by kernel_rfl⟩
theorem vm_agg25 : Agg Try.prog 25 11 := ⟨⟨_, Try.underlying25, rfl⟩, by kernel_rfl⟩
theorem vm_agg26 : Agg Try.prog 26 11 := ⟨⟨_, Try.underlying26, rfl⟩, by kernel_rfl⟩
theorem vm_one27 : One Try.prog 27 := ⟨⟨_, Try.underlying27, rfl⟩, by kernel_rfl⟩
theorem vm_one33 : One Try.prog 33 := ⟨⟨_, Try.underlying33, rfl⟩, by kernel_rfl⟩
theorem vm_one34 : One Try.prog 34 := ⟨⟨_, Try.underlying34, rfl⟩, by kernel_rfl⟩
theorem vm_agg35 : Agg Try.prog 35 5 := ⟨⟨_, Try.underlying35, rfl⟩, by kernel_rfl⟩
theorem vm_agg36 : Agg Try.prog 36 5 := ⟨⟨_, Try.underlying36, rfl⟩, by kernel_rfl⟩
theorem vm_one49 : One Try.prog 49 := ⟨⟨_, Try.underlying49, rfl⟩, by kernel_rfl⟩
theorem vm_agg50 : Agg Try.prog 50 3 := ⟨⟨_, Try.underlying50, rfl⟩, by kernel_rfl⟩
theorem vm_one52 : One Try.prog 52 := ⟨⟨_, Try.underlying52, rfl⟩, by kernel_rfl⟩
theorem vm_one59 : One Try.prog 59 := ⟨⟨_, Try.underlying59, rfl⟩, by kernel_rfl⟩
theorem vm_one61 : One Try.prog 61 := ⟨⟨_, Try.underlying61, rfl⟩, by kernel_rfl⟩
theorem vm_agg62 : Agg Try.prog 62 2 := ⟨⟨_, Try.underlying62, rfl⟩, by kernel_rfl⟩
theorem vm_agg63 : Agg Try.prog 63 2 := ⟨⟨_, Try.underlying63, rfl⟩, by kernel_rfl⟩
theorem vm_one72 : One Try.prog 72 := ⟨⟨_, Try.underlying72, rfl⟩, by kernel_rfl⟩
theorem vm_agg86 : Agg Try.prog 86 4 := ⟨⟨_, Try.underlying86, rfl⟩, by kernel_rfl⟩
theorem vm_agg87 : Agg Try.prog 87 4 := ⟨⟨_, Try.underlying87, rfl⟩, by kernel_rfl⟩
theorem vm_agg88 : Agg Try.prog 88 0 := ⟨⟨_, Try.underlying88, rfl⟩, by kernel_rfl⟩
theorem vm_agg89 : Agg Try.prog 89 0 := ⟨⟨_, Try.underlying89, rfl⟩, by kernel_rfl⟩
theorem vm_agg90 : Agg Try.prog 90 0 := ⟨⟨_, Try.underlying90, rfl⟩, by kernel_rfl⟩
theorem vm_one92 : One Try.prog 92 := ⟨⟨_, Try.underlying92, rfl⟩, by kernel_rfl⟩
theorem vm_one93 : One Try.prog 93 := ⟨⟨_, Try.underlying93, rfl⟩, by kernel_rfl⟩
theorem vm_one94 : One Try.prog 94 := ⟨⟨_, Try.underlying94, rfl⟩, by kernel_rfl⟩
theorem vm_one96 : One Try.prog 96 := ⟨⟨_, Try.underlying96, rfl⟩, by kernel_rfl⟩
theorem vm_one97 : One Try.prog 97 := ⟨⟨_, Try.underlying97, rfl⟩, by kernel_rfl⟩
theorem vm_one98 : One Try.prog 98 := ⟨⟨_, Try.underlying98, rfl⟩, by kernel_rfl⟩
theorem vm_agg99 : Agg Try.prog 99 11 := ⟨⟨_, Try.underlying99, rfl⟩, by kernel_rfl⟩
theorem vm_agg100 : Agg Try.prog 100 11 := ⟨⟨_, Try.underlying100, rfl⟩, by kernel_rfl⟩

theorem eqv7 (d : Nat) (w : World) (a0 : Int) (a1 : Int) (a2 : Bool) (a3 : Int) (b0 : Int) (b1 : Int) (b2 : Bool) (b3 : Int) : (Op.equalIn (d + 2) 7 (.agg #[.int .i64 a0, .int .i64 a1, .bool a2, .int .u8 a3]) (.agg #[.int .i64 b0, .int .i64 b1, .bool b2, .int .u8 b3])).run Try.prog w = .ok ((a0 == b0) && ((a1 == b1) && ((a2 == b2) && ((a3 == b3) && true)))) w :=
  eqs_of (P := Try.prog) (d := d + 1) (xs := #[.int .i64 a0, .int .i64 a1, .bool a2, .int .u8 a3]) (ys := #[.int .i64 b0, .int .i64 b1, .bool b2, .int .u8 b3]) w Try.underlying7 (by kernel_rfl) (eqf_cons w rfl (part_one vm_one2 w _ _ rfl) (part_one vm_one2 w _ _ rfl) (run_equalIn_int w _ 2 _ _ _ _ Try.underlying2) (eqf_cons w rfl (part_one vm_one3 w _ _ rfl) (part_one vm_one3 w _ _ rfl) (run_equalIn_int w _ 3 _ _ _ _ Try.underlying3) (eqf_cons w rfl (part_one vm_one4 w _ _ rfl) (part_one vm_one4 w _ _ rfl) (run_equalIn_bool w _ 4 _ _ Try.underlying4) (eqf_cons w rfl (part_one vm_one6 w _ _ rfl) (part_one vm_one6 w _ _ rfl) (run_equalIn_int w _ 6 _ _ _ _ Try.underlying6) (eqf_nil _ _ _ w)))))

theorem eql7 (xs ys : List SV) (r : Bool) (h : eqL [.int .i64 0, .int .i64 0, .bool false, .int .u8 0] xs ys = some r) (w : World) : (Op.equalIn 10000 7 (.agg (xs.map dval).toArray) (.agg (ys.map dval).toArray)).run Try.prog w = .ok r w := by
  obtain ⟨a0, b0, xs0, ys0, r0, rfl, rfl, rfl, h0⟩ := eqL_int h
  obtain ⟨a1, b1, xs1, ys1, r1, rfl, rfl, rfl, h1⟩ := eqL_int h0
  obtain ⟨a2, b2, xs2, ys2, r2, rfl, rfl, rfl, h2⟩ := eqL_bool h1
  obtain ⟨a3, b3, xs3, ys3, r3, rfl, rfl, rfl, h3⟩ := eqL_int h2
  obtain ⟨rfl, rfl, rfl⟩ := eqL_nil h3
  have e := eqv7 9998 w a0 a1 a2 a3 b0 b1 b2 b3
  simp only [Bool.and_assoc, Bool.true_and, Bool.and_true] at e ⊢
  exact e

theorem eqv8 (d : Nat) (w : World) (a0 : Int) (a1 : Int) (a2 : Bool) (a3 : Int) (b0 : Int) (b1 : Int) (b2 : Bool) (b3 : Int) : (Op.equalIn (d + 2) 8 (.agg #[.int .i64 a0, .int .i64 a1, .bool a2, .int .u8 a3]) (.agg #[.int .i64 b0, .int .i64 b1, .bool b2, .int .u8 b3])).run Try.prog w = .ok ((a0 == b0) && ((a1 == b1) && ((a2 == b2) && ((a3 == b3) && true)))) w :=
  eqs_of (P := Try.prog) (d := d + 1) (xs := #[.int .i64 a0, .int .i64 a1, .bool a2, .int .u8 a3]) (ys := #[.int .i64 b0, .int .i64 b1, .bool b2, .int .u8 b3]) w Try.underlying8 (by kernel_rfl) (eqf_cons w rfl (part_one vm_one2 w _ _ rfl) (part_one vm_one2 w _ _ rfl) (run_equalIn_int w _ 2 _ _ _ _ Try.underlying2) (eqf_cons w rfl (part_one vm_one3 w _ _ rfl) (part_one vm_one3 w _ _ rfl) (run_equalIn_int w _ 3 _ _ _ _ Try.underlying3) (eqf_cons w rfl (part_one vm_one4 w _ _ rfl) (part_one vm_one4 w _ _ rfl) (run_equalIn_bool w _ 4 _ _ Try.underlying4) (eqf_cons w rfl (part_one vm_one6 w _ _ rfl) (part_one vm_one6 w _ _ rfl) (run_equalIn_int w _ 6 _ _ _ _ Try.underlying6) (eqf_nil _ _ _ w)))))

theorem eql8 (xs ys : List SV) (r : Bool) (h : eqL [.int .i64 0, .int .i64 0, .bool false, .int .u8 0] xs ys = some r) (w : World) : (Op.equalIn 10000 8 (.agg (xs.map dval).toArray) (.agg (ys.map dval).toArray)).run Try.prog w = .ok r w := by
  obtain ⟨a0, b0, xs0, ys0, r0, rfl, rfl, rfl, h0⟩ := eqL_int h
  obtain ⟨a1, b1, xs1, ys1, r1, rfl, rfl, rfl, h1⟩ := eqL_int h0
  obtain ⟨a2, b2, xs2, ys2, r2, rfl, rfl, rfl, h2⟩ := eqL_bool h1
  obtain ⟨a3, b3, xs3, ys3, r3, rfl, rfl, rfl, h3⟩ := eqL_int h2
  obtain ⟨rfl, rfl, rfl⟩ := eqL_nil h3
  have e := eqv8 9998 w a0 a1 a2 a3 b0 b1 b2 b3
  simp only [Bool.and_assoc, Bool.true_and, Bool.and_true] at e ⊢
  exact e

theorem eqv22 (d : Nat) (w : World) (a0 : Int) (a1 : Int) (a2 : Int) (b0 : Int) (b1 : Int) (b2 : Int) : (Op.equalIn (d + 2) 22 (.agg #[.int .i64 a0, .int .i64 a1, .int .i64 a2]) (.agg #[.int .i64 b0, .int .i64 b1, .int .i64 b2])).run Try.prog w = .ok ((a0 == b0) && ((a1 == b1) && ((a2 == b2) && true))) w :=
  eqs_of (P := Try.prog) (d := d + 1) (xs := #[.int .i64 a0, .int .i64 a1, .int .i64 a2]) (ys := #[.int .i64 b0, .int .i64 b1, .int .i64 b2]) w Try.underlying22 (by kernel_rfl) (eqf_cons w rfl (part_one vm_one2 w _ _ rfl) (part_one vm_one2 w _ _ rfl) (run_equalIn_int w _ 2 _ _ _ _ Try.underlying2) (eqf_cons w rfl (part_one vm_one2 w _ _ rfl) (part_one vm_one2 w _ _ rfl) (run_equalIn_int w _ 2 _ _ _ _ Try.underlying2) (eqf_cons w rfl (part_one vm_one2 w _ _ rfl) (part_one vm_one2 w _ _ rfl) (run_equalIn_int w _ 2 _ _ _ _ Try.underlying2) (eqf_nil _ _ _ w))))

theorem eql22 (xs ys : List SV) (r : Bool) (h : eqL [.int .i64 0, .int .i64 0, .int .i64 0] xs ys = some r) (w : World) : (Op.equalIn 10000 22 (.agg (xs.map dval).toArray) (.agg (ys.map dval).toArray)).run Try.prog w = .ok r w := by
  obtain ⟨a0, b0, xs0, ys0, r0, rfl, rfl, rfl, h0⟩ := eqL_int h
  obtain ⟨a1, b1, xs1, ys1, r1, rfl, rfl, rfl, h1⟩ := eqL_int h0
  obtain ⟨a2, b2, xs2, ys2, r2, rfl, rfl, rfl, h2⟩ := eqL_int h1
  obtain ⟨rfl, rfl, rfl⟩ := eqL_nil h2
  have e := eqv22 9998 w a0 a1 a2 b0 b1 b2
  simp only [Bool.and_assoc, Bool.true_and, Bool.and_true] at e ⊢
  exact e

theorem eqv23 (d : Nat) (w : World) (a0 : Int) (a1 : Int) (a2 : Int) (b0 : Int) (b1 : Int) (b2 : Int) : (Op.equalIn (d + 2) 23 (.agg #[.int .i64 a0, .int .i64 a1, .int .i64 a2]) (.agg #[.int .i64 b0, .int .i64 b1, .int .i64 b2])).run Try.prog w = .ok ((a0 == b0) && ((a1 == b1) && ((a2 == b2) && true))) w :=
  eqs_of (P := Try.prog) (d := d + 1) (xs := #[.int .i64 a0, .int .i64 a1, .int .i64 a2]) (ys := #[.int .i64 b0, .int .i64 b1, .int .i64 b2]) w Try.underlying23 (by kernel_rfl) (eqf_cons w rfl (part_one vm_one2 w _ _ rfl) (part_one vm_one2 w _ _ rfl) (run_equalIn_int w _ 2 _ _ _ _ Try.underlying2) (eqf_cons w rfl (part_one vm_one2 w _ _ rfl) (part_one vm_one2 w _ _ rfl) (run_equalIn_int w _ 2 _ _ _ _ Try.underlying2) (eqf_cons w rfl (part_one vm_one2 w _ _ rfl) (part_one vm_one2 w _ _ rfl) (run_equalIn_int w _ 2 _ _ _ _ Try.underlying2) (eqf_nil _ _ _ w))))

theorem eql23 (xs ys : List SV) (r : Bool) (h : eqL [.int .i64 0, .int .i64 0, .int .i64 0] xs ys = some r) (w : World) : (Op.equalIn 10000 23 (.agg (xs.map dval).toArray) (.agg (ys.map dval).toArray)).run Try.prog w = .ok r w := by
  obtain ⟨a0, b0, xs0, ys0, r0, rfl, rfl, rfl, h0⟩ := eqL_int h
  obtain ⟨a1, b1, xs1, ys1, r1, rfl, rfl, rfl, h1⟩ := eqL_int h0
  obtain ⟨a2, b2, xs2, ys2, r2, rfl, rfl, rfl, h2⟩ := eqL_int h1
  obtain ⟨rfl, rfl, rfl⟩ := eqL_nil h2
  have e := eqv23 9998 w a0 a1 a2 b0 b1 b2
  simp only [Bool.and_assoc, Bool.true_and, Bool.and_true] at e ⊢
  exact e

theorem eqv62 (d : Nat) (w : World) (a0 : Int) (a1 : Int) (b0 : Int) (b1 : Int) : (Op.equalIn (d + 2) 62 (.agg #[.int .u64 a0, .int .u64 a1]) (.agg #[.int .u64 b0, .int .u64 b1])).run Try.prog w = .ok ((a0 == b0) && ((a1 == b1) && true)) w :=
  eqs_of (P := Try.prog) (d := d + 1) (xs := #[.int .u64 a0, .int .u64 a1]) (ys := #[.int .u64 b0, .int .u64 b1]) w Try.underlying62 (by kernel_rfl) (eqf_cons w rfl (part_one vm_one61 w _ _ rfl) (part_one vm_one61 w _ _ rfl) (run_equalIn_int w _ 61 _ _ _ _ Try.underlying61) (eqf_cons w rfl (part_one vm_one61 w _ _ rfl) (part_one vm_one61 w _ _ rfl) (run_equalIn_int w _ 61 _ _ _ _ Try.underlying61) (eqf_nil _ _ _ w)))

theorem eql62 (xs ys : List SV) (r : Bool) (h : eqL [.int .u64 0, .int .u64 0] xs ys = some r) (w : World) : (Op.equalIn 10000 62 (.agg (xs.map dval).toArray) (.agg (ys.map dval).toArray)).run Try.prog w = .ok r w := by
  obtain ⟨a0, b0, xs0, ys0, r0, rfl, rfl, rfl, h0⟩ := eqL_int h
  obtain ⟨a1, b1, xs1, ys1, r1, rfl, rfl, rfl, h1⟩ := eqL_int h0
  obtain ⟨rfl, rfl, rfl⟩ := eqL_nil h1
  have e := eqv62 9998 w a0 a1 b0 b1
  simp only [Bool.and_assoc, Bool.true_and, Bool.and_true] at e ⊢
  exact e

theorem eqv63 (d : Nat) (w : World) (a0 : Int) (a1 : Int) (b0 : Int) (b1 : Int) : (Op.equalIn (d + 2) 63 (.agg #[.int .u64 a0, .int .u64 a1]) (.agg #[.int .u64 b0, .int .u64 b1])).run Try.prog w = .ok ((a0 == b0) && ((a1 == b1) && true)) w :=
  eqs_of (P := Try.prog) (d := d + 1) (xs := #[.int .u64 a0, .int .u64 a1]) (ys := #[.int .u64 b0, .int .u64 b1]) w Try.underlying63 (by kernel_rfl) (eqf_cons w rfl (part_one vm_one61 w _ _ rfl) (part_one vm_one61 w _ _ rfl) (run_equalIn_int w _ 61 _ _ _ _ Try.underlying61) (eqf_cons w rfl (part_one vm_one61 w _ _ rfl) (part_one vm_one61 w _ _ rfl) (run_equalIn_int w _ 61 _ _ _ _ Try.underlying61) (eqf_nil _ _ _ w)))

theorem eql63 (xs ys : List SV) (r : Bool) (h : eqL [.int .u64 0, .int .u64 0] xs ys = some r) (w : World) : (Op.equalIn 10000 63 (.agg (xs.map dval).toArray) (.agg (ys.map dval).toArray)).run Try.prog w = .ok r w := by
  obtain ⟨a0, b0, xs0, ys0, r0, rfl, rfl, rfl, h0⟩ := eqL_int h
  obtain ⟨a1, b1, xs1, ys1, r1, rfl, rfl, rfl, h1⟩ := eqL_int h0
  obtain ⟨rfl, rfl, rfl⟩ := eqL_nil h1
  have e := eqv63 9998 w a0 a1 b0 b1
  simp only [Bool.and_assoc, Bool.true_and, Bool.and_true] at e ⊢
  exact e

theorem eqv25 (d : Nat) (w : World) (a0 : Int) (a1 : Int) (a2 : Int) (a3 : Int) (a4 : Int) (a5 : Int) (a6 : Int) (a7 : Int) (a8 : Int) (a9 : Int) (a10 : Bool) (b0 : Int) (b1 : Int) (b2 : Int) (b3 : Int) (b4 : Int) (b5 : Int) (b6 : Int) (b7 : Int) (b8 : Int) (b9 : Int) (b10 : Bool) : (Op.equalIn (d + 3) 25 (.agg #[.int .i64 a0, .int .i64 a1, .int .i64 a2, .int .i64 a3, .int .i64 a4, .int .i64 a5, .int .i64 a6, .int .i64 a7, .int .i64 a8, .int .i64 a9, .bool a10]) (.agg #[.int .i64 b0, .int .i64 b1, .int .i64 b2, .int .i64 b3, .int .i64 b4, .int .i64 b5, .int .i64 b6, .int .i64 b7, .int .i64 b8, .int .i64 b9, .bool b10])).run Try.prog w = .ok ((a0 == b0) && ((a1 == b1) && ((a2 == b2) && (((a3 == b3) && ((a4 == b4) && ((a5 == b5) && true))) && (((a6 == b6) && ((a7 == b7) && ((a8 == b8) && true))) && ((a9 == b9) && ((a10 == b10) && true))))))) w :=
  eqs_of (P := Try.prog) (d := d + 2) (xs := #[.int .i64 a0, .int .i64 a1, .int .i64 a2, .int .i64 a3, .int .i64 a4, .int .i64 a5, .int .i64 a6, .int .i64 a7, .int .i64 a8, .int .i64 a9, .bool a10]) (ys := #[.int .i64 b0, .int .i64 b1, .int .i64 b2, .int .i64 b3, .int .i64 b4, .int .i64 b5, .int .i64 b6, .int .i64 b7, .int .i64 b8, .int .i64 b9, .bool b10]) w Try.underlying25 (by kernel_rfl) (eqf_cons w rfl (part_one vm_one3 w _ _ rfl) (part_one vm_one3 w _ _ rfl) (run_equalIn_int w _ 3 _ _ _ _ Try.underlying3) (eqf_cons w rfl (part_one vm_one3 w _ _ rfl) (part_one vm_one3 w _ _ rfl) (run_equalIn_int w _ 3 _ _ _ _ Try.underlying3) (eqf_cons w rfl (part_one vm_one3 w _ _ rfl) (part_one vm_one3 w _ _ rfl) (run_equalIn_int w _ 3 _ _ _ _ Try.underlying3) (eqf_cons w rfl (part_agg vm_agg23 w _ _ rfl) (part_agg vm_agg23 w _ _ rfl) (eqv23 _ w a3 a4 a5 b3 b4 b5) (eqf_cons w rfl (part_agg vm_agg23 w _ _ rfl) (part_agg vm_agg23 w _ _ rfl) (eqv23 _ w a6 a7 a8 b6 b7 b8) (eqf_cons w rfl (part_one vm_one3 w _ _ rfl) (part_one vm_one3 w _ _ rfl) (run_equalIn_int w _ 3 _ _ _ _ Try.underlying3) (eqf_cons w rfl (part_one vm_one4 w _ _ rfl) (part_one vm_one4 w _ _ rfl) (run_equalIn_bool w _ 4 _ _ Try.underlying4) (eqf_nil _ _ _ w))))))))

theorem eql25 (xs ys : List SV) (r : Bool) (h : eqL [.int .i64 0, .int .i64 0, .int .i64 0, .int .i64 0, .int .i64 0, .int .i64 0, .int .i64 0, .int .i64 0, .int .i64 0, .int .i64 0, .bool false] xs ys = some r) (w : World) : (Op.equalIn 10000 25 (.agg (xs.map dval).toArray) (.agg (ys.map dval).toArray)).run Try.prog w = .ok r w := by
  obtain ⟨a0, b0, xs0, ys0, r0, rfl, rfl, rfl, h0⟩ := eqL_int h
  obtain ⟨a1, b1, xs1, ys1, r1, rfl, rfl, rfl, h1⟩ := eqL_int h0
  obtain ⟨a2, b2, xs2, ys2, r2, rfl, rfl, rfl, h2⟩ := eqL_int h1
  obtain ⟨a3, b3, xs3, ys3, r3, rfl, rfl, rfl, h3⟩ := eqL_int h2
  obtain ⟨a4, b4, xs4, ys4, r4, rfl, rfl, rfl, h4⟩ := eqL_int h3
  obtain ⟨a5, b5, xs5, ys5, r5, rfl, rfl, rfl, h5⟩ := eqL_int h4
  obtain ⟨a6, b6, xs6, ys6, r6, rfl, rfl, rfl, h6⟩ := eqL_int h5
  obtain ⟨a7, b7, xs7, ys7, r7, rfl, rfl, rfl, h7⟩ := eqL_int h6
  obtain ⟨a8, b8, xs8, ys8, r8, rfl, rfl, rfl, h8⟩ := eqL_int h7
  obtain ⟨a9, b9, xs9, ys9, r9, rfl, rfl, rfl, h9⟩ := eqL_int h8
  obtain ⟨a10, b10, xs10, ys10, r10, rfl, rfl, rfl, h10⟩ := eqL_bool h9
  obtain ⟨rfl, rfl, rfl⟩ := eqL_nil h10
  have e := eqv25 9997 w a0 a1 a2 a3 a4 a5 a6 a7 a8 a9 a10 b0 b1 b2 b3 b4 b5 b6 b7 b8 b9 b10
  simp only [Bool.and_assoc, Bool.true_and, Bool.and_true] at e ⊢
  exact e

theorem eqv26 (d : Nat) (w : World) (a0 : Int) (a1 : Int) (a2 : Int) (a3 : Int) (a4 : Int) (a5 : Int) (a6 : Int) (a7 : Int) (a8 : Int) (a9 : Int) (a10 : Bool) (b0 : Int) (b1 : Int) (b2 : Int) (b3 : Int) (b4 : Int) (b5 : Int) (b6 : Int) (b7 : Int) (b8 : Int) (b9 : Int) (b10 : Bool) : (Op.equalIn (d + 3) 26 (.agg #[.int .i64 a0, .int .i64 a1, .int .i64 a2, .int .i64 a3, .int .i64 a4, .int .i64 a5, .int .i64 a6, .int .i64 a7, .int .i64 a8, .int .i64 a9, .bool a10]) (.agg #[.int .i64 b0, .int .i64 b1, .int .i64 b2, .int .i64 b3, .int .i64 b4, .int .i64 b5, .int .i64 b6, .int .i64 b7, .int .i64 b8, .int .i64 b9, .bool b10])).run Try.prog w = .ok ((a0 == b0) && ((a1 == b1) && ((a2 == b2) && (((a3 == b3) && ((a4 == b4) && ((a5 == b5) && true))) && (((a6 == b6) && ((a7 == b7) && ((a8 == b8) && true))) && ((a9 == b9) && ((a10 == b10) && true))))))) w :=
  eqs_of (P := Try.prog) (d := d + 2) (xs := #[.int .i64 a0, .int .i64 a1, .int .i64 a2, .int .i64 a3, .int .i64 a4, .int .i64 a5, .int .i64 a6, .int .i64 a7, .int .i64 a8, .int .i64 a9, .bool a10]) (ys := #[.int .i64 b0, .int .i64 b1, .int .i64 b2, .int .i64 b3, .int .i64 b4, .int .i64 b5, .int .i64 b6, .int .i64 b7, .int .i64 b8, .int .i64 b9, .bool b10]) w Try.underlying26 (by kernel_rfl) (eqf_cons w rfl (part_one vm_one3 w _ _ rfl) (part_one vm_one3 w _ _ rfl) (run_equalIn_int w _ 3 _ _ _ _ Try.underlying3) (eqf_cons w rfl (part_one vm_one3 w _ _ rfl) (part_one vm_one3 w _ _ rfl) (run_equalIn_int w _ 3 _ _ _ _ Try.underlying3) (eqf_cons w rfl (part_one vm_one3 w _ _ rfl) (part_one vm_one3 w _ _ rfl) (run_equalIn_int w _ 3 _ _ _ _ Try.underlying3) (eqf_cons w rfl (part_agg vm_agg23 w _ _ rfl) (part_agg vm_agg23 w _ _ rfl) (eqv23 _ w a3 a4 a5 b3 b4 b5) (eqf_cons w rfl (part_agg vm_agg23 w _ _ rfl) (part_agg vm_agg23 w _ _ rfl) (eqv23 _ w a6 a7 a8 b6 b7 b8) (eqf_cons w rfl (part_one vm_one3 w _ _ rfl) (part_one vm_one3 w _ _ rfl) (run_equalIn_int w _ 3 _ _ _ _ Try.underlying3) (eqf_cons w rfl (part_one vm_one4 w _ _ rfl) (part_one vm_one4 w _ _ rfl) (run_equalIn_bool w _ 4 _ _ Try.underlying4) (eqf_nil _ _ _ w))))))))

theorem eql26 (xs ys : List SV) (r : Bool) (h : eqL [.int .i64 0, .int .i64 0, .int .i64 0, .int .i64 0, .int .i64 0, .int .i64 0, .int .i64 0, .int .i64 0, .int .i64 0, .int .i64 0, .bool false] xs ys = some r) (w : World) : (Op.equalIn 10000 26 (.agg (xs.map dval).toArray) (.agg (ys.map dval).toArray)).run Try.prog w = .ok r w := by
  obtain ⟨a0, b0, xs0, ys0, r0, rfl, rfl, rfl, h0⟩ := eqL_int h
  obtain ⟨a1, b1, xs1, ys1, r1, rfl, rfl, rfl, h1⟩ := eqL_int h0
  obtain ⟨a2, b2, xs2, ys2, r2, rfl, rfl, rfl, h2⟩ := eqL_int h1
  obtain ⟨a3, b3, xs3, ys3, r3, rfl, rfl, rfl, h3⟩ := eqL_int h2
  obtain ⟨a4, b4, xs4, ys4, r4, rfl, rfl, rfl, h4⟩ := eqL_int h3
  obtain ⟨a5, b5, xs5, ys5, r5, rfl, rfl, rfl, h5⟩ := eqL_int h4
  obtain ⟨a6, b6, xs6, ys6, r6, rfl, rfl, rfl, h6⟩ := eqL_int h5
  obtain ⟨a7, b7, xs7, ys7, r7, rfl, rfl, rfl, h7⟩ := eqL_int h6
  obtain ⟨a8, b8, xs8, ys8, r8, rfl, rfl, rfl, h8⟩ := eqL_int h7
  obtain ⟨a9, b9, xs9, ys9, r9, rfl, rfl, rfl, h9⟩ := eqL_int h8
  obtain ⟨a10, b10, xs10, ys10, r10, rfl, rfl, rfl, h10⟩ := eqL_bool h9
  obtain ⟨rfl, rfl, rfl⟩ := eqL_nil h10
  have e := eqv26 9997 w a0 a1 a2 a3 a4 a5 a6 a7 a8 a9 a10 b0 b1 b2 b3 b4 b5 b6 b7 b8 b9 b10
  simp only [Bool.and_assoc, Bool.true_and, Bool.and_true] at e ⊢
  exact e

def vmT : Nat → Option TI
  | 2 => some ⟨.int .i64, 1, [.int .i64 0], 8, some .i64, false⟩
  | 3 => some ⟨.int .i64, 1, [.int .i64 0], 8, some .i64, false⟩
  | 4 => some ⟨.bool, 1, [.bool false], 1, some .bool, false⟩
  | 5 => some ⟨.int .u8, 1, [.int .u8 0], 1, none, false⟩
  | 6 => some ⟨.int .u8, 1, [.int .u8 0], 1, none, false⟩
  | 7 => some ⟨.struct [(0, 2), (1, 3), (2, 4), (3, 6)], 4, [.int .i64 0, .int .i64 0, .bool false, .int .u8 0], 24, none, true⟩
  | 8 => some ⟨.struct [(0, 2), (1, 3), (2, 4), (3, 6)], 4, [.int .i64 0, .int .i64 0, .bool false, .int .u8 0], 24, none, true⟩
  | 12 => some ⟨.int .u64, 1, [.int .u64 0], 8, none, false⟩
  | 15 => some ⟨.ptr 87, 1, [.nilp], 8, none, false⟩
  | 16 => some ⟨.ptr 90, 1, [.nilp], 8, none, false⟩
  | 17 => some ⟨.ptr 100, 1, [.nilp], 8, none, false⟩
  | 18 => some ⟨.struct [(0, 17)], 1, [.nilp], 8, none, false⟩
  | 19 => some ⟨.struct [(0, 17)], 1, [.nilp], 8, none, false⟩
  | 21 => some ⟨.int .i32, 1, [.int .i32 0], 4, none, false⟩
  | 22 => some ⟨.struct [(0, 2), (1, 2), (2, 2)], 3, [.int .i64 0, .int .i64 0, .int .i64 0], 24, none, true⟩
  | 23 => some ⟨.struct [(0, 2), (1, 2), (2, 2)], 3, [.int .i64 0, .int .i64 0, .int .i64 0], 24, some .vec, true⟩
  | 25 => some ⟨.struct [(0, 3), (1, 3), (2, 3), (3, 23), (6, 23), (9, 3), (10, 4)], 11, [.int .i64 0, .int .i64 0, .int .i64 0, .int .i64 0, .int .i64 0, .int .i64 0, .int .i64 0, .int .i64 0, .int .i64 0, .int .i64 0, .bool false], 88, none, true⟩
  | 26 => some ⟨.struct [(0, 3), (1, 3), (2, 3), (3, 23), (6, 23), (9, 3), (10, 4)], 11, [.int .i64 0, .int .i64 0, .int .i64 0, .int .i64 0, .int .i64 0, .int .i64 0, .int .i64 0, .int .i64 0, .int .i64 0, .int .i64 0, .bool false], 88, some .sh, true⟩
  | 27 => some ⟨.int .i64, 1, [.int .i64 0], 8, none, false⟩
  | 33 => some ⟨.slice 4, 1, [.nils], 24, none, false⟩
  | 34 => some ⟨.slice 23, 1, [.nils], 24, none, false⟩
  | 35 => some ⟨.struct [(0, 3), (1, 3), (2, 3), (3, 33), (4, 34)], 5, [.int .i64 0, .int .i64 0, .int .i64 0, .nils, .nils], 72, none, false⟩
  | 36 => some ⟨.struct [(0, 3), (1, 3), (2, 3), (3, 33), (4, 34)], 5, [.int .i64 0, .int .i64 0, .int .i64 0, .nils, .nils], 72, none, false⟩
  | 49 => some ⟨.ptr 2, 1, [.nilp], 8, none, false⟩
  | 50 => some ⟨.array 3 49, 3, [.nilp, .nilp, .nilp], 24, none, false⟩
  | 52 => some ⟨.ptr 23, 1, [.nilp], 8, none, false⟩
  | 59 => some ⟨.ptr 26, 1, [.nilp], 8, none, false⟩
  | 61 => some ⟨.int .u64, 1, [.int .u64 0], 8, some .u64, false⟩
  | 62 => some ⟨.struct [(0, 61), (1, 61)], 2, [.int .u64 0, .int .u64 0], 16, none, true⟩
  | 63 => some ⟨.struct [(0, 61), (1, 61)], 2, [.int .u64 0, .int .u64 0], 16, none, true⟩
  | 72 => some ⟨.int .u64, 1, [.int .u64 0], 8, none, false⟩
  | 88 => some ⟨.array 0 16, 0, [], 0, none, false⟩
  | 89 => some ⟨.struct [(0, 88)], 0, [], 0, none, false⟩
  | 90 => some ⟨.struct [(0, 88)], 0, [], 0, none, false⟩
  | 92 => some ⟨.int .u32, 1, [.int .u32 0], 4, none, false⟩
  | 93 => some ⟨.int .u8, 1, [.int .u8 0], 1, none, false⟩
  | 94 => some ⟨.int .u8, 1, [.int .u8 0], 1, none, false⟩
  | 96 => some ⟨.ptr 5, 1, [.nilp], 8, none, false⟩
  | 97 => some ⟨.int .i32, 1, [.int .i32 0], 4, none, false⟩
  | 98 => some ⟨.int .i32, 1, [.int .i32 0], 4, none, false⟩
  | _ => none

theorem vm_ok2 : TIOk Try.prog 2 ⟨.int .i64, 1, [.int .i64 0], 8, some .i64, false⟩ :=
  ⟨by kernel_rfl, by kernel_rfl, Try.underlying2, ⟨.int .i64 0, by kernel_rfl, (by simp only [Array.toList, Value.cells, relL_cons, relL_nil, Rel, and_self])⟩, (fun h => by cases h)⟩
theorem vm_ok3 : TIOk Try.prog 3 ⟨.int .i64, 1, [.int .i64 0], 8, some .i64, false⟩ :=
  ⟨by kernel_rfl, by kernel_rfl, Try.underlying3, ⟨.int .i64 0, by kernel_rfl, (by simp only [Array.toList, Value.cells, relL_cons, relL_nil, Rel, and_self])⟩, (fun h => by cases h)⟩
theorem vm_ok4 : TIOk Try.prog 4 ⟨.bool, 1, [.bool false], 1, some .bool, false⟩ :=
  ⟨by kernel_rfl, by kernel_rfl, Try.underlying4, ⟨.bool false, by kernel_rfl, (by simp only [Array.toList, Value.cells, relL_cons, relL_nil, Rel, and_self])⟩, (fun h => by cases h)⟩
theorem vm_ok5 : TIOk Try.prog 5 ⟨.int .u8, 1, [.int .u8 0], 1, none, false⟩ :=
  ⟨by kernel_rfl, by kernel_rfl, Try.underlying5, ⟨.int .u8 0, by kernel_rfl, (by simp only [Array.toList, Value.cells, relL_cons, relL_nil, Rel, and_self])⟩, (fun h => by cases h)⟩
theorem vm_ok6 : TIOk Try.prog 6 ⟨.int .u8, 1, [.int .u8 0], 1, none, false⟩ :=
  ⟨by kernel_rfl, by kernel_rfl, Try.underlying6, ⟨.int .u8 0, by kernel_rfl, (by simp only [Array.toList, Value.cells, relL_cons, relL_nil, Rel, and_self])⟩, (fun h => by cases h)⟩
theorem vm_ok7 : TIOk Try.prog 7 ⟨.struct [(0, 2), (1, 3), (2, 4), (3, 6)], 4, [.int .i64 0, .int .i64 0, .bool false, .int .u8 0], 24, none, true⟩ :=
  ⟨by kernel_rfl, by kernel_rfl, ⟨_, Try.underlying7, rfl⟩, ⟨.agg #[.int .i64 0, .int .i64 0, .bool false, .int .u8 0], by kernel_rfl, (by simp only [Array.toList, Value.cells, relL_cons, relL_nil, Rel, and_self])⟩, (fun _ => ⟨by kernel_rfl, eql7⟩)⟩
theorem vm_ok8 : TIOk Try.prog 8 ⟨.struct [(0, 2), (1, 3), (2, 4), (3, 6)], 4, [.int .i64 0, .int .i64 0, .bool false, .int .u8 0], 24, none, true⟩ :=
  ⟨by kernel_rfl, by kernel_rfl, ⟨_, Try.underlying8, rfl⟩, ⟨.agg #[.int .i64 0, .int .i64 0, .bool false, .int .u8 0], by kernel_rfl, (by simp only [Array.toList, Value.cells, relL_cons, relL_nil, Rel, and_self])⟩, (fun _ => ⟨by kernel_rfl, eql8⟩)⟩
theorem vm_ok12 : TIOk Try.prog 12 ⟨.int .u64, 1, [.int .u64 0], 8, none, false⟩ :=
  ⟨by kernel_rfl, by kernel_rfl, Try.underlying12, ⟨.int .u64 0, by kernel_rfl, (by simp only [Array.toList, Value.cells, relL_cons, relL_nil, Rel, and_self])⟩, (fun h => by cases h)⟩
theorem vm_ok15 : TIOk Try.prog 15 ⟨.ptr 87, 1, [.nilp], 8, none, false⟩ :=
  ⟨by kernel_rfl, by kernel_rfl, Try.underlying15, ⟨.pointer none, by kernel_rfl, (by simp only [Array.toList, Value.cells, relL_cons, relL_nil, Rel, and_self])⟩, (fun h => by cases h)⟩
theorem vm_ok16 : TIOk Try.prog 16 ⟨.ptr 90, 1, [.nilp], 8, none, false⟩ :=
  ⟨by kernel_rfl, by kernel_rfl, Try.underlying16, ⟨.pointer none, by kernel_rfl, (by simp only [Array.toList, Value.cells, relL_cons, relL_nil, Rel, and_self])⟩, (fun h => by cases h)⟩
theorem vm_ok17 : TIOk Try.prog 17 ⟨.ptr 100, 1, [.nilp], 8, none, false⟩ :=
  ⟨by kernel_rfl, by kernel_rfl, Try.underlying17, ⟨.pointer none, by kernel_rfl, (by simp only [Array.toList, Value.cells, relL_cons, relL_nil, Rel, and_self])⟩, (fun h => by cases h)⟩
theorem vm_ok18 : TIOk Try.prog 18 ⟨.struct [(0, 17)], 1, [.nilp], 8, none, false⟩ :=
  ⟨by kernel_rfl, by kernel_rfl, ⟨_, Try.underlying18, rfl⟩, ⟨.agg #[.pointer none], by kernel_rfl, (by simp only [Array.toList, Value.cells, relL_cons, relL_nil, Rel, and_self])⟩, (fun h => by cases h)⟩
theorem vm_ok19 : TIOk Try.prog 19 ⟨.struct [(0, 17)], 1, [.nilp], 8, none, false⟩ :=
  ⟨by kernel_rfl, by kernel_rfl, ⟨_, Try.underlying19, rfl⟩, ⟨.agg #[.pointer none], by kernel_rfl, (by simp only [Array.toList, Value.cells, relL_cons, relL_nil, Rel, and_self])⟩, (fun h => by cases h)⟩
theorem vm_ok21 : TIOk Try.prog 21 ⟨.int .i32, 1, [.int .i32 0], 4, none, false⟩ :=
  ⟨by kernel_rfl, by kernel_rfl, Try.underlying21, ⟨.int .i32 0, by kernel_rfl, (by simp only [Array.toList, Value.cells, relL_cons, relL_nil, Rel, and_self])⟩, (fun h => by cases h)⟩
theorem vm_ok22 : TIOk Try.prog 22 ⟨.struct [(0, 2), (1, 2), (2, 2)], 3, [.int .i64 0, .int .i64 0, .int .i64 0], 24, none, true⟩ :=
  ⟨by kernel_rfl, by kernel_rfl, ⟨_, Try.underlying22, rfl⟩, ⟨.agg #[.int .i64 0, .int .i64 0, .int .i64 0], by kernel_rfl, (by simp only [Array.toList, Value.cells, relL_cons, relL_nil, Rel, and_self])⟩, (fun _ => ⟨by kernel_rfl, eql22⟩)⟩
theorem vm_ok23 : TIOk Try.prog 23 ⟨.struct [(0, 2), (1, 2), (2, 2)], 3, [.int .i64 0, .int .i64 0, .int .i64 0], 24, some .vec, true⟩ :=
  ⟨by kernel_rfl, by kernel_rfl, ⟨_, Try.underlying23, rfl⟩, ⟨.agg #[.int .i64 0, .int .i64 0, .int .i64 0], by kernel_rfl, (by simp only [Array.toList, Value.cells, relL_cons, relL_nil, Rel, and_self])⟩, (fun _ => ⟨by kernel_rfl, eql23⟩)⟩
theorem vm_ok25 : TIOk Try.prog 25 ⟨.struct [(0, 3), (1, 3), (2, 3), (3, 23), (6, 23), (9, 3), (10, 4)], 11, [.int .i64 0, .int .i64 0, .int .i64 0, .int .i64 0, .int .i64 0, .int .i64 0, .int .i64 0, .int .i64 0, .int .i64 0, .int .i64 0, .bool false], 88, none, true⟩ :=
  ⟨by kernel_rfl, by kernel_rfl, ⟨_, Try.underlying25, rfl⟩, ⟨.agg #[.int .i64 0, .int .i64 0, .int .i64 0, .int .i64 0, .int .i64 0, .int .i64 0, .int .i64 0, .int .i64 0, .int .i64 0, .int .i64 0, .bool false], by kernel_rfl, (by simp only [Array.toList, Value.cells, relL_cons, relL_nil, Rel, and_self])⟩, (fun _ => ⟨by kernel_rfl, eql25⟩)⟩
theorem vm_ok26 : TIOk Try.prog 26 ⟨.struct [(0, 3), (1, 3), (2, 3), (3, 23), (6, 23), (9, 3), (10, 4)], 11, [.int .i64 0, .int .i64 0, .int .i64 0, .int .i64 0, .int .i64 0, .int .i64 0, .int .i64 0, .int .i64 0, .int .i64 0, .int .i64 0, .bool false], 88, some .sh, true⟩ :=
  ⟨by kernel_rfl, by kernel_rfl, ⟨_, Try.underlying26, rfl⟩, ⟨.agg #[.int .i64 0, .int .i64 0, .int .i64 0, .int .i64 0, .int .i64 0, .int .i64 0, .int .i64 0, .int .i64 0, .int .i64 0, .int .i64 0, .bool false], by kernel_rfl, (by simp only [Array.toList, Value.cells, relL_cons, relL_nil, Rel, and_self])⟩, (fun _ => ⟨by kernel_rfl, eql26⟩)⟩
theorem vm_ok27 : TIOk Try.prog 27 ⟨.int .i64, 1, [.int .i64 0], 8, none, false⟩ :=
  ⟨by kernel_rfl, by kernel_rfl, Try.underlying27, ⟨.int .i64 0, by kernel_rfl, (by simp only [Array.toList, Value.cells, relL_cons, relL_nil, Rel, and_self])⟩, (fun h => by cases h)⟩
theorem vm_ok33 : TIOk Try.prog 33 ⟨.slice 4, 1, [.nils], 24, none, false⟩ :=
  ⟨by kernel_rfl, by kernel_rfl, Try.underlying33, ⟨.slice none 0 0, by kernel_rfl, (by simp only [Array.toList, Value.cells, relL_cons, relL_nil, Rel, and_self])⟩, (fun h => by cases h)⟩
theorem vm_ok34 : TIOk Try.prog 34 ⟨.slice 23, 1, [.nils], 24, none, false⟩ :=
  ⟨by kernel_rfl, by kernel_rfl, Try.underlying34, ⟨.slice none 0 0, by kernel_rfl, (by simp only [Array.toList, Value.cells, relL_cons, relL_nil, Rel, and_self])⟩, (fun h => by cases h)⟩
theorem vm_ok35 : TIOk Try.prog 35 ⟨.struct [(0, 3), (1, 3), (2, 3), (3, 33), (4, 34)], 5, [.int .i64 0, .int .i64 0, .int .i64 0, .nils, .nils], 72, none, false⟩ :=
  ⟨by kernel_rfl, by kernel_rfl, ⟨_, Try.underlying35, rfl⟩, ⟨.agg #[.int .i64 0, .int .i64 0, .int .i64 0, .slice none 0 0, .slice none 0 0], by kernel_rfl, (by simp only [Array.toList, Value.cells, relL_cons, relL_nil, Rel, and_self])⟩, (fun h => by cases h)⟩
theorem vm_ok36 : TIOk Try.prog 36 ⟨.struct [(0, 3), (1, 3), (2, 3), (3, 33), (4, 34)], 5, [.int .i64 0, .int .i64 0, .int .i64 0, .nils, .nils], 72, none, false⟩ :=
  ⟨by kernel_rfl, by kernel_rfl, ⟨_, Try.underlying36, rfl⟩, ⟨.agg #[.int .i64 0, .int .i64 0, .int .i64 0, .slice none 0 0, .slice none 0 0], by kernel_rfl, (by simp only [Array.toList, Value.cells, relL_cons, relL_nil, Rel, and_self])⟩, (fun h => by cases h)⟩
theorem vm_ok49 : TIOk Try.prog 49 ⟨.ptr 2, 1, [.nilp], 8, none, false⟩ :=
  ⟨by kernel_rfl, by kernel_rfl, Try.underlying49, ⟨.pointer none, by kernel_rfl, (by simp only [Array.toList, Value.cells, relL_cons, relL_nil, Rel, and_self])⟩, (fun h => by cases h)⟩
theorem vm_ok50 : TIOk Try.prog 50 ⟨.array 3 49, 3, [.nilp, .nilp, .nilp], 24, none, false⟩ :=
  ⟨by kernel_rfl, by kernel_rfl, Try.underlying50, ⟨.agg #[.pointer none, .pointer none, .pointer none], by kernel_rfl, (by simp only [Array.toList, Value.cells, relL_cons, relL_nil, Rel, and_self])⟩, (fun h => by cases h)⟩
theorem vm_ok52 : TIOk Try.prog 52 ⟨.ptr 23, 1, [.nilp], 8, none, false⟩ :=
  ⟨by kernel_rfl, by kernel_rfl, Try.underlying52, ⟨.pointer none, by kernel_rfl, (by simp only [Array.toList, Value.cells, relL_cons, relL_nil, Rel, and_self])⟩, (fun h => by cases h)⟩
theorem vm_ok59 : TIOk Try.prog 59 ⟨.ptr 26, 1, [.nilp], 8, none, false⟩ :=
  ⟨by kernel_rfl, by kernel_rfl, Try.underlying59, ⟨.pointer none, by kernel_rfl, (by simp only [Array.toList, Value.cells, relL_cons, relL_nil, Rel, and_self])⟩, (fun h => by cases h)⟩
theorem vm_ok61 : TIOk Try.prog 61 ⟨.int .u64, 1, [.int .u64 0], 8, some .u64, false⟩ :=
  ⟨by kernel_rfl, by kernel_rfl, Try.underlying61, ⟨.int .u64 0, by kernel_rfl, (by simp only [Array.toList, Value.cells, relL_cons, relL_nil, Rel, and_self])⟩, (fun h => by cases h)⟩
theorem vm_ok62 : TIOk Try.prog 62 ⟨.struct [(0, 61), (1, 61)], 2, [.int .u64 0, .int .u64 0], 16, none, true⟩ :=
  ⟨by kernel_rfl, by kernel_rfl, ⟨_, Try.underlying62, rfl⟩, ⟨.agg #[.int .u64 0, .int .u64 0], by kernel_rfl, (by simp only [Array.toList, Value.cells, relL_cons, relL_nil, Rel, and_self])⟩, (fun _ => ⟨by kernel_rfl, eql62⟩)⟩
theorem vm_ok63 : TIOk Try.prog 63 ⟨.struct [(0, 61), (1, 61)], 2, [.int .u64 0, .int .u64 0], 16, none, true⟩ :=
  ⟨by kernel_rfl, by kernel_rfl, ⟨_, Try.underlying63, rfl⟩, ⟨.agg #[.int .u64 0, .int .u64 0], by kernel_rfl, (by simp only [Array.toList, Value.cells, relL_cons, relL_nil, Rel, and_self])⟩, (fun _ => ⟨by kernel_rfl, eql63⟩)⟩
theorem vm_ok72 : TIOk Try.prog 72 ⟨.int .u64, 1, [.int .u64 0], 8, none, false⟩ :=
  ⟨by kernel_rfl, by kernel_rfl, Try.underlying72, ⟨.int .u64 0, by kernel_rfl, (by simp only [Array.toList, Value.cells, relL_cons, relL_nil, Rel, and_self])⟩, (fun h => by cases h)⟩
theorem vm_ok88 : TIOk Try.prog 88 ⟨.array 0 16, 0, [], 0, none, false⟩ :=
  ⟨by kernel_rfl, by kernel_rfl, Try.underlying88, ⟨.agg #[], by kernel_rfl, (by simp only [Array.toList, Value.cells, relL_cons, relL_nil, Rel, and_self])⟩, (fun h => by cases h)⟩
theorem vm_ok89 : TIOk Try.prog 89 ⟨.struct [(0, 88)], 0, [], 0, none, false⟩ :=
  ⟨by kernel_rfl, by kernel_rfl, ⟨_, Try.underlying89, rfl⟩, ⟨.agg #[], by kernel_rfl, (by simp only [Array.toList, Value.cells, relL_cons, relL_nil, Rel, and_self])⟩, (fun h => by cases h)⟩
theorem vm_ok90 : TIOk Try.prog 90 ⟨.struct [(0, 88)], 0, [], 0, none, false⟩ :=
  ⟨by kernel_rfl, by kernel_rfl, ⟨_, Try.underlying90, rfl⟩, ⟨.agg #[], by kernel_rfl, (by simp only [Array.toList, Value.cells, relL_cons, relL_nil, Rel, and_self])⟩, (fun h => by cases h)⟩
theorem vm_ok92 : TIOk Try.prog 92 ⟨.int .u32, 1, [.int .u32 0], 4, none, false⟩ :=
  ⟨by kernel_rfl, by kernel_rfl, Try.underlying92, ⟨.int .u32 0, by kernel_rfl, (by simp only [Array.toList, Value.cells, relL_cons, relL_nil, Rel, and_self])⟩, (fun h => by cases h)⟩
theorem vm_ok93 : TIOk Try.prog 93 ⟨.int .u8, 1, [.int .u8 0], 1, none, false⟩ :=
  ⟨by kernel_rfl, by kernel_rfl, Try.underlying93, ⟨.int .u8 0, by kernel_rfl, (by simp only [Array.toList, Value.cells, relL_cons, relL_nil, Rel, and_self])⟩, (fun h => by cases h)⟩
theorem vm_ok94 : TIOk Try.prog 94 ⟨.int .u8, 1, [.int .u8 0], 1, none, false⟩ :=
  ⟨by kernel_rfl, by kernel_rfl, Try.underlying94, ⟨.int .u8 0, by kernel_rfl, (by simp only [Array.toList, Value.cells, relL_cons, relL_nil, Rel, and_self])⟩, (fun h => by cases h)⟩
theorem vm_ok96 : TIOk Try.prog 96 ⟨.ptr 5, 1, [.nilp], 8, none, false⟩ :=
  ⟨by kernel_rfl, by kernel_rfl, Try.underlying96, ⟨.pointer none, by kernel_rfl, (by simp only [Array.toList, Value.cells, relL_cons, relL_nil, Rel, and_self])⟩, (fun h => by cases h)⟩
theorem vm_ok97 : TIOk Try.prog 97 ⟨.int .i32, 1, [.int .i32 0], 4, none, false⟩ :=
  ⟨by kernel_rfl, by kernel_rfl, Try.underlying97, ⟨.int .i32 0, by kernel_rfl, (by simp only [Array.toList, Value.cells, relL_cons, relL_nil, Rel, and_self])⟩, (fun h => by cases h)⟩
theorem vm_ok98 : TIOk Try.prog 98 ⟨.int .i32, 1, [.int .i32 0], 4, none, false⟩ :=
  ⟨by kernel_rfl, by kernel_rfl, Try.underlying98, ⟨.int .i32 0, by kernel_rfl, (by simp only [Array.toList, Value.cells, relL_cons, relL_nil, Rel, and_self])⟩, (fun h => by cases h)⟩

theorem vmT_ok : ∀ t ti, vmT t = some ti → TIOk Try.prog t ti := by
  intro t ti h
  unfold vmT at h
  split at h <;> first | (cases h; done) | (simp only [Option.some.injEq] at h; subst h)
  · exact vm_ok2
  · exact vm_ok3
  · exact vm_ok4
  · exact vm_ok5
  · exact vm_ok6
  · exact vm_ok7
  · exact vm_ok8
  · exact vm_ok12
  · exact vm_ok15
  · exact vm_ok16
  · exact vm_ok17
  · exact vm_ok18
  · exact vm_ok19
  · exact vm_ok21
  · exact vm_ok22
  · exact vm_ok23
  · exact vm_ok25
  · exact vm_ok26
  · exact vm_ok27
  · exact vm_ok33
  · exact vm_ok34
  · exact vm_ok35
  · exact vm_ok36
  · exact vm_ok49
  · exact vm_ok50
  · exact vm_ok52
  · exact vm_ok59
  · exact vm_ok61
  · exact vm_ok62
  · exact vm_ok63
  · exact vm_ok72
  · exact vm_ok88
  · exact vm_ok89
  · exact vm_ok90
  · exact vm_ok92
  · exact vm_ok93
  · exact vm_ok94
  · exact vm_ok96
  · exact vm_ok97
  · exact vm_ok98

end Go.Proofs.Ythgafhegdngomaa
