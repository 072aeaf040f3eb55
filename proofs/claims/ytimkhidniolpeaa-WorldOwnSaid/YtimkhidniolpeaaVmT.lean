/- The table of this translation's types for the small machine. -/
import Derived.Test.YtimkhidniolpeaaVmE
namespace Go.Proofs.Ytimkhidniolpeaa
set_option linter.unusedSimpArgs false
set_option linter.unusedVariables false
set_option maxRecDepth 100000
set_option maxHeartbeats 0
open Go.RowKit

theorem eqL_int {k : IntKind} {n : Int} {zs xs ys : List SV} {r : Bool} (h : eqL (.int k n :: zs) xs ys = some r) : ∃ (a b : Int) (xs' ys' : List SV) (r' : Bool), xs = .int k a :: xs' ∧ ys = .int k b :: ys' ∧ r = ((a == b) && r') ∧ eqL zs xs' ys' = some r' := by
 cases xs with
 | nil => simp [eqL] at h
 | cons x xs =>
  cases ys with
  | nil => simp [eqL] at h
  | cons y ys =>
   simp only [eqL] at h
   split at h
   · rename_i p q hp hq
     cases h
     unfold eqC at hp
     split at hp
     · rename_i k0 _ k1 a k2 b heq
       cases heq
       by_cases h1 : k1 = k <;> by_cases h2 : k2 = k <;> simp [h1, h2] at hp
       subst h1 h2
       subst hp
       exact ⟨a, b, xs, ys, q, rfl, rfl, rfl, hq⟩
     · rename_i heq; cases heq
     · cases hp
   · cases h
theorem eqL_bool {n : Bool} {zs xs ys : List SV} {r : Bool} (h : eqL (.bool n :: zs) xs ys = some r) : ∃ (a b : Bool) (xs' ys' : List SV) (r' : Bool), xs = .bool a :: xs' ∧ ys = .bool b :: ys' ∧ r = ((a == b) && r') ∧ eqL zs xs' ys' = some r' := by
 cases xs with
 | nil => simp [eqL] at h
 | cons x xs =>
  cases ys with
  | nil => simp [eqL] at h
  | cons y ys =>
   simp only [eqL] at h
   split at h
   · rename_i p q hp hq
     cases h
     unfold eqC at hp
     split at hp
     · rename_i heq; cases heq
     · rename_i a b heq
       simp only [Option.some.injEq] at hp
       subst hp
       exact ⟨a, b, xs, ys, q, rfl, rfl, rfl, hq⟩
     · cases hp
   · cases h
theorem eqL_nil {xs ys : List SV} {r : Bool} (h : eqL [] xs ys = some r) : xs = [] ∧ ys = [] ∧ r = true := by
 cases xs <;> cases ys <;> simp [eqL] at h <;> simp [h]

theorem vm_one2 : One Try.prog 2 := ⟨⟨_, Try.underlying2, rfl⟩, by kernel_rfl⟩
theorem vm_one3 : One Try.prog 3 := ⟨⟨_, Try.underlying3, rfl⟩, by kernel_rfl⟩
theorem vm_one4 : One Try.prog 4 := ⟨⟨_, Try.underlying4, rfl⟩, by kernel_rfl⟩
theorem vm_one5 : One Try.prog 5 := ⟨⟨_, Try.underlying5, rfl⟩, by kernel_rfl⟩
theorem vm_one6 : One Try.prog 6 := ⟨⟨_, Try.underlying6, rfl⟩, by kernel_rfl⟩
theorem vm_agg7 : Agg Try.prog 7 4 := ⟨⟨_, Try.underlying7, rfl⟩, by kernel_rfl⟩
theorem vm_agg8 : Agg Try.prog 8 4 := ⟨⟨_, Try.underlying8, rfl⟩, by kernel_rfl⟩
theorem vm_one12 : One Try.prog 12 := ⟨⟨_, Try.underlying12, rfl⟩, by kernel_rfl⟩
theorem vm_agg13 : Agg Try.prog 13 2 := ⟨⟨_, Try.underlying13, rfl⟩, by kernel_rfl⟩
theorem vm_agg14 : Agg Try.prog 14 2 := ⟨⟨_, Try.underlying14, rfl⟩, by kernel_rfl⟩
theorem vm_one15 : One Try.prog 15 := ⟨⟨_, Try.underlying15, rfl⟩, by kernel_rfl⟩
theorem vm_one16 : One Try.prog 16 := ⟨⟨_, Try.underlying16, rfl⟩, by kernel_rfl⟩
theorem vm_one17 : One Try.prog 17 := ⟨⟨_, Try.underlying17, rfl⟩, by kernel_rfl⟩
theorem vm_agg18 : Agg Try.prog 18 1 := ⟨⟨_, Try.underlying18, rfl⟩, by kernel_rfl⟩
theorem vm_agg19 : Agg Try.prog 19 1 := ⟨⟨_, Try.underlying19, rfl⟩, by kernel_rfl⟩
theorem vm_one21 : One Try.prog 21 := ⟨⟨_, Try.underlying21, rfl⟩, by kernel_rfl⟩
theorem vm_one22 : One Try.prog 22 := ⟨⟨_, Try.underlying22, rfl⟩, by kernel_rfl⟩
theorem vm_one23 : One Try.prog 23 := ⟨⟨_, Try.underlying23, rfl⟩, by kernel_rfl⟩
theorem vm_agg24 : Agg Try.prog 24 5 := ⟨⟨_, Try.underlying24, rfl⟩, by kernel_rfl⟩
theorem vm_agg25 : Agg Try.prog 25 5 := ⟨⟨_, Try.underlying25, rfl⟩, by kernel_rfl⟩
theorem vm_agg26 : Agg Try.prog 26 3 := ⟨⟨_, Try.underlying26, rfl⟩, by kernel_rfl⟩
theorem vm_agg27 : Agg Try.prog 27 3 := ⟨⟨_, Try.underlying27, rfl⟩, by kernel_rfl⟩
theorem vm_one30 : One Try.prog 30 := ⟨⟨_, Try.underlying30, rfl⟩, by kernel_rfl⟩
theorem vm_one31 : One Try.prog 31 := ⟨⟨_, Try.underlying31, rfl⟩, by kernel_rfl⟩
theorem vm_one37 : One Try.prog 37 := ⟨⟨_, Try.underlying37, rfl⟩, by kernel_rfl⟩
theorem vm_one40 : One Try.prog 40 := ⟨⟨_, Try.underlying40, rfl⟩, by kernel_rfl⟩
theorem vm_agg42 : Agg Try.prog 42 2 := ⟨⟨_, Try.underlying42, rfl⟩, by kernel_rfl⟩
theorem vm_agg43 : Agg Try.prog 43 15 := ⟨⟨_, Try.underlying43, rfl⟩, by kernel_rfl⟩
theorem vm_agg44 : Agg Try.prog 44 15 := ⟨⟨_, Try.underlying44, rfl⟩, by kernel_rfl⟩
theorem vm_one46 : One Try.prog 46 := ⟨⟨_, Try.underlying46, rfl⟩, by kernel_rfl⟩
theorem vm_one49 : One Try.prog 49 := ⟨⟨_, Try.underlying49, rfl⟩, by kernel_rfl⟩
theorem vm_one50 : One Try.prog 50 := ⟨⟨_, Try.underlying50, rfl⟩, by kernel_rfl⟩
theorem vm_agg51 : Agg Try.prog 51 5 := ⟨⟨_, Try.underlying51, rfl⟩, by kernel_rfl⟩
theorem vm_agg52 : Agg Try.prog 52 5 := ⟨⟨_, Try.underlying52, rfl⟩, by kernel_rfl⟩
theorem vm_one55 : One Try.prog 55 := ⟨⟨_, Try.underlying55, rfl⟩, by kernel_rfl⟩
theorem vm_agg56 : Agg Try.prog 56 2 := ⟨⟨_, Try.underlying56, rfl⟩, by kernel_rfl⟩
theorem vm_agg57 : Agg Try.prog 57 2 := ⟨⟨_, Try.underlying57, rfl⟩, by kernel_rfl⟩
theorem vm_agg59 : Agg Try.prog 59 12 := ⟨⟨_, Try.underlying59, rfl⟩, by kernel_rfl⟩
theorem vm_agg60 : Agg Try.prog 60 12 := ⟨⟨_, Try.underlying60, rfl⟩, by kernel_rfl⟩
theorem vm_agg63 : Agg Try.prog 63 11 := ⟨⟨_, Try.underlying63, rfl⟩, by kernel_rfl⟩
theorem vm_agg64 : Agg Try.prog 64 11 := ⟨⟨_, Try.underlying64, rfl⟩, by kernel_rfl⟩
theorem vm_one70 : One Try.prog 70 := ⟨⟨_, Try.underlying70, rfl⟩, by kernel_rfl⟩
theorem vm_agg71 : Agg Try.prog 71 10 := ⟨⟨_, Try.underlying71, rfl⟩, by kernel_rfl⟩
theorem vm_agg72 : Agg Try.prog 72 10 := ⟨⟨_, Try.underlying72, rfl⟩, by kernel_rfl⟩
theorem vm_one73 : One Try.prog 73 := ⟨⟨_, Try.underlying73, rfl⟩, by kernel_rfl⟩
theorem vm_agg76 : Agg Try.prog 76 16 := ⟨⟨_, Try.underlying76, rfl⟩, by kernel_rfl⟩
theorem vm_agg77 : Agg Try.prog 77 16 := ⟨⟨_, Try.underlying77, rfl⟩, by kernel_rfl⟩
theorem vm_one84 : One Try.prog 84 := ⟨⟨_, Try.underlying84, rfl⟩, by kernel_rfl⟩
theorem vm_one91 : One Try.prog 91 := ⟨⟨_, Try.underlying91, rfl⟩, by kernel_rfl⟩
theorem vm_agg92 : Agg Try.prog 92 3 := ⟨⟨_, Try.underlying92, rfl⟩, by kernel_rfl⟩
theorem vm_one94 : One Try.prog 94 := ⟨⟨_, Try.underlying94, rfl⟩, by kernel_rfl⟩
theorem vm_one118 : One Try.prog 118 := ⟨⟨_, Try.underlying118, rfl⟩, by kernel_rfl⟩
theorem vm_agg119 : Agg Try.prog 119 2 := ⟨⟨_, Try.underlying119, rfl⟩, by kernel_rfl⟩
theorem vm_agg120 : Agg Try.prog 120 2 := ⟨⟨_, Try.underlying120, rfl⟩, by kernel_rfl⟩
theorem vm_agg132 : Agg Try.prog 132 3 := ⟨⟨_, Try.underlying132, rfl⟩, by kernel_rfl⟩
theorem vm_one135 : One Try.prog 135 := ⟨⟨_, Try.underlying135, rfl⟩, by kernel_rfl⟩
theorem vm_agg142 : Agg Try.prog 142 3 := ⟨⟨_, Try.underlying142, rfl⟩, by kernel_rfl⟩
theorem vm_agg146 : Agg Try.prog 146 4 := ⟨⟨_, Try.underlying146, rfl⟩, by kernel_rfl⟩
theorem vm_agg147 : Agg Try.prog 147 4 := ⟨⟨_, Try.underlying147, rfl⟩, by kernel_rfl⟩
theorem vm_agg149 : Agg Try.prog 149 12 := ⟨⟨_, Try.underlying149, rfl⟩, by kernel_rfl⟩
theorem vm_one150 : One Try.prog 150 := ⟨⟨_, Try.underlying150, rfl⟩, by kernel_rfl⟩
theorem vm_agg154 : Agg Try.prog 154 4 := ⟨⟨_, Try.underlying154, rfl⟩, by kernel_rfl⟩
theorem vm_agg155 : Agg Try.prog 155 4 := ⟨⟨_, Try.underlying155, rfl⟩, by kernel_rfl⟩
theorem vm_agg156 : Agg Try.prog 156 0 := ⟨⟨_, Try.underlying156, rfl⟩, by kernel_rfl⟩
theorem vm_agg157 : Agg Try.prog 157 0 := ⟨⟨_, Try.underlying157, rfl⟩, by kernel_rfl⟩
theorem vm_agg158 : Agg Try.prog 158 0 := ⟨⟨_, Try.underlying158, rfl⟩, by kernel_rfl⟩
theorem vm_one159 : One Try.prog 159 := ⟨⟨_, Try.underlying159, rfl⟩, by kernel_rfl⟩
theorem vm_one160 : One Try.prog 160 := ⟨⟨_, Try.underlying160, rfl⟩, by kernel_rfl⟩
theorem vm_one161 : One Try.prog 161 := ⟨⟨_, Try.underlying161, rfl⟩, by kernel_rfl⟩
theorem vm_one163 : One Try.prog 163 := ⟨⟨_, Try.underlying163, rfl⟩, by kernel_rfl⟩
theorem vm_one164 : One Try.prog 164 := ⟨⟨_, Try.underlying164, rfl⟩, by kernel_rfl⟩
theorem vm_one165 : One Try.prog 165 := ⟨⟨_, Try.underlying165, rfl⟩, by kernel_rfl⟩
theorem vm_agg166 : Agg Try.prog 166 11 := ⟨⟨_, Try.underlying166, rfl⟩, by kernel_rfl⟩
theorem vm_agg167 : Agg Try.prog 167 11 := ⟨⟨_, Try.underlying167, rfl⟩, by kernel_rfl⟩

theorem eqv27 (d : Nat) (w : World) (a0 : Int) (a1 : Int) (a2 : Int) (b0 : Int) (b1 : Int) (b2 : Int) : (Op.equalIn (d + 2) 27 (.agg #[.int .i64 a0, .int .i64 a1, .int .i64 a2]) (.agg #[.int .i64 b0, .int .i64 b1, .int .i64 b2])).run Try.prog w = .ok ((a0 == b0) && ((a1 == b1) && ((a2 == b2) && true))) w :=
 eqs_of (P := Try.prog) (d := d + 1) (xs := #[.int .i64 a0, .int .i64 a1, .int .i64 a2]) (ys := #[.int .i64 b0, .int .i64 b1, .int .i64 b2]) w Try.underlying27 (by kernel_rfl) (eqf_cons w rfl (part_one vm_one2 w _ _ rfl) (part_one vm_one2 w _ _ rfl) (run_equalIn_int w _ 2 _ _ _ _ Try.underlying2) (eqf_cons w rfl (part_one vm_one2 w _ _ rfl) (part_one vm_one2 w _ _ rfl) (run_equalIn_int w _ 2 _ _ _ _ Try.underlying2) (eqf_cons w rfl (part_one vm_one2 w _ _ rfl) (part_one vm_one2 w _ _ rfl) (run_equalIn_int w _ 2 _ _ _ _ Try.underlying2) (eqf_nil _ _ _ w))))

theorem eql27 (xs ys : List SV) (r : Bool) (h : eqL [.int .i64 0, .int .i64 0, .int .i64 0] xs ys = some r) (w : World) : (Op.equalIn 10000 27 (.agg (xs.map dval).toArray) (.agg (ys.map dval).toArray)).run Try.prog w = .ok r w := by
 obtain ⟨a0, b0, xs0, ys0, r0, rfl, rfl, rfl, h0⟩ := eqL_int h
 obtain ⟨a1, b1, xs1, ys1, r1, rfl, rfl, rfl, h1⟩ := eqL_int h0
 obtain ⟨a2, b2, xs2, ys2, r2, rfl, rfl, rfl, h2⟩ := eqL_int h1
 obtain ⟨rfl, rfl, rfl⟩ := eqL_nil h2
 have e := eqv27 9998 w a0 a1 a2 b0 b1 b2
 simp only [Bool.and_assoc, Bool.true_and, Bool.and_true] at e ⊢
 exact e

theorem eqv42 (d : Nat) (w : World) (a0 : Int) (a1 : Int) (b0 : Int) (b1 : Int) : (Op.equalIn (d + 2) 42 (.agg #[.int .i64 a0, .int .i64 a1]) (.agg #[.int .i64 b0, .int .i64 b1])).run Try.prog w = .ok ((a0 == b0) && (a1 == b1)) w :=
 eqa_two (d := d + 1) (n := 1) w Try.underlying42 vm_one3.size (part_one vm_one3 w _ _ rfl) (part_one vm_one3 w _ _ rfl) (part_one vm_one3 w _ _ rfl) (part_one vm_one3 w _ _ rfl) (run_equalIn_int w _ 3 _ _ _ _ Try.underlying3) (run_equalIn_int w _ 3 _ _ _ _ Try.underlying3)

theorem eql42 (xs ys : List SV) (r : Bool) (h : eqL [.int .i64 0, .int .i64 0] xs ys = some r) (w : World) : (Op.equalIn 10000 42 (.agg (xs.map dval).toArray) (.agg (ys.map dval).toArray)).run Try.prog w = .ok r w := by
 obtain ⟨a0, b0, xs0, ys0, r0, rfl, rfl, rfl, h0⟩ := eqL_int h
 obtain ⟨a1, b1, xs1, ys1, r1, rfl, rfl, rfl, h1⟩ := eqL_int h0
 obtain ⟨rfl, rfl, rfl⟩ := eqL_nil h1
 have e := eqv42 9998 w a0 a1 b0 b1
 simp only [Bool.and_assoc, Bool.true_and, Bool.and_true] at e ⊢
 exact e

theorem eqv57 (d : Nat) (w : World) (a0 : Int) (a1 : Int) (b0 : Int) (b1 : Int) : (Op.equalIn (d + 2) 57 (.agg #[.int .i64 a0, .int .i64 a1]) (.agg #[.int .i64 b0, .int .i64 b1])).run Try.prog w = .ok ((a0 == b0) && ((a1 == b1) && true)) w :=
 eqs_of (P := Try.prog) (d := d + 1) (xs := #[.int .i64 a0, .int .i64 a1]) (ys := #[.int .i64 b0, .int .i64 b1]) w Try.underlying57 (by kernel_rfl) (eqf_cons w rfl (part_one vm_one3 w _ _ rfl) (part_one vm_one3 w _ _ rfl) (run_equalIn_int w _ 3 _ _ _ _ Try.underlying3) (eqf_cons w rfl (part_one vm_one31 w _ _ rfl) (part_one vm_one31 w _ _ rfl) (run_equalIn_int w _ 31 _ _ _ _ Try.underlying31) (eqf_nil _ _ _ w)))

theorem eql57 (xs ys : List SV) (r : Bool) (h : eqL [.int .i64 0, .int .i64 0] xs ys = some r) (w : World) : (Op.equalIn 10000 57 (.agg (xs.map dval).toArray) (.agg (ys.map dval).toArray)).run Try.prog w = .ok r w := by
 obtain ⟨a0, b0, xs0, ys0, r0, rfl, rfl, rfl, h0⟩ := eqL_int h
 obtain ⟨a1, b1, xs1, ys1, r1, rfl, rfl, rfl, h1⟩ := eqL_int h0
 obtain ⟨rfl, rfl, rfl⟩ := eqL_nil h1
 have e := eqv57 9998 w a0 a1 b0 b1
 simp only [Bool.and_assoc, Bool.true_and, Bool.and_true] at e ⊢
 exact e

theorem eqv44 (d : Nat) (w : World) (a0 : Int) (a1 : Int) (a2 : Int) (a3 : Int) (a4 : Int) (a5 : Int) (a6 : Int) (a7 : Bool) (a8 : Int) (a9 : Int) (a10 : Int) (a11 : Int) (a12 : Int) (a13 : Int) (a14 : Int) (b0 : Int) (b1 : Int) (b2 : Int) (b3 : Int) (b4 : Int) (b5 : Int) (b6 : Int) (b7 : Bool) (b8 : Int) (b9 : Int) (b10 : Int) (b11 : Int) (b12 : Int) (b13 : Int) (b14 : Int) : (Op.equalIn (d + 3) 44 (.agg #[.int .i64 a0, .int .i64 a1, .int .i64 a2, .int .i64 a3, .int .i64 a4, .int .i64 a5, .int .i64 a6, .bool a7, .int .i64 a8, .int .i64 a9, .int .i64 a10, .int .i64 a11, .int .i64 a12, .int .i64 a13, .int .i64 a14]) (.agg #[.int .i64 b0, .int .i64 b1, .int .i64 b2, .int .i64 b3, .int .i64 b4, .int .i64 b5, .int .i64 b6, .bool b7, .int .i64 b8, .int .i64 b9, .int .i64 b10, .int .i64 b11, .int .i64 b12, .int .i64 b13, .int .i64 b14])).run Try.prog w = .ok ((a0 == b0) && (((a1 == b1) && ((a2 == b2) && ((a3 == b3) && true))) && (((a4 == b4) && ((a5 == b5) && ((a6 == b6) && true))) && ((a7 == b7) && ((a8 == b8) && ((a9 == b9) && ((a10 == b10) && (((a11 == b11) && (a12 == b12)) && ((a13 == b13) && ((a14 == b14) && true)))))))))) w :=
 eqs_of (P := Try.prog) (d := d + 2) (xs := #[.int .i64 a0, .int .i64 a1, .int .i64 a2, .int .i64 a3, .int .i64 a4, .int .i64 a5, .int .i64 a6, .bool a7, .int .i64 a8, .int .i64 a9, .int .i64 a10, .int .i64 a11, .int .i64 a12, .int .i64 a13, .int .i64 a14]) (ys := #[.int .i64 b0, .int .i64 b1, .int .i64 b2, .int .i64 b3, .int .i64 b4, .int .i64 b5, .int .i64 b6, .bool b7, .int .i64 b8, .int .i64 b9, .int .i64 b10, .int .i64 b11, .int .i64 b12, .int .i64 b13, .int .i64 b14]) w Try.underlying44 (by kernel_rfl) (eqf_cons w rfl (part_one vm_one3 w _ _ rfl) (part_one vm_one3 w _ _ rfl) (run_equalIn_int w _ 3 _ _ _ _ Try.underlying3) (eqf_cons w rfl (part_agg vm_agg27 w _ _ rfl) (part_agg vm_agg27 w _ _ rfl) (eqv27 _ w a1 a2 a3 b1 b2 b3) (eqf_cons w rfl (part_agg vm_agg27 w _ _ rfl) (part_agg vm_agg27 w _ _ rfl) (eqv27 _ w a4 a5 a6 b4 b5 b6) (eqf_cons w rfl (part_one vm_one4 w _ _ rfl) (part_one vm_one4 w _ _ rfl) (run_equalIn_bool w _ 4 _ _ Try.underlying4) (eqf_cons w rfl (part_one vm_one3 w _ _ rfl) (part_one vm_one3 w _ _ rfl) (run_equalIn_int w _ 3 _ _ _ _ Try.underlying3) (eqf_cons w rfl (part_one vm_one3 w _ _ rfl) (part_one vm_one3 w _ _ rfl) (run_equalIn_int w _ 3 _ _ _ _ Try.underlying3) (eqf_cons w rfl (part_one vm_one3 w _ _ rfl) (part_one vm_one3 w _ _ rfl) (run_equalIn_int w _ 3 _ _ _ _ Try.underlying3) (eqf_cons w rfl (part_agg vm_agg42 w _ _ rfl) (part_agg vm_agg42 w _ _ rfl) (eqv42 _ w a11 a12 b11 b12) (eqf_cons w rfl (part_one vm_one3 w _ _ rfl) (part_one vm_one3 w _ _ rfl) (run_equalIn_int w _ 3 _ _ _ _ Try.underlying3) (eqf_cons w rfl (part_one vm_one3 w _ _ rfl) (part_one vm_one3 w _ _ rfl) (run_equalIn_int w _ 3 _ _ _ _ Try.underlying3) (eqf_nil _ _ _ w)))))))))))

theorem eql44 (xs ys : List SV) (r : Bool) (h : eqL [.int .i64 0, .int .i64 0, .int .i64 0, .int .i64 0, .int .i64 0, .int .i64 0, .int .i64 0, .bool false, .int .i64 0, .int .i64 0, .int .i64 0, .int .i64 0, .int .i64 0, .int .i64 0, .int .i64 0] xs ys = some r) (w : World) : (Op.equalIn 10000 44 (.agg (xs.map dval).toArray) (.agg (ys.map dval).toArray)).run Try.prog w = .ok r w := by
 obtain ⟨a0, b0, xs0, ys0, r0, rfl, rfl, rfl, h0⟩ := eqL_int h
 obtain ⟨a1, b1, xs1, ys1, r1, rfl, rfl, rfl, h1⟩ := eqL_int h0
 obtain ⟨a2, b2, xs2, ys2, r2, rfl, rfl, rfl, h2⟩ := eqL_int h1
 obtain ⟨a3, b3, xs3, ys3, r3, rfl, rfl, rfl, h3⟩ := eqL_int h2
 obtain ⟨a4, b4, xs4, ys4, r4, rfl, rfl, rfl, h4⟩ := eqL_int h3
 obtain ⟨a5, b5, xs5, ys5, r5, rfl, rfl, rfl, h5⟩ := eqL_int h4
 obtain ⟨a6, b6, xs6, ys6, r6, rfl, rfl, rfl, h6⟩ := eqL_int h5
 obtain ⟨a7, b7, xs7, ys7, r7, rfl, rfl, rfl, h7⟩ := eqL_bool h6
 obtain ⟨a8, b8, xs8, ys8, r8, rfl, rfl, rfl, h8⟩ := eqL_int h7
 obtain ⟨a9, b9, xs9, ys9, r9, rfl, rfl, rfl, h9⟩ := eqL_int h8
 obtain ⟨a10, b10, xs10, ys10, r10, rfl, rfl, rfl, h10⟩ := eqL_int h9
 obtain ⟨a11, b11, xs11, ys11, r11, rfl, rfl, rfl, h11⟩ := eqL_int h10
 obtain ⟨a12, b12, xs12, ys12, r12, rfl, rfl, rfl, h12⟩ := eqL_int h11
 obtain ⟨a13, b13, xs13, ys13, r13, rfl, rfl, rfl, h13⟩ := eqL_int h12
 obtain ⟨a14, b14, xs14, ys14, r14, rfl, rfl, rfl, h14⟩ := eqL_int h13
 obtain ⟨rfl, rfl, rfl⟩ := eqL_nil h14
 have e := eqv44 9997 w a0 a1 a2 a3 a4 a5 a6 a7 a8 a9 a10 a11 a12 a13 a14 b0 b1 b2 b3 b4 b5 b6 b7 b8 b9 b10 b11 b12 b13 b14
 simp only [Bool.and_assoc, Bool.true_and, Bool.and_true] at e ⊢
 exact e

theorem eqv64 (d : Nat) (w : World) (a0 : Int) (a1 : Int) (a2 : Int) (a3 : Int) (a4 : Int) (a5 : Int) (a6 : Int) (a7 : Int) (a8 : Int) (a9 : Int) (a10 : Bool) (b0 : Int) (b1 : Int) (b2 : Int) (b3 : Int) (b4 : Int) (b5 : Int) (b6 : Int) (b7 : Int) (b8 : Int) (b9 : Int) (b10 : Bool) : (Op.equalIn (d + 3) 64 (.agg #[.int .i64 a0, .int .i64 a1, .int .i64 a2, .int .i64 a3, .int .i64 a4, .int .i64 a5, .int .i64 a6, .int .i64 a7, .int .i64 a8, .int .i64 a9, .bool a10]) (.agg #[.int .i64 b0, .int .i64 b1, .int .i64 b2, .int .i64 b3, .int .i64 b4, .int .i64 b5, .int .i64 b6, .int .i64 b7, .int .i64 b8, .int .i64 b9, .bool b10])).run Try.prog w = .ok ((a0 == b0) && ((a1 == b1) && ((a2 == b2) && (((a3 == b3) && ((a4 == b4) && ((a5 == b5) && true))) && (((a6 == b6) && ((a7 == b7) && ((a8 == b8) && true))) && ((a9 == b9) && ((a10 == b10) && true))))))) w :=
 eqs_of (P := Try.prog) (d := d + 2) (xs := #[.int .i64 a0, .int .i64 a1, .int .i64 a2, .int .i64 a3, .int .i64 a4, .int .i64 a5, .int .i64 a6, .int .i64 a7, .int .i64 a8, .int .i64 a9, .bool a10]) (ys := #[.int .i64 b0, .int .i64 b1, .int .i64 b2, .int .i64 b3, .int .i64 b4, .int .i64 b5, .int .i64 b6, .int .i64 b7, .int .i64 b8, .int .i64 b9, .bool b10]) w Try.underlying64 (by kernel_rfl) (eqf_cons w rfl (part_one vm_one3 w _ _ rfl) (part_one vm_one3 w _ _ rfl) (run_equalIn_int w _ 3 _ _ _ _ Try.underlying3) (eqf_cons w rfl (part_one vm_one3 w _ _ rfl) (part_one vm_one3 w _ _ rfl) (run_equalIn_int w _ 3 _ _ _ _ Try.underlying3) (eqf_cons w rfl (part_one vm_one3 w _ _ rfl) (part_one vm_one3 w _ _ rfl) (run_equalIn_int w _ 3 _ _ _ _ Try.underlying3) (eqf_cons w rfl (part_agg vm_agg27 w _ _ rfl) (part_agg vm_agg27 w _ _ rfl) (eqv27 _ w a3 a4 a5 b3 b4 b5) (eqf_cons w rfl (part_agg vm_agg27 w _ _ rfl) (part_agg vm_agg27 w _ _ rfl) (eqv27 _ w a6 a7 a8 b6 b7 b8) (eqf_cons w rfl (part_one vm_one3 w _ _ rfl) (part_one vm_one3 w _ _ rfl) (run_equalIn_int w _ 3 _ _ _ _ Try.underlying3) (eqf_cons w rfl (part_one vm_one4 w _ _ rfl) (part_one vm_one4 w _ _ rfl) (run_equalIn_bool w _ 4 _ _ Try.underlying4) (eqf_nil _ _ _ w))))))))

theorem eql64 (xs ys : List SV) (r : Bool) (h : eqL [.int .i64 0, .int .i64 0, .int .i64 0, .int .i64 0, .int .i64 0, .int .i64 0, .int .i64 0, .int .i64 0, .int .i64 0, .int .i64 0, .bool false] xs ys = some r) (w : World) : (Op.equalIn 10000 64 (.agg (xs.map dval).toArray) (.agg (ys.map dval).toArray)).run Try.prog w = .ok r w := by
 obtain ⟨a0, b0, xs0, ys0, r0, rfl, rfl, rfl, h0⟩ := eqL_int h
 obtain ⟨a1, b1, xs1, ys1, r1, rfl, rfl, rfl, h1⟩ := eqL_int h0
 obtain ⟨a2, b2, xs2, ys2, r2, rfl, rfl, rfl, h2⟩ := eqL_int h1
 obtain ⟨a3, b3, xs3, ys3, r3, rfl, rfl, rfl, h3⟩ := eqL_int h2
 obtain ⟨a4, b4, xs4, ys4, r4, rfl, rfl, rfl, h4⟩ := eqL_int h3
 obtain ⟨a5, b5, xs5, ys5, r5, rfl, rfl, rfl, h5⟩ := eqL_int h4
 obtain ⟨a6, b6, xs6, ys6, r6, rfl, rfl, rfl, h6⟩ := eqL_int h5
 obtain ⟨a7, b7, xs7, ys7, r7, rfl, rfl, rfl, h7⟩ := eqL_int h6
 obtain ⟨a8, b8, xs8, ys8, r8, rfl, rfl, rfl, h8⟩ := eqL_int h7
 obtain ⟨a9, b9, xs9, ys9, r9, rfl, rfl, rfl, h9⟩ := eqL_int h8
 obtain ⟨a10, b10, xs10, ys10, r10, rfl, rfl, rfl, h10⟩ := eqL_bool h9
 obtain ⟨rfl, rfl, rfl⟩ := eqL_nil h10
 have e := eqv64 9997 w a0 a1 a2 a3 a4 a5 a6 a7 a8 a9 a10 b0 b1 b2 b3 b4 b5 b6 b7 b8 b9 b10
 simp only [Bool.and_assoc, Bool.true_and, Bool.and_true] at e ⊢
 exact e

def vmT : Nat → Option TI
 | 2 => some ⟨.int .i64, 1, [.int .i64 0], 8, some .i64, false⟩
 | 3 => some ⟨.int .i64, 1, [.int .i64 0], 8, some .i64, false⟩
 | 4 => some ⟨.bool, 1, [.bool false], 1, some .bool, false⟩
 | 5 => some ⟨.int .u8, 1, [.int .u8 0], 1, none, false⟩
 | 6 => some ⟨.int .u8, 1, [.int .u8 0], 1, none, false⟩
 | 7 => some ⟨.struct [(0, 2), (1, 3), (2, 4), (3, 6)], 4, [.int .i64 0, .int .i64 0, .bool false, .int .u8 0], 24, none, false⟩
 | 8 => some ⟨.struct [(0, 2), (1, 3), (2, 4), (3, 6)], 4, [.int .i64 0, .int .i64 0, .bool false, .int .u8 0], 24, none, false⟩
 | 12 => some ⟨.int .u64, 1, [.int .u64 0], 8, none, false⟩
 | 15 => some ⟨.ptr 155, 1, [.nilp], 8, none, false⟩
 | 16 => some ⟨.ptr 158, 1, [.nilp], 8, none, false⟩
 | 17 => some ⟨.ptr 167, 1, [.nilp], 8, none, false⟩
 | 18 => some ⟨.struct [(0, 17)], 1, [.nilp], 8, none, false⟩
 | 19 => some ⟨.struct [(0, 17)], 1, [.nilp], 8, none, false⟩
 | 21 => some ⟨.int .i32, 1, [.int .i32 0], 4, none, false⟩
 | 22 => some ⟨.slice 4, 1, [.nils], 24, none, false⟩
 | 23 => some ⟨.slice 27, 1, [.nils], 24, none, false⟩
 | 24 => some ⟨.struct [(0, 3), (1, 3), (2, 3), (3, 22), (4, 23)], 5, [.int .i64 0, .int .i64 0, .int .i64 0, .nils, .nils], 72, none, false⟩
 | 25 => some ⟨.struct [(0, 3), (1, 3), (2, 3), (3, 22), (4, 23)], 5, [.int .i64 0, .int .i64 0, .int .i64 0, .nils, .nils], 72, none, false⟩
 | 26 => some ⟨.struct [(0, 2), (1, 2), (2, 2)], 3, [.int .i64 0, .int .i64 0, .int .i64 0], 24, none, false⟩
 | 27 => some ⟨.struct [(0, 2), (1, 2), (2, 2)], 3, [.int .i64 0, .int .i64 0, .int .i64 0], 24, some .vec, true⟩
 | 30 => some ⟨.ptr 72, 1, [.nilp], 8, none, false⟩
 | 31 => some ⟨.int .i64, 1, [.int .i64 0], 8, none, false⟩
 | 37 => some ⟨.slice 44, 1, [.nils], 24, none, false⟩
 | 40 => some ⟨.slice 64, 1, [.nils], 24, none, false⟩
 | 42 => some ⟨.array 2 3, 2, [.int .i64 0, .int .i64 0], 16, none, true⟩
 | 43 => some ⟨.struct [(0, 3), (1, 27), (4, 27), (7, 4), (8, 3), (9, 3), (10, 3), (11, 42), (13, 3), (14, 3)], 15, [.int .i64 0, .int .i64 0, .int .i64 0, .int .i64 0, .int .i64 0, .int .i64 0, .int .i64 0, .bool false, .int .i64 0, .int .i64 0, .int .i64 0, .int .i64 0, .int .i64 0, .int .i64 0, .int .i64 0], 120, none, false⟩
 | 44 => some ⟨.struct [(0, 3), (1, 27), (4, 27), (7, 4), (8, 3), (9, 3), (10, 3), (11, 42), (13, 3), (14, 3)], 15, [.int .i64 0, .int .i64 0, .int .i64 0, .int .i64 0, .int .i64 0, .int .i64 0, .int .i64 0, .bool false, .int .i64 0, .int .i64 0, .int .i64 0, .int .i64 0, .int .i64 0, .int .i64 0, .int .i64 0], 120, some .pl, true⟩
 | 46 => some ⟨.slice 52, 1, [.nils], 24, none, false⟩
 | 49 => some ⟨.int .u16, 1, [.int .u16 0], 2, none, false⟩
 | 50 => some ⟨.int .i8, 1, [.int .i8 0], 1, none, false⟩
 | 51 => some ⟨.struct [(0, 49), (1, 5), (2, 50), (3, 50), (4, 3)], 5, [.int .u16 0, .int .u8 0, .int .i8 0, .int .i8 0, .int .i64 0], 16, none, false⟩
 | 52 => some ⟨.struct [(0, 49), (1, 5), (2, 50), (3, 50), (4, 3)], 5, [.int .u16 0, .int .u8 0, .int .i8 0, .int .i8 0, .int .i64 0], 16, some .cm, false⟩
 | 55 => some ⟨.slice 60, 1, [.nils], 24, none, false⟩
 | 56 => some ⟨.struct [(0, 3), (1, 31)], 2, [.int .i64 0, .int .i64 0], 16, none, false⟩
 | 57 => some ⟨.struct [(0, 3), (1, 31)], 2, [.int .i64 0, .int .i64 0], 16, none, true⟩
 | 59 => some ⟨.struct [(0, 3), (1, 3), (2, 52), (7, 3), (8, 3), (9, 27)], 12, [.int .i64 0, .int .i64 0, .int .u16 0, .int .u8 0, .int .i8 0, .int .i8 0, .int .i64 0, .int .i64 0, .int .i64 0, .int .i64 0, .int .i64 0, .int .i64 0], 72, none, false⟩
 | 60 => some ⟨.struct [(0, 3), (1, 3), (2, 52), (7, 3), (8, 3), (9, 27)], 12, [.int .i64 0, .int .i64 0, .int .u16 0, .int .u8 0, .int .i8 0, .int .i8 0, .int .i64 0, .int .i64 0, .int .i64 0, .int .i64 0, .int .i64 0, .int .i64 0], 72, some .wop, false⟩
 | 63 => some ⟨.struct [(0, 3), (1, 3), (2, 3), (3, 27), (6, 27), (9, 3), (10, 4)], 11, [.int .i64 0, .int .i64 0, .int .i64 0, .int .i64 0, .int .i64 0, .int .i64 0, .int .i64 0, .int .i64 0, .int .i64 0, .int .i64 0, .bool false], 88, none, false⟩
 | 64 => some ⟨.struct [(0, 3), (1, 3), (2, 3), (3, 27), (6, 27), (9, 3), (10, 4)], 11, [.int .i64 0, .int .i64 0, .int .i64 0, .int .i64 0, .int .i64 0, .int .i64 0, .int .i64 0, .int .i64 0, .int .i64 0, .int .i64 0, .bool false], 88, some .sh, true⟩
 | 70 => some ⟨.slice 73, 1, [.nils], 24, none, false⟩
 | 71 => some ⟨.struct [(0, 25), (5, 3), (6, 70), (7, 40), (8, 3), (9, 3)], 10, [.int .i64 0, .int .i64 0, .int .i64 0, .nils, .nils, .int .i64 0, .nils, .nils, .int .i64 0, .int .i64 0], 144, none, false⟩
 | 72 => some ⟨.struct [(0, 25), (5, 3), (6, 70), (7, 40), (8, 3), (9, 3)], 10, [.int .i64 0, .int .i64 0, .int .i64 0, .nils, .nils, .int .i64 0, .nils, .nils, .int .i64 0, .int .i64 0], 144, none, false⟩
 | 73 => some ⟨.ptr 77, 1, [.nilp], 8, none, false⟩
 | 76 => some ⟨.struct [(0, 44), (15, 3)], 16, [.int .i64 0, .int .i64 0, .int .i64 0, .int .i64 0, .int .i64 0, .int .i64 0, .int .i64 0, .bool false, .int .i64 0, .int .i64 0, .int .i64 0, .int .i64 0, .int .i64 0, .int .i64 0, .int .i64 0, .int .i64 0], 128, none, false⟩
 | 77 => some ⟨.struct [(0, 44), (15, 3)], 16, [.int .i64 0, .int .i64 0, .int .i64 0, .int .i64 0, .int .i64 0, .int .i64 0, .int .i64 0, .bool false, .int .i64 0, .int .i64 0, .int .i64 0, .int .i64 0, .int .i64 0, .int .i64 0, .int .i64 0, .int .i64 0], 128, none, false⟩
 | 84 => some ⟨.ptr 64, 1, [.nilp], 8, none, false⟩
 | 91 => some ⟨.ptr 2, 1, [.nilp], 8, none, false⟩
 | 92 => some ⟨.array 3 91, 3, [.nilp, .nilp, .nilp], 24, none, false⟩
 | 94 => some ⟨.ptr 27, 1, [.nilp], 8, none, false⟩
 | 118 => some ⟨.int .u64, 1, [.int .u64 0], 8, some .u64, false⟩
 | 119 => some ⟨.struct [(0, 118), (1, 118)], 2, [.int .u64 0, .int .u64 0], 16, none, false⟩
 | 120 => some ⟨.struct [(0, 118), (1, 118)], 2, [.int .u64 0, .int .u64 0], 16, none, false⟩
 | 132 => some ⟨.array 3 4, 3, [.bool false, .bool false, .bool false], 3, none, false⟩
 | 135 => some ⟨.int .u64, 1, [.int .u64 0], 8, none, false⟩
 | 142 => some ⟨.array 3 2, 3, [.int .i64 0, .int .i64 0, .int .i64 0], 24, none, false⟩
 | 146 => some ⟨.struct [(0, 3), (1, 3), (2, 2), (3, 2)], 4, [.int .i64 0, .int .i64 0, .int .i64 0, .int .i64 0], 32, none, false⟩
 | 147 => some ⟨.struct [(0, 3), (1, 3), (2, 2), (3, 2)], 4, [.int .i64 0, .int .i64 0, .int .i64 0, .int .i64 0], 32, none, false⟩
 | 149 => some ⟨.array 3 147, 12, [.int .i64 0, .int .i64 0, .int .i64 0, .int .i64 0, .int .i64 0, .int .i64 0, .int .i64 0, .int .i64 0, .int .i64 0, .int .i64 0, .int .i64 0, .int .i64 0], 96, none, false⟩
 | 150 => some ⟨.ptr 147, 1, [.nilp], 8, none, false⟩
 | 156 => some ⟨.array 0 16, 0, [], 0, none, false⟩
 | 157 => some ⟨.struct [(0, 156)], 0, [], 0, none, false⟩
 | 158 => some ⟨.struct [(0, 156)], 0, [], 0, none, false⟩
 | 159 => some ⟨.int .u32, 1, [.int .u32 0], 4, none, false⟩
 | 160 => some ⟨.int .u8, 1, [.int .u8 0], 1, none, false⟩
 | 161 => some ⟨.int .u8, 1, [.int .u8 0], 1, none, false⟩
 | 163 => some ⟨.ptr 5, 1, [.nilp], 8, none, false⟩
 | 164 => some ⟨.int .i32, 1, [.int .i32 0], 4, none, false⟩
 | 165 => some ⟨.int .i32, 1, [.int .i32 0], 4, none, false⟩
 | _ => none

theorem vm_ok2 : TIOk Try.prog 2 ⟨.int .i64, 1, [.int .i64 0], 8, some .i64, false⟩ :=
 ⟨by kernel_rfl, by kernel_rfl, Try.underlying2, ⟨.int .i64 0, by kernel_rfl, (by simp only [Array.toList, Value.cells, relL_cons, relL_nil, Rel, and_self])⟩, (fun h => by cases h)⟩
theorem vm_ok3 : TIOk Try.prog 3 ⟨.int .i64, 1, [.int .i64 0], 8, some .i64, false⟩ :=
 ⟨by kernel_rfl, by kernel_rfl, Try.underlying3, ⟨.int .i64 0, by kernel_rfl, (by simp only [Array.toList, Value.cells, relL_cons, relL_nil, Rel, and_self])⟩, (fun h => by cases h)⟩
theorem vm_ok4 : TIOk Try.prog 4 ⟨.bool, 1, [.bool false], 1, some .bool, false⟩ :=
 ⟨by kernel_rfl, by kernel_rfl, Try.underlying4, ⟨.bool false, by kernel_rfl, (by simp only [Array.toList, Value.cells, relL_cons, relL_nil, Rel, and_self])⟩, (fun h => by cases h)⟩
theorem vm_ok5 : TIOk Try.prog 5 ⟨.int .u8, 1, [.int .u8 0], 1, none, false⟩ :=
 ⟨by kernel_rfl, by kernel_rfl, Try.underlying5, ⟨.int .u8 0, by kernel_rfl, (by simp only [Array.toList, Value.cells, relL_cons, relL_nil, Rel, and_self])⟩, (fun h => by cases h)⟩
theorem vm_ok6 : TIOk Try.prog 6 ⟨.int .u8, 1, [.int .u8 0], 1, none, false⟩ :=
 ⟨by kernel_rfl, by kernel_rfl, Try.underlying6, ⟨.int .u8 0, by kernel_rfl, (by simp only [Array.toList, Value.cells, relL_cons, relL_nil, Rel, and_self])⟩, (fun h => by cases h)⟩
theorem vm_ok7 : TIOk Try.prog 7 ⟨.struct [(0, 2), (1, 3), (2, 4), (3, 6)], 4, [.int .i64 0, .int .i64 0, .bool false, .int .u8 0], 24, none, false⟩ :=
 ⟨by kernel_rfl, by kernel_rfl, ⟨_, Try.underlying7, rfl⟩, ⟨.agg #[.int .i64 0, .int .i64 0, .bool false, .int .u8 0], by kernel_rfl, (by simp only [Array.toList, Value.cells, relL_cons, relL_nil, Rel, and_self])⟩, (fun h => by cases h)⟩
theorem vm_ok8 : TIOk Try.prog 8 ⟨.struct [(0, 2), (1, 3), (2, 4), (3, 6)], 4, [.int .i64 0, .int .i64 0, .bool false, .int .u8 0], 24, none, false⟩ :=
 ⟨by kernel_rfl, by kernel_rfl, ⟨_, Try.underlying8, rfl⟩, ⟨.agg #[.int .i64 0, .int .i64 0, .bool false, .int .u8 0], by kernel_rfl, (by simp only [Array.toList, Value.cells, relL_cons, relL_nil, Rel, and_self])⟩, (fun h => by cases h)⟩
theorem vm_ok12 : TIOk Try.prog 12 ⟨.int .u64, 1, [.int .u64 0], 8, none, false⟩ :=
 ⟨by kernel_rfl, by kernel_rfl, Try.underlying12, ⟨.int .u64 0, by kernel_rfl, (by simp only [Array.toList, Value.cells, relL_cons, relL_nil, Rel, and_self])⟩, (fun h => by cases h)⟩
theorem vm_ok15 : TIOk Try.prog 15 ⟨.ptr 155, 1, [.nilp], 8, none, false⟩ :=
 ⟨by kernel_rfl, by kernel_rfl, Try.underlying15, ⟨.pointer none, by kernel_rfl, (by simp only [Array.toList, Value.cells, relL_cons, relL_nil, Rel, and_self])⟩, (fun h => by cases h)⟩
theorem vm_ok16 : TIOk Try.prog 16 ⟨.ptr 158, 1, [.nilp], 8, none, false⟩ :=
 ⟨by kernel_rfl, by kernel_rfl, Try.underlying16, ⟨.pointer none, by kernel_rfl, (by simp only [Array.toList, Value.cells, relL_cons, relL_nil, Rel, and_self])⟩, (fun h => by cases h)⟩
theorem vm_ok17 : TIOk Try.prog 17 ⟨.ptr 167, 1, [.nilp], 8, none, false⟩ :=
 ⟨by kernel_rfl, by kernel_rfl, Try.underlying17, ⟨.pointer none, by kernel_rfl, (by simp only [Array.toList, Value.cells, relL_cons, relL_nil, Rel, and_self])⟩, (fun h => by cases h)⟩
theorem vm_ok18 : TIOk Try.prog 18 ⟨.struct [(0, 17)], 1, [.nilp], 8, none, false⟩ :=
 ⟨by kernel_rfl, by kernel_rfl, ⟨_, Try.underlying18, rfl⟩, ⟨.agg #[.pointer none], by kernel_rfl, (by simp only [Array.toList, Value.cells, relL_cons, relL_nil, Rel, and_self])⟩, (fun h => by cases h)⟩
theorem vm_ok19 : TIOk Try.prog 19 ⟨.struct [(0, 17)], 1, [.nilp], 8, none, false⟩ :=
 ⟨by kernel_rfl, by kernel_rfl, ⟨_, Try.underlying19, rfl⟩, ⟨.agg #[.pointer none], by kernel_rfl, (by simp only [Array.toList, Value.cells, relL_cons, relL_nil, Rel, and_self])⟩, (fun h => by cases h)⟩
theorem vm_ok21 : TIOk Try.prog 21 ⟨.int .i32, 1, [.int .i32 0], 4, none, false⟩ :=
 ⟨by kernel_rfl, by kernel_rfl, Try.underlying21, ⟨.int .i32 0, by kernel_rfl, (by simp only [Array.toList, Value.cells, relL_cons, relL_nil, Rel, and_self])⟩, (fun h => by cases h)⟩
theorem vm_ok22 : TIOk Try.prog 22 ⟨.slice 4, 1, [.nils], 24, none, false⟩ :=
 ⟨by kernel_rfl, by kernel_rfl, Try.underlying22, ⟨.slice none 0 0, by kernel_rfl, (by simp only [Array.toList, Value.cells, relL_cons, relL_nil, Rel, and_self])⟩, (fun h => by cases h)⟩
theorem vm_ok23 : TIOk Try.prog 23 ⟨.slice 27, 1, [.nils], 24, none, false⟩ :=
 ⟨by kernel_rfl, by kernel_rfl, Try.underlying23, ⟨.slice none 0 0, by kernel_rfl, (by simp only [Array.toList, Value.cells, relL_cons, relL_nil, Rel, and_self])⟩, (fun h => by cases h)⟩
theorem vm_ok24 : TIOk Try.prog 24 ⟨.struct [(0, 3), (1, 3), (2, 3), (3, 22), (4, 23)], 5, [.int .i64 0, .int .i64 0, .int .i64 0, .nils, .nils], 72, none, false⟩ :=
 ⟨by kernel_rfl, by kernel_rfl, ⟨_, Try.underlying24, rfl⟩, ⟨.agg #[.int .i64 0, .int .i64 0, .int .i64 0, .slice none 0 0, .slice none 0 0], by kernel_rfl, (by simp only [Array.toList, Value.cells, relL_cons, relL_nil, Rel, and_self])⟩, (fun h => by cases h)⟩
theorem vm_ok25 : TIOk Try.prog 25 ⟨.struct [(0, 3), (1, 3), (2, 3), (3, 22), (4, 23)], 5, [.int .i64 0, .int .i64 0, .int .i64 0, .nils, .nils], 72, none, false⟩ :=
 ⟨by kernel_rfl, by kernel_rfl, ⟨_, Try.underlying25, rfl⟩, ⟨.agg #[.int .i64 0, .int .i64 0, .int .i64 0, .slice none 0 0, .slice none 0 0], by kernel_rfl, (by simp only [Array.toList, Value.cells, relL_cons, relL_nil, Rel, and_self])⟩, (fun h => by cases h)⟩
theorem vm_ok26 : TIOk Try.prog 26 ⟨.struct [(0, 2), (1, 2), (2, 2)], 3, [.int .i64 0, .int .i64 0, .int .i64 0], 24, none, false⟩ :=
 ⟨by kernel_rfl, by kernel_rfl, ⟨_, Try.underlying26, rfl⟩, ⟨.agg #[.int .i64 0, .int .i64 0, .int .i64 0], by kernel_rfl, (by simp only [Array.toList, Value.cells, relL_cons, relL_nil, Rel, and_self])⟩, (fun h => by cases h)⟩
theorem vm_ok27 : TIOk Try.prog 27 ⟨.struct [(0, 2), (1, 2), (2, 2)], 3, [.int .i64 0, .int .i64 0, .int .i64 0], 24, some .vec, true⟩ :=
 ⟨by kernel_rfl, by kernel_rfl, ⟨_, Try.underlying27, rfl⟩, ⟨.agg #[.int .i64 0, .int .i64 0, .int .i64 0], by kernel_rfl, (by simp only [Array.toList, Value.cells, relL_cons, relL_nil, Rel, and_self])⟩, (fun _ => ⟨by kernel_rfl, eql27⟩)⟩
theorem vm_ok30 : TIOk Try.prog 30 ⟨.ptr 72, 1, [.nilp], 8, none, false⟩ :=
 ⟨by kernel_rfl, by kernel_rfl, Try.underlying30, ⟨.pointer none, by kernel_rfl, (by simp only [Array.toList, Value.cells, relL_cons, relL_nil, Rel, and_self])⟩, (fun h => by cases h)⟩
theorem vm_ok31 : TIOk Try.prog 31 ⟨.int .i64, 1, [.int .i64 0], 8, none, false⟩ :=
 ⟨by kernel_rfl, by kernel_rfl, Try.underlying31, ⟨.int .i64 0, by kernel_rfl, (by simp only [Array.toList, Value.cells, relL_cons, relL_nil, Rel, and_self])⟩, (fun h => by cases h)⟩
theorem vm_ok37 : TIOk Try.prog 37 ⟨.slice 44, 1, [.nils], 24, none, false⟩ :=
 ⟨by kernel_rfl, by kernel_rfl, Try.underlying37, ⟨.slice none 0 0, by kernel_rfl, (by simp only [Array.toList, Value.cells, relL_cons, relL_nil, Rel, and_self])⟩, (fun h => by cases h)⟩
theorem vm_ok40 : TIOk Try.prog 40 ⟨.slice 64, 1, [.nils], 24, none, false⟩ :=
 ⟨by kernel_rfl, by kernel_rfl, Try.underlying40, ⟨.slice none 0 0, by kernel_rfl, (by simp only [Array.toList, Value.cells, relL_cons, relL_nil, Rel, and_self])⟩, (fun h => by cases h)⟩
theorem vm_ok42 : TIOk Try.prog 42 ⟨.array 2 3, 2, [.int .i64 0, .int .i64 0], 16, none, true⟩ :=
 ⟨by kernel_rfl, by kernel_rfl, Try.underlying42, ⟨.agg #[.int .i64 0, .int .i64 0], by kernel_rfl, (by simp only [Array.toList, Value.cells, relL_cons, relL_nil, Rel, and_self])⟩, (fun _ => ⟨by kernel_rfl, eql42⟩)⟩
theorem vm_ok43 : TIOk Try.prog 43 ⟨.struct [(0, 3), (1, 27), (4, 27), (7, 4), (8, 3), (9, 3), (10, 3), (11, 42), (13, 3), (14, 3)], 15, [.int .i64 0, .int .i64 0, .int .i64 0, .int .i64 0, .int .i64 0, .int .i64 0, .int .i64 0, .bool false, .int .i64 0, .int .i64 0, .int .i64 0, .int .i64 0, .int .i64 0, .int .i64 0, .int .i64 0], 120, none, false⟩ :=
 ⟨by kernel_rfl, by kernel_rfl, ⟨_, Try.underlying43, rfl⟩, ⟨.agg #[.int .i64 0, .int .i64 0, .int .i64 0, .int .i64 0, .int .i64 0, .int .i64 0, .int .i64 0, .bool false, .int .i64 0, .int .i64 0, .int .i64 0, .int .i64 0, .int .i64 0, .int .i64 0, .int .i64 0], by kernel_rfl, (by simp only [Array.toList, Value.cells, relL_cons, relL_nil, Rel, and_self])⟩, (fun h => by cases h)⟩
theorem vm_ok44 : TIOk Try.prog 44 ⟨.struct [(0, 3), (1, 27), (4, 27), (7, 4), (8, 3), (9, 3), (10, 3), (11, 42), (13, 3), (14, 3)], 15, [.int .i64 0, .int .i64 0, .int .i64 0, .int .i64 0, .int .i64 0, .int .i64 0, .int .i64 0, .bool false, .int .i64 0, .int .i64 0, .int .i64 0, .int .i64 0, .int .i64 0, .int .i64 0, .int .i64 0], 120, some .pl, true⟩ :=
 ⟨by kernel_rfl, by kernel_rfl, ⟨_, Try.underlying44, rfl⟩, ⟨.agg #[.int .i64 0, .int .i64 0, .int .i64 0, .int .i64 0, .int .i64 0, .int .i64 0, .int .i64 0, .bool false, .int .i64 0, .int .i64 0, .int .i64 0, .int .i64 0, .int .i64 0, .int .i64 0, .int .i64 0], by kernel_rfl, (by simp only [Array.toList, Value.cells, relL_cons, relL_nil, Rel, and_self])⟩, (fun _ => ⟨by kernel_rfl, eql44⟩)⟩
theorem vm_ok46 : TIOk Try.prog 46 ⟨.slice 52, 1, [.nils], 24, none, false⟩ :=
 ⟨by kernel_rfl, by kernel_rfl, Try.underlying46, ⟨.slice none 0 0, by kernel_rfl, (by simp only [Array.toList, Value.cells, relL_cons, relL_nil, Rel, and_self])⟩, (fun h => by cases h)⟩
theorem vm_ok49 : TIOk Try.prog 49 ⟨.int .u16, 1, [.int .u16 0], 2, none, false⟩ :=
 ⟨by kernel_rfl, by kernel_rfl, Try.underlying49, ⟨.int .u16 0, by kernel_rfl, (by simp only [Array.toList, Value.cells, relL_cons, relL_nil, Rel, and_self])⟩, (fun h => by cases h)⟩
theorem vm_ok50 : TIOk Try.prog 50 ⟨.int .i8, 1, [.int .i8 0], 1, none, false⟩ :=
 ⟨by kernel_rfl, by kernel_rfl, Try.underlying50, ⟨.int .i8 0, by kernel_rfl, (by simp only [Array.toList, Value.cells, relL_cons, relL_nil, Rel, and_self])⟩, (fun h => by cases h)⟩
theorem vm_ok51 : TIOk Try.prog 51 ⟨.struct [(0, 49), (1, 5), (2, 50), (3, 50), (4, 3)], 5, [.int .u16 0, .int .u8 0, .int .i8 0, .int .i8 0, .int .i64 0], 16, none, false⟩ :=
 ⟨by kernel_rfl, by kernel_rfl, ⟨_, Try.underlying51, rfl⟩, ⟨.agg #[.int .u16 0, .int .u8 0, .int .i8 0, .int .i8 0, .int .i64 0], by kernel_rfl, (by simp only [Array.toList, Value.cells, relL_cons, relL_nil, Rel, and_self])⟩, (fun h => by cases h)⟩
theorem vm_ok52 : TIOk Try.prog 52 ⟨.struct [(0, 49), (1, 5), (2, 50), (3, 50), (4, 3)], 5, [.int .u16 0, .int .u8 0, .int .i8 0, .int .i8 0, .int .i64 0], 16, some .cm, false⟩ :=
 ⟨by kernel_rfl, by kernel_rfl, ⟨_, Try.underlying52, rfl⟩, ⟨.agg #[.int .u16 0, .int .u8 0, .int .i8 0, .int .i8 0, .int .i64 0], by kernel_rfl, (by simp only [Array.toList, Value.cells, relL_cons, relL_nil, Rel, and_self])⟩, (fun h => by cases h)⟩
theorem vm_ok55 : TIOk Try.prog 55 ⟨.slice 60, 1, [.nils], 24, none, false⟩ :=
 ⟨by kernel_rfl, by kernel_rfl, Try.underlying55, ⟨.slice none 0 0, by kernel_rfl, (by simp only [Array.toList, Value.cells, relL_cons, relL_nil, Rel, and_self])⟩, (fun h => by cases h)⟩
theorem vm_ok56 : TIOk Try.prog 56 ⟨.struct [(0, 3), (1, 31)], 2, [.int .i64 0, .int .i64 0], 16, none, false⟩ :=
 ⟨by kernel_rfl, by kernel_rfl, ⟨_, Try.underlying56, rfl⟩, ⟨.agg #[.int .i64 0, .int .i64 0], by kernel_rfl, (by simp only [Array.toList, Value.cells, relL_cons, relL_nil, Rel, and_self])⟩, (fun h => by cases h)⟩
theorem vm_ok57 : TIOk Try.prog 57 ⟨.struct [(0, 3), (1, 31)], 2, [.int .i64 0, .int .i64 0], 16, none, true⟩ :=
 ⟨by kernel_rfl, by kernel_rfl, ⟨_, Try.underlying57, rfl⟩, ⟨.agg #[.int .i64 0, .int .i64 0], by kernel_rfl, (by simp only [Array.toList, Value.cells, relL_cons, relL_nil, Rel, and_self])⟩, (fun _ => ⟨by kernel_rfl, eql57⟩)⟩
theorem vm_ok59 : TIOk Try.prog 59 ⟨.struct [(0, 3), (1, 3), (2, 52), (7, 3), (8, 3), (9, 27)], 12, [.int .i64 0, .int .i64 0, .int .u16 0, .int .u8 0, .int .i8 0, .int .i8 0, .int .i64 0, .int .i64 0, .int .i64 0, .int .i64 0, .int .i64 0, .int .i64 0], 72, none, false⟩ :=
 ⟨by kernel_rfl, by kernel_rfl, ⟨_, Try.underlying59, rfl⟩, ⟨.agg #[.int .i64 0, .int .i64 0, .int .u16 0, .int .u8 0, .int .i8 0, .int .i8 0, .int .i64 0, .int .i64 0, .int .i64 0, .int .i64 0, .int .i64 0, .int .i64 0], by kernel_rfl, (by simp only [Array.toList, Value.cells, relL_cons, relL_nil, Rel, and_self])⟩, (fun h => by cases h)⟩
theorem vm_ok60 : TIOk Try.prog 60 ⟨.struct [(0, 3), (1, 3), (2, 52), (7, 3), (8, 3), (9, 27)], 12, [.int .i64 0, .int .i64 0, .int .u16 0, .int .u8 0, .int .i8 0, .int .i8 0, .int .i64 0, .int .i64 0, .int .i64 0, .int .i64 0, .int .i64 0, .int .i64 0], 72, some .wop, false⟩ :=
 ⟨by kernel_rfl, by kernel_rfl, ⟨_, Try.underlying60, rfl⟩, ⟨.agg #[.int .i64 0, .int .i64 0, .int .u16 0, .int .u8 0, .int .i8 0, .int .i8 0, .int .i64 0, .int .i64 0, .int .i64 0, .int .i64 0, .int .i64 0, .int .i64 0], by kernel_rfl, (by simp only [Array.toList, Value.cells, relL_cons, relL_nil, Rel, and_self])⟩, (fun h => by cases h)⟩
theorem vm_ok63 : TIOk Try.prog 63 ⟨.struct [(0, 3), (1, 3), (2, 3), (3, 27), (6, 27), (9, 3), (10, 4)], 11, [.int .i64 0, .int .i64 0, .int .i64 0, .int .i64 0, .int .i64 0, .int .i64 0, .int .i64 0, .int .i64 0, .int .i64 0, .int .i64 0, .bool false], 88, none, false⟩ :=
 ⟨by kernel_rfl, by kernel_rfl, ⟨_, Try.underlying63, rfl⟩, ⟨.agg #[.int .i64 0, .int .i64 0, .int .i64 0, .int .i64 0, .int .i64 0, .int .i64 0, .int .i64 0, .int .i64 0, .int .i64 0, .int .i64 0, .bool false], by kernel_rfl, (by simp only [Array.toList, Value.cells, relL_cons, relL_nil, Rel, and_self])⟩, (fun h => by cases h)⟩
theorem vm_ok64 : TIOk Try.prog 64 ⟨.struct [(0, 3), (1, 3), (2, 3), (3, 27), (6, 27), (9, 3), (10, 4)], 11, [.int .i64 0, .int .i64 0, .int .i64 0, .int .i64 0, .int .i64 0, .int .i64 0, .int .i64 0, .int .i64 0, .int .i64 0, .int .i64 0, .bool false], 88, some .sh, true⟩ :=
 ⟨by kernel_rfl, by kernel_rfl, ⟨_, Try.underlying64, rfl⟩, ⟨.agg #[.int .i64 0, .int .i64 0, .int .i64 0, .int .i64 0, .int .i64 0, .int .i64 0, .int .i64 0, .int .i64 0, .int .i64 0, .int .i64 0, .bool false], by kernel_rfl, (by simp only [Array.toList, Value.cells, relL_cons, relL_nil, Rel, and_self])⟩, (fun _ => ⟨by kernel_rfl, eql64⟩)⟩
theorem vm_ok70 : TIOk Try.prog 70 ⟨.slice 73, 1, [.nils], 24, none, false⟩ :=
 ⟨by kernel_rfl, by kernel_rfl, Try.underlying70, ⟨.slice none 0 0, by kernel_rfl, (by simp only [Array.toList, Value.cells, relL_cons, relL_nil, Rel, and_self])⟩, (fun h => by cases h)⟩
theorem vm_ok71 : TIOk Try.prog 71 ⟨.struct [(0, 25), (5, 3), (6, 70), (7, 40), (8, 3), (9, 3)], 10, [.int .i64 0, .int .i64 0, .int .i64 0, .nils, .nils, .int .i64 0, .nils, .nils, .int .i64 0, .int .i64 0], 144, none, false⟩ :=
 ⟨by kernel_rfl, by kernel_rfl, ⟨_, Try.underlying71, rfl⟩, ⟨.agg #[.int .i64 0, .int .i64 0, .int .i64 0, .slice none 0 0, .slice none 0 0, .int .i64 0, .slice none 0 0, .slice none 0 0, .int .i64 0, .int .i64 0], by kernel_rfl, (by simp only [Array.toList, Value.cells, relL_cons, relL_nil, Rel, and_self])⟩, (fun h => by cases h)⟩
theorem vm_ok72 : TIOk Try.prog 72 ⟨.struct [(0, 25), (5, 3), (6, 70), (7, 40), (8, 3), (9, 3)], 10, [.int .i64 0, .int .i64 0, .int .i64 0, .nils, .nils, .int .i64 0, .nils, .nils, .int .i64 0, .int .i64 0], 144, none, false⟩ :=
 ⟨by kernel_rfl, by kernel_rfl, ⟨_, Try.underlying72, rfl⟩, ⟨.agg #[.int .i64 0, .int .i64 0, .int .i64 0, .slice none 0 0, .slice none 0 0, .int .i64 0, .slice none 0 0, .slice none 0 0, .int .i64 0, .int .i64 0], by kernel_rfl, (by simp only [Array.toList, Value.cells, relL_cons, relL_nil, Rel, and_self])⟩, (fun h => by cases h)⟩
theorem vm_ok73 : TIOk Try.prog 73 ⟨.ptr 77, 1, [.nilp], 8, none, false⟩ :=
 ⟨by kernel_rfl, by kernel_rfl, Try.underlying73, ⟨.pointer none, by kernel_rfl, (by simp only [Array.toList, Value.cells, relL_cons, relL_nil, Rel, and_self])⟩, (fun h => by cases h)⟩
theorem vm_ok76 : TIOk Try.prog 76 ⟨.struct [(0, 44), (15, 3)], 16, [.int .i64 0, .int .i64 0, .int .i64 0, .int .i64 0, .int .i64 0, .int .i64 0, .int .i64 0, .bool false, .int .i64 0, .int .i64 0, .int .i64 0, .int .i64 0, .int .i64 0, .int .i64 0, .int .i64 0, .int .i64 0], 128, none, false⟩ :=
 ⟨by kernel_rfl, by kernel_rfl, ⟨_, Try.underlying76, rfl⟩, ⟨.agg #[.int .i64 0, .int .i64 0, .int .i64 0, .int .i64 0, .int .i64 0, .int .i64 0, .int .i64 0, .bool false, .int .i64 0, .int .i64 0, .int .i64 0, .int .i64 0, .int .i64 0, .int .i64 0, .int .i64 0, .int .i64 0], by kernel_rfl, (by simp only [Array.toList, Value.cells, relL_cons, relL_nil, Rel, and_self])⟩, (fun h => by cases h)⟩
theorem vm_ok77 : TIOk Try.prog 77 ⟨.struct [(0, 44), (15, 3)], 16, [.int .i64 0, .int .i64 0, .int .i64 0, .int .i64 0, .int .i64 0, .int .i64 0, .int .i64 0, .bool false, .int .i64 0, .int .i64 0, .int .i64 0, .int .i64 0, .int .i64 0, .int .i64 0, .int .i64 0, .int .i64 0], 128, none, false⟩ :=
 ⟨by kernel_rfl, by kernel_rfl, ⟨_, Try.underlying77, rfl⟩, ⟨.agg #[.int .i64 0, .int .i64 0, .int .i64 0, .int .i64 0, .int .i64 0, .int .i64 0, .int .i64 0, .bool false, .int .i64 0, .int .i64 0, .int .i64 0, .int .i64 0, .int .i64 0, .int .i64 0, .int .i64 0, .int .i64 0], by kernel_rfl, (by simp only [Array.toList, Value.cells, relL_cons, relL_nil, Rel, and_self])⟩, (fun h => by cases h)⟩
theorem vm_ok84 : TIOk Try.prog 84 ⟨.ptr 64, 1, [.nilp], 8, none, false⟩ :=
 ⟨by kernel_rfl, by kernel_rfl, Try.underlying84, ⟨.pointer none, by kernel_rfl, (by simp only [Array.toList, Value.cells, relL_cons, relL_nil, Rel, and_self])⟩, (fun h => by cases h)⟩
theorem vm_ok91 : TIOk Try.prog 91 ⟨.ptr 2, 1, [.nilp], 8, none, false⟩ :=
 ⟨by kernel_rfl, by kernel_rfl, Try.underlying91, ⟨.pointer none, by kernel_rfl, (by simp only [Array.toList, Value.cells, relL_cons, relL_nil, Rel, and_self])⟩, (fun h => by cases h)⟩
theorem vm_ok92 : TIOk Try.prog 92 ⟨.array 3 91, 3, [.nilp, .nilp, .nilp], 24, none, false⟩ :=
 ⟨by kernel_rfl, by kernel_rfl, Try.underlying92, ⟨.agg #[.pointer none, .pointer none, .pointer none], by kernel_rfl, (by simp only [Array.toList, Value.cells, relL_cons, relL_nil, Rel, and_self])⟩, (fun h => by cases h)⟩
theorem vm_ok94 : TIOk Try.prog 94 ⟨.ptr 27, 1, [.nilp], 8, none, false⟩ :=
 ⟨by kernel_rfl, by kernel_rfl, Try.underlying94, ⟨.pointer none, by kernel_rfl, (by simp only [Array.toList, Value.cells, relL_cons, relL_nil, Rel, and_self])⟩, (fun h => by cases h)⟩
theorem vm_ok118 : TIOk Try.prog 118 ⟨.int .u64, 1, [.int .u64 0], 8, some .u64, false⟩ :=
 ⟨by kernel_rfl, by kernel_rfl, Try.underlying118, ⟨.int .u64 0, by kernel_rfl, (by simp only [Array.toList, Value.cells, relL_cons, relL_nil, Rel, and_self])⟩, (fun h => by cases h)⟩
theorem vm_ok119 : TIOk Try.prog 119 ⟨.struct [(0, 118), (1, 118)], 2, [.int .u64 0, .int .u64 0], 16, none, false⟩ :=
 ⟨by kernel_rfl, by kernel_rfl, ⟨_, Try.underlying119, rfl⟩, ⟨.agg #[.int .u64 0, .int .u64 0], by kernel_rfl, (by simp only [Array.toList, Value.cells, relL_cons, relL_nil, Rel, and_self])⟩, (fun h => by cases h)⟩
theorem vm_ok120 : TIOk Try.prog 120 ⟨.struct [(0, 118), (1, 118)], 2, [.int .u64 0, .int .u64 0], 16, none, false⟩ :=
 ⟨by kernel_rfl, by kernel_rfl, ⟨_, Try.underlying120, rfl⟩, ⟨.agg #[.int .u64 0, .int .u64 0], by kernel_rfl, (by simp only [Array.toList, Value.cells, relL_cons, relL_nil, Rel, and_self])⟩, (fun h => by cases h)⟩
theorem vm_ok132 : TIOk Try.prog 132 ⟨.array 3 4, 3, [.bool false, .bool false, .bool false], 3, none, false⟩ :=
 ⟨by kernel_rfl, by kernel_rfl, Try.underlying132, ⟨.agg #[.bool false, .bool false, .bool false], by kernel_rfl, (by simp only [Array.toList, Value.cells, relL_cons, relL_nil, Rel, and_self])⟩, (fun h => by cases h)⟩
theorem vm_ok135 : TIOk Try.prog 135 ⟨.int .u64, 1, [.int .u64 0], 8, none, false⟩ :=
 ⟨by kernel_rfl, by kernel_rfl, Try.underlying135, ⟨.int .u64 0, by kernel_rfl, (by simp only [Array.toList, Value.cells, relL_cons, relL_nil, Rel, and_self])⟩, (fun h => by cases h)⟩
theorem vm_ok142 : TIOk Try.prog 142 ⟨.array 3 2, 3, [.int .i64 0, .int .i64 0, .int .i64 0], 24, none, false⟩ :=
 ⟨by kernel_rfl, by kernel_rfl, Try.underlying142, ⟨.agg #[.int .i64 0, .int .i64 0, .int .i64 0], by kernel_rfl, (by simp only [Array.toList, Value.cells, relL_cons, relL_nil, Rel, and_self])⟩, (fun h => by cases h)⟩
theorem vm_ok146 : TIOk Try.prog 146 ⟨.struct [(0, 3), (1, 3), (2, 2), (3, 2)], 4, [.int .i64 0, .int .i64 0, .int .i64 0, .int .i64 0], 32, none, false⟩ :=
 ⟨by kernel_rfl, by kernel_rfl, ⟨_, Try.underlying146, rfl⟩, ⟨.agg #[.int .i64 0, .int .i64 0, .int .i64 0, .int .i64 0], by kernel_rfl, (by simp only [Array.toList, Value.cells, relL_cons, relL_nil, Rel, and_self])⟩, (fun h => by cases h)⟩
theorem vm_ok147 : TIOk Try.prog 147 ⟨.struct [(0, 3), (1, 3), (2, 2), (3, 2)], 4, [.int .i64 0, .int .i64 0, .int .i64 0, .int .i64 0], 32, none, false⟩ :=
 ⟨by kernel_rfl, by kernel_rfl, ⟨_, Try.underlying147, rfl⟩, ⟨.agg #[.int .i64 0, .int .i64 0, .int .i64 0, .int .i64 0], by kernel_rfl, (by simp only [Array.toList, Value.cells, relL_cons, relL_nil, Rel, and_self])⟩, (fun h => by cases h)⟩
theorem vm_ok149 : TIOk Try.prog 149 ⟨.array 3 147, 12, [.int .i64 0, .int .i64 0, .int .i64 0, .int .i64 0, .int .i64 0, .int .i64 0, .int .i64 0, .int .i64 0, .int .i64 0, .int .i64 0, .int .i64 0, .int .i64 0], 96, none, false⟩ :=
 ⟨by kernel_rfl, by kernel_rfl, Try.underlying149, ⟨.agg #[.int .i64 0, .int .i64 0, .int .i64 0, .int .i64 0, .int .i64 0, .int .i64 0, .int .i64 0, .int .i64 0, .int .i64 0, .int .i64 0, .int .i64 0, .int .i64 0], by kernel_rfl, (by simp only [Array.toList, Value.cells, relL_cons, relL_nil, Rel, and_self])⟩, (fun h => by cases h)⟩
theorem vm_ok150 : TIOk Try.prog 150 ⟨.ptr 147, 1, [.nilp], 8, none, false⟩ :=
 ⟨by kernel_rfl, by kernel_rfl, Try.underlying150, ⟨.pointer none, by kernel_rfl, (by simp only [Array.toList, Value.cells, relL_cons, relL_nil, Rel, and_self])⟩, (fun h => by cases h)⟩
theorem vm_ok156 : TIOk Try.prog 156 ⟨.array 0 16, 0, [], 0, none, false⟩ :=
 ⟨by kernel_rfl, by kernel_rfl, Try.underlying156, ⟨.agg #[], by kernel_rfl, (by simp only [Array.toList, Value.cells, relL_cons, relL_nil, Rel, and_self])⟩, (fun h => by cases h)⟩
theorem vm_ok157 : TIOk Try.prog 157 ⟨.struct [(0, 156)], 0, [], 0, none, false⟩ :=
 ⟨by kernel_rfl, by kernel_rfl, ⟨_, Try.underlying157, rfl⟩, ⟨.agg #[], by kernel_rfl, (by simp only [Array.toList, Value.cells, relL_cons, relL_nil, Rel, and_self])⟩, (fun h => by cases h)⟩
theorem vm_ok158 : TIOk Try.prog 158 ⟨.struct [(0, 156)], 0, [], 0, none, false⟩ :=
 ⟨by kernel_rfl, by kernel_rfl, ⟨_, Try.underlying158, rfl⟩, ⟨.agg #[], by kernel_rfl, (by simp only [Array.toList, Value.cells, relL_cons, relL_nil, Rel, and_self])⟩, (fun h => by cases h)⟩
theorem vm_ok159 : TIOk Try.prog 159 ⟨.int .u32, 1, [.int .u32 0], 4, none, false⟩ :=
 ⟨by kernel_rfl, by kernel_rfl, Try.underlying159, ⟨.int .u32 0, by kernel_rfl, (by simp only [Array.toList, Value.cells, relL_cons, relL_nil, Rel, and_self])⟩, (fun h => by cases h)⟩
theorem vm_ok160 : TIOk Try.prog 160 ⟨.int .u8, 1, [.int .u8 0], 1, none, false⟩ :=
 ⟨by kernel_rfl, by kernel_rfl, Try.underlying160, ⟨.int .u8 0, by kernel_rfl, (by simp only [Array.toList, Value.cells, relL_cons, relL_nil, Rel, and_self])⟩, (fun h => by cases h)⟩
theorem vm_ok161 : TIOk Try.prog 161 ⟨.int .u8, 1, [.int .u8 0], 1, none, false⟩ :=
 ⟨by kernel_rfl, by kernel_rfl, Try.underlying161, ⟨.int .u8 0, by kernel_rfl, (by simp only [Array.toList, Value.cells, relL_cons, relL_nil, Rel, and_self])⟩, (fun h => by cases h)⟩
theorem vm_ok163 : TIOk Try.prog 163 ⟨.ptr 5, 1, [.nilp], 8, none, false⟩ :=
 ⟨by kernel_rfl, by kernel_rfl, Try.underlying163, ⟨.pointer none, by kernel_rfl, (by simp only [Array.toList, Value.cells, relL_cons, relL_nil, Rel, and_self])⟩, (fun h => by cases h)⟩
theorem vm_ok164 : TIOk Try.prog 164 ⟨.int .i32, 1, [.int .i32 0], 4, none, false⟩ :=
 ⟨by kernel_rfl, by kernel_rfl, Try.underlying164, ⟨.int .i32 0, by kernel_rfl, (by simp only [Array.toList, Value.cells, relL_cons, relL_nil, Rel, and_self])⟩, (fun h => by cases h)⟩
theorem vm_ok165 : TIOk Try.prog 165 ⟨.int .i32, 1, [.int .i32 0], 4, none, false⟩ :=
 ⟨by kernel_rfl, by kernel_rfl, Try.underlying165, ⟨.int .i32 0, by kernel_rfl, (by simp only [Array.toList, Value.cells, relL_cons, relL_nil, Rel, and_self])⟩, (fun h => by cases h)⟩

theorem vmT_ok : ∀ t ti, vmT t = some ti → TIOk Try.prog t ti := by
 intro t ti h
 unfold vmT at h
 split at h <;> first | (cases h; done) | (simp only [Option.some.injEq] at h; subst h)
 · exact vm_ok2
 · exact vm_ok3
 · exact vm_ok4
 · exact vm_ok5
 · exact vm_ok6
 · exact vm_ok7
 · exact vm_ok8
 · exact vm_ok12
 · exact vm_ok15
 · exact vm_ok16
 · exact vm_ok17
 · exact vm_ok18
 · exact vm_ok19
 · exact vm_ok21
 · exact vm_ok22
 · exact vm_ok23
 · exact vm_ok24
 · exact vm_ok25
 · exact vm_ok26
 · exact vm_ok27
 · exact vm_ok30
 · exact vm_ok31
 · exact vm_ok37
 · exact vm_ok40
 · exact vm_ok42
 · exact vm_ok43
 · exact vm_ok44
 · exact vm_ok46
 · exact vm_ok49
 · exact vm_ok50
 · exact vm_ok51
 · exact vm_ok52
 · exact vm_ok55
 · exact vm_ok56
 · exact vm_ok57
 · exact vm_ok59
 · exact vm_ok60
 · exact vm_ok63
 · exact vm_ok64
 · exact vm_ok70
 · exact vm_ok71
 · exact vm_ok72
 · exact vm_ok73
 · exact vm_ok76
 · exact vm_ok77
 · exact vm_ok84
 · exact vm_ok91
 · exact vm_ok92
 · exact vm_ok94
 · exact vm_ok118
 · exact vm_ok119
 · exact vm_ok120
 · exact vm_ok132
 · exact vm_ok135
 · exact vm_ok142
 · exact vm_ok146
 · exact vm_ok147
 · exact vm_ok149
 · exact vm_ok150
 · exact vm_ok156
 · exact vm_ok157
 · exact vm_ok158
 · exact vm_ok159
 · exact vm_ok160
 · exact vm_ok161
 · exact vm_ok163
 · exact vm_ok164
 · exact vm_ok165

end Go.Proofs.Ytimkhidniolpeaa
