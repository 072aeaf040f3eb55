/- Facts on the types of this translation: sizes, zeros, and how two values are compared. -/
import Derived.Test.YtegafbkjdkpfiaaQuiet
namespace Go.Proofs.Ytegafbkjdkpfiaa
set_option linter.unusedSimpArgs false
set_option linter.unusedVariables false
open Go.RowKit

theorem agg_vec : Agg Try.prog 25 3 := ⟨⟨_, Try.underlying25, rfl⟩, by kernel_rfl⟩
theorem zero_vec : (Try.prog.info? 25).bind (·.zero) = some (.agg #[I 0, I 0, I 0]) := by kernel_rfl
theorem agg_wide : Agg Try.prog 43 2 := ⟨⟨_, Try.underlying43, rfl⟩, by kernel_rfl⟩
theorem zero_wide : (Try.prog.info? 43).bind (·.zero) = some (.agg #[.int .u64 0, .int .u64 0]) := by kernel_rfl
theorem agg_big : Agg Try.prog 57 2 := ⟨⟨_, Try.underlying57, rfl⟩, by kernel_rfl⟩
theorem zero_big : (Try.prog.info? 57).bind (·.zero) = some (.agg #[.bool false, .slice none 0 0]) := by kernel_rfl
theorem one_int : One Try.prog 3 := ⟨⟨_, Try.underlying3, rfl⟩, by kernel_rfl⟩
theorem zero_int : (Try.prog.info? 3).bind (·.zero) = some (I 0) := by kernel_rfl
theorem one_int64 : One Try.prog 2 := ⟨⟨_, Try.underlying2, rfl⟩, by kernel_rfl⟩
theorem zero_int64 : (Try.prog.info? 2).bind (·.zero) = some (I 0) := by kernel_rfl
theorem one_bool : One Try.prog 4 := ⟨⟨_, Try.underlying4, rfl⟩, by kernel_rfl⟩
theorem zero_bool : (Try.prog.info? 4).bind (·.zero) = some (.bool false) := by kernel_rfl
theorem one_uint8 : One Try.prog 5 := ⟨⟨_, Try.underlying5, rfl⟩, by kernel_rfl⟩
theorem zero_uint8 : (Try.prog.info? 5).bind (·.zero) = some (.int .u8 0) := by kernel_rfl
theorem one_uint64 : One Try.prog 40 := ⟨⟨_, Try.underlying40, rfl⟩, by kernel_rfl⟩
theorem zero_uint64 : (Try.prog.info? 40).bind (·.zero) = some (.int .u64 0) := by kernel_rfl
theorem one_int32 : One Try.prog 21 := ⟨⟨_, Try.underlying21, rfl⟩, by kernel_rfl⟩
theorem zero_int32 : (Try.prog.info? 21).bind (·.zero) = some (.int .i32 0) := by kernel_rfl
theorem one_uint64s : One Try.prog 55 := ⟨⟨_, Try.underlying55, rfl⟩, by kernel_rfl⟩
theorem zero_uint64s : (Try.prog.info? 55).bind (·.zero) = some (.slice none 0 0) := by kernel_rfl

theorem eqb_vec (d : Nat) (w : World) (a0 a1 a2 b0 b1 b2 : Int) : (Op.equalIn (d + 2) 25 (.agg #[I a0, I a1, I a2]) (.agg #[I b0, I b1, I b2])).run Try.prog w = .ok (decide ((⟨a0, a1, a2⟩ : V3) = ⟨b0, b1, b2⟩)) w := by
  have h := eqs_of (P := Try.prog) (d := d + 1) (xs := #[I a0, I a1, I a2]) (ys := #[I b0, I b1, I b2]) w Try.underlying25 (by kernel_rfl) (eqf_cons w rfl (part_one one_int64 w _ _ rfl) (part_one one_int64 w _ _ rfl) (run_equalIn_int w _ 2 _ _ _ _ Try.underlying2) (eqf_cons w rfl (part_one one_int64 w _ _ rfl) (part_one one_int64 w _ _ rfl) (run_equalIn_int w _ 2 _ _ _ _ Try.underlying2) (eqf_cons w rfl (part_one one_int64 w _ _ rfl) (part_one one_int64 w _ _ rfl) (run_equalIn_int w _ 2 _ _ _ _ Try.underlying2) (eqf_nil _ _ _ w))))
  rw [h]; refine congrArg (fun b => Result.ok b w) ?_; rw [Bool.eq_iff_iff]; simp

theorem eqr_vec (d : Nat) (w : World) (a0 a1 a2 : Int) : (Op.equalIn (d + 2) 25 (.agg #[I a0, I a1, I a2]) (.agg #[I a0, I a1, I a2])).run Try.prog w = .ok true w := by rw [eqb_vec]; simp

theorem guard_vec : Try.prog.eqGuardType Try.prog.depth 25 = false := by kernel_rfl

end Go.Proofs.Ytegafbkjdkpfiaa
