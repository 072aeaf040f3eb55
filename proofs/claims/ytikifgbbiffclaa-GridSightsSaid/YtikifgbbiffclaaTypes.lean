/- Facts on the types of this translation: sizes, zeros, and how two values are compared. -/
import Derived.Test.YtikifgbbiffclaaQuiet
namespace Go.Proofs.Ytikifgbbiffclaa
set_option linter.unusedSimpArgs false
set_option linter.unusedVariables false
open Go.RowKit

theorem agg_vec : Agg Try.prog 27 3 := ⟨⟨_, Try.underlying27, rfl⟩, by kernel_rfl⟩
theorem zero_vec : (Try.prog.info? 27).bind (·.zero) = some (.agg #[I 0, I 0, I 0]) := by kernel_rfl
theorem agg_map : Agg Try.prog 25 5 := ⟨⟨_, Try.underlying25, rfl⟩, by kernel_rfl⟩
theorem zero_map : (Try.prog.info? 25).bind (·.zero) = some (.agg #[I 0, I 0, I 0, .slice none 0 0, .slice none 0 0]) := by kernel_rfl
theorem agg_axis : Agg Try.prog 55 4 := ⟨⟨_, Try.underlying55, rfl⟩, by kernel_rfl⟩
theorem zero_axis : (Try.prog.info? 55).bind (·.zero) = some (.agg #[I 0, I 0, I 0, I 0]) := by kernel_rfl
theorem agg_axis3 : Agg Try.prog 57 12 := ⟨⟨_, Try.underlying57, rfl⟩, by kernel_rfl⟩
theorem zero_axis3 : (Try.prog.info? 57).bind (·.zero) = some (.agg #[I 0, I 0, I 0, I 0, I 0, I 0, I 0, I 0, I 0, I 0, I 0, I 0]) := by kernel_rfl
theorem agg_wide : Agg Try.prog 75 2 := ⟨⟨_, Try.underlying75, rfl⟩, by kernel_rfl⟩
theorem zero_wide : (Try.prog.info? 75).bind (·.zero) = some (.agg #[.int .u64 0, .int .u64 0]) := by kernel_rfl
theorem agg_big : Agg Try.prog 80 2 := ⟨⟨_, Try.underlying80, rfl⟩, by kernel_rfl⟩
theorem zero_big : (Try.prog.info? 80).bind (·.zero) = some (.agg #[.bool false, .slice none 0 0]) := by kernel_rfl
theorem agg_part : Agg Try.prog 62 2 := ⟨⟨_, Try.underlying62, rfl⟩, by kernel_rfl⟩
theorem zero_part : (Try.prog.info? 62).bind (·.zero) = some (.agg #[I 0, I 0]) := by kernel_rfl
theorem one_int : One Try.prog 3 := ⟨⟨_, Try.underlying3, rfl⟩, by kernel_rfl⟩
theorem zero_int : (Try.prog.info? 3).bind (·.zero) = some (I 0) := by kernel_rfl
theorem one_int64 : One Try.prog 2 := ⟨⟨_, Try.underlying2, rfl⟩, by kernel_rfl⟩
theorem zero_int64 : (Try.prog.info? 2).bind (·.zero) = some (I 0) := by kernel_rfl
theorem one_bool : One Try.prog 4 := ⟨⟨_, Try.underlying4, rfl⟩, by kernel_rfl⟩
theorem zero_bool : (Try.prog.info? 4).bind (·.zero) = some (.bool false) := by kernel_rfl
theorem one_uint8 : One Try.prog 5 := ⟨⟨_, Try.underlying5, rfl⟩, by kernel_rfl⟩
theorem zero_uint8 : (Try.prog.info? 5).bind (·.zero) = some (.int .u8 0) := by kernel_rfl
theorem one_uint64 : One Try.prog 73 := ⟨⟨_, Try.underlying73, rfl⟩, by kernel_rfl⟩
theorem zero_uint64 : (Try.prog.info? 73).bind (·.zero) = some (.int .u64 0) := by kernel_rfl
theorem one_int16 : One Try.prog 43 := ⟨⟨_, Try.underlying43, rfl⟩, by kernel_rfl⟩
theorem zero_int16 : (Try.prog.info? 43).bind (·.zero) = some (.int .i16 0) := by kernel_rfl
theorem one_int32 : One Try.prog 21 := ⟨⟨_, Try.underlying21, rfl⟩, by kernel_rfl⟩
theorem zero_int32 : (Try.prog.info? 21).bind (·.zero) = some (.int .i32 0) := by kernel_rfl
theorem one_errno : One Try.prog 33 := ⟨⟨_, Try.underlying33, rfl⟩, by kernel_rfl⟩
theorem zero_errno : (Try.prog.info? 33).bind (·.zero) = some (I 0) := by kernel_rfl
theorem one_bools : One Try.prog 22 := ⟨⟨_, Try.underlying22, rfl⟩, by kernel_rfl⟩
theorem zero_bools : (Try.prog.info? 22).bind (·.zero) = some (.slice none 0 0) := by kernel_rfl
theorem one_vecs : One Try.prog 23 := ⟨⟨_, Try.underlying23, rfl⟩, by kernel_rfl⟩
theorem zero_vecs : (Try.prog.info? 23).bind (·.zero) = some (.slice none 0 0) := by kernel_rfl
theorem one_uint64s : One Try.prog 78 := ⟨⟨_, Try.underlying78, rfl⟩, by kernel_rfl⟩
theorem zero_uint64s : (Try.prog.info? 78).bind (·.zero) = some (.slice none 0 0) := by kernel_rfl
theorem one_parts : One Try.prog 63 := ⟨⟨_, Try.underlying63, rfl⟩, by kernel_rfl⟩
theorem zero_parts : (Try.prog.info? 63).bind (·.zero) = some (.slice none 0 0) := by kernel_rfl
theorem one_paxis : One Try.prog 58 := ⟨⟨_, Try.underlying58, rfl⟩, by kernel_rfl⟩
theorem zero_paxis : (Try.prog.info? 58).bind (·.zero) = some (.pointer none) := by kernel_rfl

theorem eqb_vec (d : Nat) (w : World) (a0 a1 a2 b0 b1 b2 : Int) : (Op.equalIn (d + 2) 27 (.agg #[I a0, I a1, I a2]) (.agg #[I b0, I b1, I b2])).run Try.prog w = .ok (decide ((⟨a0, a1, a2⟩ : V3) = ⟨b0, b1, b2⟩)) w := by
  have h := eqs_of (P := Try.prog) (d := d + 1) (xs := #[I a0, I a1, I a2]) (ys := #[I b0, I b1, I b2]) w Try.underlying27 (by kernel_rfl) (eqf_cons w rfl (part_one one_int64 w _ _ rfl) (part_one one_int64 w _ _ rfl) (run_equalIn_int w _ 2 _ _ _ _ Try.underlying2) (eqf_cons w rfl (part_one one_int64 w _ _ rfl) (part_one one_int64 w _ _ rfl) (run_equalIn_int w _ 2 _ _ _ _ Try.underlying2) (eqf_cons w rfl (part_one one_int64 w _ _ rfl) (part_one one_int64 w _ _ rfl) (run_equalIn_int w _ 2 _ _ _ _ Try.underlying2) (eqf_nil _ _ _ w))))
  rw [h]; refine congrArg (fun b => Result.ok b w) ?_; rw [Bool.eq_iff_iff]; simp

theorem eqr_vec (d : Nat) (w : World) (a0 a1 a2 : Int) : (Op.equalIn (d + 2) 27 (.agg #[I a0, I a1, I a2]) (.agg #[I a0, I a1, I a2])).run Try.prog w = .ok true w := by rw [eqb_vec]; simp

theorem guard_vec : Try.prog.eqGuardType Try.prog.depth 27 = false := by kernel_rfl

end Go.Proofs.Ytikifgbbiffclaa
