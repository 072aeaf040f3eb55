/- Facts on the types of this translation: sizes, zeros, and how two values are compared. -/
import Derived.Test.YtnfhlfmcgeaagaaQuiet
namespace Go.Proofs.Ytnfhlfmcgeaagaa
set_option linter.unusedSimpArgs false
set_option linter.unusedVariables false
open Go.RowKit

theorem agg_vec : Agg Try.prog 27 3 := ⟨⟨_, Try.underlying27, rfl⟩, by kernel_rfl⟩
theorem zero_vec : (Try.prog.info? 27).bind (·.zero) = some (.agg #[I 0, I 0, I 0]) := by kernel_rfl
theorem agg_map : Agg Try.prog 25 5 := ⟨⟨_, Try.underlying25, rfl⟩, by kernel_rfl⟩
theorem zero_map : (Try.prog.info? 25).bind (·.zero) = some (.agg #[I 0, I 0, I 0, .slice none 0 0, .slice none 0 0]) := by kernel_rfl
theorem agg_b3 : Agg Try.prog 30 3 := ⟨⟨_, Try.underlying30, rfl⟩, by kernel_rfl⟩
theorem zero_b3 : (Try.prog.info? 30).bind (·.zero) = some (.agg #[.bool false, .bool false, .bool false]) := by kernel_rfl
theorem agg_i3 : Agg Try.prog 44 3 := ⟨⟨_, Try.underlying44, rfl⟩, by kernel_rfl⟩
theorem zero_i3 : (Try.prog.info? 44).bind (·.zero) = some (.agg #[I 0, I 0, I 0]) := by kernel_rfl
theorem agg_p3 : Agg Try.prog 43 3 := ⟨⟨_, Try.underlying43, rfl⟩, by kernel_rfl⟩
theorem zero_p3 : (Try.prog.info? 43).bind (·.zero) = some (.agg #[.pointer none, .pointer none, .pointer none]) := by kernel_rfl
theorem agg_axis : Agg Try.prog 52 4 := ⟨⟨_, Try.underlying52, rfl⟩, by kernel_rfl⟩
theorem zero_axis : (Try.prog.info? 52).bind (·.zero) = some (.agg #[I 0, I 0, I 0, I 0]) := by kernel_rfl
theorem agg_axis3 : Agg Try.prog 54 12 := ⟨⟨_, Try.underlying54, rfl⟩, by kernel_rfl⟩
theorem zero_axis3 : (Try.prog.info? 54).bind (·.zero) = some (.agg #[I 0, I 0, I 0, I 0, I 0, I 0, I 0, I 0, I 0, I 0, I 0, I 0]) := by kernel_rfl
theorem agg_wide : Agg Try.prog 62 2 := ⟨⟨_, Try.underlying62, rfl⟩, by kernel_rfl⟩
theorem zero_wide : (Try.prog.info? 62).bind (·.zero) = some (.agg #[.int .u64 0, .int .u64 0]) := by kernel_rfl
theorem agg_big : Agg Try.prog 68 2 := ⟨⟨_, Try.underlying68, rfl⟩, by kernel_rfl⟩
theorem zero_big : (Try.prog.info? 68).bind (·.zero) = some (.agg #[.bool false, .slice none 0 0]) := by kernel_rfl
theorem one_int : One Try.prog 3 := ⟨⟨_, Try.underlying3, rfl⟩, by kernel_rfl⟩
theorem zero_int : (Try.prog.info? 3).bind (·.zero) = some (I 0) := by kernel_rfl
theorem one_int64 : One Try.prog 2 := ⟨⟨_, Try.underlying2, rfl⟩, by kernel_rfl⟩
theorem zero_int64 : (Try.prog.info? 2).bind (·.zero) = some (I 0) := by kernel_rfl
theorem one_bool : One Try.prog 4 := ⟨⟨_, Try.underlying4, rfl⟩, by kernel_rfl⟩
theorem zero_bool : (Try.prog.info? 4).bind (·.zero) = some (.bool false) := by kernel_rfl
theorem one_uint8 : One Try.prog 5 := ⟨⟨_, Try.underlying5, rfl⟩, by kernel_rfl⟩
theorem zero_uint8 : (Try.prog.info? 5).bind (·.zero) = some (.int .u8 0) := by kernel_rfl
theorem one_uint64 : One Try.prog 60 := ⟨⟨_, Try.underlying60, rfl⟩, by kernel_rfl⟩
theorem zero_uint64 : (Try.prog.info? 60).bind (·.zero) = some (.int .u64 0) := by kernel_rfl
theorem one_int32 : One Try.prog 21 := ⟨⟨_, Try.underlying21, rfl⟩, by kernel_rfl⟩
theorem zero_int32 : (Try.prog.info? 21).bind (·.zero) = some (.int .i32 0) := by kernel_rfl
theorem one_bools : One Try.prog 22 := ⟨⟨_, Try.underlying22, rfl⟩, by kernel_rfl⟩
theorem zero_bools : (Try.prog.info? 22).bind (·.zero) = some (.slice none 0 0) := by kernel_rfl
theorem one_vecs : One Try.prog 23 := ⟨⟨_, Try.underlying23, rfl⟩, by kernel_rfl⟩
theorem zero_vecs : (Try.prog.info? 23).bind (·.zero) = some (.slice none 0 0) := by kernel_rfl
theorem one_int64s : One Try.prog 39 := ⟨⟨_, Try.underlying39, rfl⟩, by kernel_rfl⟩
theorem zero_int64s : (Try.prog.info? 39).bind (·.zero) = some (.slice none 0 0) := by kernel_rfl
theorem one_uint64s : One Try.prog 66 := ⟨⟨_, Try.underlying66, rfl⟩, by kernel_rfl⟩
theorem zero_uint64s : (Try.prog.info? 66).bind (·.zero) = some (.slice none 0 0) := by kernel_rfl
theorem one_pint64 : One Try.prog 42 := ⟨⟨_, Try.underlying42, rfl⟩, by kernel_rfl⟩
theorem zero_pint64 : (Try.prog.info? 42).bind (·.zero) = some (.pointer none) := by kernel_rfl
theorem one_paxis : One Try.prog 55 := ⟨⟨_, Try.underlying55, rfl⟩, by kernel_rfl⟩
theorem zero_paxis : (Try.prog.info? 55).bind (·.zero) = some (.pointer none) := by kernel_rfl

theorem eqb_vec (d : Nat) (w : World) (a0 a1 a2 b0 b1 b2 : Int) : (Op.equalIn (d + 2) 27 (.agg #[I a0, I a1, I a2]) (.agg #[I b0, I b1, I b2])).run Try.prog w = .ok (decide ((⟨a0, a1, a2⟩ : V3) = ⟨b0, b1, b2⟩)) w := by
  have h := eqs_of (P := Try.prog) (d := d + 1) (xs := #[I a0, I a1, I a2]) (ys := #[I b0, I b1, I b2]) w Try.underlying27 (by kernel_rfl) (eqf_cons w rfl (part_one one_int64 w _ _ rfl) (part_one one_int64 w _ _ rfl) (run_equalIn_int w _ 2 _ _ _ _ Try.underlying2) (eqf_cons w rfl (part_one one_int64 w _ _ rfl) (part_one one_int64 w _ _ rfl) (run_equalIn_int w _ 2 _ _ _ _ Try.underlying2) (eqf_cons w rfl (part_one one_int64 w _ _ rfl) (part_one one_int64 w _ _ rfl) (run_equalIn_int w _ 2 _ _ _ _ Try.underlying2) (eqf_nil _ _ _ w))))
  rw [h]; refine congrArg (fun b => Result.ok b w) ?_; rw [Bool.eq_iff_iff]; simp

theorem eqr_vec (d : Nat) (w : World) (a0 a1 a2 : Int) : (Op.equalIn (d + 2) 27 (.agg #[I a0, I a1, I a2]) (.agg #[I a0, I a1, I a2])).run Try.prog w = .ok true w := by rw [eqb_vec]; simp

theorem guard_vec : Try.prog.eqGuardType Try.prog.depth 27 = false := by kernel_rfl

theorem eqb_b3 (d : Nat) (w : World) (a0 a1 a2 b0 b1 b2 : Bool) : (Op.equalIn (d + 2) 30 (.agg #[.bool a0, .bool a1, .bool a2]) (.agg #[.bool b0, .bool b1, .bool b2])).run Try.prog w = .ok ((a0 == b0) && ((a1 == b1) && (a2 == b2))) w :=
  eqa_three (d := d + 1) (n := 1) w Try.underlying30 one_bool.size (part_one one_bool w _ _ rfl) (part_one one_bool w _ _ rfl) (part_one one_bool w _ _ rfl) (part_one one_bool w _ _ rfl) (part_one one_bool w _ _ rfl) (part_one one_bool w _ _ rfl) (run_equalIn_bool w _ 4 _ _ Try.underlying4) (run_equalIn_bool w _ 4 _ _ Try.underlying4) (run_equalIn_bool w _ 4 _ _ Try.underlying4) 

theorem eqr_b3 (d : Nat) (w : World) (a0 a1 a2 : Bool) : (Op.equalIn (d + 2) 30 (.agg #[.bool a0, .bool a1, .bool a2]) (.agg #[.bool a0, .bool a1, .bool a2])).run Try.prog w = .ok true w := by rw [eqb_b3]; simp

theorem guard_b3 : Try.prog.eqGuardType Try.prog.depth 30 = false := by kernel_rfl

end Go.Proofs.Ytnfhlfmcgeaagaa
