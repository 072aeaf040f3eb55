/- Facts on the types of this translation: sizes, zeros, and how two values are compared. -/
import Derived.Test.YtihpfaeabocdbaaQuiet
namespace Go.Proofs.Ytihpfaeabocdbaa
set_option linter.unusedSimpArgs false
set_option linter.unusedVariables false
set_option maxRecDepth 100000
open Go.RowKit

theorem agg_vec : Agg Try.prog 27 3 := ⟨⟨_, Try.underlying27, rfl⟩, by kernel_rfl⟩
theorem zero_vec : (Try.prog.info? 27).bind (·.zero) = some (.agg #[I 0, I 0, I 0]) := by kernel_rfl
theorem agg_pl : Agg Try.prog 30 15 := ⟨⟨_, Try.underlying30, rfl⟩, by kernel_rfl⟩
theorem zero_pl : (Try.prog.info? 30).bind (·.zero) = some (.agg #[I 0, I 0, I 0, I 0, I 0, I 0, I 0, .bool false, I 0, I 0, I 0, I 0, I 0, I 0, I 0]) := by kernel_rfl
theorem agg_map : Agg Try.prog 25 5 := ⟨⟨_, Try.underlying25, rfl⟩, by kernel_rfl⟩
theorem zero_map : (Try.prog.info? 25).bind (·.zero) = some (.agg #[I 0, I 0, I 0, .slice none 0 0, .slice none 0 0]) := by kernel_rfl
theorem agg_cmd : Agg Try.prog 34 5 := ⟨⟨_, Try.underlying34, rfl⟩, by kernel_rfl⟩
theorem zero_cmd : (Try.prog.info? 34).bind (·.zero) = some (.agg #[.int .u16 0, .int .u8 0, .int .i8 0, .int .i8 0, I 0]) := by kernel_rfl
theorem agg_b3 : Agg Try.prog 55 3 := ⟨⟨_, Try.underlying55, rfl⟩, by kernel_rfl⟩
theorem zero_b3 : (Try.prog.info? 55).bind (·.zero) = some (.agg #[.bool false, .bool false, .bool false]) := by kernel_rfl
theorem agg_i3 : Agg Try.prog 64 3 := ⟨⟨_, Try.underlying64, rfl⟩, by kernel_rfl⟩
theorem zero_i3 : (Try.prog.info? 64).bind (·.zero) = some (.agg #[I 0, I 0, I 0]) := by kernel_rfl
theorem agg_i2 : Agg Try.prog 28 2 := ⟨⟨_, Try.underlying28, rfl⟩, by kernel_rfl⟩
theorem zero_i2 : (Try.prog.info? 28).bind (·.zero) = some (.agg #[I 0, I 0]) := by kernel_rfl
theorem agg_p3 : Agg Try.prog 49 3 := ⟨⟨_, Try.underlying49, rfl⟩, by kernel_rfl⟩
theorem zero_p3 : (Try.prog.info? 49).bind (·.zero) = some (.agg #[.pointer none, .pointer none, .pointer none]) := by kernel_rfl
theorem agg_wide : Agg Try.prog 76 2 := ⟨⟨_, Try.underlying76, rfl⟩, by kernel_rfl⟩
theorem zero_wide : (Try.prog.info? 76).bind (·.zero) = some (.agg #[.int .u64 0, .int .u64 0]) := by kernel_rfl
theorem agg_big : Agg Try.prog 82 2 := ⟨⟨_, Try.underlying82, rfl⟩, by kernel_rfl⟩
theorem zero_big : (Try.prog.info? 82).bind (·.zero) = some (.agg #[.bool false, .slice none 0 0]) := by kernel_rfl
theorem one_int : One Try.prog 3 := ⟨⟨_, Try.underlying3, rfl⟩, by kernel_rfl⟩
theorem zero_int : (Try.prog.info? 3).bind (·.zero) = some (I 0) := by kernel_rfl
theorem one_int64 : One Try.prog 2 := ⟨⟨_, Try.underlying2, rfl⟩, by kernel_rfl⟩
theorem zero_int64 : (Try.prog.info? 2).bind (·.zero) = some (I 0) := by kernel_rfl
theorem one_bool : One Try.prog 4 := ⟨⟨_, Try.underlying4, rfl⟩, by kernel_rfl⟩
theorem zero_bool : (Try.prog.info? 4).bind (·.zero) = some (.bool false) := by kernel_rfl
theorem one_uint8 : One Try.prog 5 := ⟨⟨_, Try.underlying5, rfl⟩, by kernel_rfl⟩
theorem zero_uint8 : (Try.prog.info? 5).bind (·.zero) = some (.int .u8 0) := by kernel_rfl
theorem one_int8 : One Try.prog 32 := ⟨⟨_, Try.underlying32, rfl⟩, by kernel_rfl⟩
theorem zero_int8 : (Try.prog.info? 32).bind (·.zero) = some (.int .i8 0) := by kernel_rfl
theorem one_uint16 : One Try.prog 31 := ⟨⟨_, Try.underlying31, rfl⟩, by kernel_rfl⟩
theorem zero_uint16 : (Try.prog.info? 31).bind (·.zero) = some (.int .u16 0) := by kernel_rfl
theorem one_uint64 : One Try.prog 74 := ⟨⟨_, Try.underlying74, rfl⟩, by kernel_rfl⟩
theorem zero_uint64 : (Try.prog.info? 74).bind (·.zero) = some (.int .u64 0) := by kernel_rfl
theorem one_int32 : One Try.prog 21 := ⟨⟨_, Try.underlying21, rfl⟩, by kernel_rfl⟩
theorem zero_int32 : (Try.prog.info? 21).bind (·.zero) = some (.int .i32 0) := by kernel_rfl
theorem one_errno : One Try.prog 46 := ⟨⟨_, Try.underlying46, rfl⟩, by kernel_rfl⟩
theorem zero_errno : (Try.prog.info? 46).bind (·.zero) = some (I 0) := by kernel_rfl
theorem one_bools : One Try.prog 22 := ⟨⟨_, Try.underlying22, rfl⟩, by kernel_rfl⟩
theorem zero_bools : (Try.prog.info? 22).bind (·.zero) = some (.slice none 0 0) := by kernel_rfl
theorem one_vecs : One Try.prog 23 := ⟨⟨_, Try.underlying23, rfl⟩, by kernel_rfl⟩
theorem zero_vecs : (Try.prog.info? 23).bind (·.zero) = some (.slice none 0 0) := by kernel_rfl
theorem one_uint64s : One Try.prog 80 := ⟨⟨_, Try.underlying80, rfl⟩, by kernel_rfl⟩
theorem zero_uint64s : (Try.prog.info? 80).bind (·.zero) = some (.slice none 0 0) := by kernel_rfl
theorem one_pint64 : One Try.prog 48 := ⟨⟨_, Try.underlying48, rfl⟩, by kernel_rfl⟩
theorem zero_pint64 : (Try.prog.info? 48).bind (·.zero) = some (.pointer none) := by kernel_rfl

theorem eqb_vec (d : Nat) (w : World) (a0 a1 a2 b0 b1 b2 : Int) : (Op.equalIn (d + 2) 27 (.agg #[I a0, I a1, I a2]) (.agg #[I b0, I b1, I b2])).run Try.prog w = .ok (decide ((⟨a0, a1, a2⟩ : V3) = ⟨b0, b1, b2⟩)) w := by
  have h := eqs_of (P := Try.prog) (d := d + 1) (xs := #[I a0, I a1, I a2]) (ys := #[I b0, I b1, I b2]) w Try.underlying27 (by kernel_rfl) (eqf_cons w rfl (part_one one_int64 w _ _ rfl) (part_one one_int64 w _ _ rfl) (run_equalIn_int w _ 2 _ _ _ _ Try.underlying2) (eqf_cons w rfl (part_one one_int64 w _ _ rfl) (part_one one_int64 w _ _ rfl) (run_equalIn_int w _ 2 _ _ _ _ Try.underlying2) (eqf_cons w rfl (part_one one_int64 w _ _ rfl) (part_one one_int64 w _ _ rfl) (run_equalIn_int w _ 2 _ _ _ _ Try.underlying2) (eqf_nil _ _ _ w))))
  rw [h]; refine congrArg (fun b => Result.ok b w) ?_; rw [Bool.eq_iff_iff]; simp

theorem eqr_vec (d : Nat) (w : World) (a0 a1 a2 : Int) : (Op.equalIn (d + 2) 27 (.agg #[I a0, I a1, I a2]) (.agg #[I a0, I a1, I a2])).run Try.prog w = .ok true w := by rw [eqb_vec]; simp

theorem guard_vec : Try.prog.eqGuardType Try.prog.depth 27 = false := by kernel_rfl

theorem eqb_i2 (d : Nat) (w : World) (a0 a1 b0 b1 : Int) : (Op.equalIn (d + 2) 28 (.agg #[I a0, I a1]) (.agg #[I b0, I b1])).run Try.prog w = .ok ((a0 == b0) && (a1 == b1)) w :=
  eqa_two (d := d + 1) (n := 1) w Try.underlying28 one_int.size (part_one one_int w _ _ rfl) (part_one one_int w _ _ rfl) (part_one one_int w _ _ rfl) (part_one one_int w _ _ rfl) (run_equalIn_int w _ 3 _ _ _ _ Try.underlying3) (run_equalIn_int w _ 3 _ _ _ _ Try.underlying3)

theorem eqb_b3 (d : Nat) (w : World) (a0 a1 a2 b0 b1 b2 : Bool) : (Op.equalIn (d + 2) 55 (.agg #[.bool a0, .bool a1, .bool a2]) (.agg #[.bool b0, .bool b1, .bool b2])).run Try.prog w = .ok ((a0 == b0) && ((a1 == b1) && (a2 == b2))) w :=
  eqa_three (d := d + 1) (n := 1) w Try.underlying55 one_bool.size (part_one one_bool w _ _ rfl) (part_one one_bool w _ _ rfl) (part_one one_bool w _ _ rfl) (part_one one_bool w _ _ rfl) (part_one one_bool w _ _ rfl) (part_one one_bool w _ _ rfl) (run_equalIn_bool w _ 4 _ _ Try.underlying4) (run_equalIn_bool w _ 4 _ _ Try.underlying4) (run_equalIn_bool w _ 4 _ _ Try.underlying4) 

theorem eqr_b3 (d : Nat) (w : World) (a0 a1 a2 : Bool) : (Op.equalIn (d + 2) 55 (.agg #[.bool a0, .bool a1, .bool a2]) (.agg #[.bool a0, .bool a1, .bool a2])).run Try.prog w = .ok true w := by rw [eqb_b3]; simp

theorem guard_b3 : Try.prog.eqGuardType Try.prog.depth 55 = false := by kernel_rfl

theorem eqb_pl (d : Nat) (w : World) (a0 a1 a2 a3 a4 a5 a6 a8 a9 a10 a11 a12 a13 a14 b0 b1 b2 b3 b4 b5 b6 b8 b9 b10 b11 b12 b13 b14 : Int) (ag bg : Bool) : (Op.equalIn (d + 4) 30 (.agg #[I a0, I a1, I a2, I a3, I a4, I a5, I a6, .bool ag, I a8, I a9, I a10, I a11, I a12, I a13, I a14]) (.agg #[I b0, I b1, I b2, I b3, I b4, I b5, I b6, .bool bg, I b8, I b9, I b10, I b11, I b12, I b13, I b14])).run Try.prog w = .ok (decide ((⟨a0, ⟨a1, a2, a3⟩, ⟨a4, a5, a6⟩, ag, a8, a9, a10, a11, a12, a13, a14⟩ : Pl) = (⟨b0, ⟨b1, b2, b3⟩, ⟨b4, b5, b6⟩, bg, b8, b9, b10, b11, b12, b13, b14⟩ : Pl))) w := by
  have h := eqs_of (P := Try.prog) (d := d + 3) (xs := #[I a0, I a1, I a2, I a3, I a4, I a5, I a6, .bool ag, I a8, I a9, I a10, I a11, I a12, I a13, I a14]) (ys := #[I b0, I b1, I b2, I b3, I b4, I b5, I b6, .bool bg, I b8, I b9, I b10, I b11, I b12, I b13, I b14]) w Try.underlying30 (by kernel_rfl) (eqf_cons w rfl (part_one one_int w _ _ rfl) (part_one one_int w _ _ rfl) (run_equalIn_int w _ 3 _ _ _ _ Try.underlying3) (eqf_cons w rfl (part_agg agg_vec w _ _ rfl) (part_agg agg_vec w _ _ rfl) (eqb_vec _ w _ _ _ _ _ _) (eqf_cons w rfl (part_agg agg_vec w _ _ rfl) (part_agg agg_vec w _ _ rfl) (eqb_vec _ w _ _ _ _ _ _) (eqf_cons w rfl (part_one one_bool w _ _ rfl) (part_one one_bool w _ _ rfl) (run_equalIn_bool w _ 4 _ _ Try.underlying4) (eqf_cons w rfl (part_one one_int w _ _ rfl) (part_one one_int w _ _ rfl) (run_equalIn_int w _ 3 _ _ _ _ Try.underlying3) (eqf_cons w rfl (part_one one_int w _ _ rfl) (part_one one_int w _ _ rfl) (run_equalIn_int w _ 3 _ _ _ _ Try.underlying3) (eqf_cons w rfl (part_one one_int w _ _ rfl) (part_one one_int w _ _ rfl) (run_equalIn_int w _ 3 _ _ _ _ Try.underlying3) (eqf_cons w rfl (part_agg agg_i2 w _ _ rfl) (part_agg agg_i2 w _ _ rfl) (eqb_i2 _ w _ _ _ _) (eqf_cons w rfl (part_one one_int w _ _ rfl) (part_one one_int w _ _ rfl) (run_equalIn_int w _ 3 _ _ _ _ Try.underlying3) (eqf_cons w rfl (part_one one_int w _ _ rfl) (part_one one_int w _ _ rfl) (run_equalIn_int w _ 3 _ _ _ _ Try.underlying3) (eqf_nil _ _ _ w)))))))))))
  rw [h]; refine congrArg (fun b => Result.ok b w) ?_; rw [Bool.eq_iff_iff]; simp only [Bool.and_eq_true, decide_eq_true_eq, beq_iff_eq, Pl.mk.injEq, Bool.and_true]; constructor <;> (intro h; simp_all)

theorem eqr_pl (d : Nat) (w : World) (a0 a1 a2 a3 a4 a5 a6 a8 a9 a10 a11 a12 a13 a14 : Int) (ag : Bool) : (Op.equalIn (d + 4) 30 (.agg #[I a0, I a1, I a2, I a3, I a4, I a5, I a6, .bool ag, I a8, I a9, I a10, I a11, I a12, I a13, I a14]) (.agg #[I a0, I a1, I a2, I a3, I a4, I a5, I a6, .bool ag, I a8, I a9, I a10, I a11, I a12, I a13, I a14])).run Try.prog w = .ok true w := by rw [eqb_pl]; simp

theorem guard_pl : Try.prog.eqGuardType Try.prog.depth 30 = false := by kernel_rfl

end Go.Proofs.Ytihpfaeabocdbaa
