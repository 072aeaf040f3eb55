/- Facts on the types of this translation: sizes, zeros, and how two values are compared. -/
import Derived.Test.YtimkhidniolpeaaQuiet
namespace Go.Proofs.Ytimkhidniolpeaa
set_option linter.unusedSimpArgs false
set_option linter.unusedVariables false
set_option maxRecDepth 100000
set_option maxHeartbeats 0
open Go.RowKit

theorem agg_vec : Agg Try.prog 27 3 := ⟨⟨_, Try.underlying27, rfl⟩, by kernel_rfl⟩
theorem zero_vec : (Try.prog.info? 27).bind (·.zero) = some (.agg #[I 0, I 0, I 0]) := by kernel_rfl
theorem agg_pl : Agg Try.prog 44 15 := ⟨⟨_, Try.underlying44, rfl⟩, by kernel_rfl⟩
theorem zero_pl : (Try.prog.info? 44).bind (·.zero) = some (.agg #[I 0, I 0, I 0, I 0, I 0, I 0, I 0, .bool false, I 0, I 0, I 0, I 0, I 0, I 0, I 0]) := by kernel_rfl
theorem agg_map : Agg Try.prog 25 5 := ⟨⟨_, Try.underlying25, rfl⟩, by kernel_rfl⟩
theorem zero_map : (Try.prog.info? 25).bind (·.zero) = some (.agg #[I 0, I 0, I 0, .slice none 0 0, .slice none 0 0]) := by kernel_rfl
theorem agg_cmd : Agg Try.prog 52 5 := ⟨⟨_, Try.underlying52, rfl⟩, by kernel_rfl⟩
theorem zero_cmd : (Try.prog.info? 52).bind (·.zero) = some (.agg #[.int .u16 0, .int .u8 0, .int .i8 0, .int .i8 0, I 0]) := by kernel_rfl
theorem agg_shot : Agg Try.prog 64 11 := ⟨⟨_, Try.underlying64, rfl⟩, by kernel_rfl⟩
theorem zero_shot : (Try.prog.info? 64).bind (·.zero) = some (.agg #[I 0, I 0, I 0, I 0, I 0, I 0, I 0, I 0, I 0, I 0, .bool false]) := by kernel_rfl
theorem agg_b3 : Agg Try.prog 132 3 := ⟨⟨_, Try.underlying132, rfl⟩, by kernel_rfl⟩
theorem zero_b3 : (Try.prog.info? 132).bind (·.zero) = some (.agg #[.bool false, .bool false, .bool false]) := by kernel_rfl
theorem agg_i3 : Agg Try.prog 142 3 := ⟨⟨_, Try.underlying142, rfl⟩, by kernel_rfl⟩
theorem zero_i3 : (Try.prog.info? 142).bind (·.zero) = some (.agg #[I 0, I 0, I 0]) := by kernel_rfl
theorem agg_i2 : Agg Try.prog 42 2 := ⟨⟨_, Try.underlying42, rfl⟩, by kernel_rfl⟩
theorem zero_i2 : (Try.prog.info? 42).bind (·.zero) = some (.agg #[I 0, I 0]) := by kernel_rfl
theorem agg_p3 : Agg Try.prog 92 3 := ⟨⟨_, Try.underlying92, rfl⟩, by kernel_rfl⟩
theorem zero_p3 : (Try.prog.info? 92).bind (·.zero) = some (.agg #[.pointer none, .pointer none, .pointer none]) := by kernel_rfl
theorem agg_axis : Agg Try.prog 147 4 := ⟨⟨_, Try.underlying147, rfl⟩, by kernel_rfl⟩
theorem zero_axis : (Try.prog.info? 147).bind (·.zero) = some (.agg #[I 0, I 0, I 0, I 0]) := by kernel_rfl
theorem agg_axis3 : Agg Try.prog 149 12 := ⟨⟨_, Try.underlying149, rfl⟩, by kernel_rfl⟩
theorem zero_axis3 : (Try.prog.info? 149).bind (·.zero) = some (.agg #[I 0, I 0, I 0, I 0, I 0, I 0, I 0, I 0, I 0, I 0, I 0, I 0]) := by kernel_rfl
theorem agg_wide : Agg Try.prog 120 2 := ⟨⟨_, Try.underlying120, rfl⟩, by kernel_rfl⟩
theorem zero_wide : (Try.prog.info? 120).bind (·.zero) = some (.agg #[.int .u64 0, .int .u64 0]) := by kernel_rfl
theorem one_int : One Try.prog 3 := ⟨⟨_, Try.underlying3, rfl⟩, by kernel_rfl⟩
theorem zero_int : (Try.prog.info? 3).bind (·.zero) = some (I 0) := by kernel_rfl
theorem one_int64 : One Try.prog 2 := ⟨⟨_, Try.underlying2, rfl⟩, by kernel_rfl⟩
theorem zero_int64 : (Try.prog.info? 2).bind (·.zero) = some (I 0) := by kernel_rfl
theorem one_bool : One Try.prog 4 := ⟨⟨_, Try.underlying4, rfl⟩, by kernel_rfl⟩
theorem zero_bool : (Try.prog.info? 4).bind (·.zero) = some (.bool false) := by kernel_rfl
theorem one_uint8 : One Try.prog 5 := ⟨⟨_, Try.underlying5, rfl⟩, by kernel_rfl⟩
theorem zero_uint8 : (Try.prog.info? 5).bind (·.zero) = some (.int .u8 0) := by kernel_rfl
theorem one_int8 : One Try.prog 50 := ⟨⟨_, Try.underlying50, rfl⟩, by kernel_rfl⟩
theorem zero_int8 : (Try.prog.info? 50).bind (·.zero) = some (.int .i8 0) := by kernel_rfl
theorem one_uint16 : One Try.prog 49 := ⟨⟨_, Try.underlying49, rfl⟩, by kernel_rfl⟩
theorem zero_uint16 : (Try.prog.info? 49).bind (·.zero) = some (.int .u16 0) := by kernel_rfl
theorem one_uint64 : One Try.prog 118 := ⟨⟨_, Try.underlying118, rfl⟩, by kernel_rfl⟩
theorem zero_uint64 : (Try.prog.info? 118).bind (·.zero) = some (.int .u64 0) := by kernel_rfl
theorem one_int32 : One Try.prog 21 := ⟨⟨_, Try.underlying21, rfl⟩, by kernel_rfl⟩
theorem zero_int32 : (Try.prog.info? 21).bind (·.zero) = some (.int .i32 0) := by kernel_rfl
theorem one_errno : One Try.prog 31 := ⟨⟨_, Try.underlying31, rfl⟩, by kernel_rfl⟩
theorem zero_errno : (Try.prog.info? 31).bind (·.zero) = some (I 0) := by kernel_rfl
theorem one_bools : One Try.prog 22 := ⟨⟨_, Try.underlying22, rfl⟩, by kernel_rfl⟩
theorem zero_bools : (Try.prog.info? 22).bind (·.zero) = some (.slice none 0 0) := by kernel_rfl
theorem one_vecs : One Try.prog 23 := ⟨⟨_, Try.underlying23, rfl⟩, by kernel_rfl⟩
theorem zero_vecs : (Try.prog.info? 23).bind (·.zero) = some (.slice none 0 0) := by kernel_rfl
theorem one_pls : One Try.prog 37 := ⟨⟨_, Try.underlying37, rfl⟩, by kernel_rfl⟩
theorem zero_pls : (Try.prog.info? 37).bind (·.zero) = some (.slice none 0 0) := by kernel_rfl
theorem one_shots : One Try.prog 40 := ⟨⟨_, Try.underlying40, rfl⟩, by kernel_rfl⟩
theorem zero_shots : (Try.prog.info? 40).bind (·.zero) = some (.slice none 0 0) := by kernel_rfl
theorem one_pint64 : One Try.prog 91 := ⟨⟨_, Try.underlying91, rfl⟩, by kernel_rfl⟩
theorem zero_pint64 : (Try.prog.info? 91).bind (·.zero) = some (.pointer none) := by kernel_rfl
theorem one_paxis : One Try.prog 150 := ⟨⟨_, Try.underlying150, rfl⟩, by kernel_rfl⟩
theorem zero_paxis : (Try.prog.info? 150).bind (·.zero) = some (.pointer none) := by kernel_rfl

theorem eqb_vec (d : Nat) (w : World) (a0 a1 a2 b0 b1 b2 : Int) : (Op.equalIn (d + 2) 27 (.agg #[I a0, I a1, I a2]) (.agg #[I b0, I b1, I b2])).run Try.prog w = .ok (decide ((⟨a0, a1, a2⟩ : V3) = ⟨b0, b1, b2⟩)) w := by
 have h := eqs_of (P := Try.prog) (d := d + 1) (xs := #[I a0, I a1, I a2]) (ys := #[I b0, I b1, I b2]) w Try.underlying27 (by kernel_rfl) (eqf_cons w rfl (part_one one_int64 w _ _ rfl) (part_one one_int64 w _ _ rfl) (run_equalIn_int w _ 2 _ _ _ _ Try.underlying2) (eqf_cons w rfl (part_one one_int64 w _ _ rfl) (part_one one_int64 w _ _ rfl) (run_equalIn_int w _ 2 _ _ _ _ Try.underlying2) (eqf_cons w rfl (part_one one_int64 w _ _ rfl) (part_one one_int64 w _ _ rfl) (run_equalIn_int w _ 2 _ _ _ _ Try.underlying2) (eqf_nil _ _ _ w))))
 rw [h]; refine congrArg (fun b => Result.ok b w) ?_; rw [Bool.eq_iff_iff]; simp

theorem eqr_vec (d : Nat) (w : World) (a0 a1 a2 : Int) : (Op.equalIn (d + 2) 27 (.agg #[I a0, I a1, I a2]) (.agg #[I a0, I a1, I a2])).run Try.prog w = .ok true w := by rw [eqb_vec]; simp

theorem guard_vec : Try.prog.eqGuardType Try.prog.depth 27 = false := by kernel_rfl

theorem eqb_i2 (d : Nat) (w : World) (a0 a1 b0 b1 : Int) : (Op.equalIn (d + 2) 42 (.agg #[I a0, I a1]) (.agg #[I b0, I b1])).run Try.prog w = .ok ((a0 == b0) && (a1 == b1)) w :=
 eqa_two (d := d + 1) (n := 1) w Try.underlying42 one_int.size (part_one one_int w _ _ rfl) (part_one one_int w _ _ rfl) (part_one one_int w _ _ rfl) (part_one one_int w _ _ rfl) (run_equalIn_int w _ 3 _ _ _ _ Try.underlying3) (run_equalIn_int w _ 3 _ _ _ _ Try.underlying3)

theorem eqb_b3 (d : Nat) (w : World) (a0 a1 a2 b0 b1 b2 : Bool) : (Op.equalIn (d + 2) 132 (.agg #[.bool a0, .bool a1, .bool a2]) (.agg #[.bool b0, .bool b1, .bool b2])).run Try.prog w = .ok ((a0 == b0) && ((a1 == b1) && (a2 == b2))) w :=
 eqa_three (d := d + 1) (n := 1) w Try.underlying132 one_bool.size (part_one one_bool w _ _ rfl) (part_one one_bool w _ _ rfl) (part_one one_bool w _ _ rfl) (part_one one_bool w _ _ rfl) (part_one one_bool w _ _ rfl) (part_one one_bool w _ _ rfl) (run_equalIn_bool w _ 4 _ _ Try.underlying4) (run_equalIn_bool w _ 4 _ _ Try.underlying4) (run_equalIn_bool w _ 4 _ _ Try.underlying4) 

theorem eqr_b3 (d : Nat) (w : World) (a0 a1 a2 : Bool) : (Op.equalIn (d + 2) 132 (.agg #[.bool a0, .bool a1, .bool a2]) (.agg #[.bool a0, .bool a1, .bool a2])).run Try.prog w = .ok true w := by rw [eqb_b3]; simp

theorem guard_b3 : Try.prog.eqGuardType Try.prog.depth 132 = false := by kernel_rfl

theorem eqb_pl (d : Nat) (w : World) (a0 a1 a2 a3 a4 a5 a6 a8 a9 a10 a11 a12 a13 a14 b0 b1 b2 b3 b4 b5 b6 b8 b9 b10 b11 b12 b13 b14 : Int) (ag bg : Bool) : (Op.equalIn (d + 4) 44 (.agg #[I a0, I a1, I a2, I a3, I a4, I a5, I a6, .bool ag, I a8, I a9, I a10, I a11, I a12, I a13, I a14]) (.agg #[I b0, I b1, I b2, I b3, I b4, I b5, I b6, .bool bg, I b8, I b9, I b10, I b11, I b12, I b13, I b14])).run Try.prog w = .ok (decide ((⟨a0, ⟨a1, a2, a3⟩, ⟨a4, a5, a6⟩, ag, a8, a9, a10, a11, a12, a13, a14⟩ : Pl) = (⟨b0, ⟨b1, b2, b3⟩, ⟨b4, b5, b6⟩, bg, b8, b9, b10, b11, b12, b13, b14⟩ : Pl))) w := by
 have h := eqs_of (P := Try.prog) (d := d + 3) (xs := #[I a0, I a1, I a2, I a3, I a4, I a5, I a6, .bool ag, I a8, I a9, I a10, I a11, I a12, I a13, I a14]) (ys := #[I b0, I b1, I b2, I b3, I b4, I b5, I b6, .bool bg, I b8, I b9, I b10, I b11, I b12, I b13, I b14]) w Try.underlying44 (by kernel_rfl) (eqf_cons w rfl (part_one one_int w _ _ rfl) (part_one one_int w _ _ rfl) (run_equalIn_int w _ 3 _ _ _ _ Try.underlying3) (eqf_cons w rfl (part_agg agg_vec w _ _ rfl) (part_agg agg_vec w _ _ rfl) (eqb_vec _ w _ _ _ _ _ _) (eqf_cons w rfl (part_agg agg_vec w _ _ rfl) (part_agg agg_vec w _ _ rfl) (eqb_vec _ w _ _ _ _ _ _) (eqf_cons w rfl (part_one one_bool w _ _ rfl) (part_one one_bool w _ _ rfl) (run_equalIn_bool w _ 4 _ _ Try.underlying4) (eqf_cons w rfl (part_one one_int w _ _ rfl) (part_one one_int w _ _ rfl) (run_equalIn_int w _ 3 _ _ _ _ Try.underlying3) (eqf_cons w rfl (part_one one_int w _ _ rfl) (part_one one_int w _ _ rfl) (run_equalIn_int w _ 3 _ _ _ _ Try.underlying3) (eqf_cons w rfl (part_one one_int w _ _ rfl) (part_one one_int w _ _ rfl) (run_equalIn_int w _ 3 _ _ _ _ Try.underlying3) (eqf_cons w rfl (part_agg agg_i2 w _ _ rfl) (part_agg agg_i2 w _ _ rfl) (eqb_i2 _ w _ _ _ _) (eqf_cons w rfl (part_one one_int w _ _ rfl) (part_one one_int w _ _ rfl) (run_equalIn_int w _ 3 _ _ _ _ Try.underlying3) (eqf_cons w rfl (part_one one_int w _ _ rfl) (part_one one_int w _ _ rfl) (run_equalIn_int w _ 3 _ _ _ _ Try.underlying3) (eqf_nil _ _ _ w)))))))))))
 rw [h]; refine congrArg (fun b => Result.ok b w) ?_; rw [Bool.eq_iff_iff]; simp only [Bool.and_eq_true, decide_eq_true_eq, beq_iff_eq, Pl.mk.injEq, Bool.and_true]; constructor <;> (intro h; simp_all)

theorem eqr_pl (d : Nat) (w : World) (a0 a1 a2 a3 a4 a5 a6 a8 a9 a10 a11 a12 a13 a14 : Int) (ag : Bool) : (Op.equalIn (d + 4) 44 (.agg #[I a0, I a1, I a2, I a3, I a4, I a5, I a6, .bool ag, I a8, I a9, I a10, I a11, I a12, I a13, I a14]) (.agg #[I a0, I a1, I a2, I a3, I a4, I a5, I a6, .bool ag, I a8, I a9, I a10, I a11, I a12, I a13, I a14])).run Try.prog w = .ok true w := by rw [eqb_pl]; simp

theorem guard_pl : Try.prog.eqGuardType Try.prog.depth 44 = false := by kernel_rfl

theorem tab_some {α : Type} {c : Nat} {t : Nat} {x y : α} {e : Option α} (h : (bif Nat.beq t c then some x else e) = some y) : (t = c ∧ x = y) ∨ e = some y := by
 cases hb : Nat.beq t c with
 | true => rw [hb, cond_true] at h; exact .inl ⟨Nat.eq_of_beq_eq_true hb, Option.some.inj h⟩
 | false => rw [hb, cond_false] at h; exact .inr h

theorem tab_true {c : Nat} {t : Nat} {e : Bool} (h : (bif Nat.beq t c then true else e) = true) : t = c ∨ e = true := by
 cases hb : Nat.beq t c with
 | true => exact .inl (Nat.eq_of_beq_eq_true hb)
 | false => rw [hb, cond_false] at h; exact .inr h

def aggT (t : Nat) : Option Nat := bif Nat.beq t 27 then some 3 else bif Nat.beq t 44 then some 15 else bif Nat.beq t 25 then some 5 else bif Nat.beq t 52 then some 5 else bif Nat.beq t 64 then some 11 else bif Nat.beq t 132 then some 3 else bif Nat.beq t 142 then some 3 else bif Nat.beq t 42 then some 2 else bif Nat.beq t 92 then some 3 else bif Nat.beq t 147 then some 4 else bif Nat.beq t 149 then some 12 else bif Nat.beq t 120 then some 2 else none

def oneT (t : Nat) : Bool := bif Nat.beq t 3 then true else bif Nat.beq t 2 then true else bif Nat.beq t 4 then true else bif Nat.beq t 5 then true else bif Nat.beq t 50 then true else bif Nat.beq t 49 then true else bif Nat.beq t 118 then true else bif Nat.beq t 21 then true else bif Nat.beq t 31 then true else bif Nat.beq t 22 then true else bif Nat.beq t 23 then true else bif Nat.beq t 37 then true else bif Nat.beq t 40 then true else bif Nat.beq t 91 then true else bif Nat.beq t 150 then true else false

def zerT (t : Nat) : Option Value := bif Nat.beq t 27 then some (.agg #[I 0, I 0, I 0]) else bif Nat.beq t 44 then some (.agg #[I 0, I 0, I 0, I 0, I 0, I 0, I 0, .bool false, I 0, I 0, I 0, I 0, I 0, I 0, I 0]) else bif Nat.beq t 25 then some (.agg #[I 0, I 0, I 0, .slice none 0 0, .slice none 0 0]) else bif Nat.beq t 52 then some (.agg #[.int .u16 0, .int .u8 0, .int .i8 0, .int .i8 0, I 0]) else bif Nat.beq t 64 then some (.agg #[I 0, I 0, I 0, I 0, I 0, I 0, I 0, I 0, I 0, I 0, .bool false]) else bif Nat.beq t 132 then some (.agg #[.bool false, .bool false, .bool false]) else bif Nat.beq t 142 then some (.agg #[I 0, I 0, I 0]) else bif Nat.beq t 42 then some (.agg #[I 0, I 0]) else bif Nat.beq t 92 then some (.agg #[.pointer none, .pointer none, .pointer none]) else bif Nat.beq t 147 then some (.agg #[I 0, I 0, I 0, I 0]) else bif Nat.beq t 149 then some (.agg #[I 0, I 0, I 0, I 0, I 0, I 0, I 0, I 0, I 0, I 0, I 0, I 0]) else bif Nat.beq t 120 then some (.agg #[.int .u64 0, .int .u64 0]) else bif Nat.beq t 3 then some (I 0) else bif Nat.beq t 2 then some (I 0) else bif Nat.beq t 4 then some (.bool false) else bif Nat.beq t 5 then some (.int .u8 0) else bif Nat.beq t 50 then some (.int .i8 0) else bif Nat.beq t 49 then some (.int .u16 0) else bif Nat.beq t 118 then some (.int .u64 0) else bif Nat.beq t 21 then some (.int .i32 0) else bif Nat.beq t 31 then some (I 0) else bif Nat.beq t 22 then some (.slice none 0 0) else bif Nat.beq t 23 then some (.slice none 0 0) else bif Nat.beq t 37 then some (.slice none 0 0) else bif Nat.beq t 40 then some (.slice none 0 0) else bif Nat.beq t 91 then some (.pointer none) else bif Nat.beq t 150 then some (.pointer none) else none

theorem agg_all (t n : Nat) (h : aggT t = some n) : Agg Try.prog t n := by
 unfold aggT at h
 repeat (rcases tab_some h with ⟨rfl, rfl⟩ | h; first | exact agg_vec | exact agg_pl | exact agg_map | exact agg_cmd | exact agg_shot | exact agg_b3 | exact agg_i3 | exact agg_i2 | exact agg_p3 | exact agg_axis | exact agg_axis3 | exact agg_wide)
 cases h

theorem one_all (t : Nat) (h : oneT t = true) : One Try.prog t := by
 unfold oneT at h
 repeat (rcases tab_true h with rfl | h; first | exact one_int | exact one_int64 | exact one_bool | exact one_uint8 | exact one_int8 | exact one_uint16 | exact one_uint64 | exact one_int32 | exact one_errno | exact one_bools | exact one_vecs | exact one_pls | exact one_shots | exact one_pint64 | exact one_paxis)
 cases h

theorem zero_all (t : Nat) (v : Value) (h : zerT t = some v) : (Try.prog.info? t).bind (·.zero) = some v := by
 unfold zerT at h
 repeat (rcases tab_some h with ⟨rfl, rfl⟩ | h; first | exact zero_vec | exact zero_pl | exact zero_map | exact zero_cmd | exact zero_shot | exact zero_b3 | exact zero_i3 | exact zero_i2 | exact zero_p3 | exact zero_axis | exact zero_axis3 | exact zero_wide | exact zero_int | exact zero_int64 | exact zero_bool | exact zero_uint8 | exact zero_int8 | exact zero_uint16 | exact zero_uint64 | exact zero_int32 | exact zero_errno | exact zero_bools | exact zero_vecs | exact zero_pls | exact zero_shots | exact zero_pint64 | exact zero_paxis)
 cases h

end Go.Proofs.Ytimkhidniolpeaa
