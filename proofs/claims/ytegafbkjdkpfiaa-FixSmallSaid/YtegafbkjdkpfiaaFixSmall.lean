/- FixSmall of embrasurelaw01 returns true, for every two numbers of 32 bits. No condition. -/
import Derived.Test.YtegafbkjdkpfiaaFixAway
import Derived.Deep.Cut
import Derived.Deep.CutRange
namespace Go.Proofs.Ytegafbkjdkpfiaa
set_option linter.unusedSimpArgs false
set_option linter.unusedVariables false
open Go.RowKit

theorem tdiv_signed (X Y : Int) : X.tdiv Y = if (decide (X < 0) == decide (Y < 0)) = true then ((X.natAbs / Y.natAbs : Nat) : Int) else -((X.natAbs / Y.natAbs : Nat) : Int) := by
  have key : ∀ m n : Nat, ((m : Int)).tdiv (n : Int) = ((m / n : Nat) : Int) := fun m n => (Int.ofNat_tdiv m n).symm
  rcases Int.lt_or_le X 0 with hx | hx <;> rcases Int.lt_or_le Y 0 with hy | hy
  · rw [decide_eq_true hx, decide_eq_true hy, if_pos (by decide), ← key]
    rw [show ((X.natAbs : Nat) : Int) = -X by omega, show ((Y.natAbs : Nat) : Int) = -Y by omega, Int.neg_tdiv, Int.tdiv_neg, Int.neg_neg]
  · rw [decide_eq_true hx, decide_eq_false (by omega), if_neg (by decide), ← key]
    rw [show ((X.natAbs : Nat) : Int) = -X by omega, show ((Y.natAbs : Nat) : Int) = Y by omega, Int.neg_tdiv, Int.neg_neg]
  · rw [decide_eq_false (by omega), decide_eq_true hy, if_neg (by decide), ← key]
    rw [show ((X.natAbs : Nat) : Int) = X by omega, show ((Y.natAbs : Nat) : Int) = -Y by omega, Int.tdiv_neg, Int.neg_neg]
  · rw [decide_eq_false (by omega), decide_eq_false (by omega), if_pos (by decide), ← key]
    rw [show ((X.natAbs : Nat) : Int) = X by omega, show ((Y.natAbs : Nat) : Int) = Y by omega]

theorem signedN_small {n : Nat} (h : n ≤ 9223372036854775807) (s : Bool) : signedN n s = if s = true then -(n : Int) else (n : Int) := by
  unfold signedN
  cases s
  · rw [if_neg (by decide), if_neg (by decide)]; omega
  · rw [if_pos rfl, if_pos rfl]; omega

theorem small_div {X Y : Int} (hX : X.natAbs ≤ 536870912) (hY : Y ≠ 0) : divN X Y = (X * 65536).tdiv Y := by
  have hn : (X * 65536).natAbs = X.natAbs * 65536 := by rw [Int.natAbs_mul]; rfl
  have hq : X.natAbs * 65536 / Y.natAbs ≤ X.natAbs * 65536 := Nat.div_le_self _ _
  rw [tdiv_signed, hn]
  unfold divN
  by_cases h0 : X = 0
  · rw [if_pos h0, h0]
    simp
  · rw [if_neg h0, if_neg hY, signedN_small (by omega), show decide (X * 65536 < 0) = decide (X < 0) by rw [decide_eq_decide]; omega]
    cases decide (X < 0) == decide (Y < 0) <;> simp

theorem small_mul {X Y : Int} (hX : X.natAbs ≤ 536870912) (hY : Y.natAbs ≤ 536870912) : mul16 X Y = (X * Y).tdiv 65536 := by
  have hm : X.natAbs * Y.natAbs ≤ 536870912 * 536870912 := Nat.mul_le_mul hX hY
  have hn : (X * Y).natAbs = X.natAbs * Y.natAbs := Int.natAbs_mul X Y
  have hq : X.natAbs * Y.natAbs / 65536 ≤ X.natAbs * Y.natAbs := Nat.div_le_self _ _
  rw [tdiv_signed, hn]
  unfold mul16
  rw [signedN_small (by omega), show (65536 : Int).natAbs = 65536 from rfl, show decide ((65536 : Int) < 0) = false from rfl]
  by_cases h0 : X = 0
  · subst h0; simp
  · by_cases h1 : Y = 0
    · subst h1; simp
    · have hs : decide (X * Y < 0) = !(decide (X < 0) == decide (Y < 0)) := by
        rcases Int.lt_or_le X 0 with hx | hx <;> rcases Int.lt_or_le Y 0 with hy | hy
        · rw [decide_eq_true hx, decide_eq_true hy, decide_eq_false (by have := Int.mul_pos_of_neg_of_neg hx hy; omega)]; rfl
        · rw [decide_eq_true hx, decide_eq_false (show ¬ Y < 0 by omega), decide_eq_true (Int.mul_neg_of_neg_of_pos hx (by omega))]; rfl
        · rw [decide_eq_false (show ¬ X < 0 by omega), decide_eq_true hy, decide_eq_true (Int.mul_neg_of_pos_of_neg (by omega) hy)]; rfl
        · rw [decide_eq_false (show ¬ X < 0 by omega), decide_eq_false (show ¬ Y < 0 by omega), decide_eq_false (by have := Int.mul_nonneg hx hy; omega)]; rfl
      rw [hs]
      cases decide (X < 0) == decide (Y < 0) <;> simp

section
variable {ops : Array Oper} {rest : List Oper} {o : Oper} {a : Act} {w : World} {Q : Exit → Act → World → Prop}
/-- A quotient of two numbers, the second not 0. -/
theorem own_iquo (hw : Region.wanted o (yielded ops a.tmps) = true) {x y : Operand} {ty : TypeId} (ho : o.op = .binOp .quo 2 x y ty) {p q : Int} (hx : a.eval x = .int .i64 p) (hy : a.eval y = .int .i64 q) (hq : q ≠ 0)
    (h : wpList Try.prog ops Q rest (a.put o.dst (I (IntKind.i64.wrap (p.tdiv q)))) w) : wpList Try.prog ops Q (o :: rest) a w := by
  refine own_pure hw (fun w => ?_) h
  generalize a.eval = ev at hx hy ⊢
  unfold execOp; rw [ho]
  simp [go_sem, hx, hy, hq]
end

/-- What is left of a division. -/
theorem rest_small {Z Y : Int} (hY : Y ≠ 0) : ((Z.tdiv Y) * Y).natAbs ≤ Z.natAbs ∧ (Z - Z.tdiv Y * Y).natAbs < Y.natAbs := by
  have e : Z - Z.tdiv Y * Y = Z.tmod Y := by
    have := Int.mul_tdiv_add_tmod Z Y
    rw [Int.mul_comm] at this
    omega
  constructor
  · rw [Int.natAbs_mul, Int.natAbs_tdiv]
    exact Nat.div_mul_le_self _ _
  · rw [e, Int.natAbs_tmod]
    exact Nat.mod_lt _ (by omega)

set_option maxRecDepth 100000 in
set_option maxHeartbeats 4000000 in
theorem small_law_any (a b : Int) (w : World) (ha : In32 a) (hb : In32 b) : Calls Try.prog 7 #[.int .i32 a, .int .i32 b] w (Ret w (.bool true)) := by
  obtain ⟨X, x1, x2, kx0, kx1⟩ := div4 ha.1 ha.2
  obtain ⟨Y, y1, y2, ky0, ky1⟩ := div4 hb.1 hb.2
  have kx0 := Lib.hid kx0; have kx1 := Lib.hid kx1
  have ky0 := Lib.hid ky0; have ky1 := Lib.hid ky1
  have iX : In64 X := by unfold In64; omega
  have iY : In64 Y := by unfold In64; omega
  have hXY : (X * Y).natAbs ≤ 536870912 * 536870912 := by rw [Int.natAbs_mul]; exact Nat.mul_le_mul (by omega) (by omega)
  have c1 := fun w => Ret.val (v' := I (X + Y)) (add_any X Y w iX iY) (congrArg I (cut64_in (by unfold In64; omega)))
  have c2 := fun w => Ret.val (v' := I (X - Y)) (sub_any X Y w iX iY) (congrArg I (cut64_in (by unfold In64; omega)))
  have c3 := fun w => Ret.val (v' := I (-X)) (neg_any X w iX) (congrArg I (cut64_in (by unfold In64; omega)))
  have hmul := small_mul (X := X) (Y := Y) (by omega) (by omega)
  obtain ⟨P, hP⟩ : ∃ P, X * Y = P := ⟨_, rfl⟩
  rw [hP] at hXY hmul
  have tP : (P.tdiv 65536).natAbs ≤ P.natAbs := by rw [Int.natAbs_tdiv]; exact Nat.div_le_self _ _
  obtain ⟨M, hM⟩ : ∃ M, P.tdiv 65536 = M := ⟨_, rfl⟩
  rw [hM] at hmul tP
  have c4 := fun w => Ret.val (v' := I M) (mul_any X Y w iX iY) (congrArg I hmul)
  have k1 : Hid (IntKind.i64.wrap (X + Y) = X + Y) := Lib.hid (IntWalk.i64_in _ (by omega))
  have k2 : Hid (IntKind.i64.wrap (X - Y) = X - Y) := Lib.hid (IntWalk.i64_in _ (by omega))
  have k3 : Hid (IntKind.i64.wrap (-X) = -X) := Lib.hid (IntWalk.i64_in _ (by omega))
  have k4 : Hid (IntKind.i64.wrap (X * Y) = P) := Lib.hid (by rw [hP]; exact IntWalk.i64_in _ (by omega))
  have k5 : Hid (IntKind.i64.wrap (P.tdiv 65536) = M) := Lib.hid (by rw [hM]; exact IntWalk.i64_in _ (by omega))
  have n3 : Hid (IntKind.i64.wrap (-Y) = -Y) := Lib.hid (IntWalk.i64_in _ (by omega))
  clear hP hM hmul tP hXY ha hb
  by_cases hY0 : Y = 0
  ·
    have k0 : Hid ((Y == 0) = true) := Lib.hid (beq_iff_eq.2 hY0)
    clear hY0 x1 x2 y1 y2
    refine calls_hide fun V HV => ?_
    have hR := Own.start w
    go_enter Try.func7, Try.ntmps7
    go_wp2_with (first
      | ((with_reducible apply is_list); first
        | ((with_reducible refine own_skip ?_ ?_); (exact rfl); simp only [Act.put, List.setIfInBounds_toArray, List.set_cons_succ, List.set_cons_zero])
        | (refine own_box (by rfl) (by rfl) (by simp [go_sem, V3.v, Pl.v, V3.cs, Pl.cs, layAt, Value.cells] <;> rfl) ?_ hR; clear hR; intro _ _ hR; simp only [Act.put, List.setIfInBounds_toArray, List.set_cons_succ, List.set_cons_zero])
        | (refine own_alloc (by rfl) (by rfl) (by first | exact zero_vec | exact zero_wide | exact zero_big) ?_ hR; clear hR; intro _ _ hR; simp only [Act.put, List.setIfInBounds_toArray, List.set_cons_succ, List.set_cons_zero])
        | (refine own_alloc1 (by rfl) (by rfl) (by first | exact zero_int | exact zero_int64 | exact zero_bool | exact zero_uint8 | exact zero_uint64 | exact zero_int32 | exact zero_uint64s) (by simp [go_sem, V3.v, Pl.v, V3.cs, Pl.cs, layAt, Value.cells] <;> rfl) ?_ hR; clear hR; intro _ _ hR; simp only [Act.put, List.setIfInBounds_toArray, List.set_cons_succ, List.set_cons_zero])
        | (refine own_load_all (by rfl) (by rfl) (by rfl) (by first | exact agg_vec | exact agg_wide | exact agg_big) (by repeat (first | exact .head _ | refine .tail _ ?_)) (by rfl) ?_ hR; clear hR; intro hR; simp only [Act.put, List.setIfInBounds_toArray, List.set_cons_succ, List.set_cons_zero])
        | (refine own_load_agg (by rfl) (by rfl) (by rfl) (by first | exact agg_vec | exact agg_wide | exact agg_big) (by repeat (first | exact .head _ | refine .tail _ ?_)) (by rfl) (by simp [go_sem, V3.v, Pl.v, V3.cs, Pl.cs, layAt, Value.cells] <;> rfl) ?_ hR; clear hR; intro hR; simp only [Act.put, List.setIfInBounds_toArray, List.set_cons_succ, List.set_cons_zero])
        | (refine own_load_one (by rfl) (by rfl) (by rfl) (by first | exact one_int | exact one_int64 | exact one_bool | exact one_uint8 | exact one_uint64 | exact one_int32 | exact one_uint64s) (by repeat (first | exact .head _ | refine .tail _ ?_)) (by simp [go_sem, V3.v, Pl.v, V3.cs, Pl.cs, layAt, Value.cells] <;> rfl) ?_ hR; clear hR; intro hR; simp only [Act.put, List.setIfInBounds_toArray, List.set_cons_succ, List.set_cons_zero])
        | (refine own_store_all (by rfl) (by rfl) (by rfl) (by first | exact agg_vec.size | exact agg_wide.size | exact agg_big.size | exact one_int.size | exact one_int64.size | exact one_bool.size | exact one_uint8.size | exact one_uint64.size | exact one_int32.size | exact one_uint64s.size) (by rfl) (by rfl) (by rfl) (by repeat (first | exact .head _ | refine .tail _ ?_)) (by rfl) (by simp [go_sem, V3.v, Pl.v, V3.cs, Pl.cs, layAt, Value.cells] <;> rfl) (by repeat (first | exact .here | apply Upd.there)) ?_ hR; clear hR; intro _ hR; simp only [Act.put, List.setIfInBounds_toArray, List.set_cons_succ, List.set_cons_zero])
        | (refine own_store (by rfl) (by rfl) (by rfl) (by first | exact agg_vec.size | exact agg_wide.size | exact agg_big.size | exact one_int.size | exact one_int64.size | exact one_bool.size | exact one_uint8.size | exact one_uint64.size | exact one_int32.size | exact one_uint64s.size) (by rfl) (by rfl) (by rfl) (by repeat (first | exact .head _ | refine .tail _ ?_)) (by rfl) (by simp [go_sem, V3.v, Pl.v, V3.cs, Pl.cs, layAt, Value.cells] <;> rfl) (by repeat (first | exact .here | apply Upd.there)) ?_ hR; clear hR; intro _ hR; simp only [Act.put, List.setIfInBounds_toArray, List.set_cons_succ, List.set_cons_zero])
        | (refine own_max (by rfl) (by rfl) (by rfl) (by rfl) ?_; simp only [Act.put, List.setIfInBounds_toArray, List.set_cons_succ, List.set_cons_zero])
        | (refine own_min (by rfl) (by rfl) (by rfl) (by rfl) ?_; simp only [Act.put, List.setIfInBounds_toArray, List.set_cons_succ, List.set_cons_zero]))
      )
    refine own_call (shown01_any _) ?_ hR; clear hR; intro _ hR
    go_wp2_with (first
      | ((with_reducible apply is_list); repeat1' (first | rw [kx0.out] | rw [kx1.out] | rw [ky0.out] | rw [ky1.out] | (first
        | ((with_reducible refine own_skip ?_ ?_); (exact rfl); simp only [Act.put, List.setIfInBounds_toArray, List.set_cons_succ, List.set_cons_zero])
        | (refine own_move (by rfl) (by rfl) (by simp only [Act.eval, Array.getD_eq_getD_getElem?, List.getElem?_toArray, List.getElem?_cons_zero, List.getElem?_cons_succ, Option.getD_some] <;> rfl) ?_; simp only [Act.put, List.setIfInBounds_toArray, List.set_cons_succ, List.set_cons_zero])
        | (refine own_assign (by rfl) (by rfl) (by simp only [Act.eval, Array.getD_eq_getD_getElem?, List.getElem?_toArray, List.getElem?_cons_zero, List.getElem?_cons_succ, Option.getD_some] <;> rfl) ?_; simp only [Act.put, List.setIfInBounds_toArray, List.set_cons_succ, List.set_cons_zero])
        | (refine own_box (by rfl) (by rfl) (by simp [go_sem, V3.v, Pl.v, V3.cs, Pl.cs, layAt, Value.cells] <;> rfl) ?_ hR; clear hR; intro _ _ hR; simp only [Act.put, List.setIfInBounds_toArray, List.set_cons_succ, List.set_cons_zero])
        | (refine own_alloc (by rfl) (by rfl) (by first | exact zero_vec | exact zero_wide | exact zero_big) ?_ hR; clear hR; intro _ _ hR; simp only [Act.put, List.setIfInBounds_toArray, List.set_cons_succ, List.set_cons_zero])
        | (refine own_alloc1 (by rfl) (by rfl) (by first | exact zero_int | exact zero_int64 | exact zero_bool | exact zero_uint8 | exact zero_uint64 | exact zero_int32 | exact zero_uint64s) (by simp [go_sem, V3.v, Pl.v, V3.cs, Pl.cs, layAt, Value.cells] <;> rfl) ?_ hR; clear hR; intro _ _ hR; simp only [Act.put, List.setIfInBounds_toArray, List.set_cons_succ, List.set_cons_zero])
        | (refine own_load_all (by rfl) (by rfl) (by rfl) (by first | exact agg_vec | exact agg_wide | exact agg_big) (by repeat (first | exact .head _ | refine .tail _ ?_)) (by rfl) ?_ hR; clear hR; intro hR; simp only [Act.put, List.setIfInBounds_toArray, List.set_cons_succ, List.set_cons_zero])
        | (refine own_load_agg (by rfl) (by rfl) (by rfl) (by first | exact agg_vec | exact agg_wide | exact agg_big) (by repeat (first | exact .head _ | refine .tail _ ?_)) (by rfl) (by simp [go_sem, V3.v, Pl.v, V3.cs, Pl.cs, layAt, Value.cells] <;> rfl) ?_ hR; clear hR; intro hR; simp only [Act.put, List.setIfInBounds_toArray, List.set_cons_succ, List.set_cons_zero])
        | (refine own_load_one (by rfl) (by rfl) (by rfl) (by first | exact one_int | exact one_int64 | exact one_bool | exact one_uint8 | exact one_uint64 | exact one_int32 | exact one_uint64s) (by repeat (first | exact .head _ | refine .tail _ ?_)) (by simp [go_sem, V3.v, Pl.v, V3.cs, Pl.cs, layAt, Value.cells] <;> rfl) ?_ hR; clear hR; intro hR; simp only [Act.put, List.setIfInBounds_toArray, List.set_cons_succ, List.set_cons_zero])
        | (refine own_store_all (by rfl) (by rfl) (by rfl) (by first | exact agg_vec.size | exact agg_wide.size | exact agg_big.size | exact one_int.size | exact one_int64.size | exact one_bool.size | exact one_uint8.size | exact one_uint64.size | exact one_int32.size | exact one_uint64s.size) (by rfl) (by rfl) (by rfl) (by repeat (first | exact .head _ | refine .tail _ ?_)) (by rfl) (by simp [go_sem, V3.v, Pl.v, V3.cs, Pl.cs, layAt, Value.cells] <;> rfl) (by repeat (first | exact .here | apply Upd.there)) ?_ hR; clear hR; intro _ hR; simp only [Act.put, List.setIfInBounds_toArray, List.set_cons_succ, List.set_cons_zero])
        | (refine own_store (by rfl) (by rfl) (by rfl) (by first | exact agg_vec.size | exact agg_wide.size | exact agg_big.size | exact one_int.size | exact one_int64.size | exact one_bool.size | exact one_uint8.size | exact one_uint64.size | exact one_int32.size | exact one_uint64s.size) (by rfl) (by rfl) (by rfl) (by repeat (first | exact .head _ | refine .tail _ ?_)) (by rfl) (by simp [go_sem, V3.v, Pl.v, V3.cs, Pl.cs, layAt, Value.cells] <;> rfl) (by repeat (first | exact .here | apply Upd.there)) ?_ hR; clear hR; intro _ hR; simp only [Act.put, List.setIfInBounds_toArray, List.set_cons_succ, List.set_cons_zero])
        | (refine own_max (by rfl) (by rfl) (by rfl) (by rfl) ?_; simp only [Act.put, List.setIfInBounds_toArray, List.set_cons_succ, List.set_cons_zero])
        | (refine own_min (by rfl) (by rfl) (by rfl) (by rfl) ?_; simp only [Act.put, List.setIfInBounds_toArray, List.set_cons_succ, List.set_cons_zero])
        | (refine own_pure (by rfl) (by intro w; simp [go_sem, V3.v, Pl.v, V3.cs, Pl.cs, layAt, Value.cells] <;> rfl) ?_; simp only [Act.put, List.setIfInBounds_toArray, List.set_cons_succ, List.set_cons_zero])))))
    refine own_call (c1 _) ?_ hR; clear hR; intro _ hR
    go_wp2_with (first
      | ((with_reducible apply is_list); repeat1' (first | rw [k1.out] | (first
        | ((with_reducible refine own_skip ?_ ?_); (exact rfl); simp only [Act.put, List.setIfInBounds_toArray, List.set_cons_succ, List.set_cons_zero])
        | (refine own_move (by rfl) (by rfl) (by simp only [Act.eval, Array.getD_eq_getD_getElem?, List.getElem?_toArray, List.getElem?_cons_zero, List.getElem?_cons_succ, Option.getD_some] <;> rfl) ?_; simp only [Act.put, List.setIfInBounds_toArray, List.set_cons_succ, List.set_cons_zero])
        | (refine own_assign (by rfl) (by rfl) (by simp only [Act.eval, Array.getD_eq_getD_getElem?, List.getElem?_toArray, List.getElem?_cons_zero, List.getElem?_cons_succ, Option.getD_some] <;> rfl) ?_; simp only [Act.put, List.setIfInBounds_toArray, List.set_cons_succ, List.set_cons_zero])
        | (refine own_box (by rfl) (by rfl) (by simp [go_sem, V3.v, Pl.v, V3.cs, Pl.cs, layAt, Value.cells] <;> rfl) ?_ hR; clear hR; intro _ _ hR; simp only [Act.put, List.setIfInBounds_toArray, List.set_cons_succ, List.set_cons_zero])
        | (refine own_alloc (by rfl) (by rfl) (by first | exact zero_vec | exact zero_wide | exact zero_big) ?_ hR; clear hR; intro _ _ hR; simp only [Act.put, List.setIfInBounds_toArray, List.set_cons_succ, List.set_cons_zero])
        | (refine own_alloc1 (by rfl) (by rfl) (by first | exact zero_int | exact zero_int64 | exact zero_bool | exact zero_uint8 | exact zero_uint64 | exact zero_int32 | exact zero_uint64s) (by simp [go_sem, V3.v, Pl.v, V3.cs, Pl.cs, layAt, Value.cells] <;> rfl) ?_ hR; clear hR; intro _ _ hR; simp only [Act.put, List.setIfInBounds_toArray, List.set_cons_succ, List.set_cons_zero])
        | (refine own_load_all (by rfl) (by rfl) (by rfl) (by first | exact agg_vec | exact agg_wide | exact agg_big) (by repeat (first | exact .head _ | refine .tail _ ?_)) (by rfl) ?_ hR; clear hR; intro hR; simp only [Act.put, List.setIfInBounds_toArray, List.set_cons_succ, List.set_cons_zero])
        | (refine own_load_agg (by rfl) (by rfl) (by rfl) (by first | exact agg_vec | exact agg_wide | exact agg_big) (by repeat (first | exact .head _ | refine .tail _ ?_)) (by rfl) (by simp [go_sem, V3.v, Pl.v, V3.cs, Pl.cs, layAt, Value.cells] <;> rfl) ?_ hR; clear hR; intro hR; simp only [Act.put, List.setIfInBounds_toArray, List.set_cons_succ, List.set_cons_zero])
        | (refine own_load_one (by rfl) (by rfl) (by rfl) (by first | exact one_int | exact one_int64 | exact one_bool | exact one_uint8 | exact one_uint64 | exact one_int32 | exact one_uint64s) (by repeat (first | exact .head _ | refine .tail _ ?_)) (by simp [go_sem, V3.v, Pl.v, V3.cs, Pl.cs, layAt, Value.cells] <;> rfl) ?_ hR; clear hR; intro hR; simp only [Act.put, List.setIfInBounds_toArray, List.set_cons_succ, List.set_cons_zero])
        | (refine own_store_all (by rfl) (by rfl) (by rfl) (by first | exact agg_vec.size | exact agg_wide.size | exact agg_big.size | exact one_int.size | exact one_int64.size | exact one_bool.size | exact one_uint8.size | exact one_uint64.size | exact one_int32.size | exact one_uint64s.size) (by rfl) (by rfl) (by rfl) (by repeat (first | exact .head _ | refine .tail _ ?_)) (by rfl) (by simp [go_sem, V3.v, Pl.v, V3.cs, Pl.cs, layAt, Value.cells] <;> rfl) (by repeat (first | exact .here | apply Upd.there)) ?_ hR; clear hR; intro _ hR; simp only [Act.put, List.setIfInBounds_toArray, List.set_cons_succ, List.set_cons_zero])
        | (refine own_store (by rfl) (by rfl) (by rfl) (by first | exact agg_vec.size | exact agg_wide.size | exact agg_big.size | exact one_int.size | exact one_int64.size | exact one_bool.size | exact one_uint8.size | exact one_uint64.size | exact one_int32.size | exact one_uint64s.size) (by rfl) (by rfl) (by rfl) (by repeat (first | exact .head _ | refine .tail _ ?_)) (by rfl) (by simp [go_sem, V3.v, Pl.v, V3.cs, Pl.cs, layAt, Value.cells] <;> rfl) (by repeat (first | exact .here | apply Upd.there)) ?_ hR; clear hR; intro _ hR; simp only [Act.put, List.setIfInBounds_toArray, List.set_cons_succ, List.set_cons_zero])
        | (refine own_max (by rfl) (by rfl) (by rfl) (by rfl) ?_; simp only [Act.put, List.setIfInBounds_toArray, List.set_cons_succ, List.set_cons_zero])
        | (refine own_min (by rfl) (by rfl) (by rfl) (by rfl) ?_; simp only [Act.put, List.setIfInBounds_toArray, List.set_cons_succ, List.set_cons_zero])
        | (refine own_pure (by rfl) (by intro w; simp [go_sem, V3.v, Pl.v, V3.cs, Pl.cs, layAt, Value.cells] <;> rfl) ?_; simp only [Act.put, List.setIfInBounds_toArray, List.set_cons_succ, List.set_cons_zero])))))
    refine own_call (c2 _) ?_ hR; clear hR; intro _ hR
    go_wp2_with (first
      | ((with_reducible apply is_list); repeat1' (first | rw [k2.out] | (first
        | ((with_reducible refine own_skip ?_ ?_); (exact rfl); simp only [Act.put, List.setIfInBounds_toArray, List.set_cons_succ, List.set_cons_zero])
        | (refine own_move (by rfl) (by rfl) (by simp only [Act.eval, Array.getD_eq_getD_getElem?, List.getElem?_toArray, List.getElem?_cons_zero, List.getElem?_cons_succ, Option.getD_some] <;> rfl) ?_; simp only [Act.put, List.setIfInBounds_toArray, List.set_cons_succ, List.set_cons_zero])
        | (refine own_assign (by rfl) (by rfl) (by simp only [Act.eval, Array.getD_eq_getD_getElem?, List.getElem?_toArray, List.getElem?_cons_zero, List.getElem?_cons_succ, Option.getD_some] <;> rfl) ?_; simp only [Act.put, List.setIfInBounds_toArray, List.set_cons_succ, List.set_cons_zero])
        | (refine own_box (by rfl) (by rfl) (by simp [go_sem, V3.v, Pl.v, V3.cs, Pl.cs, layAt, Value.cells] <;> rfl) ?_ hR; clear hR; intro _ _ hR; simp only [Act.put, List.setIfInBounds_toArray, List.set_cons_succ, List.set_cons_zero])
        | (refine own_alloc (by rfl) (by rfl) (by first | exact zero_vec | exact zero_wide | exact zero_big) ?_ hR; clear hR; intro _ _ hR; simp only [Act.put, List.setIfInBounds_toArray, List.set_cons_succ, List.set_cons_zero])
        | (refine own_alloc1 (by rfl) (by rfl) (by first | exact zero_int | exact zero_int64 | exact zero_bool | exact zero_uint8 | exact zero_uint64 | exact zero_int32 | exact zero_uint64s) (by simp [go_sem, V3.v, Pl.v, V3.cs, Pl.cs, layAt, Value.cells] <;> rfl) ?_ hR; clear hR; intro _ _ hR; simp only [Act.put, List.setIfInBounds_toArray, List.set_cons_succ, List.set_cons_zero])
        | (refine own_load_all (by rfl) (by rfl) (by rfl) (by first | exact agg_vec | exact agg_wide | exact agg_big) (by repeat (first | exact .head _ | refine .tail _ ?_)) (by rfl) ?_ hR; clear hR; intro hR; simp only [Act.put, List.setIfInBounds_toArray, List.set_cons_succ, List.set_cons_zero])
        | (refine own_load_agg (by rfl) (by rfl) (by rfl) (by first | exact agg_vec | exact agg_wide | exact agg_big) (by repeat (first | exact .head _ | refine .tail _ ?_)) (by rfl) (by simp [go_sem, V3.v, Pl.v, V3.cs, Pl.cs, layAt, Value.cells] <;> rfl) ?_ hR; clear hR; intro hR; simp only [Act.put, List.setIfInBounds_toArray, List.set_cons_succ, List.set_cons_zero])
        | (refine own_load_one (by rfl) (by rfl) (by rfl) (by first | exact one_int | exact one_int64 | exact one_bool | exact one_uint8 | exact one_uint64 | exact one_int32 | exact one_uint64s) (by repeat (first | exact .head _ | refine .tail _ ?_)) (by simp [go_sem, V3.v, Pl.v, V3.cs, Pl.cs, layAt, Value.cells] <;> rfl) ?_ hR; clear hR; intro hR; simp only [Act.put, List.setIfInBounds_toArray, List.set_cons_succ, List.set_cons_zero])
        | (refine own_store_all (by rfl) (by rfl) (by rfl) (by first | exact agg_vec.size | exact agg_wide.size | exact agg_big.size | exact one_int.size | exact one_int64.size | exact one_bool.size | exact one_uint8.size | exact one_uint64.size | exact one_int32.size | exact one_uint64s.size) (by rfl) (by rfl) (by rfl) (by repeat (first | exact .head _ | refine .tail _ ?_)) (by rfl) (by simp [go_sem, V3.v, Pl.v, V3.cs, Pl.cs, layAt, Value.cells] <;> rfl) (by repeat (first | exact .here | apply Upd.there)) ?_ hR; clear hR; intro _ hR; simp only [Act.put, List.setIfInBounds_toArray, List.set_cons_succ, List.set_cons_zero])
        | (refine own_store (by rfl) (by rfl) (by rfl) (by first | exact agg_vec.size | exact agg_wide.size | exact agg_big.size | exact one_int.size | exact one_int64.size | exact one_bool.size | exact one_uint8.size | exact one_uint64.size | exact one_int32.size | exact one_uint64s.size) (by rfl) (by rfl) (by rfl) (by repeat (first | exact .head _ | refine .tail _ ?_)) (by rfl) (by simp [go_sem, V3.v, Pl.v, V3.cs, Pl.cs, layAt, Value.cells] <;> rfl) (by repeat (first | exact .here | apply Upd.there)) ?_ hR; clear hR; intro _ hR; simp only [Act.put, List.setIfInBounds_toArray, List.set_cons_succ, List.set_cons_zero])
        | (refine own_max (by rfl) (by rfl) (by rfl) (by rfl) ?_; simp only [Act.put, List.setIfInBounds_toArray, List.set_cons_succ, List.set_cons_zero])
        | (refine own_min (by rfl) (by rfl) (by rfl) (by rfl) ?_; simp only [Act.put, List.setIfInBounds_toArray, List.set_cons_succ, List.set_cons_zero])
        | (refine own_pure (by rfl) (by intro w; simp [go_sem, V3.v, Pl.v, V3.cs, Pl.cs, layAt, Value.cells] <;> rfl) ?_; simp only [Act.put, List.setIfInBounds_toArray, List.set_cons_succ, List.set_cons_zero])))))
    refine own_call (c3 _) ?_ hR; clear hR; intro _ hR
    go_wp2_with (first
      | ((with_reducible apply is_list); repeat1' (first | rw [k3.out] | (first
        | ((with_reducible refine own_skip ?_ ?_); (exact rfl); simp only [Act.put, List.setIfInBounds_toArray, List.set_cons_succ, List.set_cons_zero])
        | (refine own_move (by rfl) (by rfl) (by simp only [Act.eval, Array.getD_eq_getD_getElem?, List.getElem?_toArray, List.getElem?_cons_zero, List.getElem?_cons_succ, Option.getD_some] <;> rfl) ?_; simp only [Act.put, List.setIfInBounds_toArray, List.set_cons_succ, List.set_cons_zero])
        | (refine own_assign (by rfl) (by rfl) (by simp only [Act.eval, Array.getD_eq_getD_getElem?, List.getElem?_toArray, List.getElem?_cons_zero, List.getElem?_cons_succ, Option.getD_some] <;> rfl) ?_; simp only [Act.put, List.setIfInBounds_toArray, List.set_cons_succ, List.set_cons_zero])
        | (refine own_box (by rfl) (by rfl) (by simp [go_sem, V3.v, Pl.v, V3.cs, Pl.cs, layAt, Value.cells] <;> rfl) ?_ hR; clear hR; intro _ _ hR; simp only [Act.put, List.setIfInBounds_toArray, List.set_cons_succ, List.set_cons_zero])
        | (refine own_alloc (by rfl) (by rfl) (by first | exact zero_vec | exact zero_wide | exact zero_big) ?_ hR; clear hR; intro _ _ hR; simp only [Act.put, List.setIfInBounds_toArray, List.set_cons_succ, List.set_cons_zero])
        | (refine own_alloc1 (by rfl) (by rfl) (by first | exact zero_int | exact zero_int64 | exact zero_bool | exact zero_uint8 | exact zero_uint64 | exact zero_int32 | exact zero_uint64s) (by simp [go_sem, V3.v, Pl.v, V3.cs, Pl.cs, layAt, Value.cells] <;> rfl) ?_ hR; clear hR; intro _ _ hR; simp only [Act.put, List.setIfInBounds_toArray, List.set_cons_succ, List.set_cons_zero])
        | (refine own_load_all (by rfl) (by rfl) (by rfl) (by first | exact agg_vec | exact agg_wide | exact agg_big) (by repeat (first | exact .head _ | refine .tail _ ?_)) (by rfl) ?_ hR; clear hR; intro hR; simp only [Act.put, List.setIfInBounds_toArray, List.set_cons_succ, List.set_cons_zero])
        | (refine own_load_agg (by rfl) (by rfl) (by rfl) (by first | exact agg_vec | exact agg_wide | exact agg_big) (by repeat (first | exact .head _ | refine .tail _ ?_)) (by rfl) (by simp [go_sem, V3.v, Pl.v, V3.cs, Pl.cs, layAt, Value.cells] <;> rfl) ?_ hR; clear hR; intro hR; simp only [Act.put, List.setIfInBounds_toArray, List.set_cons_succ, List.set_cons_zero])
        | (refine own_load_one (by rfl) (by rfl) (by rfl) (by first | exact one_int | exact one_int64 | exact one_bool | exact one_uint8 | exact one_uint64 | exact one_int32 | exact one_uint64s) (by repeat (first | exact .head _ | refine .tail _ ?_)) (by simp [go_sem, V3.v, Pl.v, V3.cs, Pl.cs, layAt, Value.cells] <;> rfl) ?_ hR; clear hR; intro hR; simp only [Act.put, List.setIfInBounds_toArray, List.set_cons_succ, List.set_cons_zero])
        | (refine own_store_all (by rfl) (by rfl) (by rfl) (by first | exact agg_vec.size | exact agg_wide.size | exact agg_big.size | exact one_int.size | exact one_int64.size | exact one_bool.size | exact one_uint8.size | exact one_uint64.size | exact one_int32.size | exact one_uint64s.size) (by rfl) (by rfl) (by rfl) (by repeat (first | exact .head _ | refine .tail _ ?_)) (by rfl) (by simp [go_sem, V3.v, Pl.v, V3.cs, Pl.cs, layAt, Value.cells] <;> rfl) (by repeat (first | exact .here | apply Upd.there)) ?_ hR; clear hR; intro _ hR; simp only [Act.put, List.setIfInBounds_toArray, List.set_cons_succ, List.set_cons_zero])
        | (refine own_store (by rfl) (by rfl) (by rfl) (by first | exact agg_vec.size | exact agg_wide.size | exact agg_big.size | exact one_int.size | exact one_int64.size | exact one_bool.size | exact one_uint8.size | exact one_uint64.size | exact one_int32.size | exact one_uint64s.size) (by rfl) (by rfl) (by rfl) (by repeat (first | exact .head _ | refine .tail _ ?_)) (by rfl) (by simp [go_sem, V3.v, Pl.v, V3.cs, Pl.cs, layAt, Value.cells] <;> rfl) (by repeat (first | exact .here | apply Upd.there)) ?_ hR; clear hR; intro _ hR; simp only [Act.put, List.setIfInBounds_toArray, List.set_cons_succ, List.set_cons_zero])
        | (refine own_max (by rfl) (by rfl) (by rfl) (by rfl) ?_; simp only [Act.put, List.setIfInBounds_toArray, List.set_cons_succ, List.set_cons_zero])
        | (refine own_min (by rfl) (by rfl) (by rfl) (by rfl) ?_; simp only [Act.put, List.setIfInBounds_toArray, List.set_cons_succ, List.set_cons_zero])
        | (refine own_pure (by rfl) (by intro w; simp [go_sem, V3.v, Pl.v, V3.cs, Pl.cs, layAt, Value.cells] <;> rfl) ?_; simp only [Act.put, List.setIfInBounds_toArray, List.set_cons_succ, List.set_cons_zero])))))
    refine own_call (c4 _) ?_ hR; clear hR; intro _ hR
    go_wp2_with (first
      | ((with_reducible apply is_list); repeat1' (first | rw [k0.out] | rw [k4.out] | rw [k5.out] | (first
        | ((with_reducible refine own_skip ?_ ?_); (exact rfl); simp only [Act.put, List.setIfInBounds_toArray, List.set_cons_succ, List.set_cons_zero])
        | (refine own_move (by rfl) (by rfl) (by simp only [Act.eval, Array.getD_eq_getD_getElem?, List.getElem?_toArray, List.getElem?_cons_zero, List.getElem?_cons_succ, Option.getD_some] <;> rfl) ?_; simp only [Act.put, List.setIfInBounds_toArray, List.set_cons_succ, List.set_cons_zero])
        | (refine own_assign (by rfl) (by rfl) (by simp only [Act.eval, Array.getD_eq_getD_getElem?, List.getElem?_toArray, List.getElem?_cons_zero, List.getElem?_cons_succ, Option.getD_some] <;> rfl) ?_; simp only [Act.put, List.setIfInBounds_toArray, List.set_cons_succ, List.set_cons_zero])
        | (refine own_box (by rfl) (by rfl) (by simp [go_sem, V3.v, Pl.v, V3.cs, Pl.cs, layAt, Value.cells] <;> rfl) ?_ hR; clear hR; intro _ _ hR; simp only [Act.put, List.setIfInBounds_toArray, List.set_cons_succ, List.set_cons_zero])
        | (refine own_alloc (by rfl) (by rfl) (by first | exact zero_vec | exact zero_wide | exact zero_big) ?_ hR; clear hR; intro _ _ hR; simp only [Act.put, List.setIfInBounds_toArray, List.set_cons_succ, List.set_cons_zero])
        | (refine own_alloc1 (by rfl) (by rfl) (by first | exact zero_int | exact zero_int64 | exact zero_bool | exact zero_uint8 | exact zero_uint64 | exact zero_int32 | exact zero_uint64s) (by simp [go_sem, V3.v, Pl.v, V3.cs, Pl.cs, layAt, Value.cells] <;> rfl) ?_ hR; clear hR; intro _ _ hR; simp only [Act.put, List.setIfInBounds_toArray, List.set_cons_succ, List.set_cons_zero])
        | (refine own_load_all (by rfl) (by rfl) (by rfl) (by first | exact agg_vec | exact agg_wide | exact agg_big) (by repeat (first | exact .head _ | refine .tail _ ?_)) (by rfl) ?_ hR; clear hR; intro hR; simp only [Act.put, List.setIfInBounds_toArray, List.set_cons_succ, List.set_cons_zero])
        | (refine own_load_agg (by rfl) (by rfl) (by rfl) (by first | exact agg_vec | exact agg_wide | exact agg_big) (by repeat (first | exact .head _ | refine .tail _ ?_)) (by rfl) (by simp [go_sem, V3.v, Pl.v, V3.cs, Pl.cs, layAt, Value.cells] <;> rfl) ?_ hR; clear hR; intro hR; simp only [Act.put, List.setIfInBounds_toArray, List.set_cons_succ, List.set_cons_zero])
        | (refine own_load_one (by rfl) (by rfl) (by rfl) (by first | exact one_int | exact one_int64 | exact one_bool | exact one_uint8 | exact one_uint64 | exact one_int32 | exact one_uint64s) (by repeat (first | exact .head _ | refine .tail _ ?_)) (by simp [go_sem, V3.v, Pl.v, V3.cs, Pl.cs, layAt, Value.cells] <;> rfl) ?_ hR; clear hR; intro hR; simp only [Act.put, List.setIfInBounds_toArray, List.set_cons_succ, List.set_cons_zero])
        | (refine own_store_all (by rfl) (by rfl) (by rfl) (by first | exact agg_vec.size | exact agg_wide.size | exact agg_big.size | exact one_int.size | exact one_int64.size | exact one_bool.size | exact one_uint8.size | exact one_uint64.size | exact one_int32.size | exact one_uint64s.size) (by rfl) (by rfl) (by rfl) (by repeat (first | exact .head _ | refine .tail _ ?_)) (by rfl) (by simp [go_sem, V3.v, Pl.v, V3.cs, Pl.cs, layAt, Value.cells] <;> rfl) (by repeat (first | exact .here | apply Upd.there)) ?_ hR; clear hR; intro _ hR; simp only [Act.put, List.setIfInBounds_toArray, List.set_cons_succ, List.set_cons_zero])
        | (refine own_store (by rfl) (by rfl) (by rfl) (by first | exact agg_vec.size | exact agg_wide.size | exact agg_big.size | exact one_int.size | exact one_int64.size | exact one_bool.size | exact one_uint8.size | exact one_uint64.size | exact one_int32.size | exact one_uint64s.size) (by rfl) (by rfl) (by rfl) (by repeat (first | exact .head _ | refine .tail _ ?_)) (by rfl) (by simp [go_sem, V3.v, Pl.v, V3.cs, Pl.cs, layAt, Value.cells] <;> rfl) (by repeat (first | exact .here | apply Upd.there)) ?_ hR; clear hR; intro _ hR; simp only [Act.put, List.setIfInBounds_toArray, List.set_cons_succ, List.set_cons_zero])
        | (refine own_max (by rfl) (by rfl) (by rfl) (by rfl) ?_; simp only [Act.put, List.setIfInBounds_toArray, List.set_cons_succ, List.set_cons_zero])
        | (refine own_min (by rfl) (by rfl) (by rfl) (by rfl) ?_; simp only [Act.put, List.setIfInBounds_toArray, List.set_cons_succ, List.set_cons_zero])
        | (refine own_pure (by rfl) (by intro w; simp [go_sem, V3.v, Pl.v, V3.cs, Pl.cs, layAt, Value.cells] <;> rfl) ?_; simp only [Act.put, List.setIfInBounds_toArray, List.set_cons_succ, List.set_cons_zero])))))
    refine own_ret1 Try.results7 rfl (.tmp rfl) (fun hR => hR.ret ?_) hR
    rw [HV.out]
    rfl
  ·
    have k0 : Hid ((Y == 0) = false) := Lib.hid (beq_eq_false_iff_ne.2 hY0)
    have hdiv := small_div (X := X) (Y := Y) (by omega) hY0
    obtain ⟨Z, hZ⟩ : ∃ Z, X * 65536 = Z := ⟨_, rfl⟩
    rw [hZ] at hdiv
    obtain ⟨r1, r2⟩ := rest_small (Z := Z) hY0
    have tQ : (Z.tdiv Y).natAbs ≤ Z.natAbs := by rw [Int.natAbs_tdiv]; exact Nat.div_le_self _ _
    obtain ⟨Q, hQ⟩ : ∃ Q, Z.tdiv Y = Q := ⟨_, rfl⟩
    rw [hQ] at hdiv r1 r2 tQ
    have c5 := fun w => Ret.val (v' := I Q) (div_any X Y w iX iY) (congrArg I hdiv)
    obtain ⟨T, hT⟩ : ∃ T, Q * Y = T := ⟨_, rfl⟩
    rw [hT] at r1 r2
    obtain ⟨R, hR0⟩ : ∃ R, Z - T = R := ⟨_, rfl⟩
    rw [hR0] at r2
    have k6 : Hid (IntKind.i64.wrap (X * 65536) = Z) := Lib.hid (by rw [hZ]; exact IntWalk.i64_in _ (by omega))
    have k7 : Hid (IntKind.i64.wrap (Q * Y) = T) := Lib.hid (by rw [hT]; exact IntWalk.i64_in _ (by omega))
    have k8 : Hid (IntKind.i64.wrap (Z - T) = R) := Lib.hid (by rw [hR0]; exact IntWalk.i64_in _ (by omega))
    have k9 : Hid (IntKind.i64.wrap (Z.tdiv Y) = Q) := Lib.hid (by rw [hQ]; exact IntWalk.i64_in _ (by omega))
    have far : (Hid (decide (Y ≤ R) = false) ∧ Hid (decide (R ≤ -Y) = false) ∧ Hid (decide (R ≤ Y) = true)) ∨ (Hid (decide (Y ≤ R) = true) ∧ Hid (decide (-Y ≤ R) = false) ∧ Hid (decide (R ≤ Y) = false)) := by
      rcases Int.lt_or_le Y 0 with h | h
      · exact .inr ⟨Lib.hid (decide_eq_true (by omega)), Lib.hid (decide_eq_false (by omega)), Lib.hid (decide_eq_false (by omega))⟩
      · exact .inl ⟨Lib.hid (decide_eq_false (by omega)), Lib.hid (decide_eq_false (by omega)), Lib.hid (decide_eq_true (by omega))⟩
    have zero : Hid ((R == 0) = true) ∨ Hid ((R == 0) = false) := by
      cases h : (R == 0)
      · exact .inr (Lib.hid rfl)
      · exact .inl (Lib.hid rfl)
    clear hdiv hZ r1 r2 tQ hQ hT hR0 x1 x2 y1 y2
    refine calls_hide fun V HV => ?_
    have hR := Own.start w
    go_enter Try.func7, Try.ntmps7
    go_wp2_with (first
      | ((with_reducible apply is_list); first
        | ((with_reducible refine own_skip ?_ ?_); (exact rfl); simp only [Act.put, List.setIfInBounds_toArray, List.set_cons_succ, List.set_cons_zero])
        | (refine own_box (by rfl) (by rfl) (by simp [go_sem, V3.v, Pl.v, V3.cs, Pl.cs, layAt, Value.cells] <;> rfl) ?_ hR; clear hR; intro _ _ hR; simp only [Act.put, List.setIfInBounds_toArray, List.set_cons_succ, List.set_cons_zero])
        | (refine own_alloc (by rfl) (by rfl) (by first | exact zero_vec | exact zero_wide | exact zero_big) ?_ hR; clear hR; intro _ _ hR; simp only [Act.put, List.setIfInBounds_toArray, List.set_cons_succ, List.set_cons_zero])
        | (refine own_alloc1 (by rfl) (by rfl) (by first | exact zero_int | exact zero_int64 | exact zero_bool | exact zero_uint8 | exact zero_uint64 | exact zero_int32 | exact zero_uint64s) (by simp [go_sem, V3.v, Pl.v, V3.cs, Pl.cs, layAt, Value.cells] <;> rfl) ?_ hR; clear hR; intro _ _ hR; simp only [Act.put, List.setIfInBounds_toArray, List.set_cons_succ, List.set_cons_zero])
        | (refine own_load_all (by rfl) (by rfl) (by rfl) (by first | exact agg_vec | exact agg_wide | exact agg_big) (by repeat (first | exact .head _ | refine .tail _ ?_)) (by rfl) ?_ hR; clear hR; intro hR; simp only [Act.put, List.setIfInBounds_toArray, List.set_cons_succ, List.set_cons_zero])
        | (refine own_load_agg (by rfl) (by rfl) (by rfl) (by first | exact agg_vec | exact agg_wide | exact agg_big) (by repeat (first | exact .head _ | refine .tail _ ?_)) (by rfl) (by simp [go_sem, V3.v, Pl.v, V3.cs, Pl.cs, layAt, Value.cells] <;> rfl) ?_ hR; clear hR; intro hR; simp only [Act.put, List.setIfInBounds_toArray, List.set_cons_succ, List.set_cons_zero])
        | (refine own_load_one (by rfl) (by rfl) (by rfl) (by first | exact one_int | exact one_int64 | exact one_bool | exact one_uint8 | exact one_uint64 | exact one_int32 | exact one_uint64s) (by repeat (first | exact .head _ | refine .tail _ ?_)) (by simp [go_sem, V3.v, Pl.v, V3.cs, Pl.cs, layAt, Value.cells] <;> rfl) ?_ hR; clear hR; intro hR; simp only [Act.put, List.setIfInBounds_toArray, List.set_cons_succ, List.set_cons_zero])
        | (refine own_store_all (by rfl) (by rfl) (by rfl) (by first | exact agg_vec.size | exact agg_wide.size | exact agg_big.size | exact one_int.size | exact one_int64.size | exact one_bool.size | exact one_uint8.size | exact one_uint64.size | exact one_int32.size | exact one_uint64s.size) (by rfl) (by rfl) (by rfl) (by repeat (first | exact .head _ | refine .tail _ ?_)) (by rfl) (by simp [go_sem, V3.v, Pl.v, V3.cs, Pl.cs, layAt, Value.cells] <;> rfl) (by repeat (first | exact .here | apply Upd.there)) ?_ hR; clear hR; intro _ hR; simp only [Act.put, List.setIfInBounds_toArray, List.set_cons_succ, List.set_cons_zero])
        | (refine own_store (by rfl) (by rfl) (by rfl) (by first | exact agg_vec.size | exact agg_wide.size | exact agg_big.size | exact one_int.size | exact one_int64.size | exact one_bool.size | exact one_uint8.size | exact one_uint64.size | exact one_int32.size | exact one_uint64s.size) (by rfl) (by rfl) (by rfl) (by repeat (first | exact .head _ | refine .tail _ ?_)) (by rfl) (by simp [go_sem, V3.v, Pl.v, V3.cs, Pl.cs, layAt, Value.cells] <;> rfl) (by repeat (first | exact .here | apply Upd.there)) ?_ hR; clear hR; intro _ hR; simp only [Act.put, List.setIfInBounds_toArray, List.set_cons_succ, List.set_cons_zero])
        | (refine own_max (by rfl) (by rfl) (by rfl) (by rfl) ?_; simp only [Act.put, List.setIfInBounds_toArray, List.set_cons_succ, List.set_cons_zero])
        | (refine own_min (by rfl) (by rfl) (by rfl) (by rfl) ?_; simp only [Act.put, List.setIfInBounds_toArray, List.set_cons_succ, List.set_cons_zero]))
      )
    refine own_call (shown01_any _) ?_ hR; clear hR; intro _ hR
    go_wp2_with (first
      | ((with_reducible apply is_list); repeat1' (first | rw [kx0.out] | rw [kx1.out] | rw [ky0.out] | rw [ky1.out] | (first
        | ((with_reducible refine own_skip ?_ ?_); (exact rfl); simp only [Act.put, List.setIfInBounds_toArray, List.set_cons_succ, List.set_cons_zero])
        | (refine own_move (by rfl) (by rfl) (by simp only [Act.eval, Array.getD_eq_getD_getElem?, List.getElem?_toArray, List.getElem?_cons_zero, List.getElem?_cons_succ, Option.getD_some] <;> rfl) ?_; simp only [Act.put, List.setIfInBounds_toArray, List.set_cons_succ, List.set_cons_zero])
        | (refine own_assign (by rfl) (by rfl) (by simp only [Act.eval, Array.getD_eq_getD_getElem?, List.getElem?_toArray, List.getElem?_cons_zero, List.getElem?_cons_succ, Option.getD_some] <;> rfl) ?_; simp only [Act.put, List.setIfInBounds_toArray, List.set_cons_succ, List.set_cons_zero])
        | (refine own_box (by rfl) (by rfl) (by simp [go_sem, V3.v, Pl.v, V3.cs, Pl.cs, layAt, Value.cells] <;> rfl) ?_ hR; clear hR; intro _ _ hR; simp only [Act.put, List.setIfInBounds_toArray, List.set_cons_succ, List.set_cons_zero])
        | (refine own_alloc (by rfl) (by rfl) (by first | exact zero_vec | exact zero_wide | exact zero_big) ?_ hR; clear hR; intro _ _ hR; simp only [Act.put, List.setIfInBounds_toArray, List.set_cons_succ, List.set_cons_zero])
        | (refine own_alloc1 (by rfl) (by rfl) (by first | exact zero_int | exact zero_int64 | exact zero_bool | exact zero_uint8 | exact zero_uint64 | exact zero_int32 | exact zero_uint64s) (by simp [go_sem, V3.v, Pl.v, V3.cs, Pl.cs, layAt, Value.cells] <;> rfl) ?_ hR; clear hR; intro _ _ hR; simp only [Act.put, List.setIfInBounds_toArray, List.set_cons_succ, List.set_cons_zero])
        | (refine own_load_all (by rfl) (by rfl) (by rfl) (by first | exact agg_vec | exact agg_wide | exact agg_big) (by repeat (first | exact .head _ | refine .tail _ ?_)) (by rfl) ?_ hR; clear hR; intro hR; simp only [Act.put, List.setIfInBounds_toArray, List.set_cons_succ, List.set_cons_zero])
        | (refine own_load_agg (by rfl) (by rfl) (by rfl) (by first | exact agg_vec | exact agg_wide | exact agg_big) (by repeat (first | exact .head _ | refine .tail _ ?_)) (by rfl) (by simp [go_sem, V3.v, Pl.v, V3.cs, Pl.cs, layAt, Value.cells] <;> rfl) ?_ hR; clear hR; intro hR; simp only [Act.put, List.setIfInBounds_toArray, List.set_cons_succ, List.set_cons_zero])
        | (refine own_load_one (by rfl) (by rfl) (by rfl) (by first | exact one_int | exact one_int64 | exact one_bool | exact one_uint8 | exact one_uint64 | exact one_int32 | exact one_uint64s) (by repeat (first | exact .head _ | refine .tail _ ?_)) (by simp [go_sem, V3.v, Pl.v, V3.cs, Pl.cs, layAt, Value.cells] <;> rfl) ?_ hR; clear hR; intro hR; simp only [Act.put, List.setIfInBounds_toArray, List.set_cons_succ, List.set_cons_zero])
        | (refine own_store_all (by rfl) (by rfl) (by rfl) (by first | exact agg_vec.size | exact agg_wide.size | exact agg_big.size | exact one_int.size | exact one_int64.size | exact one_bool.size | exact one_uint8.size | exact one_uint64.size | exact one_int32.size | exact one_uint64s.size) (by rfl) (by rfl) (by rfl) (by repeat (first | exact .head _ | refine .tail _ ?_)) (by rfl) (by simp [go_sem, V3.v, Pl.v, V3.cs, Pl.cs, layAt, Value.cells] <;> rfl) (by repeat (first | exact .here | apply Upd.there)) ?_ hR; clear hR; intro _ hR; simp only [Act.put, List.setIfInBounds_toArray, List.set_cons_succ, List.set_cons_zero])
        | (refine own_store (by rfl) (by rfl) (by rfl) (by first | exact agg_vec.size | exact agg_wide.size | exact agg_big.size | exact one_int.size | exact one_int64.size | exact one_bool.size | exact one_uint8.size | exact one_uint64.size | exact one_int32.size | exact one_uint64s.size) (by rfl) (by rfl) (by rfl) (by repeat (first | exact .head _ | refine .tail _ ?_)) (by rfl) (by simp [go_sem, V3.v, Pl.v, V3.cs, Pl.cs, layAt, Value.cells] <;> rfl) (by repeat (first | exact .here | apply Upd.there)) ?_ hR; clear hR; intro _ hR; simp only [Act.put, List.setIfInBounds_toArray, List.set_cons_succ, List.set_cons_zero])
        | (refine own_max (by rfl) (by rfl) (by rfl) (by rfl) ?_; simp only [Act.put, List.setIfInBounds_toArray, List.set_cons_succ, List.set_cons_zero])
        | (refine own_min (by rfl) (by rfl) (by rfl) (by rfl) ?_; simp only [Act.put, List.setIfInBounds_toArray, List.set_cons_succ, List.set_cons_zero])
        | (refine own_pure (by rfl) (by intro w; simp [go_sem, V3.v, Pl.v, V3.cs, Pl.cs, layAt, Value.cells] <;> rfl) ?_; simp only [Act.put, List.setIfInBounds_toArray, List.set_cons_succ, List.set_cons_zero])))))
    refine own_call (c1 _) ?_ hR; clear hR; intro _ hR
    go_wp2_with (first
      | ((with_reducible apply is_list); repeat1' (first | rw [k1.out] | (first
        | ((with_reducible refine own_skip ?_ ?_); (exact rfl); simp only [Act.put, List.setIfInBounds_toArray, List.set_cons_succ, List.set_cons_zero])
        | (refine own_move (by rfl) (by rfl) (by simp only [Act.eval, Array.getD_eq_getD_getElem?, List.getElem?_toArray, List.getElem?_cons_zero, List.getElem?_cons_succ, Option.getD_some] <;> rfl) ?_; simp only [Act.put, List.setIfInBounds_toArray, List.set_cons_succ, List.set_cons_zero])
        | (refine own_assign (by rfl) (by rfl) (by simp only [Act.eval, Array.getD_eq_getD_getElem?, List.getElem?_toArray, List.getElem?_cons_zero, List.getElem?_cons_succ, Option.getD_some] <;> rfl) ?_; simp only [Act.put, List.setIfInBounds_toArray, List.set_cons_succ, List.set_cons_zero])
        | (refine own_box (by rfl) (by rfl) (by simp [go_sem, V3.v, Pl.v, V3.cs, Pl.cs, layAt, Value.cells] <;> rfl) ?_ hR; clear hR; intro _ _ hR; simp only [Act.put, List.setIfInBounds_toArray, List.set_cons_succ, List.set_cons_zero])
        | (refine own_alloc (by rfl) (by rfl) (by first | exact zero_vec | exact zero_wide | exact zero_big) ?_ hR; clear hR; intro _ _ hR; simp only [Act.put, List.setIfInBounds_toArray, List.set_cons_succ, List.set_cons_zero])
        | (refine own_alloc1 (by rfl) (by rfl) (by first | exact zero_int | exact zero_int64 | exact zero_bool | exact zero_uint8 | exact zero_uint64 | exact zero_int32 | exact zero_uint64s) (by simp [go_sem, V3.v, Pl.v, V3.cs, Pl.cs, layAt, Value.cells] <;> rfl) ?_ hR; clear hR; intro _ _ hR; simp only [Act.put, List.setIfInBounds_toArray, List.set_cons_succ, List.set_cons_zero])
        | (refine own_load_all (by rfl) (by rfl) (by rfl) (by first | exact agg_vec | exact agg_wide | exact agg_big) (by repeat (first | exact .head _ | refine .tail _ ?_)) (by rfl) ?_ hR; clear hR; intro hR; simp only [Act.put, List.setIfInBounds_toArray, List.set_cons_succ, List.set_cons_zero])
        | (refine own_load_agg (by rfl) (by rfl) (by rfl) (by first | exact agg_vec | exact agg_wide | exact agg_big) (by repeat (first | exact .head _ | refine .tail _ ?_)) (by rfl) (by simp [go_sem, V3.v, Pl.v, V3.cs, Pl.cs, layAt, Value.cells] <;> rfl) ?_ hR; clear hR; intro hR; simp only [Act.put, List.setIfInBounds_toArray, List.set_cons_succ, List.set_cons_zero])
        | (refine own_load_one (by rfl) (by rfl) (by rfl) (by first | exact one_int | exact one_int64 | exact one_bool | exact one_uint8 | exact one_uint64 | exact one_int32 | exact one_uint64s) (by repeat (first | exact .head _ | refine .tail _ ?_)) (by simp [go_sem, V3.v, Pl.v, V3.cs, Pl.cs, layAt, Value.cells] <;> rfl) ?_ hR; clear hR; intro hR; simp only [Act.put, List.setIfInBounds_toArray, List.set_cons_succ, List.set_cons_zero])
        | (refine own_store_all (by rfl) (by rfl) (by rfl) (by first | exact agg_vec.size | exact agg_wide.size | exact agg_big.size | exact one_int.size | exact one_int64.size | exact one_bool.size | exact one_uint8.size | exact one_uint64.size | exact one_int32.size | exact one_uint64s.size) (by rfl) (by rfl) (by rfl) (by repeat (first | exact .head _ | refine .tail _ ?_)) (by rfl) (by simp [go_sem, V3.v, Pl.v, V3.cs, Pl.cs, layAt, Value.cells] <;> rfl) (by repeat (first | exact .here | apply Upd.there)) ?_ hR; clear hR; intro _ hR; simp only [Act.put, List.setIfInBounds_toArray, List.set_cons_succ, List.set_cons_zero])
        | (refine own_store (by rfl) (by rfl) (by rfl) (by first | exact agg_vec.size | exact agg_wide.size | exact agg_big.size | exact one_int.size | exact one_int64.size | exact one_bool.size | exact one_uint8.size | exact one_uint64.size | exact one_int32.size | exact one_uint64s.size) (by rfl) (by rfl) (by rfl) (by repeat (first | exact .head _ | refine .tail _ ?_)) (by rfl) (by simp [go_sem, V3.v, Pl.v, V3.cs, Pl.cs, layAt, Value.cells] <;> rfl) (by repeat (first | exact .here | apply Upd.there)) ?_ hR; clear hR; intro _ hR; simp only [Act.put, List.setIfInBounds_toArray, List.set_cons_succ, List.set_cons_zero])
        | (refine own_max (by rfl) (by rfl) (by rfl) (by rfl) ?_; simp only [Act.put, List.setIfInBounds_toArray, List.set_cons_succ, List.set_cons_zero])
        | (refine own_min (by rfl) (by rfl) (by rfl) (by rfl) ?_; simp only [Act.put, List.setIfInBounds_toArray, List.set_cons_succ, List.set_cons_zero])
        | (refine own_pure (by rfl) (by intro w; simp [go_sem, V3.v, Pl.v, V3.cs, Pl.cs, layAt, Value.cells] <;> rfl) ?_; simp only [Act.put, List.setIfInBounds_toArray, List.set_cons_succ, List.set_cons_zero])))))
    refine own_call (c2 _) ?_ hR; clear hR; intro _ hR
    go_wp2_with (first
      | ((with_reducible apply is_list); repeat1' (first | rw [k2.out] | (first
        | ((with_reducible refine own_skip ?_ ?_); (exact rfl); simp only [Act.put, List.setIfInBounds_toArray, List.set_cons_succ, List.set_cons_zero])
        | (refine own_move (by rfl) (by rfl) (by simp only [Act.eval, Array.getD_eq_getD_getElem?, List.getElem?_toArray, List.getElem?_cons_zero, List.getElem?_cons_succ, Option.getD_some] <;> rfl) ?_; simp only [Act.put, List.setIfInBounds_toArray, List.set_cons_succ, List.set_cons_zero])
        | (refine own_assign (by rfl) (by rfl) (by simp only [Act.eval, Array.getD_eq_getD_getElem?, List.getElem?_toArray, List.getElem?_cons_zero, List.getElem?_cons_succ, Option.getD_some] <;> rfl) ?_; simp only [Act.put, List.setIfInBounds_toArray, List.set_cons_succ, List.set_cons_zero])
        | (refine own_box (by rfl) (by rfl) (by simp [go_sem, V3.v, Pl.v, V3.cs, Pl.cs, layAt, Value.cells] <;> rfl) ?_ hR; clear hR; intro _ _ hR; simp only [Act.put, List.setIfInBounds_toArray, List.set_cons_succ, List.set_cons_zero])
        | (refine own_alloc (by rfl) (by rfl) (by first | exact zero_vec | exact zero_wide | exact zero_big) ?_ hR; clear hR; intro _ _ hR; simp only [Act.put, List.setIfInBounds_toArray, List.set_cons_succ, List.set_cons_zero])
        | (refine own_alloc1 (by rfl) (by rfl) (by first | exact zero_int | exact zero_int64 | exact zero_bool | exact zero_uint8 | exact zero_uint64 | exact zero_int32 | exact zero_uint64s) (by simp [go_sem, V3.v, Pl.v, V3.cs, Pl.cs, layAt, Value.cells] <;> rfl) ?_ hR; clear hR; intro _ _ hR; simp only [Act.put, List.setIfInBounds_toArray, List.set_cons_succ, List.set_cons_zero])
        | (refine own_load_all (by rfl) (by rfl) (by rfl) (by first | exact agg_vec | exact agg_wide | exact agg_big) (by repeat (first | exact .head _ | refine .tail _ ?_)) (by rfl) ?_ hR; clear hR; intro hR; simp only [Act.put, List.setIfInBounds_toArray, List.set_cons_succ, List.set_cons_zero])
        | (refine own_load_agg (by rfl) (by rfl) (by rfl) (by first | exact agg_vec | exact agg_wide | exact agg_big) (by repeat (first | exact .head _ | refine .tail _ ?_)) (by rfl) (by simp [go_sem, V3.v, Pl.v, V3.cs, Pl.cs, layAt, Value.cells] <;> rfl) ?_ hR; clear hR; intro hR; simp only [Act.put, List.setIfInBounds_toArray, List.set_cons_succ, List.set_cons_zero])
        | (refine own_load_one (by rfl) (by rfl) (by rfl) (by first | exact one_int | exact one_int64 | exact one_bool | exact one_uint8 | exact one_uint64 | exact one_int32 | exact one_uint64s) (by repeat (first | exact .head _ | refine .tail _ ?_)) (by simp [go_sem, V3.v, Pl.v, V3.cs, Pl.cs, layAt, Value.cells] <;> rfl) ?_ hR; clear hR; intro hR; simp only [Act.put, List.setIfInBounds_toArray, List.set_cons_succ, List.set_cons_zero])
        | (refine own_store_all (by rfl) (by rfl) (by rfl) (by first | exact agg_vec.size | exact agg_wide.size | exact agg_big.size | exact one_int.size | exact one_int64.size | exact one_bool.size | exact one_uint8.size | exact one_uint64.size | exact one_int32.size | exact one_uint64s.size) (by rfl) (by rfl) (by rfl) (by repeat (first | exact .head _ | refine .tail _ ?_)) (by rfl) (by simp [go_sem, V3.v, Pl.v, V3.cs, Pl.cs, layAt, Value.cells] <;> rfl) (by repeat (first | exact .here | apply Upd.there)) ?_ hR; clear hR; intro _ hR; simp only [Act.put, List.setIfInBounds_toArray, List.set_cons_succ, List.set_cons_zero])
        | (refine own_store (by rfl) (by rfl) (by rfl) (by first | exact agg_vec.size | exact agg_wide.size | exact agg_big.size | exact one_int.size | exact one_int64.size | exact one_bool.size | exact one_uint8.size | exact one_uint64.size | exact one_int32.size | exact one_uint64s.size) (by rfl) (by rfl) (by rfl) (by repeat (first | exact .head _ | refine .tail _ ?_)) (by rfl) (by simp [go_sem, V3.v, Pl.v, V3.cs, Pl.cs, layAt, Value.cells] <;> rfl) (by repeat (first | exact .here | apply Upd.there)) ?_ hR; clear hR; intro _ hR; simp only [Act.put, List.setIfInBounds_toArray, List.set_cons_succ, List.set_cons_zero])
        | (refine own_max (by rfl) (by rfl) (by rfl) (by rfl) ?_; simp only [Act.put, List.setIfInBounds_toArray, List.set_cons_succ, List.set_cons_zero])
        | (refine own_min (by rfl) (by rfl) (by rfl) (by rfl) ?_; simp only [Act.put, List.setIfInBounds_toArray, List.set_cons_succ, List.set_cons_zero])
        | (refine own_pure (by rfl) (by intro w; simp [go_sem, V3.v, Pl.v, V3.cs, Pl.cs, layAt, Value.cells] <;> rfl) ?_; simp only [Act.put, List.setIfInBounds_toArray, List.set_cons_succ, List.set_cons_zero])))))
    refine own_call (c3 _) ?_ hR; clear hR; intro _ hR
    go_wp2_with (first
      | ((with_reducible apply is_list); repeat1' (first | rw [k3.out] | (first
        | ((with_reducible refine own_skip ?_ ?_); (exact rfl); simp only [Act.put, List.setIfInBounds_toArray, List.set_cons_succ, List.set_cons_zero])
        | (refine own_move (by rfl) (by rfl) (by simp only [Act.eval, Array.getD_eq_getD_getElem?, List.getElem?_toArray, List.getElem?_cons_zero, List.getElem?_cons_succ, Option.getD_some] <;> rfl) ?_; simp only [Act.put, List.setIfInBounds_toArray, List.set_cons_succ, List.set_cons_zero])
        | (refine own_assign (by rfl) (by rfl) (by simp only [Act.eval, Array.getD_eq_getD_getElem?, List.getElem?_toArray, List.getElem?_cons_zero, List.getElem?_cons_succ, Option.getD_some] <;> rfl) ?_; simp only [Act.put, List.setIfInBounds_toArray, List.set_cons_succ, List.set_cons_zero])
        | (refine own_box (by rfl) (by rfl) (by simp [go_sem, V3.v, Pl.v, V3.cs, Pl.cs, layAt, Value.cells] <;> rfl) ?_ hR; clear hR; intro _ _ hR; simp only [Act.put, List.setIfInBounds_toArray, List.set_cons_succ, List.set_cons_zero])
        | (refine own_alloc (by rfl) (by rfl) (by first | exact zero_vec | exact zero_wide | exact zero_big) ?_ hR; clear hR; intro _ _ hR; simp only [Act.put, List.setIfInBounds_toArray, List.set_cons_succ, List.set_cons_zero])
        | (refine own_alloc1 (by rfl) (by rfl) (by first | exact zero_int | exact zero_int64 | exact zero_bool | exact zero_uint8 | exact zero_uint64 | exact zero_int32 | exact zero_uint64s) (by simp [go_sem, V3.v, Pl.v, V3.cs, Pl.cs, layAt, Value.cells] <;> rfl) ?_ hR; clear hR; intro _ _ hR; simp only [Act.put, List.setIfInBounds_toArray, List.set_cons_succ, List.set_cons_zero])
        | (refine own_load_all (by rfl) (by rfl) (by rfl) (by first | exact agg_vec | exact agg_wide | exact agg_big) (by repeat (first | exact .head _ | refine .tail _ ?_)) (by rfl) ?_ hR; clear hR; intro hR; simp only [Act.put, List.setIfInBounds_toArray, List.set_cons_succ, List.set_cons_zero])
        | (refine own_load_agg (by rfl) (by rfl) (by rfl) (by first | exact agg_vec | exact agg_wide | exact agg_big) (by repeat (first | exact .head _ | refine .tail _ ?_)) (by rfl) (by simp [go_sem, V3.v, Pl.v, V3.cs, Pl.cs, layAt, Value.cells] <;> rfl) ?_ hR; clear hR; intro hR; simp only [Act.put, List.setIfInBounds_toArray, List.set_cons_succ, List.set_cons_zero])
        | (refine own_load_one (by rfl) (by rfl) (by rfl) (by first | exact one_int | exact one_int64 | exact one_bool | exact one_uint8 | exact one_uint64 | exact one_int32 | exact one_uint64s) (by repeat (first | exact .head _ | refine .tail _ ?_)) (by simp [go_sem, V3.v, Pl.v, V3.cs, Pl.cs, layAt, Value.cells] <;> rfl) ?_ hR; clear hR; intro hR; simp only [Act.put, List.setIfInBounds_toArray, List.set_cons_succ, List.set_cons_zero])
        | (refine own_store_all (by rfl) (by rfl) (by rfl) (by first | exact agg_vec.size | exact agg_wide.size | exact agg_big.size | exact one_int.size | exact one_int64.size | exact one_bool.size | exact one_uint8.size | exact one_uint64.size | exact one_int32.size | exact one_uint64s.size) (by rfl) (by rfl) (by rfl) (by repeat (first | exact .head _ | refine .tail _ ?_)) (by rfl) (by simp [go_sem, V3.v, Pl.v, V3.cs, Pl.cs, layAt, Value.cells] <;> rfl) (by repeat (first | exact .here | apply Upd.there)) ?_ hR; clear hR; intro _ hR; simp only [Act.put, List.setIfInBounds_toArray, List.set_cons_succ, List.set_cons_zero])
        | (refine own_store (by rfl) (by rfl) (by rfl) (by first | exact agg_vec.size | exact agg_wide.size | exact agg_big.size | exact one_int.size | exact one_int64.size | exact one_bool.size | exact one_uint8.size | exact one_uint64.size | exact one_int32.size | exact one_uint64s.size) (by rfl) (by rfl) (by rfl) (by repeat (first | exact .head _ | refine .tail _ ?_)) (by rfl) (by simp [go_sem, V3.v, Pl.v, V3.cs, Pl.cs, layAt, Value.cells] <;> rfl) (by repeat (first | exact .here | apply Upd.there)) ?_ hR; clear hR; intro _ hR; simp only [Act.put, List.setIfInBounds_toArray, List.set_cons_succ, List.set_cons_zero])
        | (refine own_max (by rfl) (by rfl) (by rfl) (by rfl) ?_; simp only [Act.put, List.setIfInBounds_toArray, List.set_cons_succ, List.set_cons_zero])
        | (refine own_min (by rfl) (by rfl) (by rfl) (by rfl) ?_; simp only [Act.put, List.setIfInBounds_toArray, List.set_cons_succ, List.set_cons_zero])
        | (refine own_pure (by rfl) (by intro w; simp [go_sem, V3.v, Pl.v, V3.cs, Pl.cs, layAt, Value.cells] <;> rfl) ?_; simp only [Act.put, List.setIfInBounds_toArray, List.set_cons_succ, List.set_cons_zero])))))
    refine own_call (c4 _) ?_ hR; clear hR; intro _ hR
    go_wp2_with (first
      | ((with_reducible apply is_list); repeat1' (first | rw [k0.out] | rw [k4.out] | rw [k5.out] | (first
        | ((with_reducible refine own_skip ?_ ?_); (exact rfl); simp only [Act.put, List.setIfInBounds_toArray, List.set_cons_succ, List.set_cons_zero])
        | (refine own_move (by rfl) (by rfl) (by simp only [Act.eval, Array.getD_eq_getD_getElem?, List.getElem?_toArray, List.getElem?_cons_zero, List.getElem?_cons_succ, Option.getD_some] <;> rfl) ?_; simp only [Act.put, List.setIfInBounds_toArray, List.set_cons_succ, List.set_cons_zero])
        | (refine own_assign (by rfl) (by rfl) (by simp only [Act.eval, Array.getD_eq_getD_getElem?, List.getElem?_toArray, List.getElem?_cons_zero, List.getElem?_cons_succ, Option.getD_some] <;> rfl) ?_; simp only [Act.put, List.setIfInBounds_toArray, List.set_cons_succ, List.set_cons_zero])
        | (refine own_box (by rfl) (by rfl) (by simp [go_sem, V3.v, Pl.v, V3.cs, Pl.cs, layAt, Value.cells] <;> rfl) ?_ hR; clear hR; intro _ _ hR; simp only [Act.put, List.setIfInBounds_toArray, List.set_cons_succ, List.set_cons_zero])
        | (refine own_alloc (by rfl) (by rfl) (by first | exact zero_vec | exact zero_wide | exact zero_big) ?_ hR; clear hR; intro _ _ hR; simp only [Act.put, List.setIfInBounds_toArray, List.set_cons_succ, List.set_cons_zero])
        | (refine own_alloc1 (by rfl) (by rfl) (by first | exact zero_int | exact zero_int64 | exact zero_bool | exact zero_uint8 | exact zero_uint64 | exact zero_int32 | exact zero_uint64s) (by simp [go_sem, V3.v, Pl.v, V3.cs, Pl.cs, layAt, Value.cells] <;> rfl) ?_ hR; clear hR; intro _ _ hR; simp only [Act.put, List.setIfInBounds_toArray, List.set_cons_succ, List.set_cons_zero])
        | (refine own_load_all (by rfl) (by rfl) (by rfl) (by first | exact agg_vec | exact agg_wide | exact agg_big) (by repeat (first | exact .head _ | refine .tail _ ?_)) (by rfl) ?_ hR; clear hR; intro hR; simp only [Act.put, List.setIfInBounds_toArray, List.set_cons_succ, List.set_cons_zero])
        | (refine own_load_agg (by rfl) (by rfl) (by rfl) (by first | exact agg_vec | exact agg_wide | exact agg_big) (by repeat (first | exact .head _ | refine .tail _ ?_)) (by rfl) (by simp [go_sem, V3.v, Pl.v, V3.cs, Pl.cs, layAt, Value.cells] <;> rfl) ?_ hR; clear hR; intro hR; simp only [Act.put, List.setIfInBounds_toArray, List.set_cons_succ, List.set_cons_zero])
        | (refine own_load_one (by rfl) (by rfl) (by rfl) (by first | exact one_int | exact one_int64 | exact one_bool | exact one_uint8 | exact one_uint64 | exact one_int32 | exact one_uint64s) (by repeat (first | exact .head _ | refine .tail _ ?_)) (by simp [go_sem, V3.v, Pl.v, V3.cs, Pl.cs, layAt, Value.cells] <;> rfl) ?_ hR; clear hR; intro hR; simp only [Act.put, List.setIfInBounds_toArray, List.set_cons_succ, List.set_cons_zero])
        | (refine own_store_all (by rfl) (by rfl) (by rfl) (by first | exact agg_vec.size | exact agg_wide.size | exact agg_big.size | exact one_int.size | exact one_int64.size | exact one_bool.size | exact one_uint8.size | exact one_uint64.size | exact one_int32.size | exact one_uint64s.size) (by rfl) (by rfl) (by rfl) (by repeat (first | exact .head _ | refine .tail _ ?_)) (by rfl) (by simp [go_sem, V3.v, Pl.v, V3.cs, Pl.cs, layAt, Value.cells] <;> rfl) (by repeat (first | exact .here | apply Upd.there)) ?_ hR; clear hR; intro _ hR; simp only [Act.put, List.setIfInBounds_toArray, List.set_cons_succ, List.set_cons_zero])
        | (refine own_store (by rfl) (by rfl) (by rfl) (by first | exact agg_vec.size | exact agg_wide.size | exact agg_big.size | exact one_int.size | exact one_int64.size | exact one_bool.size | exact one_uint8.size | exact one_uint64.size | exact one_int32.size | exact one_uint64s.size) (by rfl) (by rfl) (by rfl) (by repeat (first | exact .head _ | refine .tail _ ?_)) (by rfl) (by simp [go_sem, V3.v, Pl.v, V3.cs, Pl.cs, layAt, Value.cells] <;> rfl) (by repeat (first | exact .here | apply Upd.there)) ?_ hR; clear hR; intro _ hR; simp only [Act.put, List.setIfInBounds_toArray, List.set_cons_succ, List.set_cons_zero])
        | (refine own_max (by rfl) (by rfl) (by rfl) (by rfl) ?_; simp only [Act.put, List.setIfInBounds_toArray, List.set_cons_succ, List.set_cons_zero])
        | (refine own_min (by rfl) (by rfl) (by rfl) (by rfl) ?_; simp only [Act.put, List.setIfInBounds_toArray, List.set_cons_succ, List.set_cons_zero])
        | (refine own_pure (by rfl) (by intro w; simp [go_sem, V3.v, Pl.v, V3.cs, Pl.cs, layAt, Value.cells] <;> rfl) ?_; simp only [Act.put, List.setIfInBounds_toArray, List.set_cons_succ, List.set_cons_zero])))))
    refine own_call (c5 _) ?_ hR; clear hR; intro _ hR
    go_upto_region 10 with (first
      | ((with_reducible apply is_list); repeat1' (first | rw [k6.out] | rw [k7.out] | rw [k8.out] | (first
        | ((with_reducible refine own_skip ?_ ?_); (exact rfl); simp only [Act.put, List.setIfInBounds_toArray, List.set_cons_succ, List.set_cons_zero])
        | (refine own_move (by rfl) (by rfl) (by simp only [Act.eval, Array.getD_eq_getD_getElem?, List.getElem?_toArray, List.getElem?_cons_zero, List.getElem?_cons_succ, Option.getD_some] <;> rfl) ?_; simp only [Act.put, List.setIfInBounds_toArray, List.set_cons_succ, List.set_cons_zero])
        | (refine own_assign (by rfl) (by rfl) (by simp only [Act.eval, Array.getD_eq_getD_getElem?, List.getElem?_toArray, List.getElem?_cons_zero, List.getElem?_cons_succ, Option.getD_some] <;> rfl) ?_; simp only [Act.put, List.setIfInBounds_toArray, List.set_cons_succ, List.set_cons_zero])
        | (refine own_box (by rfl) (by rfl) (by simp [go_sem, V3.v, Pl.v, V3.cs, Pl.cs, layAt, Value.cells] <;> rfl) ?_ hR; clear hR; intro _ _ hR; simp only [Act.put, List.setIfInBounds_toArray, List.set_cons_succ, List.set_cons_zero])
        | (refine own_alloc (by rfl) (by rfl) (by first | exact zero_vec | exact zero_wide | exact zero_big) ?_ hR; clear hR; intro _ _ hR; simp only [Act.put, List.setIfInBounds_toArray, List.set_cons_succ, List.set_cons_zero])
        | (refine own_alloc1 (by rfl) (by rfl) (by first | exact zero_int | exact zero_int64 | exact zero_bool | exact zero_uint8 | exact zero_uint64 | exact zero_int32 | exact zero_uint64s) (by simp [go_sem, V3.v, Pl.v, V3.cs, Pl.cs, layAt, Value.cells] <;> rfl) ?_ hR; clear hR; intro _ _ hR; simp only [Act.put, List.setIfInBounds_toArray, List.set_cons_succ, List.set_cons_zero])
        | (refine own_load_all (by rfl) (by rfl) (by rfl) (by first | exact agg_vec | exact agg_wide | exact agg_big) (by repeat (first | exact .head _ | refine .tail _ ?_)) (by rfl) ?_ hR; clear hR; intro hR; simp only [Act.put, List.setIfInBounds_toArray, List.set_cons_succ, List.set_cons_zero])
        | (refine own_load_agg (by rfl) (by rfl) (by rfl) (by first | exact agg_vec | exact agg_wide | exact agg_big) (by repeat (first | exact .head _ | refine .tail _ ?_)) (by rfl) (by simp [go_sem, V3.v, Pl.v, V3.cs, Pl.cs, layAt, Value.cells] <;> rfl) ?_ hR; clear hR; intro hR; simp only [Act.put, List.setIfInBounds_toArray, List.set_cons_succ, List.set_cons_zero])
        | (refine own_load_one (by rfl) (by rfl) (by rfl) (by first | exact one_int | exact one_int64 | exact one_bool | exact one_uint8 | exact one_uint64 | exact one_int32 | exact one_uint64s) (by repeat (first | exact .head _ | refine .tail _ ?_)) (by simp [go_sem, V3.v, Pl.v, V3.cs, Pl.cs, layAt, Value.cells] <;> rfl) ?_ hR; clear hR; intro hR; simp only [Act.put, List.setIfInBounds_toArray, List.set_cons_succ, List.set_cons_zero])
        | (refine own_store_all (by rfl) (by rfl) (by rfl) (by first | exact agg_vec.size | exact agg_wide.size | exact agg_big.size | exact one_int.size | exact one_int64.size | exact one_bool.size | exact one_uint8.size | exact one_uint64.size | exact one_int32.size | exact one_uint64s.size) (by rfl) (by rfl) (by rfl) (by repeat (first | exact .head _ | refine .tail _ ?_)) (by rfl) (by simp [go_sem, V3.v, Pl.v, V3.cs, Pl.cs, layAt, Value.cells] <;> rfl) (by repeat (first | exact .here | apply Upd.there)) ?_ hR; clear hR; intro _ hR; simp only [Act.put, List.setIfInBounds_toArray, List.set_cons_succ, List.set_cons_zero])
        | (refine own_store (by rfl) (by rfl) (by rfl) (by first | exact agg_vec.size | exact agg_wide.size | exact agg_big.size | exact one_int.size | exact one_int64.size | exact one_bool.size | exact one_uint8.size | exact one_uint64.size | exact one_int32.size | exact one_uint64s.size) (by rfl) (by rfl) (by rfl) (by repeat (first | exact .head _ | refine .tail _ ?_)) (by rfl) (by simp [go_sem, V3.v, Pl.v, V3.cs, Pl.cs, layAt, Value.cells] <;> rfl) (by repeat (first | exact .here | apply Upd.there)) ?_ hR; clear hR; intro _ hR; simp only [Act.put, List.setIfInBounds_toArray, List.set_cons_succ, List.set_cons_zero])
        | (refine own_max (by rfl) (by rfl) (by rfl) (by rfl) ?_; simp only [Act.put, List.setIfInBounds_toArray, List.set_cons_succ, List.set_cons_zero])
        | (refine own_min (by rfl) (by rfl) (by rfl) (by rfl) ?_; simp only [Act.put, List.setIfInBounds_toArray, List.set_cons_succ, List.set_cons_zero])
        | (refine own_pure (by rfl) (by intro w; simp [go_sem, V3.v, Pl.v, V3.cs, Pl.cs, layAt, Value.cells] <;> rfl) ?_; simp only [Act.put, List.setIfInBounds_toArray, List.set_cons_succ, List.set_cons_zero])))))
    go_cut [10] from 63 to 82 (fun s10 wx => s10 = .bool false ∧ Own w.heap.size w wx [])
    case first =>
      rcases far with ⟨f1, f2, f3⟩ | ⟨f1, f2, f3⟩
      all_goals
        go_wp2_with (first
          | ((with_reducible apply is_list); repeat1' (first | rw [f1.out] | rw [f2.out] | rw [f3.out] | rw [n3.out] | (first
            | ((with_reducible refine own_skip ?_ ?_); (exact rfl); simp only [Act.put, List.setIfInBounds_toArray, List.set_cons_succ, List.set_cons_zero])
            | (refine own_move (by rfl) (by rfl) (by simp only [Act.eval, Array.getD_eq_getD_getElem?, List.getElem?_toArray, List.getElem?_cons_zero, List.getElem?_cons_succ, Option.getD_some] <;> rfl) ?_; simp only [Act.put, List.setIfInBounds_toArray, List.set_cons_succ, List.set_cons_zero])
            | (refine own_assign (by rfl) (by rfl) (by simp only [Act.eval, Array.getD_eq_getD_getElem?, List.getElem?_toArray, List.getElem?_cons_zero, List.getElem?_cons_succ, Option.getD_some] <;> rfl) ?_; simp only [Act.put, List.setIfInBounds_toArray, List.set_cons_succ, List.set_cons_zero])
            | (refine own_box (by rfl) (by rfl) (by simp [go_sem, V3.v, Pl.v, V3.cs, Pl.cs, layAt, Value.cells] <;> rfl) ?_ hR; clear hR; intro _ _ hR; simp only [Act.put, List.setIfInBounds_toArray, List.set_cons_succ, List.set_cons_zero])
            | (refine own_alloc (by rfl) (by rfl) (by first | exact zero_vec | exact zero_wide | exact zero_big) ?_ hR; clear hR; intro _ _ hR; simp only [Act.put, List.setIfInBounds_toArray, List.set_cons_succ, List.set_cons_zero])
            | (refine own_alloc1 (by rfl) (by rfl) (by first | exact zero_int | exact zero_int64 | exact zero_bool | exact zero_uint8 | exact zero_uint64 | exact zero_int32 | exact zero_uint64s) (by simp [go_sem, V3.v, Pl.v, V3.cs, Pl.cs, layAt, Value.cells] <;> rfl) ?_ hR; clear hR; intro _ _ hR; simp only [Act.put, List.setIfInBounds_toArray, List.set_cons_succ, List.set_cons_zero])
            | (refine own_load_all (by rfl) (by rfl) (by rfl) (by first | exact agg_vec | exact agg_wide | exact agg_big) (by repeat (first | exact .head _ | refine .tail _ ?_)) (by rfl) ?_ hR; clear hR; intro hR; simp only [Act.put, List.setIfInBounds_toArray, List.set_cons_succ, List.set_cons_zero])
            | (refine own_load_agg (by rfl) (by rfl) (by rfl) (by first | exact agg_vec | exact agg_wide | exact agg_big) (by repeat (first | exact .head _ | refine .tail _ ?_)) (by rfl) (by simp [go_sem, V3.v, Pl.v, V3.cs, Pl.cs, layAt, Value.cells] <;> rfl) ?_ hR; clear hR; intro hR; simp only [Act.put, List.setIfInBounds_toArray, List.set_cons_succ, List.set_cons_zero])
            | (refine own_load_one (by rfl) (by rfl) (by rfl) (by first | exact one_int | exact one_int64 | exact one_bool | exact one_uint8 | exact one_uint64 | exact one_int32 | exact one_uint64s) (by repeat (first | exact .head _ | refine .tail _ ?_)) (by simp [go_sem, V3.v, Pl.v, V3.cs, Pl.cs, layAt, Value.cells] <;> rfl) ?_ hR; clear hR; intro hR; simp only [Act.put, List.setIfInBounds_toArray, List.set_cons_succ, List.set_cons_zero])
            | (refine own_store_all (by rfl) (by rfl) (by rfl) (by first | exact agg_vec.size | exact agg_wide.size | exact agg_big.size | exact one_int.size | exact one_int64.size | exact one_bool.size | exact one_uint8.size | exact one_uint64.size | exact one_int32.size | exact one_uint64s.size) (by rfl) (by rfl) (by rfl) (by repeat (first | exact .head _ | refine .tail _ ?_)) (by rfl) (by simp [go_sem, V3.v, Pl.v, V3.cs, Pl.cs, layAt, Value.cells] <;> rfl) (by repeat (first | exact .here | apply Upd.there)) ?_ hR; clear hR; intro _ hR; simp only [Act.put, List.setIfInBounds_toArray, List.set_cons_succ, List.set_cons_zero])
            | (refine own_store (by rfl) (by rfl) (by rfl) (by first | exact agg_vec.size | exact agg_wide.size | exact agg_big.size | exact one_int.size | exact one_int64.size | exact one_bool.size | exact one_uint8.size | exact one_uint64.size | exact one_int32.size | exact one_uint64s.size) (by rfl) (by rfl) (by rfl) (by repeat (first | exact .head _ | refine .tail _ ?_)) (by rfl) (by simp [go_sem, V3.v, Pl.v, V3.cs, Pl.cs, layAt, Value.cells] <;> rfl) (by repeat (first | exact .here | apply Upd.there)) ?_ hR; clear hR; intro _ hR; simp only [Act.put, List.setIfInBounds_toArray, List.set_cons_succ, List.set_cons_zero])
            | (refine own_max (by rfl) (by rfl) (by rfl) (by rfl) ?_; simp only [Act.put, List.setIfInBounds_toArray, List.set_cons_succ, List.set_cons_zero])
            | (refine own_min (by rfl) (by rfl) (by rfl) (by rfl) ?_; simp only [Act.put, List.setIfInBounds_toArray, List.set_cons_succ, List.set_cons_zero])
            | (refine own_pure (by rfl) (by intro w; simp [go_sem, V3.v, Pl.v, V3.cs, Pl.cs, layAt, Value.cells] <;> rfl) ?_; simp only [Act.put, List.setIfInBounds_toArray, List.set_cons_succ, List.set_cons_zero])))))
        go_meet
        exact ⟨rfl, hR⟩
    case rest =>
      obtain ⟨rfl, hR⟩ := hcut
      rcases zero with z1 | z1
      all_goals
        go_wp2_with (first
          | ((with_reducible apply is_list); repeat1' (first | rw [k6.out] | rw [k9.out] | rw [z1.out] | (refine own_iquo (by rfl) (by rfl) (by rfl) (by rfl) hY0 ?_; simp only [Act.put, List.setIfInBounds_toArray, List.set_cons_succ, List.set_cons_zero]) | (first
            | ((with_reducible refine own_skip ?_ ?_); (exact rfl); simp only [Act.put, List.setIfInBounds_toArray, List.set_cons_succ, List.set_cons_zero])
            | (refine own_move (by rfl) (by rfl) (by simp only [Act.eval, Array.getD_eq_getD_getElem?, List.getElem?_toArray, List.getElem?_cons_zero, List.getElem?_cons_succ, Option.getD_some] <;> rfl) ?_; simp only [Act.put, List.setIfInBounds_toArray, List.set_cons_succ, List.set_cons_zero])
            | (refine own_assign (by rfl) (by rfl) (by simp only [Act.eval, Array.getD_eq_getD_getElem?, List.getElem?_toArray, List.getElem?_cons_zero, List.getElem?_cons_succ, Option.getD_some] <;> rfl) ?_; simp only [Act.put, List.setIfInBounds_toArray, List.set_cons_succ, List.set_cons_zero])
            | (refine own_box (by rfl) (by rfl) (by simp [go_sem, V3.v, Pl.v, V3.cs, Pl.cs, layAt, Value.cells] <;> rfl) ?_ hR; clear hR; intro _ _ hR; simp only [Act.put, List.setIfInBounds_toArray, List.set_cons_succ, List.set_cons_zero])
            | (refine own_alloc (by rfl) (by rfl) (by first | exact zero_vec | exact zero_wide | exact zero_big) ?_ hR; clear hR; intro _ _ hR; simp only [Act.put, List.setIfInBounds_toArray, List.set_cons_succ, List.set_cons_zero])
            | (refine own_alloc1 (by rfl) (by rfl) (by first | exact zero_int | exact zero_int64 | exact zero_bool | exact zero_uint8 | exact zero_uint64 | exact zero_int32 | exact zero_uint64s) (by simp [go_sem, V3.v, Pl.v, V3.cs, Pl.cs, layAt, Value.cells] <;> rfl) ?_ hR; clear hR; intro _ _ hR; simp only [Act.put, List.setIfInBounds_toArray, List.set_cons_succ, List.set_cons_zero])
            | (refine own_load_all (by rfl) (by rfl) (by rfl) (by first | exact agg_vec | exact agg_wide | exact agg_big) (by repeat (first | exact .head _ | refine .tail _ ?_)) (by rfl) ?_ hR; clear hR; intro hR; simp only [Act.put, List.setIfInBounds_toArray, List.set_cons_succ, List.set_cons_zero])
            | (refine own_load_agg (by rfl) (by rfl) (by rfl) (by first | exact agg_vec | exact agg_wide | exact agg_big) (by repeat (first | exact .head _ | refine .tail _ ?_)) (by rfl) (by simp [go_sem, V3.v, Pl.v, V3.cs, Pl.cs, layAt, Value.cells] <;> rfl) ?_ hR; clear hR; intro hR; simp only [Act.put, List.setIfInBounds_toArray, List.set_cons_succ, List.set_cons_zero])
            | (refine own_load_one (by rfl) (by rfl) (by rfl) (by first | exact one_int | exact one_int64 | exact one_bool | exact one_uint8 | exact one_uint64 | exact one_int32 | exact one_uint64s) (by repeat (first | exact .head _ | refine .tail _ ?_)) (by simp [go_sem, V3.v, Pl.v, V3.cs, Pl.cs, layAt, Value.cells] <;> rfl) ?_ hR; clear hR; intro hR; simp only [Act.put, List.setIfInBounds_toArray, List.set_cons_succ, List.set_cons_zero])
            | (refine own_store_all (by rfl) (by rfl) (by rfl) (by first | exact agg_vec.size | exact agg_wide.size | exact agg_big.size | exact one_int.size | exact one_int64.size | exact one_bool.size | exact one_uint8.size | exact one_uint64.size | exact one_int32.size | exact one_uint64s.size) (by rfl) (by rfl) (by rfl) (by repeat (first | exact .head _ | refine .tail _ ?_)) (by rfl) (by simp [go_sem, V3.v, Pl.v, V3.cs, Pl.cs, layAt, Value.cells] <;> rfl) (by repeat (first | exact .here | apply Upd.there)) ?_ hR; clear hR; intro _ hR; simp only [Act.put, List.setIfInBounds_toArray, List.set_cons_succ, List.set_cons_zero])
            | (refine own_store (by rfl) (by rfl) (by rfl) (by first | exact agg_vec.size | exact agg_wide.size | exact agg_big.size | exact one_int.size | exact one_int64.size | exact one_bool.size | exact one_uint8.size | exact one_uint64.size | exact one_int32.size | exact one_uint64s.size) (by rfl) (by rfl) (by rfl) (by repeat (first | exact .head _ | refine .tail _ ?_)) (by rfl) (by simp [go_sem, V3.v, Pl.v, V3.cs, Pl.cs, layAt, Value.cells] <;> rfl) (by repeat (first | exact .here | apply Upd.there)) ?_ hR; clear hR; intro _ hR; simp only [Act.put, List.setIfInBounds_toArray, List.set_cons_succ, List.set_cons_zero])
            | (refine own_max (by rfl) (by rfl) (by rfl) (by rfl) ?_; simp only [Act.put, List.setIfInBounds_toArray, List.set_cons_succ, List.set_cons_zero])
            | (refine own_min (by rfl) (by rfl) (by rfl) (by rfl) ?_; simp only [Act.put, List.setIfInBounds_toArray, List.set_cons_succ, List.set_cons_zero])
            | (refine own_pure (by rfl) (by intro w; simp [go_sem, V3.v, Pl.v, V3.cs, Pl.cs, layAt, Value.cells] <;> rfl) ?_; simp only [Act.put, List.setIfInBounds_toArray, List.set_cons_succ, List.set_cons_zero])))))
        refine own_ret1 Try.results7 rfl (.tmp rfl) (fun hR => hR.ret ?_) hR
        rw [HV.out]
        rfl

end Go.Proofs.Ytegafbkjdkpfiaa
