/- FixRoots of embrasurelaw01 returns true, for every number and three numbers of 32 bits. No condition. -/
import Derived.Test.YtegafbkjdkpfiaaFixTurned
import Derived.Test.YtegafbkjdkpfiaaFixLong
namespace Go.Proofs.Ytegafbkjdkpfiaa
set_option linter.unusedSimpArgs false
set_option linter.unusedVariables false
open Go.RowKit

theorem i64_and60 (n : Int) : bits .and .i64 n 1152921504606846975 = n % 1152921504606846976 := by
  have h127 : (BitVec.ofInt 64 1152921504606846975).toNat = 2 ^ 60 - 1 := by decide
  have key : (BitVec.ofInt 64 n &&& BitVec.ofInt 64 1152921504606846975).toNat = (n % ((2 ^ 64 : Nat) : Int)).toNat % 2 ^ 60 := by
    rw [BitVec.toNat_and, BitVec.toNat_ofInt, h127, Nat.and_two_pow_sub_one_eq_mod]
  show IntKind.i64.wrap ((BitVec.ofInt 64 n &&& BitVec.ofInt 64 1152921504606846975).toNat : Nat) = n % 1152921504606846976
  rw [key, IntKind.wrap_i64]
  omega

/-- A square, by halves. -/
theorem sq_halves (r : Int) (h0 : 0 ≤ r) (h1 : r ≤ 274877906944) : 0 ≤ r * (r / 65536) ∧ r * (r / 65536) ≤ 1152921504606846976 ∧ 0 ≤ r * (r % 65536) ∧ r * (r % 65536) ≤ 18014398509481984 ∧ r * r = 65536 * (r * (r / 65536)) + r * (r % 65536) := by
  have e := Int.mul_ediv_add_emod r 65536
  have a1 : 0 ≤ r / 65536 := by omega
  have a2 : r / 65536 ≤ 4194304 := by omega
  have a3 : 0 ≤ r % 65536 := by omega
  have a4 : r % 65536 ≤ 65535 := by omega
  refine ⟨Int.mul_nonneg h0 a1, ?_, Int.mul_nonneg h0 a3, ?_, ?_⟩
  · exact Int.le_trans (Int.mul_le_mul h1 a2 a1 (by omega)) (by omega)
  · exact Int.le_trans (Int.mul_le_mul h1 a4 a3 (by omega)) (by omega)
  · grind

theorem roots_a (A : Int) (h0 : 0 ≤ A) (h1 : A < 1152921504606846976) : ∃ r : Int, ((rootN ((max A 0).toNat * 65536) : Nat) : Int) = r ∧ 0 ≤ r ∧ r < 274877906944 ∧ r * (r / 65536) + r * (r % 65536) / 65536 ≤ A ∧ A ≤ (r + 1) * ((r + 1) / 65536) + (r + 1) * ((r + 1) % 65536) / 65536 := by
  have hs := rootN_spec ((max A 0).toNat * 65536)
  refine ⟨_, rfl, Int.natCast_nonneg _, ?_, ?_⟩
  · have := rootN_lt (W := (max A 0).toNat * 65536) (b := 274877906944) (by omega)
    omega
  · have hl := rootN_lt (W := (max A 0).toNat * 65536) (b := 274877906944) (by omega)
    obtain ⟨R, hR⟩ : ∃ R : Nat, rootN ((max A 0).toNat * 65536) = R := ⟨_, rfl⟩
    rw [hR] at hs hl ⊢
    obtain ⟨s1, s2⟩ := hs
    have t1 : (R : Int) * R ≤ A * 65536 := by have := Int.ofNat_le.2 s1; rw [Int.natCast_mul] at this; omega
    have t2 : A * 65536 < ((R : Int) + 1) * ((R : Int) + 1) := by
      have := Int.ofNat_lt.2 s2
      rw [Int.natCast_mul (R + 1), Int.natCast_add, show ((1 : Nat) : Int) = 1 from rfl] at this
      generalize ((R : Int) + 1) * ((R : Int) + 1) = T at *
      omega
    have u1 := sq_halves (R : Int) (by omega) (by omega)
    have u2 := sq_halves ((R : Int) + 1) (by omega) (by omega)
    rw [u1.2.2.2.2] at t1
    rw [u2.2.2.2.2] at t2
    omega

theorem roots_long {v : V3} : v.len ≤ max v.x (-v.x) + max v.y (-v.y) + max v.z (-v.z) ∧ max v.x (-v.x) ≤ v.len ∧ max v.y (-v.y) ≤ v.len ∧ max v.z (-v.z) ≤ v.len := by
  have e : ∀ x : Int, max x (-x) * max x (-x) = x * x := by
    intro x
    rcases Int.le_total x (-x) with h | h
    · rw [Int.max_eq_right h]; grind
    · rw [Int.max_eq_left h]
  have ex := e v.x; have ey := e v.y; have ez := e v.z
  have sx := sqn v.x; have sy := sqn v.y; have sz := sqn v.z
  have px : 0 ≤ max v.x (-v.x) := by omega
  have py : 0 ≤ max v.y (-v.y) := by omega
  have pz : 0 ≤ max v.z (-v.z) := by omega
  refine ⟨?_, le_len ?_, le_len ?_, le_len ?_⟩
  · refine len_le (by omega) ?_
    unfold V3.sq
    rw [← ex, ← ey, ← ez]
    generalize max v.x (-v.x) = X at *
    generalize max v.y (-v.y) = Y at *
    generalize max v.z (-v.z) = Z at *
    have h1 := Int.mul_nonneg px py
    have h2 := Int.mul_nonneg px pz
    have h3 := Int.mul_nonneg py pz
    have e2 : (X + Y + Z + 1) * (X + Y + Z + 1) = X * X + Y * Y + Z * Z + 2 * (X * Y) + 2 * (X * Z) + 2 * (Y * Z) + 2 * X + 2 * Y + 2 * Z + 1 := by grind
    rw [e2]
    omega
  · unfold V3.sq; omega
  · unfold V3.sq; omega
  · unfold V3.sq; omega

theorem roots_turned (x y z : Int) : V3.len ⟨-x, z, y⟩ = V3.len ⟨x, y, z⟩ := by
  have h1 := len_spec ⟨-x, z, y⟩
  have h2 := len_spec ⟨x, y, z⟩
  have e : V3.sq ⟨-x, z, y⟩ = V3.sq ⟨x, y, z⟩ := by
    show (-x) * (-x) + z * z + y * y = x * x + y * y + z * z
    grind
  rw [e] at h1
  have h3 := abs_lt_of_sq (x := V3.len ⟨-x, z, y⟩) (y := V3.len ⟨x, y, z⟩ + 1) (by omega) (by omega)
  have h4 := abs_lt_of_sq (x := V3.len ⟨x, y, z⟩) (y := V3.len ⟨-x, z, y⟩ + 1) (by omega) (by omega)
  omega

theorem most_six (n x y z : Int) (hx : max x (-x) ≤ n) (hy : max y (-y) ≤ n) (hz : max z (-z) ≤ n) : max (max (max (max (max x (-x)) y) (-y)) z) (-z) ≤ n := by omega

section
variable {P : Program} {ops : Array Oper} {rest : List Oper} {o : Oper} {a : Act} {w : World} {Q : Exit → Act → World → Prop}
/-- max of six numbers of one kind. -/
theorem own_max6 (hw : Region.wanted o (yielded ops a.tmps) = true) {x0 x1 x2 x3 x4 x5 : Operand} {ts : Array TypeId} (ho : o.op = .call { callee := .builtin .max, args := #[x0, x1, x2, x3, x4, x5], argTypes := ts }) {k : IntKind} {m0 m1 m2 m3 m4 m5 : Int}
    (h0 : a.eval x0 = .int k m0) (h1 : a.eval x1 = .int k m1) (h2 : a.eval x2 = .int k m2) (h3 : a.eval x3 = .int k m3) (h4 : a.eval x4 = .int k m4) (h5 : a.eval x5 = .int k m5)
    (h : wpList P ops Q rest (a.put o.dst (.int k (max (max (max (max (max m0 m1) m2) m3) m4) m5))) w) : wpList P ops Q (o :: rest) a w := by
  refine own_pure hw (fun w => ?_) h
  have e : ∀ m n : Int, (if m < n then n else m) = max m n := by intro m n; rw [Int.max_def]; split <;> split <;> omega
  unfold execOp
  rw [ho]
  simp only [resolve, builtin]
  simp [Sem.run_bind, h0, h1, h2, h3, h4, h5, invoke, builtin, Builtin.max_, Builtin.max2, e]
end

set_option maxRecDepth 100000 in
set_option maxHeartbeats 4000000 in
theorem roots_law_any (a x y z : Int) (w : World) (ha : In64 a) (hx : In32 x) (hy : In32 y) (hz : In32 z) :
    Calls Try.prog 3 #[I a, .int .i32 x, .int .i32 y, .int .i32 z] w (Ret w (.bool true)) := by
  obtain ⟨A, hA⟩ : ∃ A : Int, a % 1152921504606846976 = A := ⟨_, rfl⟩
  have ka : Hid (bits .and .i64 a 1152921504606846975 = A) := Lib.hid (by rw [i64_and60, hA])
  have iA : In64 A := by unfold In64; omega
  obtain ⟨r, hr, hr0, hr1, hlow, hover⟩ := roots_a A (by omega) (by omega)
  obtain ⟨b1, b2, b3, b4, _⟩ := sq_halves r hr0 (by omega)
  obtain ⟨c1, c2, c3, c4, _⟩ := sq_halves (r + 1) (by omega) (by omega)
  have hsq := fun w => Ret.val (v' := I r) (sqrt_any A w iA) (congrArg I hr)
  have hw : V3.within ⟨x, y, z⟩ 2147483648 := by unfold In32 at *; exact ⟨⟨by show _ ≤ x; omega, by show x ≤ _; omega⟩, ⟨by show _ ≤ y; omega, by show y ≤ _; omega⟩, by show _ ≤ z; omega, by show z ≤ _; omega⟩
  have hw' : V3.within ⟨-x, z, y⟩ 2147483648 := by unfold In32 at *; exact ⟨⟨by show _ ≤ -x; omega, by show -x ≤ _; omega⟩, ⟨by show _ ≤ z; omega, by show z ≤ _; omega⟩, by show _ ≤ y; omega, by show y ≤ _; omega⟩
  have hl := fun w => long_len hw w
  have hl' := fun w => Ret.val (long_len hw' w) (congrArg I (roots_turned x y z))
  obtain ⟨g1, g2, g3, g4⟩ := roots_long (v := ⟨x, y, z⟩)
  obtain ⟨N, hN⟩ : ∃ N, V3.len ⟨x, y, z⟩ = N := ⟨_, rfl⟩
  rw [hN] at g1 g2 g3 g4
  simp only [hN] at hl hl'
  have g1 : N ≤ max x (-x) + max y (-y) + max z (-z) := g1
  have g2 : max x (-x) ≤ N := g2
  have g3 : max y (-y) ≤ N := g3
  have g4 : max z (-z) ≤ N := g4
  unfold In32 at hx hy hz
  have k1 : Hid (decide (r < 0) = false) := Lib.hid (decide_eq_false (by omega))
  have k2 : Hid (decide (274877906945 ≤ r) = false) := Lib.hid (decide_eq_false (by omega))
  have q1 : Hid (IntKind.i64.wrap (r.tdiv 65536) = r / 65536) := Lib.hid (by rw [Int.tdiv_eq_ediv_of_nonneg hr0]; exact IntWalk.i64_in _ (by omega))
  have q2 : Hid (r.tmod 65536 = r % 65536) := Lib.hid (Int.tmod_eq_emod_of_nonneg hr0)
  obtain ⟨Lo, hLo⟩ : ∃ L, r * (r / 65536) = L := ⟨_, rfl⟩
  obtain ⟨Pa, hPa⟩ : ∃ L, r * (r % 65536) = L := ⟨_, rfl⟩
  obtain ⟨Lo', hLo'⟩ : ∃ L, (r + 1) * ((r + 1) / 65536) = L := ⟨_, rfl⟩
  obtain ⟨Pa', hPa'⟩ : ∃ L, (r + 1) * ((r + 1) % 65536) = L := ⟨_, rfl⟩
  rw [hLo] at b1 b2 hlow
  rw [hPa] at b3 b4 hlow
  rw [hLo'] at c1 c2 hover
  rw [hPa'] at c3 c4 hover
  have q3 : Hid (IntKind.i64.wrap (r * (r / 65536)) = Lo) := Lib.hid (by rw [hLo]; exact IntWalk.i64_in _ (by omega))
  have q4 : Hid (IntKind.i64.wrap (r * (r % 65536)) = Pa) := Lib.hid (by rw [hPa]; exact IntWalk.i64_in _ (by omega))
  have q5 : Hid (IntKind.i64.wrap (Pa.tdiv 65536) = Pa / 65536) := Lib.hid (by rw [Int.tdiv_eq_ediv_of_nonneg b3]; exact IntWalk.i64_in _ (by omega))
  have q6 : Hid (IntKind.i64.wrap (Lo + Pa / 65536) = Lo + Pa / 65536) := Lib.hid (IntWalk.i64_in _ (by omega))
  obtain ⟨r', hr'⟩ : ∃ r', r + 1 = r' := ⟨_, rfl⟩
  rw [hr'] at hLo' hPa'
  have q7 : Hid (IntKind.i64.wrap (r + 1) = r') := Lib.hid (by rw [hr']; exact IntWalk.i64_in _ (by omega))
  have q8 : Hid (IntKind.i64.wrap (r'.tdiv 65536) = r' / 65536) := Lib.hid (by rw [Int.tdiv_eq_ediv_of_nonneg (by omega)]; exact IntWalk.i64_in _ (by omega))
  have q9 : Hid (r'.tmod 65536 = r' % 65536) := Lib.hid (Int.tmod_eq_emod_of_nonneg (by omega))
  have q10 : Hid (IntKind.i64.wrap (r' * (r' / 65536)) = Lo') := Lib.hid (by rw [hLo']; exact IntWalk.i64_in _ (by omega))
  have q11 : Hid (IntKind.i64.wrap (r' * (r' % 65536)) = Pa') := Lib.hid (by rw [hPa']; exact IntWalk.i64_in _ (by omega))
  have q12 : Hid (IntKind.i64.wrap (Pa'.tdiv 65536) = Pa' / 65536) := Lib.hid (by rw [Int.tdiv_eq_ediv_of_nonneg c3]; exact IntWalk.i64_in _ (by omega))
  have q13 : Hid (IntKind.i64.wrap (Lo' + Pa' / 65536) = Lo' + Pa' / 65536) := Lib.hid (IntWalk.i64_in _ (by omega))
  have k3 : Hid (decide (A < Lo + Pa / 65536) = false) := Lib.hid (decide_eq_false (by omega))
  have k4 : Hid (decide (Lo' + Pa' / 65536 < A) = false) := Lib.hid (decide_eq_false (by omega))
  have w1 : Hid (IntKind.i64.wrap x = x) := Lib.hid (IntWalk.i64_in _ (by omega))
  have w2 : Hid (IntKind.i64.wrap y = y) := Lib.hid (IntWalk.i64_in _ (by omega))
  have w3 : Hid (IntKind.i64.wrap z = z) := Lib.hid (IntWalk.i64_in _ (by omega))
  have w4 : Hid (IntKind.i64.wrap (-x) = -x) := Lib.hid (IntWalk.i64_in _ (by omega))
  have w5 : Hid (IntKind.i64.wrap (-y) = -y) := Lib.hid (IntWalk.i64_in _ (by omega))
  have w6 : Hid (IntKind.i64.wrap (-z) = -z) := Lib.hid (IntWalk.i64_in _ (by omega))
  have w7 : Hid (IntKind.i64.wrap (max x (-x) + max y (-y)) = max x (-x) + max y (-y)) := Lib.hid (IntWalk.i64_in _ (by omega))
  have w8 : Hid (IntKind.i64.wrap (max x (-x) + max y (-y) + max z (-z)) = max x (-x) + max y (-y) + max z (-z)) := Lib.hid (IntWalk.i64_in _ (by omega))
  have k5 : Hid (decide (N ≤ max x (-x) + max y (-y) + max z (-z)) = true) := Lib.hid (decide_eq_true g1)
  have k6 : Hid (decide (max (max (max (max (max x (-x)) y) (-y)) z) (-z) ≤ N) = true) := Lib.hid (decide_eq_true (most_six N x y z g2 g3 g4))
  clear hA hr hr0 hr1 hlow hover b1 b2 b3 b4 c1 c2 c3 c4 g1 g2 g3 g4 hx hy hz hr' hLo hPa hLo' hPa'
  refine calls_hide fun V HV => ?_
  have hR := Own.start w
  go_enter Try.func3, Try.ntmps3
  go_wp2_with (first
    | ((with_reducible apply is_list); first
      | ((with_reducible refine own_skip ?_ ?_); (exact rfl); simp only [Act.put, List.setIfInBounds_toArray, List.set_cons_succ, List.set_cons_zero])
      | (refine own_box (by rfl) (by rfl) (by simp [go_sem, V3.v, Pl.v, V3.cs, Pl.cs, layAt, Value.cells] <;> rfl) ?_ hR; clear hR; intro _ _ hR; simp only [Act.put, List.setIfInBounds_toArray, List.set_cons_succ, List.set_cons_zero])
      | (refine own_alloc (by rfl) (by rfl) (by first | exact zero_vec | exact zero_wide | exact zero_big) ?_ hR; clear hR; intro _ _ hR; simp only [Act.put, List.setIfInBounds_toArray, List.set_cons_succ, List.set_cons_zero])
      | (refine own_alloc1 (by rfl) (by rfl) (by first | exact zero_int | exact zero_int64 | exact zero_bool | exact zero_uint8 | exact zero_uint64 | exact zero_int32 | exact zero_uint64s) (by simp [go_sem, V3.v, Pl.v, V3.cs, Pl.cs, layAt, Value.cells] <;> rfl) ?_ hR; clear hR; intro _ _ hR; simp only [Act.put, List.setIfInBounds_toArray, List.set_cons_succ, List.set_cons_zero])
      | (refine own_load_all (by rfl) (by rfl) (by rfl) (by first | exact agg_vec | exact agg_wide | exact agg_big) (by repeat (first | exact .head _ | refine .tail _ ?_)) (by rfl) ?_ hR; clear hR; intro hR; simp only [Act.put, List.setIfInBounds_toArray, List.set_cons_succ, List.set_cons_zero])
      | (refine own_load_agg (by rfl) (by rfl) (by rfl) (by first | exact agg_vec | exact agg_wide | exact agg_big) (by repeat (first | exact .head _ | refine .tail _ ?_)) (by rfl) (by simp [go_sem, V3.v, Pl.v, V3.cs, Pl.cs, layAt, Value.cells] <;> rfl) ?_ hR; clear hR; intro hR; simp only [Act.put, List.setIfInBounds_toArray, List.set_cons_succ, List.set_cons_zero])
      | (refine own_load_one (by rfl) (by rfl) (by rfl) (by first | exact one_int | exact one_int64 | exact one_bool | exact one_uint8 | exact one_uint64 | exact one_int32 | exact one_uint64s) (by repeat (first | exact .head _ | refine .tail _ ?_)) (by simp [go_sem, V3.v, Pl.v, V3.cs, Pl.cs, layAt, Value.cells] <;> rfl) ?_ hR; clear hR; intro hR; simp only [Act.put, List.setIfInBounds_toArray, List.set_cons_succ, List.set_cons_zero])
      | (refine own_store_all (by rfl) (by rfl) (by rfl) (by first | exact agg_vec.size | exact agg_wide.size | exact agg_big.size | exact one_int.size | exact one_int64.size | exact one_bool.size | exact one_uint8.size | exact one_uint64.size | exact one_int32.size | exact one_uint64s.size) (by rfl) (by rfl) (by rfl) (by repeat (first | exact .head _ | refine .tail _ ?_)) (by rfl) (by simp [go_sem, V3.v, Pl.v, V3.cs, Pl.cs, layAt, Value.cells] <;> rfl) (by repeat (first | exact .here | apply Upd.there)) ?_ hR; clear hR; intro _ hR; simp only [Act.put, List.setIfInBounds_toArray, List.set_cons_succ, List.set_cons_zero])
      | (refine own_store (by rfl) (by rfl) (by rfl) (by first | exact agg_vec.size | exact agg_wide.size | exact agg_big.size | exact one_int.size | exact one_int64.size | exact one_bool.size | exact one_uint8.size | exact one_uint64.size | exact one_int32.size | exact one_uint64s.size) (by rfl) (by rfl) (by rfl) (by repeat (first | exact .head _ | refine .tail _ ?_)) (by rfl) (by simp [go_sem, V3.v, Pl.v, V3.cs, Pl.cs, layAt, Value.cells] <;> rfl) (by repeat (first | exact .here | apply Upd.there)) ?_ hR; clear hR; intro _ hR; simp only [Act.put, List.setIfInBounds_toArray, List.set_cons_succ, List.set_cons_zero])
      | (refine own_max (by rfl) (by rfl) (by rfl) (by rfl) ?_; simp only [Act.put, List.setIfInBounds_toArray, List.set_cons_succ, List.set_cons_zero])
      | (refine own_min (by rfl) (by rfl) (by rfl) (by rfl) ?_; simp only [Act.put, List.setIfInBounds_toArray, List.set_cons_succ, List.set_cons_zero]))
    )
  refine own_call (shown01_any _) ?_ hR; clear hR; intro _ hR
  go_wp2_with (first
    | ((with_reducible apply is_list); repeat1' (first | rw [ka.out] | (first
      | ((with_reducible refine own_skip ?_ ?_); (exact rfl); simp only [Act.put, List.setIfInBounds_toArray, List.set_cons_succ, List.set_cons_zero])
      | (refine own_move (by rfl) (by rfl) (by simp only [Act.eval, Array.getD_eq_getD_getElem?, List.getElem?_toArray, List.getElem?_cons_zero, List.getElem?_cons_succ, Option.getD_some] <;> rfl) ?_; simp only [Act.put, List.setIfInBounds_toArray, List.set_cons_succ, List.set_cons_zero])
      | (refine own_assign (by rfl) (by rfl) (by simp only [Act.eval, Array.getD_eq_getD_getElem?, List.getElem?_toArray, List.getElem?_cons_zero, List.getElem?_cons_succ, Option.getD_some] <;> rfl) ?_; simp only [Act.put, List.setIfInBounds_toArray, List.set_cons_succ, List.set_cons_zero])
      | (refine own_box (by rfl) (by rfl) (by simp [go_sem, V3.v, Pl.v, V3.cs, Pl.cs, layAt, Value.cells] <;> rfl) ?_ hR; clear hR; intro _ _ hR; simp only [Act.put, List.setIfInBounds_toArray, List.set_cons_succ, List.set_cons_zero])
      | (refine own_alloc (by rfl) (by rfl) (by first | exact zero_vec | exact zero_wide | exact zero_big) ?_ hR; clear hR; intro _ _ hR; simp only [Act.put, List.setIfInBounds_toArray, List.set_cons_succ, List.set_cons_zero])
      | (refine own_alloc1 (by rfl) (by rfl) (by first | exact zero_int | exact zero_int64 | exact zero_bool | exact zero_uint8 | exact zero_uint64 | exact zero_int32 | exact zero_uint64s) (by simp [go_sem, V3.v, Pl.v, V3.cs, Pl.cs, layAt, Value.cells] <;> rfl) ?_ hR; clear hR; intro _ _ hR; simp only [Act.put, List.setIfInBounds_toArray, List.set_cons_succ, List.set_cons_zero])
      | (refine own_load_all (by rfl) (by rfl) (by rfl) (by first | exact agg_vec | exact agg_wide | exact agg_big) (by repeat (first | exact .head _ | refine .tail _ ?_)) (by rfl) ?_ hR; clear hR; intro hR; simp only [Act.put, List.setIfInBounds_toArray, List.set_cons_succ, List.set_cons_zero])
      | (refine own_load_agg (by rfl) (by rfl) (by rfl) (by first | exact agg_vec | exact agg_wide | exact agg_big) (by repeat (first | exact .head _ | refine .tail _ ?_)) (by rfl) (by simp [go_sem, V3.v, Pl.v, V3.cs, Pl.cs, layAt, Value.cells] <;> rfl) ?_ hR; clear hR; intro hR; simp only [Act.put, List.setIfInBounds_toArray, List.set_cons_succ, List.set_cons_zero])
      | (refine own_load_one (by rfl) (by rfl) (by rfl) (by first | exact one_int | exact one_int64 | exact one_bool | exact one_uint8 | exact one_uint64 | exact one_int32 | exact one_uint64s) (by repeat (first | exact .head _ | refine .tail _ ?_)) (by simp [go_sem, V3.v, Pl.v, V3.cs, Pl.cs, layAt, Value.cells] <;> rfl) ?_ hR; clear hR; intro hR; simp only [Act.put, List.setIfInBounds_toArray, List.set_cons_succ, List.set_cons_zero])
      | (refine own_store_all (by rfl) (by rfl) (by rfl) (by first | exact agg_vec.size | exact agg_wide.size | exact agg_big.size | exact one_int.size | exact one_int64.size | exact one_bool.size | exact one_uint8.size | exact one_uint64.size | exact one_int32.size | exact one_uint64s.size) (by rfl) (by rfl) (by rfl) (by repeat (first | exact .head _ | refine .tail _ ?_)) (by rfl) (by simp [go_sem, V3.v, Pl.v, V3.cs, Pl.cs, layAt, Value.cells] <;> rfl) (by repeat (first | exact .here | apply Upd.there)) ?_ hR; clear hR; intro _ hR; simp only [Act.put, List.setIfInBounds_toArray, List.set_cons_succ, List.set_cons_zero])
      | (refine own_store (by rfl) (by rfl) (by rfl) (by first | exact agg_vec.size | exact agg_wide.size | exact agg_big.size | exact one_int.size | exact one_int64.size | exact one_bool.size | exact one_uint8.size | exact one_uint64.size | exact one_int32.size | exact one_uint64s.size) (by rfl) (by rfl) (by rfl) (by repeat (first | exact .head _ | refine .tail _ ?_)) (by rfl) (by simp [go_sem, V3.v, Pl.v, V3.cs, Pl.cs, layAt, Value.cells] <;> rfl) (by repeat (first | exact .here | apply Upd.there)) ?_ hR; clear hR; intro _ hR; simp only [Act.put, List.setIfInBounds_toArray, List.set_cons_succ, List.set_cons_zero])
      | (refine own_max (by rfl) (by rfl) (by rfl) (by rfl) ?_; simp only [Act.put, List.setIfInBounds_toArray, List.set_cons_succ, List.set_cons_zero])
      | (refine own_min (by rfl) (by rfl) (by rfl) (by rfl) ?_; simp only [Act.put, List.setIfInBounds_toArray, List.set_cons_succ, List.set_cons_zero])
      | (refine own_pure (by rfl) (by intro w; simp [go_sem, V3.v, Pl.v, V3.cs, Pl.cs, layAt, Value.cells] <;> rfl) ?_; simp only [Act.put, List.setIfInBounds_toArray, List.set_cons_succ, List.set_cons_zero])))))
  refine own_call (hsq _) ?_ hR; clear hR; intro _ hR
  go_upto_region 6 with (first
    | ((with_reducible apply is_list); repeat1' (first | rw [k1.out] | rw [k2.out] | (first
      | ((with_reducible refine own_skip ?_ ?_); (exact rfl); simp only [Act.put, List.setIfInBounds_toArray, List.set_cons_succ, List.set_cons_zero])
      | (refine own_move (by rfl) (by rfl) (by simp only [Act.eval, Array.getD_eq_getD_getElem?, List.getElem?_toArray, List.getElem?_cons_zero, List.getElem?_cons_succ, Option.getD_some] <;> rfl) ?_; simp only [Act.put, List.setIfInBounds_toArray, List.set_cons_succ, List.set_cons_zero])
      | (refine own_assign (by rfl) (by rfl) (by simp only [Act.eval, Array.getD_eq_getD_getElem?, List.getElem?_toArray, List.getElem?_cons_zero, List.getElem?_cons_succ, Option.getD_some] <;> rfl) ?_; simp only [Act.put, List.setIfInBounds_toArray, List.set_cons_succ, List.set_cons_zero])
      | (refine own_box (by rfl) (by rfl) (by simp [go_sem, V3.v, Pl.v, V3.cs, Pl.cs, layAt, Value.cells] <;> rfl) ?_ hR; clear hR; intro _ _ hR; simp only [Act.put, List.setIfInBounds_toArray, List.set_cons_succ, List.set_cons_zero])
      | (refine own_alloc (by rfl) (by rfl) (by first | exact zero_vec | exact zero_wide | exact zero_big) ?_ hR; clear hR; intro _ _ hR; simp only [Act.put, List.setIfInBounds_toArray, List.set_cons_succ, List.set_cons_zero])
      | (refine own_alloc1 (by rfl) (by rfl) (by first | exact zero_int | exact zero_int64 | exact zero_bool | exact zero_uint8 | exact zero_uint64 | exact zero_int32 | exact zero_uint64s) (by simp [go_sem, V3.v, Pl.v, V3.cs, Pl.cs, layAt, Value.cells] <;> rfl) ?_ hR; clear hR; intro _ _ hR; simp only [Act.put, List.setIfInBounds_toArray, List.set_cons_succ, List.set_cons_zero])
      | (refine own_load_all (by rfl) (by rfl) (by rfl) (by first | exact agg_vec | exact agg_wide | exact agg_big) (by repeat (first | exact .head _ | refine .tail _ ?_)) (by rfl) ?_ hR; clear hR; intro hR; simp only [Act.put, List.setIfInBounds_toArray, List.set_cons_succ, List.set_cons_zero])
      | (refine own_load_agg (by rfl) (by rfl) (by rfl) (by first | exact agg_vec | exact agg_wide | exact agg_big) (by repeat (first | exact .head _ | refine .tail _ ?_)) (by rfl) (by simp [go_sem, V3.v, Pl.v, V3.cs, Pl.cs, layAt, Value.cells] <;> rfl) ?_ hR; clear hR; intro hR; simp only [Act.put, List.setIfInBounds_toArray, List.set_cons_succ, List.set_cons_zero])
      | (refine own_load_one (by rfl) (by rfl) (by rfl) (by first | exact one_int | exact one_int64 | exact one_bool | exact one_uint8 | exact one_uint64 | exact one_int32 | exact one_uint64s) (by repeat (first | exact .head _ | refine .tail _ ?_)) (by simp [go_sem, V3.v, Pl.v, V3.cs, Pl.cs, layAt, Value.cells] <;> rfl) ?_ hR; clear hR; intro hR; simp only [Act.put, List.setIfInBounds_toArray, List.set_cons_succ, List.set_cons_zero])
      | (refine own_store_all (by rfl) (by rfl) (by rfl) (by first | exact agg_vec.size | exact agg_wide.size | exact agg_big.size | exact one_int.size | exact one_int64.size | exact one_bool.size | exact one_uint8.size | exact one_uint64.size | exact one_int32.size | exact one_uint64s.size) (by rfl) (by rfl) (by rfl) (by repeat (first | exact .head _ | refine .tail _ ?_)) (by rfl) (by simp [go_sem, V3.v, Pl.v, V3.cs, Pl.cs, layAt, Value.cells] <;> rfl) (by repeat (first | exact .here | apply Upd.there)) ?_ hR; clear hR; intro _ hR; simp only [Act.put, List.setIfInBounds_toArray, List.set_cons_succ, List.set_cons_zero])
      | (refine own_store (by rfl) (by rfl) (by rfl) (by first | exact agg_vec.size | exact agg_wide.size | exact agg_big.size | exact one_int.size | exact one_int64.size | exact one_bool.size | exact one_uint8.size | exact one_uint64.size | exact one_int32.size | exact one_uint64s.size) (by rfl) (by rfl) (by rfl) (by repeat (first | exact .head _ | refine .tail _ ?_)) (by rfl) (by simp [go_sem, V3.v, Pl.v, V3.cs, Pl.cs, layAt, Value.cells] <;> rfl) (by repeat (first | exact .here | apply Upd.there)) ?_ hR; clear hR; intro _ hR; simp only [Act.put, List.setIfInBounds_toArray, List.set_cons_succ, List.set_cons_zero])
      | (refine own_max (by rfl) (by rfl) (by rfl) (by rfl) ?_; simp only [Act.put, List.setIfInBounds_toArray, List.set_cons_succ, List.set_cons_zero])
      | (refine own_min (by rfl) (by rfl) (by rfl) (by rfl) ?_; simp only [Act.put, List.setIfInBounds_toArray, List.set_cons_succ, List.set_cons_zero])
      | (refine own_pure (by rfl) (by intro w; simp [go_sem, V3.v, Pl.v, V3.cs, Pl.cs, layAt, Value.cells] <;> rfl) ?_; simp only [Act.put, List.setIfInBounds_toArray, List.set_cons_succ, List.set_cons_zero])))))
  go_upto_region 8 with (first
    | ((with_reducible apply is_list); repeat1' (first | rw [q1.out] | rw [q2.out] | rw [q3.out] | rw [q4.out] | (first
      | ((with_reducible refine own_skip ?_ ?_); (exact rfl); simp only [Act.put, List.setIfInBounds_toArray, List.set_cons_succ, List.set_cons_zero])
      | (refine own_move (by rfl) (by rfl) (by simp only [Act.eval, Array.getD_eq_getD_getElem?, List.getElem?_toArray, List.getElem?_cons_zero, List.getElem?_cons_succ, Option.getD_some] <;> rfl) ?_; simp only [Act.put, List.setIfInBounds_toArray, List.set_cons_succ, List.set_cons_zero])
      | (refine own_assign (by rfl) (by rfl) (by simp only [Act.eval, Array.getD_eq_getD_getElem?, List.getElem?_toArray, List.getElem?_cons_zero, List.getElem?_cons_succ, Option.getD_some] <;> rfl) ?_; simp only [Act.put, List.setIfInBounds_toArray, List.set_cons_succ, List.set_cons_zero])
      | (refine own_box (by rfl) (by rfl) (by simp [go_sem, V3.v, Pl.v, V3.cs, Pl.cs, layAt, Value.cells] <;> rfl) ?_ hR; clear hR; intro _ _ hR; simp only [Act.put, List.setIfInBounds_toArray, List.set_cons_succ, List.set_cons_zero])
      | (refine own_alloc (by rfl) (by rfl) (by first | exact zero_vec | exact zero_wide | exact zero_big) ?_ hR; clear hR; intro _ _ hR; simp only [Act.put, List.setIfInBounds_toArray, List.set_cons_succ, List.set_cons_zero])
      | (refine own_alloc1 (by rfl) (by rfl) (by first | exact zero_int | exact zero_int64 | exact zero_bool | exact zero_uint8 | exact zero_uint64 | exact zero_int32 | exact zero_uint64s) (by simp [go_sem, V3.v, Pl.v, V3.cs, Pl.cs, layAt, Value.cells] <;> rfl) ?_ hR; clear hR; intro _ _ hR; simp only [Act.put, List.setIfInBounds_toArray, List.set_cons_succ, List.set_cons_zero])
      | (refine own_load_all (by rfl) (by rfl) (by rfl) (by first | exact agg_vec | exact agg_wide | exact agg_big) (by repeat (first | exact .head _ | refine .tail _ ?_)) (by rfl) ?_ hR; clear hR; intro hR; simp only [Act.put, List.setIfInBounds_toArray, List.set_cons_succ, List.set_cons_zero])
      | (refine own_load_agg (by rfl) (by rfl) (by rfl) (by first | exact agg_vec | exact agg_wide | exact agg_big) (by repeat (first | exact .head _ | refine .tail _ ?_)) (by rfl) (by simp [go_sem, V3.v, Pl.v, V3.cs, Pl.cs, layAt, Value.cells] <;> rfl) ?_ hR; clear hR; intro hR; simp only [Act.put, List.setIfInBounds_toArray, List.set_cons_succ, List.set_cons_zero])
      | (refine own_load_one (by rfl) (by rfl) (by rfl) (by first | exact one_int | exact one_int64 | exact one_bool | exact one_uint8 | exact one_uint64 | exact one_int32 | exact one_uint64s) (by repeat (first | exact .head _ | refine .tail _ ?_)) (by simp [go_sem, V3.v, Pl.v, V3.cs, Pl.cs, layAt, Value.cells] <;> rfl) ?_ hR; clear hR; intro hR; simp only [Act.put, List.setIfInBounds_toArray, List.set_cons_succ, List.set_cons_zero])
      | (refine own_store_all (by rfl) (by rfl) (by rfl) (by first | exact agg_vec.size | exact agg_wide.size | exact agg_big.size | exact one_int.size | exact one_int64.size | exact one_bool.size | exact one_uint8.size | exact one_uint64.size | exact one_int32.size | exact one_uint64s.size) (by rfl) (by rfl) (by rfl) (by repeat (first | exact .head _ | refine .tail _ ?_)) (by rfl) (by simp [go_sem, V3.v, Pl.v, V3.cs, Pl.cs, layAt, Value.cells] <;> rfl) (by repeat (first | exact .here | apply Upd.there)) ?_ hR; clear hR; intro _ hR; simp only [Act.put, List.setIfInBounds_toArray, List.set_cons_succ, List.set_cons_zero])
      | (refine own_store (by rfl) (by rfl) (by rfl) (by first | exact agg_vec.size | exact agg_wide.size | exact agg_big.size | exact one_int.size | exact one_int64.size | exact one_bool.size | exact one_uint8.size | exact one_uint64.size | exact one_int32.size | exact one_uint64s.size) (by rfl) (by rfl) (by rfl) (by repeat (first | exact .head _ | refine .tail _ ?_)) (by rfl) (by simp [go_sem, V3.v, Pl.v, V3.cs, Pl.cs, layAt, Value.cells] <;> rfl) (by repeat (first | exact .here | apply Upd.there)) ?_ hR; clear hR; intro _ hR; simp only [Act.put, List.setIfInBounds_toArray, List.set_cons_succ, List.set_cons_zero])
      | (refine own_max (by rfl) (by rfl) (by rfl) (by rfl) ?_; simp only [Act.put, List.setIfInBounds_toArray, List.set_cons_succ, List.set_cons_zero])
      | (refine own_min (by rfl) (by rfl) (by rfl) (by rfl) ?_; simp only [Act.put, List.setIfInBounds_toArray, List.set_cons_succ, List.set_cons_zero])
      | (refine own_pure (by rfl) (by intro w; simp [go_sem, V3.v, Pl.v, V3.cs, Pl.cs, layAt, Value.cells] <;> rfl) ?_; simp only [Act.put, List.setIfInBounds_toArray, List.set_cons_succ, List.set_cons_zero])))))
  go_upto_region 10 with (first
    | ((with_reducible apply is_list); repeat1' (first | rw [q5.out] | rw [q6.out] | rw [q7.out] | (first
      | ((with_reducible refine own_skip ?_ ?_); (exact rfl); simp only [Act.put, List.setIfInBounds_toArray, List.set_cons_succ, List.set_cons_zero])
      | (refine own_move (by rfl) (by rfl) (by simp only [Act.eval, Array.getD_eq_getD_getElem?, List.getElem?_toArray, List.getElem?_cons_zero, List.getElem?_cons_succ, Option.getD_some] <;> rfl) ?_; simp only [Act.put, List.setIfInBounds_toArray, List.set_cons_succ, List.set_cons_zero])
      | (refine own_assign (by rfl) (by rfl) (by simp only [Act.eval, Array.getD_eq_getD_getElem?, List.getElem?_toArray, List.getElem?_cons_zero, List.getElem?_cons_succ, Option.getD_some] <;> rfl) ?_; simp only [Act.put, List.setIfInBounds_toArray, List.set_cons_succ, List.set_cons_zero])
      | (refine own_box (by rfl) (by rfl) (by simp [go_sem, V3.v, Pl.v, V3.cs, Pl.cs, layAt, Value.cells] <;> rfl) ?_ hR; clear hR; intro _ _ hR; simp only [Act.put, List.setIfInBounds_toArray, List.set_cons_succ, List.set_cons_zero])
      | (refine own_alloc (by rfl) (by rfl) (by first | exact zero_vec | exact zero_wide | exact zero_big) ?_ hR; clear hR; intro _ _ hR; simp only [Act.put, List.setIfInBounds_toArray, List.set_cons_succ, List.set_cons_zero])
      | (refine own_alloc1 (by rfl) (by rfl) (by first | exact zero_int | exact zero_int64 | exact zero_bool | exact zero_uint8 | exact zero_uint64 | exact zero_int32 | exact zero_uint64s) (by simp [go_sem, V3.v, Pl.v, V3.cs, Pl.cs, layAt, Value.cells] <;> rfl) ?_ hR; clear hR; intro _ _ hR; simp only [Act.put, List.setIfInBounds_toArray, List.set_cons_succ, List.set_cons_zero])
      | (refine own_load_all (by rfl) (by rfl) (by rfl) (by first | exact agg_vec | exact agg_wide | exact agg_big) (by repeat (first | exact .head _ | refine .tail _ ?_)) (by rfl) ?_ hR; clear hR; intro hR; simp only [Act.put, List.setIfInBounds_toArray, List.set_cons_succ, List.set_cons_zero])
      | (refine own_load_agg (by rfl) (by rfl) (by rfl) (by first | exact agg_vec | exact agg_wide | exact agg_big) (by repeat (first | exact .head _ | refine .tail _ ?_)) (by rfl) (by simp [go_sem, V3.v, Pl.v, V3.cs, Pl.cs, layAt, Value.cells] <;> rfl) ?_ hR; clear hR; intro hR; simp only [Act.put, List.setIfInBounds_toArray, List.set_cons_succ, List.set_cons_zero])
      | (refine own_load_one (by rfl) (by rfl) (by rfl) (by first | exact one_int | exact one_int64 | exact one_bool | exact one_uint8 | exact one_uint64 | exact one_int32 | exact one_uint64s) (by repeat (first | exact .head _ | refine .tail _ ?_)) (by simp [go_sem, V3.v, Pl.v, V3.cs, Pl.cs, layAt, Value.cells] <;> rfl) ?_ hR; clear hR; intro hR; simp only [Act.put, List.setIfInBounds_toArray, List.set_cons_succ, List.set_cons_zero])
      | (refine own_store_all (by rfl) (by rfl) (by rfl) (by first | exact agg_vec.size | exact agg_wide.size | exact agg_big.size | exact one_int.size | exact one_int64.size | exact one_bool.size | exact one_uint8.size | exact one_uint64.size | exact one_int32.size | exact one_uint64s.size) (by rfl) (by rfl) (by rfl) (by repeat (first | exact .head _ | refine .tail _ ?_)) (by rfl) (by simp [go_sem, V3.v, Pl.v, V3.cs, Pl.cs, layAt, Value.cells] <;> rfl) (by repeat (first | exact .here | apply Upd.there)) ?_ hR; clear hR; intro _ hR; simp only [Act.put, List.setIfInBounds_toArray, List.set_cons_succ, List.set_cons_zero])
      | (refine own_store (by rfl) (by rfl) (by rfl) (by first | exact agg_vec.size | exact agg_wide.size | exact agg_big.size | exact one_int.size | exact one_int64.size | exact one_bool.size | exact one_uint8.size | exact one_uint64.size | exact one_int32.size | exact one_uint64s.size) (by rfl) (by rfl) (by rfl) (by repeat (first | exact .head _ | refine .tail _ ?_)) (by rfl) (by simp [go_sem, V3.v, Pl.v, V3.cs, Pl.cs, layAt, Value.cells] <;> rfl) (by repeat (first | exact .here | apply Upd.there)) ?_ hR; clear hR; intro _ hR; simp only [Act.put, List.setIfInBounds_toArray, List.set_cons_succ, List.set_cons_zero])
      | (refine own_max (by rfl) (by rfl) (by rfl) (by rfl) ?_; simp only [Act.put, List.setIfInBounds_toArray, List.set_cons_succ, List.set_cons_zero])
      | (refine own_min (by rfl) (by rfl) (by rfl) (by rfl) ?_; simp only [Act.put, List.setIfInBounds_toArray, List.set_cons_succ, List.set_cons_zero])
      | (refine own_pure (by rfl) (by intro w; simp [go_sem, V3.v, Pl.v, V3.cs, Pl.cs, layAt, Value.cells] <;> rfl) ?_; simp only [Act.put, List.setIfInBounds_toArray, List.set_cons_succ, List.set_cons_zero])))))
  go_upto_region 11 with (first
    | ((with_reducible apply is_list); repeat1' (first | rw [q8.out] | rw [q9.out] | rw [q10.out] | rw [q11.out] | rw [q12.out] | rw [q13.out] | (first
      | ((with_reducible refine own_skip ?_ ?_); (exact rfl); simp only [Act.put, List.setIfInBounds_toArray, List.set_cons_succ, List.set_cons_zero])
      | (refine own_move (by rfl) (by rfl) (by simp only [Act.eval, Array.getD_eq_getD_getElem?, List.getElem?_toArray, List.getElem?_cons_zero, List.getElem?_cons_succ, Option.getD_some] <;> rfl) ?_; simp only [Act.put, List.setIfInBounds_toArray, List.set_cons_succ, List.set_cons_zero])
      | (refine own_assign (by rfl) (by rfl) (by simp only [Act.eval, Array.getD_eq_getD_getElem?, List.getElem?_toArray, List.getElem?_cons_zero, List.getElem?_cons_succ, Option.getD_some] <;> rfl) ?_; simp only [Act.put, List.setIfInBounds_toArray, List.set_cons_succ, List.set_cons_zero])
      | (refine own_box (by rfl) (by rfl) (by simp [go_sem, V3.v, Pl.v, V3.cs, Pl.cs, layAt, Value.cells] <;> rfl) ?_ hR; clear hR; intro _ _ hR; simp only [Act.put, List.setIfInBounds_toArray, List.set_cons_succ, List.set_cons_zero])
      | (refine own_alloc (by rfl) (by rfl) (by first | exact zero_vec | exact zero_wide | exact zero_big) ?_ hR; clear hR; intro _ _ hR; simp only [Act.put, List.setIfInBounds_toArray, List.set_cons_succ, List.set_cons_zero])
      | (refine own_alloc1 (by rfl) (by rfl) (by first | exact zero_int | exact zero_int64 | exact zero_bool | exact zero_uint8 | exact zero_uint64 | exact zero_int32 | exact zero_uint64s) (by simp [go_sem, V3.v, Pl.v, V3.cs, Pl.cs, layAt, Value.cells] <;> rfl) ?_ hR; clear hR; intro _ _ hR; simp only [Act.put, List.setIfInBounds_toArray, List.set_cons_succ, List.set_cons_zero])
      | (refine own_load_all (by rfl) (by rfl) (by rfl) (by first | exact agg_vec | exact agg_wide | exact agg_big) (by repeat (first | exact .head _ | refine .tail _ ?_)) (by rfl) ?_ hR; clear hR; intro hR; simp only [Act.put, List.setIfInBounds_toArray, List.set_cons_succ, List.set_cons_zero])
      | (refine own_load_agg (by rfl) (by rfl) (by rfl) (by first | exact agg_vec | exact agg_wide | exact agg_big) (by repeat (first | exact .head _ | refine .tail _ ?_)) (by rfl) (by simp [go_sem, V3.v, Pl.v, V3.cs, Pl.cs, layAt, Value.cells] <;> rfl) ?_ hR; clear hR; intro hR; simp only [Act.put, List.setIfInBounds_toArray, List.set_cons_succ, List.set_cons_zero])
      | (refine own_load_one (by rfl) (by rfl) (by rfl) (by first | exact one_int | exact one_int64 | exact one_bool | exact one_uint8 | exact one_uint64 | exact one_int32 | exact one_uint64s) (by repeat (first | exact .head _ | refine .tail _ ?_)) (by simp [go_sem, V3.v, Pl.v, V3.cs, Pl.cs, layAt, Value.cells] <;> rfl) ?_ hR; clear hR; intro hR; simp only [Act.put, List.setIfInBounds_toArray, List.set_cons_succ, List.set_cons_zero])
      | (refine own_store_all (by rfl) (by rfl) (by rfl) (by first | exact agg_vec.size | exact agg_wide.size | exact agg_big.size | exact one_int.size | exact one_int64.size | exact one_bool.size | exact one_uint8.size | exact one_uint64.size | exact one_int32.size | exact one_uint64s.size) (by rfl) (by rfl) (by rfl) (by repeat (first | exact .head _ | refine .tail _ ?_)) (by rfl) (by simp [go_sem, V3.v, Pl.v, V3.cs, Pl.cs, layAt, Value.cells] <;> rfl) (by repeat (first | exact .here | apply Upd.there)) ?_ hR; clear hR; intro _ hR; simp only [Act.put, List.setIfInBounds_toArray, List.set_cons_succ, List.set_cons_zero])
      | (refine own_store (by rfl) (by rfl) (by rfl) (by first | exact agg_vec.size | exact agg_wide.size | exact agg_big.size | exact one_int.size | exact one_int64.size | exact one_bool.size | exact one_uint8.size | exact one_uint64.size | exact one_int32.size | exact one_uint64s.size) (by rfl) (by rfl) (by rfl) (by repeat (first | exact .head _ | refine .tail _ ?_)) (by rfl) (by simp [go_sem, V3.v, Pl.v, V3.cs, Pl.cs, layAt, Value.cells] <;> rfl) (by repeat (first | exact .here | apply Upd.there)) ?_ hR; clear hR; intro _ hR; simp only [Act.put, List.setIfInBounds_toArray, List.set_cons_succ, List.set_cons_zero])
      | (refine own_max (by rfl) (by rfl) (by rfl) (by rfl) ?_; simp only [Act.put, List.setIfInBounds_toArray, List.set_cons_succ, List.set_cons_zero])
      | (refine own_min (by rfl) (by rfl) (by rfl) (by rfl) ?_; simp only [Act.put, List.setIfInBounds_toArray, List.set_cons_succ, List.set_cons_zero])
      | (refine own_pure (by rfl) (by intro w; simp [go_sem, V3.v, Pl.v, V3.cs, Pl.cs, layAt, Value.cells] <;> rfl) ?_; simp only [Act.put, List.setIfInBounds_toArray, List.set_cons_succ, List.set_cons_zero])))))
  go_upto_region 13 with (first
    | ((with_reducible apply is_list); repeat1' (first | rw [k3.out] | rw [k4.out] | (first
      | ((with_reducible refine own_skip ?_ ?_); (exact rfl); simp only [Act.put, List.setIfInBounds_toArray, List.set_cons_succ, List.set_cons_zero])
      | (refine own_move (by rfl) (by rfl) (by simp only [Act.eval, Array.getD_eq_getD_getElem?, List.getElem?_toArray, List.getElem?_cons_zero, List.getElem?_cons_succ, Option.getD_some] <;> rfl) ?_; simp only [Act.put, List.setIfInBounds_toArray, List.set_cons_succ, List.set_cons_zero])
      | (refine own_assign (by rfl) (by rfl) (by simp only [Act.eval, Array.getD_eq_getD_getElem?, List.getElem?_toArray, List.getElem?_cons_zero, List.getElem?_cons_succ, Option.getD_some] <;> rfl) ?_; simp only [Act.put, List.setIfInBounds_toArray, List.set_cons_succ, List.set_cons_zero])
      | (refine own_box (by rfl) (by rfl) (by simp [go_sem, V3.v, Pl.v, V3.cs, Pl.cs, layAt, Value.cells] <;> rfl) ?_ hR; clear hR; intro _ _ hR; simp only [Act.put, List.setIfInBounds_toArray, List.set_cons_succ, List.set_cons_zero])
      | (refine own_alloc (by rfl) (by rfl) (by first | exact zero_vec | exact zero_wide | exact zero_big) ?_ hR; clear hR; intro _ _ hR; simp only [Act.put, List.setIfInBounds_toArray, List.set_cons_succ, List.set_cons_zero])
      | (refine own_alloc1 (by rfl) (by rfl) (by first | exact zero_int | exact zero_int64 | exact zero_bool | exact zero_uint8 | exact zero_uint64 | exact zero_int32 | exact zero_uint64s) (by simp [go_sem, V3.v, Pl.v, V3.cs, Pl.cs, layAt, Value.cells] <;> rfl) ?_ hR; clear hR; intro _ _ hR; simp only [Act.put, List.setIfInBounds_toArray, List.set_cons_succ, List.set_cons_zero])
      | (refine own_load_all (by rfl) (by rfl) (by rfl) (by first | exact agg_vec | exact agg_wide | exact agg_big) (by repeat (first | exact .head _ | refine .tail _ ?_)) (by rfl) ?_ hR; clear hR; intro hR; simp only [Act.put, List.setIfInBounds_toArray, List.set_cons_succ, List.set_cons_zero])
      | (refine own_load_agg (by rfl) (by rfl) (by rfl) (by first | exact agg_vec | exact agg_wide | exact agg_big) (by repeat (first | exact .head _ | refine .tail _ ?_)) (by rfl) (by simp [go_sem, V3.v, Pl.v, V3.cs, Pl.cs, layAt, Value.cells] <;> rfl) ?_ hR; clear hR; intro hR; simp only [Act.put, List.setIfInBounds_toArray, List.set_cons_succ, List.set_cons_zero])
      | (refine own_load_one (by rfl) (by rfl) (by rfl) (by first | exact one_int | exact one_int64 | exact one_bool | exact one_uint8 | exact one_uint64 | exact one_int32 | exact one_uint64s) (by repeat (first | exact .head _ | refine .tail _ ?_)) (by simp [go_sem, V3.v, Pl.v, V3.cs, Pl.cs, layAt, Value.cells] <;> rfl) ?_ hR; clear hR; intro hR; simp only [Act.put, List.setIfInBounds_toArray, List.set_cons_succ, List.set_cons_zero])
      | (refine own_store_all (by rfl) (by rfl) (by rfl) (by first | exact agg_vec.size | exact agg_wide.size | exact agg_big.size | exact one_int.size | exact one_int64.size | exact one_bool.size | exact one_uint8.size | exact one_uint64.size | exact one_int32.size | exact one_uint64s.size) (by rfl) (by rfl) (by rfl) (by repeat (first | exact .head _ | refine .tail _ ?_)) (by rfl) (by simp [go_sem, V3.v, Pl.v, V3.cs, Pl.cs, layAt, Value.cells] <;> rfl) (by repeat (first | exact .here | apply Upd.there)) ?_ hR; clear hR; intro _ hR; simp only [Act.put, List.setIfInBounds_toArray, List.set_cons_succ, List.set_cons_zero])
      | (refine own_store (by rfl) (by rfl) (by rfl) (by first | exact agg_vec.size | exact agg_wide.size | exact agg_big.size | exact one_int.size | exact one_int64.size | exact one_bool.size | exact one_uint8.size | exact one_uint64.size | exact one_int32.size | exact one_uint64s.size) (by rfl) (by rfl) (by rfl) (by repeat (first | exact .head _ | refine .tail _ ?_)) (by rfl) (by simp [go_sem, V3.v, Pl.v, V3.cs, Pl.cs, layAt, Value.cells] <;> rfl) (by repeat (first | exact .here | apply Upd.there)) ?_ hR; clear hR; intro _ hR; simp only [Act.put, List.setIfInBounds_toArray, List.set_cons_succ, List.set_cons_zero])
      | (refine own_max (by rfl) (by rfl) (by rfl) (by rfl) ?_; simp only [Act.put, List.setIfInBounds_toArray, List.set_cons_succ, List.set_cons_zero])
      | (refine own_min (by rfl) (by rfl) (by rfl) (by rfl) ?_; simp only [Act.put, List.setIfInBounds_toArray, List.set_cons_succ, List.set_cons_zero])
      | (refine own_pure (by rfl) (by intro w; simp [go_sem, V3.v, Pl.v, V3.cs, Pl.cs, layAt, Value.cells] <;> rfl) ?_; simp only [Act.put, List.setIfInBounds_toArray, List.set_cons_succ, List.set_cons_zero])))))
  go_wp2_with (first
    | ((with_reducible apply is_list); repeat1' (first | rw [w1.out] | rw [w2.out] | rw [w3.out] | (first
      | ((with_reducible refine own_skip ?_ ?_); (exact rfl); simp only [Act.put, List.setIfInBounds_toArray, List.set_cons_succ, List.set_cons_zero])
      | (refine own_move (by rfl) (by rfl) (by simp only [Act.eval, Array.getD_eq_getD_getElem?, List.getElem?_toArray, List.getElem?_cons_zero, List.getElem?_cons_succ, Option.getD_some] <;> rfl) ?_; simp only [Act.put, List.setIfInBounds_toArray, List.set_cons_succ, List.set_cons_zero])
      | (refine own_assign (by rfl) (by rfl) (by simp only [Act.eval, Array.getD_eq_getD_getElem?, List.getElem?_toArray, List.getElem?_cons_zero, List.getElem?_cons_succ, Option.getD_some] <;> rfl) ?_; simp only [Act.put, List.setIfInBounds_toArray, List.set_cons_succ, List.set_cons_zero])
      | (refine own_box (by rfl) (by rfl) (by simp [go_sem, V3.v, Pl.v, V3.cs, Pl.cs, layAt, Value.cells] <;> rfl) ?_ hR; clear hR; intro _ _ hR; simp only [Act.put, List.setIfInBounds_toArray, List.set_cons_succ, List.set_cons_zero])
      | (refine own_alloc (by rfl) (by rfl) (by first | exact zero_vec | exact zero_wide | exact zero_big) ?_ hR; clear hR; intro _ _ hR; simp only [Act.put, List.setIfInBounds_toArray, List.set_cons_succ, List.set_cons_zero])
      | (refine own_alloc1 (by rfl) (by rfl) (by first | exact zero_int | exact zero_int64 | exact zero_bool | exact zero_uint8 | exact zero_uint64 | exact zero_int32 | exact zero_uint64s) (by simp [go_sem, V3.v, Pl.v, V3.cs, Pl.cs, layAt, Value.cells] <;> rfl) ?_ hR; clear hR; intro _ _ hR; simp only [Act.put, List.setIfInBounds_toArray, List.set_cons_succ, List.set_cons_zero])
      | (refine own_load_all (by rfl) (by rfl) (by rfl) (by first | exact agg_vec | exact agg_wide | exact agg_big) (by repeat (first | exact .head _ | refine .tail _ ?_)) (by rfl) ?_ hR; clear hR; intro hR; simp only [Act.put, List.setIfInBounds_toArray, List.set_cons_succ, List.set_cons_zero])
      | (refine own_load_agg (by rfl) (by rfl) (by rfl) (by first | exact agg_vec | exact agg_wide | exact agg_big) (by repeat (first | exact .head _ | refine .tail _ ?_)) (by rfl) (by simp [go_sem, V3.v, Pl.v, V3.cs, Pl.cs, layAt, Value.cells] <;> rfl) ?_ hR; clear hR; intro hR; simp only [Act.put, List.setIfInBounds_toArray, List.set_cons_succ, List.set_cons_zero])
      | (refine own_load_one (by rfl) (by rfl) (by rfl) (by first | exact one_int | exact one_int64 | exact one_bool | exact one_uint8 | exact one_uint64 | exact one_int32 | exact one_uint64s) (by repeat (first | exact .head _ | refine .tail _ ?_)) (by simp [go_sem, V3.v, Pl.v, V3.cs, Pl.cs, layAt, Value.cells] <;> rfl) ?_ hR; clear hR; intro hR; simp only [Act.put, List.setIfInBounds_toArray, List.set_cons_succ, List.set_cons_zero])
      | (refine own_store_all (by rfl) (by rfl) (by rfl) (by first | exact agg_vec.size | exact agg_wide.size | exact agg_big.size | exact one_int.size | exact one_int64.size | exact one_bool.size | exact one_uint8.size | exact one_uint64.size | exact one_int32.size | exact one_uint64s.size) (by rfl) (by rfl) (by rfl) (by repeat (first | exact .head _ | refine .tail _ ?_)) (by rfl) (by simp [go_sem, V3.v, Pl.v, V3.cs, Pl.cs, layAt, Value.cells] <;> rfl) (by repeat (first | exact .here | apply Upd.there)) ?_ hR; clear hR; intro _ hR; simp only [Act.put, List.setIfInBounds_toArray, List.set_cons_succ, List.set_cons_zero])
      | (refine own_store (by rfl) (by rfl) (by rfl) (by first | exact agg_vec.size | exact agg_wide.size | exact agg_big.size | exact one_int.size | exact one_int64.size | exact one_bool.size | exact one_uint8.size | exact one_uint64.size | exact one_int32.size | exact one_uint64s.size) (by rfl) (by rfl) (by rfl) (by repeat (first | exact .head _ | refine .tail _ ?_)) (by rfl) (by simp [go_sem, V3.v, Pl.v, V3.cs, Pl.cs, layAt, Value.cells] <;> rfl) (by repeat (first | exact .here | apply Upd.there)) ?_ hR; clear hR; intro _ hR; simp only [Act.put, List.setIfInBounds_toArray, List.set_cons_succ, List.set_cons_zero])
      | (refine own_max (by rfl) (by rfl) (by rfl) (by rfl) ?_; simp only [Act.put, List.setIfInBounds_toArray, List.set_cons_succ, List.set_cons_zero])
      | (refine own_min (by rfl) (by rfl) (by rfl) (by rfl) ?_; simp only [Act.put, List.setIfInBounds_toArray, List.set_cons_succ, List.set_cons_zero])
      | (refine own_pure (by rfl) (by intro w; simp [go_sem, V3.v, Pl.v, V3.cs, Pl.cs, layAt, Value.cells] <;> rfl) ?_; simp only [Act.put, List.setIfInBounds_toArray, List.set_cons_succ, List.set_cons_zero])))))
  refine own_call (hl _) ?_ hR; clear hR; intro _ hR
  go_upto_region 16 with (first
    | ((with_reducible apply is_list); repeat1' (first | rw [w4.out] | rw [w5.out] | rw [w6.out] | rw [w7.out] | rw [w8.out] | (first
      | ((with_reducible refine own_skip ?_ ?_); (exact rfl); simp only [Act.put, List.setIfInBounds_toArray, List.set_cons_succ, List.set_cons_zero])
      | (refine own_move (by rfl) (by rfl) (by simp only [Act.eval, Array.getD_eq_getD_getElem?, List.getElem?_toArray, List.getElem?_cons_zero, List.getElem?_cons_succ, Option.getD_some] <;> rfl) ?_; simp only [Act.put, List.setIfInBounds_toArray, List.set_cons_succ, List.set_cons_zero])
      | (refine own_assign (by rfl) (by rfl) (by simp only [Act.eval, Array.getD_eq_getD_getElem?, List.getElem?_toArray, List.getElem?_cons_zero, List.getElem?_cons_succ, Option.getD_some] <;> rfl) ?_; simp only [Act.put, List.setIfInBounds_toArray, List.set_cons_succ, List.set_cons_zero])
      | (refine own_box (by rfl) (by rfl) (by simp [go_sem, V3.v, Pl.v, V3.cs, Pl.cs, layAt, Value.cells] <;> rfl) ?_ hR; clear hR; intro _ _ hR; simp only [Act.put, List.setIfInBounds_toArray, List.set_cons_succ, List.set_cons_zero])
      | (refine own_alloc (by rfl) (by rfl) (by first | exact zero_vec | exact zero_wide | exact zero_big) ?_ hR; clear hR; intro _ _ hR; simp only [Act.put, List.setIfInBounds_toArray, List.set_cons_succ, List.set_cons_zero])
      | (refine own_alloc1 (by rfl) (by rfl) (by first | exact zero_int | exact zero_int64 | exact zero_bool | exact zero_uint8 | exact zero_uint64 | exact zero_int32 | exact zero_uint64s) (by simp [go_sem, V3.v, Pl.v, V3.cs, Pl.cs, layAt, Value.cells] <;> rfl) ?_ hR; clear hR; intro _ _ hR; simp only [Act.put, List.setIfInBounds_toArray, List.set_cons_succ, List.set_cons_zero])
      | (refine own_load_all (by rfl) (by rfl) (by rfl) (by first | exact agg_vec | exact agg_wide | exact agg_big) (by repeat (first | exact .head _ | refine .tail _ ?_)) (by rfl) ?_ hR; clear hR; intro hR; simp only [Act.put, List.setIfInBounds_toArray, List.set_cons_succ, List.set_cons_zero])
      | (refine own_load_agg (by rfl) (by rfl) (by rfl) (by first | exact agg_vec | exact agg_wide | exact agg_big) (by repeat (first | exact .head _ | refine .tail _ ?_)) (by rfl) (by simp [go_sem, V3.v, Pl.v, V3.cs, Pl.cs, layAt, Value.cells] <;> rfl) ?_ hR; clear hR; intro hR; simp only [Act.put, List.setIfInBounds_toArray, List.set_cons_succ, List.set_cons_zero])
      | (refine own_load_one (by rfl) (by rfl) (by rfl) (by first | exact one_int | exact one_int64 | exact one_bool | exact one_uint8 | exact one_uint64 | exact one_int32 | exact one_uint64s) (by repeat (first | exact .head _ | refine .tail _ ?_)) (by simp [go_sem, V3.v, Pl.v, V3.cs, Pl.cs, layAt, Value.cells] <;> rfl) ?_ hR; clear hR; intro hR; simp only [Act.put, List.setIfInBounds_toArray, List.set_cons_succ, List.set_cons_zero])
      | (refine own_store_all (by rfl) (by rfl) (by rfl) (by first | exact agg_vec.size | exact agg_wide.size | exact agg_big.size | exact one_int.size | exact one_int64.size | exact one_bool.size | exact one_uint8.size | exact one_uint64.size | exact one_int32.size | exact one_uint64s.size) (by rfl) (by rfl) (by rfl) (by repeat (first | exact .head _ | refine .tail _ ?_)) (by rfl) (by simp [go_sem, V3.v, Pl.v, V3.cs, Pl.cs, layAt, Value.cells] <;> rfl) (by repeat (first | exact .here | apply Upd.there)) ?_ hR; clear hR; intro _ hR; simp only [Act.put, List.setIfInBounds_toArray, List.set_cons_succ, List.set_cons_zero])
      | (refine own_store (by rfl) (by rfl) (by rfl) (by first | exact agg_vec.size | exact agg_wide.size | exact agg_big.size | exact one_int.size | exact one_int64.size | exact one_bool.size | exact one_uint8.size | exact one_uint64.size | exact one_int32.size | exact one_uint64s.size) (by rfl) (by rfl) (by rfl) (by repeat (first | exact .head _ | refine .tail _ ?_)) (by rfl) (by simp [go_sem, V3.v, Pl.v, V3.cs, Pl.cs, layAt, Value.cells] <;> rfl) (by repeat (first | exact .here | apply Upd.there)) ?_ hR; clear hR; intro _ hR; simp only [Act.put, List.setIfInBounds_toArray, List.set_cons_succ, List.set_cons_zero])
      | (refine own_max (by rfl) (by rfl) (by rfl) (by rfl) ?_; simp only [Act.put, List.setIfInBounds_toArray, List.set_cons_succ, List.set_cons_zero])
      | (refine own_min (by rfl) (by rfl) (by rfl) (by rfl) ?_; simp only [Act.put, List.setIfInBounds_toArray, List.set_cons_succ, List.set_cons_zero])
      | (refine own_pure (by rfl) (by intro w; simp [go_sem, V3.v, Pl.v, V3.cs, Pl.cs, layAt, Value.cells] <;> rfl) ?_; simp only [Act.put, List.setIfInBounds_toArray, List.set_cons_succ, List.set_cons_zero])))))
  go_wp2_with (first
    | ((with_reducible apply is_list); repeat1' (first | rw [w4.out] | rw [w5.out] | rw [w6.out] | rw [k5.out] | rw [k6.out] | (refine own_max6 (by rfl) (by rfl) (by rfl) (by rfl) (by rfl) (by rfl) (by rfl) (by rfl) ?_; simp only [Act.put, List.setIfInBounds_toArray, List.set_cons_succ, List.set_cons_zero]) | (first
      | ((with_reducible refine own_skip ?_ ?_); (exact rfl); simp only [Act.put, List.setIfInBounds_toArray, List.set_cons_succ, List.set_cons_zero])
      | (refine own_move (by rfl) (by rfl) (by simp only [Act.eval, Array.getD_eq_getD_getElem?, List.getElem?_toArray, List.getElem?_cons_zero, List.getElem?_cons_succ, Option.getD_some] <;> rfl) ?_; simp only [Act.put, List.setIfInBounds_toArray, List.set_cons_succ, List.set_cons_zero])
      | (refine own_assign (by rfl) (by rfl) (by simp only [Act.eval, Array.getD_eq_getD_getElem?, List.getElem?_toArray, List.getElem?_cons_zero, List.getElem?_cons_succ, Option.getD_some] <;> rfl) ?_; simp only [Act.put, List.setIfInBounds_toArray, List.set_cons_succ, List.set_cons_zero])
      | (refine own_box (by rfl) (by rfl) (by simp [go_sem, V3.v, Pl.v, V3.cs, Pl.cs, layAt, Value.cells] <;> rfl) ?_ hR; clear hR; intro _ _ hR; simp only [Act.put, List.setIfInBounds_toArray, List.set_cons_succ, List.set_cons_zero])
      | (refine own_alloc (by rfl) (by rfl) (by first | exact zero_vec | exact zero_wide | exact zero_big) ?_ hR; clear hR; intro _ _ hR; simp only [Act.put, List.setIfInBounds_toArray, List.set_cons_succ, List.set_cons_zero])
      | (refine own_alloc1 (by rfl) (by rfl) (by first | exact zero_int | exact zero_int64 | exact zero_bool | exact zero_uint8 | exact zero_uint64 | exact zero_int32 | exact zero_uint64s) (by simp [go_sem, V3.v, Pl.v, V3.cs, Pl.cs, layAt, Value.cells] <;> rfl) ?_ hR; clear hR; intro _ _ hR; simp only [Act.put, List.setIfInBounds_toArray, List.set_cons_succ, List.set_cons_zero])
      | (refine own_load_all (by rfl) (by rfl) (by rfl) (by first | exact agg_vec | exact agg_wide | exact agg_big) (by repeat (first | exact .head _ | refine .tail _ ?_)) (by rfl) ?_ hR; clear hR; intro hR; simp only [Act.put, List.setIfInBounds_toArray, List.set_cons_succ, List.set_cons_zero])
      | (refine own_load_agg (by rfl) (by rfl) (by rfl) (by first | exact agg_vec | exact agg_wide | exact agg_big) (by repeat (first | exact .head _ | refine .tail _ ?_)) (by rfl) (by simp [go_sem, V3.v, Pl.v, V3.cs, Pl.cs, layAt, Value.cells] <;> rfl) ?_ hR; clear hR; intro hR; simp only [Act.put, List.setIfInBounds_toArray, List.set_cons_succ, List.set_cons_zero])
      | (refine own_load_one (by rfl) (by rfl) (by rfl) (by first | exact one_int | exact one_int64 | exact one_bool | exact one_uint8 | exact one_uint64 | exact one_int32 | exact one_uint64s) (by repeat (first | exact .head _ | refine .tail _ ?_)) (by simp [go_sem, V3.v, Pl.v, V3.cs, Pl.cs, layAt, Value.cells] <;> rfl) ?_ hR; clear hR; intro hR; simp only [Act.put, List.setIfInBounds_toArray, List.set_cons_succ, List.set_cons_zero])
      | (refine own_store_all (by rfl) (by rfl) (by rfl) (by first | exact agg_vec.size | exact agg_wide.size | exact agg_big.size | exact one_int.size | exact one_int64.size | exact one_bool.size | exact one_uint8.size | exact one_uint64.size | exact one_int32.size | exact one_uint64s.size) (by rfl) (by rfl) (by rfl) (by repeat (first | exact .head _ | refine .tail _ ?_)) (by rfl) (by simp [go_sem, V3.v, Pl.v, V3.cs, Pl.cs, layAt, Value.cells] <;> rfl) (by repeat (first | exact .here | apply Upd.there)) ?_ hR; clear hR; intro _ hR; simp only [Act.put, List.setIfInBounds_toArray, List.set_cons_succ, List.set_cons_zero])
      | (refine own_store (by rfl) (by rfl) (by rfl) (by first | exact agg_vec.size | exact agg_wide.size | exact agg_big.size | exact one_int.size | exact one_int64.size | exact one_bool.size | exact one_uint8.size | exact one_uint64.size | exact one_int32.size | exact one_uint64s.size) (by rfl) (by rfl) (by rfl) (by repeat (first | exact .head _ | refine .tail _ ?_)) (by rfl) (by simp [go_sem, V3.v, Pl.v, V3.cs, Pl.cs, layAt, Value.cells] <;> rfl) (by repeat (first | exact .here | apply Upd.there)) ?_ hR; clear hR; intro _ hR; simp only [Act.put, List.setIfInBounds_toArray, List.set_cons_succ, List.set_cons_zero])
      | (refine own_max (by rfl) (by rfl) (by rfl) (by rfl) ?_; simp only [Act.put, List.setIfInBounds_toArray, List.set_cons_succ, List.set_cons_zero])
      | (refine own_min (by rfl) (by rfl) (by rfl) (by rfl) ?_; simp only [Act.put, List.setIfInBounds_toArray, List.set_cons_succ, List.set_cons_zero])
      | (refine own_pure (by rfl) (by intro w; simp [go_sem, V3.v, Pl.v, V3.cs, Pl.cs, layAt, Value.cells] <;> rfl) ?_; simp only [Act.put, List.setIfInBounds_toArray, List.set_cons_succ, List.set_cons_zero])))))
  refine own_call (hl' _) ?_ hR; clear hR; intro _ hR
  go_wp2_with (first
    | ((with_reducible apply is_list); first
      | ((with_reducible refine own_skip ?_ ?_); (exact rfl); simp only [Act.put, List.setIfInBounds_toArray, List.set_cons_succ, List.set_cons_zero])
      | (refine own_box (by rfl) (by rfl) (by simp [go_sem, V3.v, Pl.v, V3.cs, Pl.cs, layAt, Value.cells] <;> rfl) ?_ hR; clear hR; intro _ _ hR; simp only [Act.put, List.setIfInBounds_toArray, List.set_cons_succ, List.set_cons_zero])
      | (refine own_alloc (by rfl) (by rfl) (by first | exact zero_vec | exact zero_wide | exact zero_big) ?_ hR; clear hR; intro _ _ hR; simp only [Act.put, List.setIfInBounds_toArray, List.set_cons_succ, List.set_cons_zero])
      | (refine own_alloc1 (by rfl) (by rfl) (by first | exact zero_int | exact zero_int64 | exact zero_bool | exact zero_uint8 | exact zero_uint64 | exact zero_int32 | exact zero_uint64s) (by simp [go_sem, V3.v, Pl.v, V3.cs, Pl.cs, layAt, Value.cells] <;> rfl) ?_ hR; clear hR; intro _ _ hR; simp only [Act.put, List.setIfInBounds_toArray, List.set_cons_succ, List.set_cons_zero])
      | (refine own_load_all (by rfl) (by rfl) (by rfl) (by first | exact agg_vec | exact agg_wide | exact agg_big) (by repeat (first | exact .head _ | refine .tail _ ?_)) (by rfl) ?_ hR; clear hR; intro hR; simp only [Act.put, List.setIfInBounds_toArray, List.set_cons_succ, List.set_cons_zero])
      | (refine own_load_agg (by rfl) (by rfl) (by rfl) (by first | exact agg_vec | exact agg_wide | exact agg_big) (by repeat (first | exact .head _ | refine .tail _ ?_)) (by rfl) (by simp [go_sem, V3.v, Pl.v, V3.cs, Pl.cs, layAt, Value.cells] <;> rfl) ?_ hR; clear hR; intro hR; simp only [Act.put, List.setIfInBounds_toArray, List.set_cons_succ, List.set_cons_zero])
      | (refine own_load_one (by rfl) (by rfl) (by rfl) (by first | exact one_int | exact one_int64 | exact one_bool | exact one_uint8 | exact one_uint64 | exact one_int32 | exact one_uint64s) (by repeat (first | exact .head _ | refine .tail _ ?_)) (by simp [go_sem, V3.v, Pl.v, V3.cs, Pl.cs, layAt, Value.cells] <;> rfl) ?_ hR; clear hR; intro hR; simp only [Act.put, List.setIfInBounds_toArray, List.set_cons_succ, List.set_cons_zero])
      | (refine own_store_all (by rfl) (by rfl) (by rfl) (by first | exact agg_vec.size | exact agg_wide.size | exact agg_big.size | exact one_int.size | exact one_int64.size | exact one_bool.size | exact one_uint8.size | exact one_uint64.size | exact one_int32.size | exact one_uint64s.size) (by rfl) (by rfl) (by rfl) (by repeat (first | exact .head _ | refine .tail _ ?_)) (by rfl) (by simp [go_sem, V3.v, Pl.v, V3.cs, Pl.cs, layAt, Value.cells] <;> rfl) (by repeat (first | exact .here | apply Upd.there)) ?_ hR; clear hR; intro _ hR; simp only [Act.put, List.setIfInBounds_toArray, List.set_cons_succ, List.set_cons_zero])
      | (refine own_store (by rfl) (by rfl) (by rfl) (by first | exact agg_vec.size | exact agg_wide.size | exact agg_big.size | exact one_int.size | exact one_int64.size | exact one_bool.size | exact one_uint8.size | exact one_uint64.size | exact one_int32.size | exact one_uint64s.size) (by rfl) (by rfl) (by rfl) (by repeat (first | exact .head _ | refine .tail _ ?_)) (by rfl) (by simp [go_sem, V3.v, Pl.v, V3.cs, Pl.cs, layAt, Value.cells] <;> rfl) (by repeat (first | exact .here | apply Upd.there)) ?_ hR; clear hR; intro _ hR; simp only [Act.put, List.setIfInBounds_toArray, List.set_cons_succ, List.set_cons_zero])
      | (refine own_max (by rfl) (by rfl) (by rfl) (by rfl) ?_; simp only [Act.put, List.setIfInBounds_toArray, List.set_cons_succ, List.set_cons_zero])
      | (refine own_min (by rfl) (by rfl) (by rfl) (by rfl) ?_; simp only [Act.put, List.setIfInBounds_toArray, List.set_cons_succ, List.set_cons_zero]))
    )
  refine own_ret1 Try.results3 rfl (.tmp rfl) (fun hR => hR.ret ?_) hR
  rw [HV.out]
  rfl

end Go.Proofs.Ytegafbkjdkpfiaa
