/- FixUnits of embrasurelaw01 returns true, for every vector and number. No condition. -/
import Derived.Test.YtegafbkjdkpfiaaFixK
namespace Go.Proofs.Ytegafbkjdkpfiaa
set_option linter.unusedSimpArgs false
set_option linter.unusedVariables false
open Go.RowKit

theorem upN_zero (a : Int) : upN a 0 = 0 := by unfold upN; split <;> simp
theorem downN_zero (a : Int) : downN a 0 = 0 := by unfold downN; split <;> simp
theorem zero_upN (a : Int) : upN 0 a = 0 := by unfold upN; split <;> simp
theorem zero_downN (a : Int) : downN 0 a = 0 := by unfold downN; split <;> simp
theorem upN_comm (a b : Int) : upN a b = upN b a := by
  unfold upN
  by_cases h : decide (a < 0) = decide (b < 0)
  · rw [if_pos h, if_pos h.symm, Nat.mul_comm]
  · rw [if_neg h, if_neg (fun e => h e.symm)]
theorem downN_comm (a b : Int) : downN a b = downN b a := by
  unfold downN
  by_cases h : decide (a < 0) = decide (b < 0)
  · rw [if_pos h, if_pos h.symm]
  · rw [if_neg h, if_neg (fun e => h e.symm), Nat.mul_comm]
theorem dotN_comm (u v : V3) : dotN u v = dotN v u := by
  unfold dotN upV downV
  rw [upN_comm u.x, upN_comm u.y, upN_comm u.z, downN_comm u.x, downN_comm u.y, downN_comm u.z]
theorem one_up (a : Int) : upN a 65536 = if a < 0 then 0 else a.natAbs * 65536 := by
  unfold upN
  by_cases h : a < 0
  · rw [if_neg (by rw [decide_eq_true h]; decide), if_pos h]
  · rw [if_pos (by rw [decide_eq_false h]; decide), if_neg h]; rfl
theorem one_down (a : Int) : downN a 65536 = if a < 0 then a.natAbs * 65536 else 0 := by
  unfold downN
  by_cases h : a < 0
  · rw [if_neg (by rw [decide_eq_true h]; decide), if_pos h]; rfl
  · rw [if_pos (by rw [decide_eq_false h]; decide), if_neg h]
theorem dot_of {u v : V3} {a : Int} (ha : In64 a) (hu : upV u v = if a < 0 then 0 else a.natAbs * 65536) (hd : downV u v = if a < 0 then a.natAbs * 65536 else 0) : dotN u v = a := by
  unfold In64 at ha
  unfold dotN signedN
  rw [hu, hd]
  by_cases h : a < 0
  · simp only [if_pos h]
    rw [if_pos (by omega), if_pos trivial]
    omega
  · simp only [if_neg h]
    rw [if_neg (by omega), if_neg (fun h => nomatch h)]
    omega
theorem dot_x (v : V3) (hv : v.fits) : dotN v ⟨65536, 0, 0⟩ = v.x :=
  dot_of hv.1 (by unfold upV; simp only [upN_zero, one_up, Nat.add_zero]) (by unfold downV; simp only [downN_zero, one_down, Nat.add_zero])
theorem dot_y (v : V3) (hv : v.fits) : dotN v ⟨0, 65536, 0⟩ = v.y :=
  dot_of hv.2.1 (by unfold upV; simp only [upN_zero, one_up, Nat.add_zero, Nat.zero_add]) (by unfold downV; simp only [downN_zero, one_down, Nat.add_zero, Nat.zero_add])
theorem dot_z (v : V3) (hv : v.fits) : dotN ⟨0, 0, 65536⟩ v = v.z := by
  rw [dotN_comm]
  exact dot_of hv.2.2 (by unfold upV; simp only [upN_zero, one_up, Nat.zero_add]) (by unfold downV; simp only [downN_zero, one_down, Nat.zero_add])

theorem upN_self (a : Int) : upN a a = a.natAbs * a.natAbs := by unfold upN; rw [if_pos rfl]
theorem rootN_sq (n : Nat) : rootN (n * n) = n := root_unique (rootN_spec _) ⟨Nat.le_refl _, Nat.mul_lt_mul_of_lt_of_lt (Nat.lt_succ_self n) (Nat.lt_succ_self n)⟩
theorem long_size (n : Int) (hn : In64 n) : signedN (rootN (n.natAbs * n.natAbs)) false = max n (cut64 (-n)) := by
  unfold In64 at hn
  rw [rootN_sq]
  unfold signedN cut64
  rw [if_neg (by decide)]
  omega
theorem long_x (n : Int) (hn : In64 n) : signedN (rootN (upV ⟨n, 0, 0⟩ ⟨n, 0, 0⟩)) false = max n (cut64 (-n)) := by
  rw [show upV ⟨n, 0, 0⟩ ⟨n, 0, 0⟩ = n.natAbs * n.natAbs by unfold upV; simp only [upN_self]; rfl, long_size n hn]
theorem long_y (n : Int) (hn : In64 n) : signedN (rootN (upV ⟨0, n, 0⟩ ⟨0, n, 0⟩)) false = max n (cut64 (-n)) := by
  rw [show upV ⟨0, n, 0⟩ ⟨0, n, 0⟩ = n.natAbs * n.natAbs by unfold upV; simp only [upN_self]; simp, long_size n hn]
theorem long_z (n : Int) (hn : In64 n) : signedN (rootN (upV ⟨0, 0, n⟩ ⟨0, 0, n⟩)) false = max n (cut64 (-n)) := by
  rw [show upV ⟨0, 0, n⟩ ⟨0, 0, n⟩ = n.natAbs * n.natAbs by unfold upV; simp only [upN_self]; simp, long_size n hn]

theorem In64_zero : In64 0 := by unfold In64; omega
theorem In64_one : In64 65536 := by unfold In64; omega

set_option maxRecDepth 100000 in
set_option maxHeartbeats 2000000 in
theorem units_law_any (v : V3) (n : Int) (w : World) (hv : v.fits) (hn : In64 n) : Calls Try.prog 11 #[v.v, I n] w (Ret w (.bool true)) := by
  refine calls_hide fun V HV => ?_
  have hR := Own.start w
  go_enter Try.func11, Try.ntmps11
  go_wp2_with (first
    | ((with_reducible apply is_list); first
      | ((with_reducible refine own_skip ?_ ?_); (exact rfl); simp only [Act.put, List.setIfInBounds_toArray, List.set_cons_succ, List.set_cons_zero])
      | (refine own_box (by rfl) (by rfl) (by simp [go_sem, V3.v, Pl.v, V3.cs, Pl.cs, layAt, Value.cells] <;> rfl) ?_ hR; clear hR; intro _ _ hR; simp only [Act.put, List.setIfInBounds_toArray, List.set_cons_succ, List.set_cons_zero])
      | (refine own_alloc (by rfl) (by rfl) (by first | exact zero_vec | exact zero_wide | exact zero_big) ?_ hR; clear hR; intro _ _ hR; simp only [Act.put, List.setIfInBounds_toArray, List.set_cons_succ, List.set_cons_zero])
      | (refine own_alloc1 (by rfl) (by rfl) (by first | exact zero_int | exact zero_int64 | exact zero_bool | exact zero_uint8 | exact zero_uint64 | exact zero_int32 | exact zero_uint64s) (by simp [go_sem, V3.v, Pl.v, V3.cs, Pl.cs, layAt, Value.cells] <;> rfl) ?_ hR; clear hR; intro _ _ hR; simp only [Act.put, List.setIfInBounds_toArray, List.set_cons_succ, List.set_cons_zero])
      | (refine own_load_all (by rfl) (by rfl) (by rfl) (by first | exact agg_vec | exact agg_wide | exact agg_big) (by repeat (first | exact .head _ | refine .tail _ ?_)) (by rfl) ?_ hR; clear hR; intro hR; simp only [Act.put, List.setIfInBounds_toArray, List.set_cons_succ, List.set_cons_zero])
      | (refine own_load_agg (by rfl) (by rfl) (by rfl) (by first | exact agg_vec | exact agg_wide | exact agg_big) (by repeat (first | exact .head _ | refine .tail _ ?_)) (by rfl) (by simp [go_sem, V3.v, Pl.v, V3.cs, Pl.cs, layAt, Value.cells] <;> rfl) ?_ hR; clear hR; intro hR; simp only [Act.put, List.setIfInBounds_toArray, List.set_cons_succ, List.set_cons_zero])
      | (refine own_load_one (by rfl) (by rfl) (by rfl) (by first | exact one_int | exact one_int64 | exact one_bool | exact one_uint8 | exact one_uint64 | exact one_int32 | exact one_uint64s) (by repeat (first | exact .head _ | refine .tail _ ?_)) (by simp [go_sem, V3.v, Pl.v, V3.cs, Pl.cs, layAt, Value.cells] <;> rfl) ?_ hR; clear hR; intro hR; simp only [Act.put, List.setIfInBounds_toArray, List.set_cons_succ, List.set_cons_zero])
      | (refine own_store_all (by rfl) (by rfl) (by rfl) (by first | exact agg_vec.size | exact agg_wide.size | exact agg_big.size | exact one_int.size | exact one_int64.size | exact one_bool.size | exact one_uint8.size | exact one_uint64.size | exact one_int32.size | exact one_uint64s.size) (by rfl) (by rfl) (by rfl) (by repeat (first | exact .head _ | refine .tail _ ?_)) (by rfl) (by simp [go_sem, V3.v, Pl.v, V3.cs, Pl.cs, layAt, Value.cells] <;> rfl) (by repeat (first | exact .here | apply Upd.there)) ?_ hR; clear hR; intro _ hR; simp only [Act.put, List.setIfInBounds_toArray, List.set_cons_succ, List.set_cons_zero])
      | (refine own_store (by rfl) (by rfl) (by rfl) (by first | exact agg_vec.size | exact agg_wide.size | exact agg_big.size | exact one_int.size | exact one_int64.size | exact one_bool.size | exact one_uint8.size | exact one_uint64.size | exact one_int32.size | exact one_uint64s.size) (by rfl) (by rfl) (by rfl) (by repeat (first | exact .head _ | refine .tail _ ?_)) (by rfl) (by simp [go_sem, V3.v, Pl.v, V3.cs, Pl.cs, layAt, Value.cells] <;> rfl) (by repeat (first | exact .here | apply Upd.there)) ?_ hR; clear hR; intro _ hR; simp only [Act.put, List.setIfInBounds_toArray, List.set_cons_succ, List.set_cons_zero])
      | (refine own_max (by rfl) (by rfl) (by rfl) (by rfl) ?_; simp only [Act.put, List.setIfInBounds_toArray, List.set_cons_succ, List.set_cons_zero])
      | (refine own_min (by rfl) (by rfl) (by rfl) (by rfl) ?_; simp only [Act.put, List.setIfInBounds_toArray, List.set_cons_succ, List.set_cons_zero]))
    )
  refine own_call (shown01_any _) ?_ hR; clear hR; intro _ hR
  go_wp2_with (first
    | ((with_reducible apply is_list); first
      | ((with_reducible refine own_skip ?_ ?_); (exact rfl); simp only [Act.put, List.setIfInBounds_toArray, List.set_cons_succ, List.set_cons_zero])
      | (refine own_box (by rfl) (by rfl) (by simp [go_sem, V3.v, Pl.v, V3.cs, Pl.cs, layAt, Value.cells] <;> rfl) ?_ hR; clear hR; intro _ _ hR; simp only [Act.put, List.setIfInBounds_toArray, List.set_cons_succ, List.set_cons_zero])
      | (refine own_alloc (by rfl) (by rfl) (by first | exact zero_vec | exact zero_wide | exact zero_big) ?_ hR; clear hR; intro _ _ hR; simp only [Act.put, List.setIfInBounds_toArray, List.set_cons_succ, List.set_cons_zero])
      | (refine own_alloc1 (by rfl) (by rfl) (by first | exact zero_int | exact zero_int64 | exact zero_bool | exact zero_uint8 | exact zero_uint64 | exact zero_int32 | exact zero_uint64s) (by simp [go_sem, V3.v, Pl.v, V3.cs, Pl.cs, layAt, Value.cells] <;> rfl) ?_ hR; clear hR; intro _ _ hR; simp only [Act.put, List.setIfInBounds_toArray, List.set_cons_succ, List.set_cons_zero])
      | (refine own_load_all (by rfl) (by rfl) (by rfl) (by first | exact agg_vec | exact agg_wide | exact agg_big) (by repeat (first | exact .head _ | refine .tail _ ?_)) (by rfl) ?_ hR; clear hR; intro hR; simp only [Act.put, List.setIfInBounds_toArray, List.set_cons_succ, List.set_cons_zero])
      | (refine own_load_agg (by rfl) (by rfl) (by rfl) (by first | exact agg_vec | exact agg_wide | exact agg_big) (by repeat (first | exact .head _ | refine .tail _ ?_)) (by rfl) (by simp [go_sem, V3.v, Pl.v, V3.cs, Pl.cs, layAt, Value.cells] <;> rfl) ?_ hR; clear hR; intro hR; simp only [Act.put, List.setIfInBounds_toArray, List.set_cons_succ, List.set_cons_zero])
      | (refine own_load_one (by rfl) (by rfl) (by rfl) (by first | exact one_int | exact one_int64 | exact one_bool | exact one_uint8 | exact one_uint64 | exact one_int32 | exact one_uint64s) (by repeat (first | exact .head _ | refine .tail _ ?_)) (by simp [go_sem, V3.v, Pl.v, V3.cs, Pl.cs, layAt, Value.cells] <;> rfl) ?_ hR; clear hR; intro hR; simp only [Act.put, List.setIfInBounds_toArray, List.set_cons_succ, List.set_cons_zero])
      | (refine own_store_all (by rfl) (by rfl) (by rfl) (by first | exact agg_vec.size | exact agg_wide.size | exact agg_big.size | exact one_int.size | exact one_int64.size | exact one_bool.size | exact one_uint8.size | exact one_uint64.size | exact one_int32.size | exact one_uint64s.size) (by rfl) (by rfl) (by rfl) (by repeat (first | exact .head _ | refine .tail _ ?_)) (by rfl) (by simp [go_sem, V3.v, Pl.v, V3.cs, Pl.cs, layAt, Value.cells] <;> rfl) (by repeat (first | exact .here | apply Upd.there)) ?_ hR; clear hR; intro _ hR; simp only [Act.put, List.setIfInBounds_toArray, List.set_cons_succ, List.set_cons_zero])
      | (refine own_store (by rfl) (by rfl) (by rfl) (by first | exact agg_vec.size | exact agg_wide.size | exact agg_big.size | exact one_int.size | exact one_int64.size | exact one_bool.size | exact one_uint8.size | exact one_uint64.size | exact one_int32.size | exact one_uint64s.size) (by rfl) (by rfl) (by rfl) (by repeat (first | exact .head _ | refine .tail _ ?_)) (by rfl) (by simp [go_sem, V3.v, Pl.v, V3.cs, Pl.cs, layAt, Value.cells] <;> rfl) (by repeat (first | exact .here | apply Upd.there)) ?_ hR; clear hR; intro _ hR; simp only [Act.put, List.setIfInBounds_toArray, List.set_cons_succ, List.set_cons_zero])
      | (refine own_max (by rfl) (by rfl) (by rfl) (by rfl) ?_; simp only [Act.put, List.setIfInBounds_toArray, List.set_cons_succ, List.set_cons_zero])
      | (refine own_min (by rfl) (by rfl) (by rfl) (by rfl) ?_; simp only [Act.put, List.setIfInBounds_toArray, List.set_cons_succ, List.set_cons_zero]))
    )
  refine own_call (Ret.val (v' := I v.x) (dot_any v ⟨65536, 0, 0⟩ _ hv ⟨In64_one, In64_zero, In64_zero⟩) (congrArg I (dot_x v hv))) ?_ hR; clear hR; intro _ hR
  go_wp2_with (first
    | ((with_reducible apply is_list); first
      | ((with_reducible refine own_skip ?_ ?_); (exact rfl); simp only [Act.put, List.setIfInBounds_toArray, List.set_cons_succ, List.set_cons_zero])
      | (refine own_box (by rfl) (by rfl) (by simp [go_sem, V3.v, Pl.v, V3.cs, Pl.cs, layAt, Value.cells] <;> rfl) ?_ hR; clear hR; intro _ _ hR; simp only [Act.put, List.setIfInBounds_toArray, List.set_cons_succ, List.set_cons_zero])
      | (refine own_alloc (by rfl) (by rfl) (by first | exact zero_vec | exact zero_wide | exact zero_big) ?_ hR; clear hR; intro _ _ hR; simp only [Act.put, List.setIfInBounds_toArray, List.set_cons_succ, List.set_cons_zero])
      | (refine own_alloc1 (by rfl) (by rfl) (by first | exact zero_int | exact zero_int64 | exact zero_bool | exact zero_uint8 | exact zero_uint64 | exact zero_int32 | exact zero_uint64s) (by simp [go_sem, V3.v, Pl.v, V3.cs, Pl.cs, layAt, Value.cells] <;> rfl) ?_ hR; clear hR; intro _ _ hR; simp only [Act.put, List.setIfInBounds_toArray, List.set_cons_succ, List.set_cons_zero])
      | (refine own_load_all (by rfl) (by rfl) (by rfl) (by first | exact agg_vec | exact agg_wide | exact agg_big) (by repeat (first | exact .head _ | refine .tail _ ?_)) (by rfl) ?_ hR; clear hR; intro hR; simp only [Act.put, List.setIfInBounds_toArray, List.set_cons_succ, List.set_cons_zero])
      | (refine own_load_agg (by rfl) (by rfl) (by rfl) (by first | exact agg_vec | exact agg_wide | exact agg_big) (by repeat (first | exact .head _ | refine .tail _ ?_)) (by rfl) (by simp [go_sem, V3.v, Pl.v, V3.cs, Pl.cs, layAt, Value.cells] <;> rfl) ?_ hR; clear hR; intro hR; simp only [Act.put, List.setIfInBounds_toArray, List.set_cons_succ, List.set_cons_zero])
      | (refine own_load_one (by rfl) (by rfl) (by rfl) (by first | exact one_int | exact one_int64 | exact one_bool | exact one_uint8 | exact one_uint64 | exact one_int32 | exact one_uint64s) (by repeat (first | exact .head _ | refine .tail _ ?_)) (by simp [go_sem, V3.v, Pl.v, V3.cs, Pl.cs, layAt, Value.cells] <;> rfl) ?_ hR; clear hR; intro hR; simp only [Act.put, List.setIfInBounds_toArray, List.set_cons_succ, List.set_cons_zero])
      | (refine own_store_all (by rfl) (by rfl) (by rfl) (by first | exact agg_vec.size | exact agg_wide.size | exact agg_big.size | exact one_int.size | exact one_int64.size | exact one_bool.size | exact one_uint8.size | exact one_uint64.size | exact one_int32.size | exact one_uint64s.size) (by rfl) (by rfl) (by rfl) (by repeat (first | exact .head _ | refine .tail _ ?_)) (by rfl) (by simp [go_sem, V3.v, Pl.v, V3.cs, Pl.cs, layAt, Value.cells] <;> rfl) (by repeat (first | exact .here | apply Upd.there)) ?_ hR; clear hR; intro _ hR; simp only [Act.put, List.setIfInBounds_toArray, List.set_cons_succ, List.set_cons_zero])
      | (refine own_store (by rfl) (by rfl) (by rfl) (by first | exact agg_vec.size | exact agg_wide.size | exact agg_big.size | exact one_int.size | exact one_int64.size | exact one_bool.size | exact one_uint8.size | exact one_uint64.size | exact one_int32.size | exact one_uint64s.size) (by rfl) (by rfl) (by rfl) (by repeat (first | exact .head _ | refine .tail _ ?_)) (by rfl) (by simp [go_sem, V3.v, Pl.v, V3.cs, Pl.cs, layAt, Value.cells] <;> rfl) (by repeat (first | exact .here | apply Upd.there)) ?_ hR; clear hR; intro _ hR; simp only [Act.put, List.setIfInBounds_toArray, List.set_cons_succ, List.set_cons_zero])
      | (refine own_max (by rfl) (by rfl) (by rfl) (by rfl) ?_; simp only [Act.put, List.setIfInBounds_toArray, List.set_cons_succ, List.set_cons_zero])
      | (refine own_min (by rfl) (by rfl) (by rfl) (by rfl) ?_; simp only [Act.put, List.setIfInBounds_toArray, List.set_cons_succ, List.set_cons_zero]))
    )
  refine own_call (Ret.val (v' := I v.y) (dot_any v ⟨0, 65536, 0⟩ _ hv ⟨In64_zero, In64_one, In64_zero⟩) (congrArg I (dot_y v hv))) ?_ hR; clear hR; intro _ hR
  go_wp2_with (first
    | ((with_reducible apply is_list); first
      | ((with_reducible refine own_skip ?_ ?_); (exact rfl); simp only [Act.put, List.setIfInBounds_toArray, List.set_cons_succ, List.set_cons_zero])
      | (refine own_box (by rfl) (by rfl) (by simp [go_sem, V3.v, Pl.v, V3.cs, Pl.cs, layAt, Value.cells] <;> rfl) ?_ hR; clear hR; intro _ _ hR; simp only [Act.put, List.setIfInBounds_toArray, List.set_cons_succ, List.set_cons_zero])
      | (refine own_alloc (by rfl) (by rfl) (by first | exact zero_vec | exact zero_wide | exact zero_big) ?_ hR; clear hR; intro _ _ hR; simp only [Act.put, List.setIfInBounds_toArray, List.set_cons_succ, List.set_cons_zero])
      | (refine own_alloc1 (by rfl) (by rfl) (by first | exact zero_int | exact zero_int64 | exact zero_bool | exact zero_uint8 | exact zero_uint64 | exact zero_int32 | exact zero_uint64s) (by simp [go_sem, V3.v, Pl.v, V3.cs, Pl.cs, layAt, Value.cells] <;> rfl) ?_ hR; clear hR; intro _ _ hR; simp only [Act.put, List.setIfInBounds_toArray, List.set_cons_succ, List.set_cons_zero])
      | (refine own_load_all (by rfl) (by rfl) (by rfl) (by first | exact agg_vec | exact agg_wide | exact agg_big) (by repeat (first | exact .head _ | refine .tail _ ?_)) (by rfl) ?_ hR; clear hR; intro hR; simp only [Act.put, List.setIfInBounds_toArray, List.set_cons_succ, List.set_cons_zero])
      | (refine own_load_agg (by rfl) (by rfl) (by rfl) (by first | exact agg_vec | exact agg_wide | exact agg_big) (by repeat (first | exact .head _ | refine .tail _ ?_)) (by rfl) (by simp [go_sem, V3.v, Pl.v, V3.cs, Pl.cs, layAt, Value.cells] <;> rfl) ?_ hR; clear hR; intro hR; simp only [Act.put, List.setIfInBounds_toArray, List.set_cons_succ, List.set_cons_zero])
      | (refine own_load_one (by rfl) (by rfl) (by rfl) (by first | exact one_int | exact one_int64 | exact one_bool | exact one_uint8 | exact one_uint64 | exact one_int32 | exact one_uint64s) (by repeat (first | exact .head _ | refine .tail _ ?_)) (by simp [go_sem, V3.v, Pl.v, V3.cs, Pl.cs, layAt, Value.cells] <;> rfl) ?_ hR; clear hR; intro hR; simp only [Act.put, List.setIfInBounds_toArray, List.set_cons_succ, List.set_cons_zero])
      | (refine own_store_all (by rfl) (by rfl) (by rfl) (by first | exact agg_vec.size | exact agg_wide.size | exact agg_big.size | exact one_int.size | exact one_int64.size | exact one_bool.size | exact one_uint8.size | exact one_uint64.size | exact one_int32.size | exact one_uint64s.size) (by rfl) (by rfl) (by rfl) (by repeat (first | exact .head _ | refine .tail _ ?_)) (by rfl) (by simp [go_sem, V3.v, Pl.v, V3.cs, Pl.cs, layAt, Value.cells] <;> rfl) (by repeat (first | exact .here | apply Upd.there)) ?_ hR; clear hR; intro _ hR; simp only [Act.put, List.setIfInBounds_toArray, List.set_cons_succ, List.set_cons_zero])
      | (refine own_store (by rfl) (by rfl) (by rfl) (by first | exact agg_vec.size | exact agg_wide.size | exact agg_big.size | exact one_int.size | exact one_int64.size | exact one_bool.size | exact one_uint8.size | exact one_uint64.size | exact one_int32.size | exact one_uint64s.size) (by rfl) (by rfl) (by rfl) (by repeat (first | exact .head _ | refine .tail _ ?_)) (by rfl) (by simp [go_sem, V3.v, Pl.v, V3.cs, Pl.cs, layAt, Value.cells] <;> rfl) (by repeat (first | exact .here | apply Upd.there)) ?_ hR; clear hR; intro _ hR; simp only [Act.put, List.setIfInBounds_toArray, List.set_cons_succ, List.set_cons_zero])
      | (refine own_max (by rfl) (by rfl) (by rfl) (by rfl) ?_; simp only [Act.put, List.setIfInBounds_toArray, List.set_cons_succ, List.set_cons_zero])
      | (refine own_min (by rfl) (by rfl) (by rfl) (by rfl) ?_; simp only [Act.put, List.setIfInBounds_toArray, List.set_cons_succ, List.set_cons_zero]))
    )
  refine own_call (Ret.val (v' := I v.z) (dot_any ⟨0, 0, 65536⟩ v _ ⟨In64_zero, In64_zero, In64_one⟩ hv) (congrArg I (dot_z v hv))) ?_ hR; clear hR; intro _ hR
  go_wp2_with (first
    | ((with_reducible apply is_list); first
      | ((with_reducible refine own_skip ?_ ?_); (exact rfl); simp only [Act.put, List.setIfInBounds_toArray, List.set_cons_succ, List.set_cons_zero])
      | (refine own_box (by rfl) (by rfl) (by simp [go_sem, V3.v, Pl.v, V3.cs, Pl.cs, layAt, Value.cells] <;> rfl) ?_ hR; clear hR; intro _ _ hR; simp only [Act.put, List.setIfInBounds_toArray, List.set_cons_succ, List.set_cons_zero])
      | (refine own_alloc (by rfl) (by rfl) (by first | exact zero_vec | exact zero_wide | exact zero_big) ?_ hR; clear hR; intro _ _ hR; simp only [Act.put, List.setIfInBounds_toArray, List.set_cons_succ, List.set_cons_zero])
      | (refine own_alloc1 (by rfl) (by rfl) (by first | exact zero_int | exact zero_int64 | exact zero_bool | exact zero_uint8 | exact zero_uint64 | exact zero_int32 | exact zero_uint64s) (by simp [go_sem, V3.v, Pl.v, V3.cs, Pl.cs, layAt, Value.cells] <;> rfl) ?_ hR; clear hR; intro _ _ hR; simp only [Act.put, List.setIfInBounds_toArray, List.set_cons_succ, List.set_cons_zero])
      | (refine own_load_all (by rfl) (by rfl) (by rfl) (by first | exact agg_vec | exact agg_wide | exact agg_big) (by repeat (first | exact .head _ | refine .tail _ ?_)) (by rfl) ?_ hR; clear hR; intro hR; simp only [Act.put, List.setIfInBounds_toArray, List.set_cons_succ, List.set_cons_zero])
      | (refine own_load_agg (by rfl) (by rfl) (by rfl) (by first | exact agg_vec | exact agg_wide | exact agg_big) (by repeat (first | exact .head _ | refine .tail _ ?_)) (by rfl) (by simp [go_sem, V3.v, Pl.v, V3.cs, Pl.cs, layAt, Value.cells] <;> rfl) ?_ hR; clear hR; intro hR; simp only [Act.put, List.setIfInBounds_toArray, List.set_cons_succ, List.set_cons_zero])
      | (refine own_load_one (by rfl) (by rfl) (by rfl) (by first | exact one_int | exact one_int64 | exact one_bool | exact one_uint8 | exact one_uint64 | exact one_int32 | exact one_uint64s) (by repeat (first | exact .head _ | refine .tail _ ?_)) (by simp [go_sem, V3.v, Pl.v, V3.cs, Pl.cs, layAt, Value.cells] <;> rfl) ?_ hR; clear hR; intro hR; simp only [Act.put, List.setIfInBounds_toArray, List.set_cons_succ, List.set_cons_zero])
      | (refine own_store_all (by rfl) (by rfl) (by rfl) (by first | exact agg_vec.size | exact agg_wide.size | exact agg_big.size | exact one_int.size | exact one_int64.size | exact one_bool.size | exact one_uint8.size | exact one_uint64.size | exact one_int32.size | exact one_uint64s.size) (by rfl) (by rfl) (by rfl) (by repeat (first | exact .head _ | refine .tail _ ?_)) (by rfl) (by simp [go_sem, V3.v, Pl.v, V3.cs, Pl.cs, layAt, Value.cells] <;> rfl) (by repeat (first | exact .here | apply Upd.there)) ?_ hR; clear hR; intro _ hR; simp only [Act.put, List.setIfInBounds_toArray, List.set_cons_succ, List.set_cons_zero])
      | (refine own_store (by rfl) (by rfl) (by rfl) (by first | exact agg_vec.size | exact agg_wide.size | exact agg_big.size | exact one_int.size | exact one_int64.size | exact one_bool.size | exact one_uint8.size | exact one_uint64.size | exact one_int32.size | exact one_uint64s.size) (by rfl) (by rfl) (by rfl) (by repeat (first | exact .head _ | refine .tail _ ?_)) (by rfl) (by simp [go_sem, V3.v, Pl.v, V3.cs, Pl.cs, layAt, Value.cells] <;> rfl) (by repeat (first | exact .here | apply Upd.there)) ?_ hR; clear hR; intro _ hR; simp only [Act.put, List.setIfInBounds_toArray, List.set_cons_succ, List.set_cons_zero])
      | (refine own_max (by rfl) (by rfl) (by rfl) (by rfl) ?_; simp only [Act.put, List.setIfInBounds_toArray, List.set_cons_succ, List.set_cons_zero])
      | (refine own_min (by rfl) (by rfl) (by rfl) (by rfl) ?_; simp only [Act.put, List.setIfInBounds_toArray, List.set_cons_succ, List.set_cons_zero]))
    )
  refine own_call (neg_any n _ hn) ?_ hR; clear hR; intro _ hR
  go_wp2_with (first
    | ((with_reducible apply is_list); first
      | ((with_reducible refine own_skip ?_ ?_); (exact rfl); simp only [Act.put, List.setIfInBounds_toArray, List.set_cons_succ, List.set_cons_zero])
      | (refine own_box (by rfl) (by rfl) (by simp [go_sem, V3.v, Pl.v, V3.cs, Pl.cs, layAt, Value.cells] <;> rfl) ?_ hR; clear hR; intro _ _ hR; simp only [Act.put, List.setIfInBounds_toArray, List.set_cons_succ, List.set_cons_zero])
      | (refine own_alloc (by rfl) (by rfl) (by first | exact zero_vec | exact zero_wide | exact zero_big) ?_ hR; clear hR; intro _ _ hR; simp only [Act.put, List.setIfInBounds_toArray, List.set_cons_succ, List.set_cons_zero])
      | (refine own_alloc1 (by rfl) (by rfl) (by first | exact zero_int | exact zero_int64 | exact zero_bool | exact zero_uint8 | exact zero_uint64 | exact zero_int32 | exact zero_uint64s) (by simp [go_sem, V3.v, Pl.v, V3.cs, Pl.cs, layAt, Value.cells] <;> rfl) ?_ hR; clear hR; intro _ _ hR; simp only [Act.put, List.setIfInBounds_toArray, List.set_cons_succ, List.set_cons_zero])
      | (refine own_load_all (by rfl) (by rfl) (by rfl) (by first | exact agg_vec | exact agg_wide | exact agg_big) (by repeat (first | exact .head _ | refine .tail _ ?_)) (by rfl) ?_ hR; clear hR; intro hR; simp only [Act.put, List.setIfInBounds_toArray, List.set_cons_succ, List.set_cons_zero])
      | (refine own_load_agg (by rfl) (by rfl) (by rfl) (by first | exact agg_vec | exact agg_wide | exact agg_big) (by repeat (first | exact .head _ | refine .tail _ ?_)) (by rfl) (by simp [go_sem, V3.v, Pl.v, V3.cs, Pl.cs, layAt, Value.cells] <;> rfl) ?_ hR; clear hR; intro hR; simp only [Act.put, List.setIfInBounds_toArray, List.set_cons_succ, List.set_cons_zero])
      | (refine own_load_one (by rfl) (by rfl) (by rfl) (by first | exact one_int | exact one_int64 | exact one_bool | exact one_uint8 | exact one_uint64 | exact one_int32 | exact one_uint64s) (by repeat (first | exact .head _ | refine .tail _ ?_)) (by simp [go_sem, V3.v, Pl.v, V3.cs, Pl.cs, layAt, Value.cells] <;> rfl) ?_ hR; clear hR; intro hR; simp only [Act.put, List.setIfInBounds_toArray, List.set_cons_succ, List.set_cons_zero])
      | (refine own_store_all (by rfl) (by rfl) (by rfl) (by first | exact agg_vec.size | exact agg_wide.size | exact agg_big.size | exact one_int.size | exact one_int64.size | exact one_bool.size | exact one_uint8.size | exact one_uint64.size | exact one_int32.size | exact one_uint64s.size) (by rfl) (by rfl) (by rfl) (by repeat (first | exact .head _ | refine .tail _ ?_)) (by rfl) (by simp [go_sem, V3.v, Pl.v, V3.cs, Pl.cs, layAt, Value.cells] <;> rfl) (by repeat (first | exact .here | apply Upd.there)) ?_ hR; clear hR; intro _ hR; simp only [Act.put, List.setIfInBounds_toArray, List.set_cons_succ, List.set_cons_zero])
      | (refine own_store (by rfl) (by rfl) (by rfl) (by first | exact agg_vec.size | exact agg_wide.size | exact agg_big.size | exact one_int.size | exact one_int64.size | exact one_bool.size | exact one_uint8.size | exact one_uint64.size | exact one_int32.size | exact one_uint64s.size) (by rfl) (by rfl) (by rfl) (by repeat (first | exact .head _ | refine .tail _ ?_)) (by rfl) (by simp [go_sem, V3.v, Pl.v, V3.cs, Pl.cs, layAt, Value.cells] <;> rfl) (by repeat (first | exact .here | apply Upd.there)) ?_ hR; clear hR; intro _ hR; simp only [Act.put, List.setIfInBounds_toArray, List.set_cons_succ, List.set_cons_zero])
      | (refine own_max (by rfl) (by rfl) (by rfl) (by rfl) ?_; simp only [Act.put, List.setIfInBounds_toArray, List.set_cons_succ, List.set_cons_zero])
      | (refine own_min (by rfl) (by rfl) (by rfl) (by rfl) ?_; simp only [Act.put, List.setIfInBounds_toArray, List.set_cons_succ, List.set_cons_zero]))
    )
  refine own_call (Ret.val (v' := I (max n (cut64 (-n)))) (long_any ⟨n, 0, 0⟩ _ ⟨hn, In64_zero, In64_zero⟩) (congrArg I (long_x n hn))) ?_ hR; clear hR; intro _ hR
  go_wp2_with (first
    | ((with_reducible apply is_list); first
      | ((with_reducible refine own_skip ?_ ?_); (exact rfl); simp only [Act.put, List.setIfInBounds_toArray, List.set_cons_succ, List.set_cons_zero])
      | (refine own_box (by rfl) (by rfl) (by simp [go_sem, V3.v, Pl.v, V3.cs, Pl.cs, layAt, Value.cells] <;> rfl) ?_ hR; clear hR; intro _ _ hR; simp only [Act.put, List.setIfInBounds_toArray, List.set_cons_succ, List.set_cons_zero])
      | (refine own_alloc (by rfl) (by rfl) (by first | exact zero_vec | exact zero_wide | exact zero_big) ?_ hR; clear hR; intro _ _ hR; simp only [Act.put, List.setIfInBounds_toArray, List.set_cons_succ, List.set_cons_zero])
      | (refine own_alloc1 (by rfl) (by rfl) (by first | exact zero_int | exact zero_int64 | exact zero_bool | exact zero_uint8 | exact zero_uint64 | exact zero_int32 | exact zero_uint64s) (by simp [go_sem, V3.v, Pl.v, V3.cs, Pl.cs, layAt, Value.cells] <;> rfl) ?_ hR; clear hR; intro _ _ hR; simp only [Act.put, List.setIfInBounds_toArray, List.set_cons_succ, List.set_cons_zero])
      | (refine own_load_all (by rfl) (by rfl) (by rfl) (by first | exact agg_vec | exact agg_wide | exact agg_big) (by repeat (first | exact .head _ | refine .tail _ ?_)) (by rfl) ?_ hR; clear hR; intro hR; simp only [Act.put, List.setIfInBounds_toArray, List.set_cons_succ, List.set_cons_zero])
      | (refine own_load_agg (by rfl) (by rfl) (by rfl) (by first | exact agg_vec | exact agg_wide | exact agg_big) (by repeat (first | exact .head _ | refine .tail _ ?_)) (by rfl) (by simp [go_sem, V3.v, Pl.v, V3.cs, Pl.cs, layAt, Value.cells] <;> rfl) ?_ hR; clear hR; intro hR; simp only [Act.put, List.setIfInBounds_toArray, List.set_cons_succ, List.set_cons_zero])
      | (refine own_load_one (by rfl) (by rfl) (by rfl) (by first | exact one_int | exact one_int64 | exact one_bool | exact one_uint8 | exact one_uint64 | exact one_int32 | exact one_uint64s) (by repeat (first | exact .head _ | refine .tail _ ?_)) (by simp [go_sem, V3.v, Pl.v, V3.cs, Pl.cs, layAt, Value.cells] <;> rfl) ?_ hR; clear hR; intro hR; simp only [Act.put, List.setIfInBounds_toArray, List.set_cons_succ, List.set_cons_zero])
      | (refine own_store_all (by rfl) (by rfl) (by rfl) (by first | exact agg_vec.size | exact agg_wide.size | exact agg_big.size | exact one_int.size | exact one_int64.size | exact one_bool.size | exact one_uint8.size | exact one_uint64.size | exact one_int32.size | exact one_uint64s.size) (by rfl) (by rfl) (by rfl) (by repeat (first | exact .head _ | refine .tail _ ?_)) (by rfl) (by simp [go_sem, V3.v, Pl.v, V3.cs, Pl.cs, layAt, Value.cells] <;> rfl) (by repeat (first | exact .here | apply Upd.there)) ?_ hR; clear hR; intro _ hR; simp only [Act.put, List.setIfInBounds_toArray, List.set_cons_succ, List.set_cons_zero])
      | (refine own_store (by rfl) (by rfl) (by rfl) (by first | exact agg_vec.size | exact agg_wide.size | exact agg_big.size | exact one_int.size | exact one_int64.size | exact one_bool.size | exact one_uint8.size | exact one_uint64.size | exact one_int32.size | exact one_uint64s.size) (by rfl) (by rfl) (by rfl) (by repeat (first | exact .head _ | refine .tail _ ?_)) (by rfl) (by simp [go_sem, V3.v, Pl.v, V3.cs, Pl.cs, layAt, Value.cells] <;> rfl) (by repeat (first | exact .here | apply Upd.there)) ?_ hR; clear hR; intro _ hR; simp only [Act.put, List.setIfInBounds_toArray, List.set_cons_succ, List.set_cons_zero])
      | (refine own_max (by rfl) (by rfl) (by rfl) (by rfl) ?_; simp only [Act.put, List.setIfInBounds_toArray, List.set_cons_succ, List.set_cons_zero])
      | (refine own_min (by rfl) (by rfl) (by rfl) (by rfl) ?_; simp only [Act.put, List.setIfInBounds_toArray, List.set_cons_succ, List.set_cons_zero]))
    )
  refine own_call (Ret.val (v' := I (max n (cut64 (-n)))) (long_any ⟨0, n, 0⟩ _ ⟨In64_zero, hn, In64_zero⟩) (congrArg I (long_y n hn))) ?_ hR; clear hR; intro _ hR
  go_wp2_with (first
    | ((with_reducible apply is_list); first
      | ((with_reducible refine own_skip ?_ ?_); (exact rfl); simp only [Act.put, List.setIfInBounds_toArray, List.set_cons_succ, List.set_cons_zero])
      | (refine own_box (by rfl) (by rfl) (by simp [go_sem, V3.v, Pl.v, V3.cs, Pl.cs, layAt, Value.cells] <;> rfl) ?_ hR; clear hR; intro _ _ hR; simp only [Act.put, List.setIfInBounds_toArray, List.set_cons_succ, List.set_cons_zero])
      | (refine own_alloc (by rfl) (by rfl) (by first | exact zero_vec | exact zero_wide | exact zero_big) ?_ hR; clear hR; intro _ _ hR; simp only [Act.put, List.setIfInBounds_toArray, List.set_cons_succ, List.set_cons_zero])
      | (refine own_alloc1 (by rfl) (by rfl) (by first | exact zero_int | exact zero_int64 | exact zero_bool | exact zero_uint8 | exact zero_uint64 | exact zero_int32 | exact zero_uint64s) (by simp [go_sem, V3.v, Pl.v, V3.cs, Pl.cs, layAt, Value.cells] <;> rfl) ?_ hR; clear hR; intro _ _ hR; simp only [Act.put, List.setIfInBounds_toArray, List.set_cons_succ, List.set_cons_zero])
      | (refine own_load_all (by rfl) (by rfl) (by rfl) (by first | exact agg_vec | exact agg_wide | exact agg_big) (by repeat (first | exact .head _ | refine .tail _ ?_)) (by rfl) ?_ hR; clear hR; intro hR; simp only [Act.put, List.setIfInBounds_toArray, List.set_cons_succ, List.set_cons_zero])
      | (refine own_load_agg (by rfl) (by rfl) (by rfl) (by first | exact agg_vec | exact agg_wide | exact agg_big) (by repeat (first | exact .head _ | refine .tail _ ?_)) (by rfl) (by simp [go_sem, V3.v, Pl.v, V3.cs, Pl.cs, layAt, Value.cells] <;> rfl) ?_ hR; clear hR; intro hR; simp only [Act.put, List.setIfInBounds_toArray, List.set_cons_succ, List.set_cons_zero])
      | (refine own_load_one (by rfl) (by rfl) (by rfl) (by first | exact one_int | exact one_int64 | exact one_bool | exact one_uint8 | exact one_uint64 | exact one_int32 | exact one_uint64s) (by repeat (first | exact .head _ | refine .tail _ ?_)) (by simp [go_sem, V3.v, Pl.v, V3.cs, Pl.cs, layAt, Value.cells] <;> rfl) ?_ hR; clear hR; intro hR; simp only [Act.put, List.setIfInBounds_toArray, List.set_cons_succ, List.set_cons_zero])
      | (refine own_store_all (by rfl) (by rfl) (by rfl) (by first | exact agg_vec.size | exact agg_wide.size | exact agg_big.size | exact one_int.size | exact one_int64.size | exact one_bool.size | exact one_uint8.size | exact one_uint64.size | exact one_int32.size | exact one_uint64s.size) (by rfl) (by rfl) (by rfl) (by repeat (first | exact .head _ | refine .tail _ ?_)) (by rfl) (by simp [go_sem, V3.v, Pl.v, V3.cs, Pl.cs, layAt, Value.cells] <;> rfl) (by repeat (first | exact .here | apply Upd.there)) ?_ hR; clear hR; intro _ hR; simp only [Act.put, List.setIfInBounds_toArray, List.set_cons_succ, List.set_cons_zero])
      | (refine own_store (by rfl) (by rfl) (by rfl) (by first | exact agg_vec.size | exact agg_wide.size | exact agg_big.size | exact one_int.size | exact one_int64.size | exact one_bool.size | exact one_uint8.size | exact one_uint64.size | exact one_int32.size | exact one_uint64s.size) (by rfl) (by rfl) (by rfl) (by repeat (first | exact .head _ | refine .tail _ ?_)) (by rfl) (by simp [go_sem, V3.v, Pl.v, V3.cs, Pl.cs, layAt, Value.cells] <;> rfl) (by repeat (first | exact .here | apply Upd.there)) ?_ hR; clear hR; intro _ hR; simp only [Act.put, List.setIfInBounds_toArray, List.set_cons_succ, List.set_cons_zero])
      | (refine own_max (by rfl) (by rfl) (by rfl) (by rfl) ?_; simp only [Act.put, List.setIfInBounds_toArray, List.set_cons_succ, List.set_cons_zero])
      | (refine own_min (by rfl) (by rfl) (by rfl) (by rfl) ?_; simp only [Act.put, List.setIfInBounds_toArray, List.set_cons_succ, List.set_cons_zero]))
    )
  refine own_call (Ret.val (v' := I (max n (cut64 (-n)))) (long_any ⟨0, 0, n⟩ _ ⟨In64_zero, In64_zero, hn⟩) (congrArg I (long_z n hn))) ?_ hR; clear hR; intro _ hR
  go_wp2_with (first
    | ((with_reducible apply is_list); first
      | ((with_reducible refine own_skip ?_ ?_); (exact rfl); simp only [Act.put, List.setIfInBounds_toArray, List.set_cons_succ, List.set_cons_zero])
      | (refine own_box (by rfl) (by rfl) (by simp [go_sem, V3.v, Pl.v, V3.cs, Pl.cs, layAt, Value.cells] <;> rfl) ?_ hR; clear hR; intro _ _ hR; simp only [Act.put, List.setIfInBounds_toArray, List.set_cons_succ, List.set_cons_zero])
      | (refine own_alloc (by rfl) (by rfl) (by first | exact zero_vec | exact zero_wide | exact zero_big) ?_ hR; clear hR; intro _ _ hR; simp only [Act.put, List.setIfInBounds_toArray, List.set_cons_succ, List.set_cons_zero])
      | (refine own_alloc1 (by rfl) (by rfl) (by first | exact zero_int | exact zero_int64 | exact zero_bool | exact zero_uint8 | exact zero_uint64 | exact zero_int32 | exact zero_uint64s) (by simp [go_sem, V3.v, Pl.v, V3.cs, Pl.cs, layAt, Value.cells] <;> rfl) ?_ hR; clear hR; intro _ _ hR; simp only [Act.put, List.setIfInBounds_toArray, List.set_cons_succ, List.set_cons_zero])
      | (refine own_load_all (by rfl) (by rfl) (by rfl) (by first | exact agg_vec | exact agg_wide | exact agg_big) (by repeat (first | exact .head _ | refine .tail _ ?_)) (by rfl) ?_ hR; clear hR; intro hR; simp only [Act.put, List.setIfInBounds_toArray, List.set_cons_succ, List.set_cons_zero])
      | (refine own_load_agg (by rfl) (by rfl) (by rfl) (by first | exact agg_vec | exact agg_wide | exact agg_big) (by repeat (first | exact .head _ | refine .tail _ ?_)) (by rfl) (by simp [go_sem, V3.v, Pl.v, V3.cs, Pl.cs, layAt, Value.cells] <;> rfl) ?_ hR; clear hR; intro hR; simp only [Act.put, List.setIfInBounds_toArray, List.set_cons_succ, List.set_cons_zero])
      | (refine own_load_one (by rfl) (by rfl) (by rfl) (by first | exact one_int | exact one_int64 | exact one_bool | exact one_uint8 | exact one_uint64 | exact one_int32 | exact one_uint64s) (by repeat (first | exact .head _ | refine .tail _ ?_)) (by simp [go_sem, V3.v, Pl.v, V3.cs, Pl.cs, layAt, Value.cells] <;> rfl) ?_ hR; clear hR; intro hR; simp only [Act.put, List.setIfInBounds_toArray, List.set_cons_succ, List.set_cons_zero])
      | (refine own_store_all (by rfl) (by rfl) (by rfl) (by first | exact agg_vec.size | exact agg_wide.size | exact agg_big.size | exact one_int.size | exact one_int64.size | exact one_bool.size | exact one_uint8.size | exact one_uint64.size | exact one_int32.size | exact one_uint64s.size) (by rfl) (by rfl) (by rfl) (by repeat (first | exact .head _ | refine .tail _ ?_)) (by rfl) (by simp [go_sem, V3.v, Pl.v, V3.cs, Pl.cs, layAt, Value.cells] <;> rfl) (by repeat (first | exact .here | apply Upd.there)) ?_ hR; clear hR; intro _ hR; simp only [Act.put, List.setIfInBounds_toArray, List.set_cons_succ, List.set_cons_zero])
      | (refine own_store (by rfl) (by rfl) (by rfl) (by first | exact agg_vec.size | exact agg_wide.size | exact agg_big.size | exact one_int.size | exact one_int64.size | exact one_bool.size | exact one_uint8.size | exact one_uint64.size | exact one_int32.size | exact one_uint64s.size) (by rfl) (by rfl) (by rfl) (by repeat (first | exact .head _ | refine .tail _ ?_)) (by rfl) (by simp [go_sem, V3.v, Pl.v, V3.cs, Pl.cs, layAt, Value.cells] <;> rfl) (by repeat (first | exact .here | apply Upd.there)) ?_ hR; clear hR; intro _ hR; simp only [Act.put, List.setIfInBounds_toArray, List.set_cons_succ, List.set_cons_zero])
      | (refine own_max (by rfl) (by rfl) (by rfl) (by rfl) ?_; simp only [Act.put, List.setIfInBounds_toArray, List.set_cons_succ, List.set_cons_zero])
      | (refine own_min (by rfl) (by rfl) (by rfl) (by rfl) ?_; simp only [Act.put, List.setIfInBounds_toArray, List.set_cons_succ, List.set_cons_zero]))
    )
  refine own_ret1 Try.results11 rfl (.tmp rfl) (fun hR => hR.ret ?_) hR
  rw [HV.out]
  rfl

end Go.Proofs.Ytegafbkjdkpfiaa
