/- Package fix's Plus and Minus: contracts. -/
import Derived.Test.YtegafbkjdkpfiaaFixC
namespace Go.Proofs.Ytegafbkjdkpfiaa
set_option linter.unusedSimpArgs false
set_option linter.unusedVariables false
open Go.RowKit

def V3.plus (a b : V3) : V3 := ⟨cut64 (a.x + b.x), cut64 (a.y + b.y), cut64 (a.z + b.z)⟩
def V3.minus (a b : V3) : V3 := ⟨cut64 (a.x - b.x), cut64 (a.y - b.y), cut64 (a.z - b.z)⟩

theorem cut64_fits (z : Int) : In64 (cut64 z) := by unfold In64 cut64; omega

set_option maxHeartbeats 1000000 in
theorem vplus_any (a b : V3) (w : World) (ha : a.fits) (hb : b.fits) : Calls Try.prog 30 #[a.v, b.v] w (Ret w (a.plus b).v) := by
  refine calls_hide fun V HV => ?_
  have hR := Own.start w
  go_enter Try.func30, Try.ntmps30
  go_wp2_with (first
    | ((with_reducible apply is_list); first
      | ((with_reducible refine own_skip ?_ ?_); (exact rfl); simp only [Act.put, List.setIfInBounds_toArray, List.set_cons_succ, List.set_cons_zero])
      | (refine own_box (by rfl) (by rfl) (by simp [go_sem, V3.v, Pl.v, V3.cs, Pl.cs, layAt, Value.cells] <;> rfl) ?_ hR; clear hR; intro _ _ hR; simp only [Act.put, List.setIfInBounds_toArray, List.set_cons_succ, List.set_cons_zero])
      | (refine own_alloc (by rfl) (by rfl) (by first | exact zero_vec | exact zero_wide | exact zero_big) ?_ hR; clear hR; intro _ _ hR; simp only [Act.put, List.setIfInBounds_toArray, List.set_cons_succ, List.set_cons_zero])
      | (refine own_alloc1 (by rfl) (by rfl) (by first | exact zero_int | exact zero_int64 | exact zero_bool | exact zero_uint8 | exact zero_uint64 | exact zero_int32 | exact zero_uint64s) (by simp [go_sem, V3.v, Pl.v, V3.cs, Pl.cs, layAt, Value.cells] <;> rfl) ?_ hR; clear hR; intro _ _ hR; simp only [Act.put, List.setIfInBounds_toArray, List.set_cons_succ, List.set_cons_zero])
      | (refine own_load_all (by rfl) (by rfl) (by rfl) (by first | exact agg_vec | exact agg_wide | exact agg_big) (by repeat (first | exact .head _ | refine .tail _ ?_)) (by rfl) ?_ hR; clear hR; intro hR; simp only [Act.put, List.setIfInBounds_toArray, List.set_cons_succ, List.set_cons_zero])
      | (refine own_load_agg (by rfl) (by rfl) (by rfl) (by first | exact agg_vec | exact agg_wide | exact agg_big) (by repeat (first | exact .head _ | refine .tail _ ?_)) (by rfl) (by simp [go_sem, V3.v, Pl.v, V3.cs, Pl.cs, layAt, Value.cells] <;> rfl) ?_ hR; clear hR; intro hR; simp only [Act.put, List.setIfInBounds_toArray, List.set_cons_succ, List.set_cons_zero])
      | (refine own_load_one (by rfl) (by rfl) (by rfl) (by first | exact one_int | exact one_int64 | exact one_bool | exact one_uint8 | exact one_uint64 | exact one_int32 | exact one_uint64s) (by repeat (first | exact .head _ | refine .tail _ ?_)) (by simp [go_sem, V3.v, Pl.v, V3.cs, Pl.cs, layAt, Value.cells] <;> rfl) ?_ hR; clear hR; intro hR; simp only [Act.put, List.setIfInBounds_toArray, List.set_cons_succ, List.set_cons_zero])
      | (refine own_store_all (by rfl) (by rfl) (by rfl) (by first | exact agg_vec.size | exact agg_wide.size | exact agg_big.size | exact one_int.size | exact one_int64.size | exact one_bool.size | exact one_uint8.size | exact one_uint64.size | exact one_int32.size | exact one_uint64s.size) (by rfl) (by rfl) (by rfl) (by repeat (first | exact .head _ | refine .tail _ ?_)) (by rfl) (by simp [go_sem, V3.v, Pl.v, V3.cs, Pl.cs, layAt, Value.cells] <;> rfl) (by repeat (first | exact .here | apply Upd.there)) ?_ hR; clear hR; intro _ hR; simp only [Act.put, List.setIfInBounds_toArray, List.set_cons_succ, List.set_cons_zero])
      | (refine own_store (by rfl) (by rfl) (by rfl) (by first | exact agg_vec.size | exact agg_wide.size | exact agg_big.size | exact one_int.size | exact one_int64.size | exact one_bool.size | exact one_uint8.size | exact one_uint64.size | exact one_int32.size | exact one_uint64s.size) (by rfl) (by rfl) (by rfl) (by repeat (first | exact .head _ | refine .tail _ ?_)) (by rfl) (by simp [go_sem, V3.v, Pl.v, V3.cs, Pl.cs, layAt, Value.cells] <;> rfl) (by repeat (first | exact .here | apply Upd.there)) ?_ hR; clear hR; intro _ hR; simp only [Act.put, List.setIfInBounds_toArray, List.set_cons_succ, List.set_cons_zero])
      | (refine own_max (by rfl) (by rfl) (by rfl) (by rfl) ?_; simp only [Act.put, List.setIfInBounds_toArray, List.set_cons_succ, List.set_cons_zero])
      | (refine own_min (by rfl) (by rfl) (by rfl) (by rfl) ?_; simp only [Act.put, List.setIfInBounds_toArray, List.set_cons_succ, List.set_cons_zero]))
    )
  refine own_call (axes_any a b 21 #[] _ _ _ _ Try.func21 (by kernel_rfl) (fun w' _ => add_any a.x b.x w' ha.1 hb.1) (fun w' _ => add_any a.y b.y w' ha.2.1 hb.2.1) (fun w' _ => add_any a.z b.z w' ha.2.2 hb.2.2)) ?_ hR; clear hR; intro _ hR
  go_wp2_with (first
    | ((with_reducible apply is_list); first
      | ((with_reducible refine own_skip ?_ ?_); (exact rfl); simp only [Act.put, List.setIfInBounds_toArray, List.set_cons_succ, List.set_cons_zero])
      | (refine own_box (by rfl) (by rfl) (by simp [go_sem, V3.v, Pl.v, V3.cs, Pl.cs, layAt, Value.cells] <;> rfl) ?_ hR; clear hR; intro _ _ hR; simp only [Act.put, List.setIfInBounds_toArray, List.set_cons_succ, List.set_cons_zero])
      | (refine own_alloc (by rfl) (by rfl) (by first | exact zero_vec | exact zero_wide | exact zero_big) ?_ hR; clear hR; intro _ _ hR; simp only [Act.put, List.setIfInBounds_toArray, List.set_cons_succ, List.set_cons_zero])
      | (refine own_alloc1 (by rfl) (by rfl) (by first | exact zero_int | exact zero_int64 | exact zero_bool | exact zero_uint8 | exact zero_uint64 | exact zero_int32 | exact zero_uint64s) (by simp [go_sem, V3.v, Pl.v, V3.cs, Pl.cs, layAt, Value.cells] <;> rfl) ?_ hR; clear hR; intro _ _ hR; simp only [Act.put, List.setIfInBounds_toArray, List.set_cons_succ, List.set_cons_zero])
      | (refine own_load_all (by rfl) (by rfl) (by rfl) (by first | exact agg_vec | exact agg_wide | exact agg_big) (by repeat (first | exact .head _ | refine .tail _ ?_)) (by rfl) ?_ hR; clear hR; intro hR; simp only [Act.put, List.setIfInBounds_toArray, List.set_cons_succ, List.set_cons_zero])
      | (refine own_load_agg (by rfl) (by rfl) (by rfl) (by first | exact agg_vec | exact agg_wide | exact agg_big) (by repeat (first | exact .head _ | refine .tail _ ?_)) (by rfl) (by simp [go_sem, V3.v, Pl.v, V3.cs, Pl.cs, layAt, Value.cells] <;> rfl) ?_ hR; clear hR; intro hR; simp only [Act.put, List.setIfInBounds_toArray, List.set_cons_succ, List.set_cons_zero])
      | (refine own_load_one (by rfl) (by rfl) (by rfl) (by first | exact one_int | exact one_int64 | exact one_bool | exact one_uint8 | exact one_uint64 | exact one_int32 | exact one_uint64s) (by repeat (first | exact .head _ | refine .tail _ ?_)) (by simp [go_sem, V3.v, Pl.v, V3.cs, Pl.cs, layAt, Value.cells] <;> rfl) ?_ hR; clear hR; intro hR; simp only [Act.put, List.setIfInBounds_toArray, List.set_cons_succ, List.set_cons_zero])
      | (refine own_store_all (by rfl) (by rfl) (by rfl) (by first | exact agg_vec.size | exact agg_wide.size | exact agg_big.size | exact one_int.size | exact one_int64.size | exact one_bool.size | exact one_uint8.size | exact one_uint64.size | exact one_int32.size | exact one_uint64s.size) (by rfl) (by rfl) (by rfl) (by repeat (first | exact .head _ | refine .tail _ ?_)) (by rfl) (by simp [go_sem, V3.v, Pl.v, V3.cs, Pl.cs, layAt, Value.cells] <;> rfl) (by repeat (first | exact .here | apply Upd.there)) ?_ hR; clear hR; intro _ hR; simp only [Act.put, List.setIfInBounds_toArray, List.set_cons_succ, List.set_cons_zero])
      | (refine own_store (by rfl) (by rfl) (by rfl) (by first | exact agg_vec.size | exact agg_wide.size | exact agg_big.size | exact one_int.size | exact one_int64.size | exact one_bool.size | exact one_uint8.size | exact one_uint64.size | exact one_int32.size | exact one_uint64s.size) (by rfl) (by rfl) (by rfl) (by repeat (first | exact .head _ | refine .tail _ ?_)) (by rfl) (by simp [go_sem, V3.v, Pl.v, V3.cs, Pl.cs, layAt, Value.cells] <;> rfl) (by repeat (first | exact .here | apply Upd.there)) ?_ hR; clear hR; intro _ hR; simp only [Act.put, List.setIfInBounds_toArray, List.set_cons_succ, List.set_cons_zero])
      | (refine own_max (by rfl) (by rfl) (by rfl) (by rfl) ?_; simp only [Act.put, List.setIfInBounds_toArray, List.set_cons_succ, List.set_cons_zero])
      | (refine own_min (by rfl) (by rfl) (by rfl) (by rfl) ?_; simp only [Act.put, List.setIfInBounds_toArray, List.set_cons_succ, List.set_cons_zero]))
    )
  refine own_ret1 Try.results30 rfl (.all (by rfl) (by first | exact agg_vec | exact agg_wide | exact agg_big) (by repeat (first | exact .head _ | refine .tail _ ?_)) (by rfl)) (fun hR => hR.ret ?_) hR
  rw [HV.out]
  rfl

set_option maxHeartbeats 1000000 in
theorem vminus_any (a b : V3) (w : World) (ha : a.fits) (hb : b.fits) : Calls Try.prog 31 #[a.v, b.v] w (Ret w (a.minus b).v) := by
  refine calls_hide fun V HV => ?_
  have hR := Own.start w
  go_enter Try.func31, Try.ntmps31
  go_wp2_with (first
    | ((with_reducible apply is_list); first
      | ((with_reducible refine own_skip ?_ ?_); (exact rfl); simp only [Act.put, List.setIfInBounds_toArray, List.set_cons_succ, List.set_cons_zero])
      | (refine own_box (by rfl) (by rfl) (by simp [go_sem, V3.v, Pl.v, V3.cs, Pl.cs, layAt, Value.cells] <;> rfl) ?_ hR; clear hR; intro _ _ hR; simp only [Act.put, List.setIfInBounds_toArray, List.set_cons_succ, List.set_cons_zero])
      | (refine own_alloc (by rfl) (by rfl) (by first | exact zero_vec | exact zero_wide | exact zero_big) ?_ hR; clear hR; intro _ _ hR; simp only [Act.put, List.setIfInBounds_toArray, List.set_cons_succ, List.set_cons_zero])
      | (refine own_alloc1 (by rfl) (by rfl) (by first | exact zero_int | exact zero_int64 | exact zero_bool | exact zero_uint8 | exact zero_uint64 | exact zero_int32 | exact zero_uint64s) (by simp [go_sem, V3.v, Pl.v, V3.cs, Pl.cs, layAt, Value.cells] <;> rfl) ?_ hR; clear hR; intro _ _ hR; simp only [Act.put, List.setIfInBounds_toArray, List.set_cons_succ, List.set_cons_zero])
      | (refine own_load_all (by rfl) (by rfl) (by rfl) (by first | exact agg_vec | exact agg_wide | exact agg_big) (by repeat (first | exact .head _ | refine .tail _ ?_)) (by rfl) ?_ hR; clear hR; intro hR; simp only [Act.put, List.setIfInBounds_toArray, List.set_cons_succ, List.set_cons_zero])
      | (refine own_load_agg (by rfl) (by rfl) (by rfl) (by first | exact agg_vec | exact agg_wide | exact agg_big) (by repeat (first | exact .head _ | refine .tail _ ?_)) (by rfl) (by simp [go_sem, V3.v, Pl.v, V3.cs, Pl.cs, layAt, Value.cells] <;> rfl) ?_ hR; clear hR; intro hR; simp only [Act.put, List.setIfInBounds_toArray, List.set_cons_succ, List.set_cons_zero])
      | (refine own_load_one (by rfl) (by rfl) (by rfl) (by first | exact one_int | exact one_int64 | exact one_bool | exact one_uint8 | exact one_uint64 | exact one_int32 | exact one_uint64s) (by repeat (first | exact .head _ | refine .tail _ ?_)) (by simp [go_sem, V3.v, Pl.v, V3.cs, Pl.cs, layAt, Value.cells] <;> rfl) ?_ hR; clear hR; intro hR; simp only [Act.put, List.setIfInBounds_toArray, List.set_cons_succ, List.set_cons_zero])
      | (refine own_store_all (by rfl) (by rfl) (by rfl) (by first | exact agg_vec.size | exact agg_wide.size | exact agg_big.size | exact one_int.size | exact one_int64.size | exact one_bool.size | exact one_uint8.size | exact one_uint64.size | exact one_int32.size | exact one_uint64s.size) (by rfl) (by rfl) (by rfl) (by repeat (first | exact .head _ | refine .tail _ ?_)) (by rfl) (by simp [go_sem, V3.v, Pl.v, V3.cs, Pl.cs, layAt, Value.cells] <;> rfl) (by repeat (first | exact .here | apply Upd.there)) ?_ hR; clear hR; intro _ hR; simp only [Act.put, List.setIfInBounds_toArray, List.set_cons_succ, List.set_cons_zero])
      | (refine own_store (by rfl) (by rfl) (by rfl) (by first | exact agg_vec.size | exact agg_wide.size | exact agg_big.size | exact one_int.size | exact one_int64.size | exact one_bool.size | exact one_uint8.size | exact one_uint64.size | exact one_int32.size | exact one_uint64s.size) (by rfl) (by rfl) (by rfl) (by repeat (first | exact .head _ | refine .tail _ ?_)) (by rfl) (by simp [go_sem, V3.v, Pl.v, V3.cs, Pl.cs, layAt, Value.cells] <;> rfl) (by repeat (first | exact .here | apply Upd.there)) ?_ hR; clear hR; intro _ hR; simp only [Act.put, List.setIfInBounds_toArray, List.set_cons_succ, List.set_cons_zero])
      | (refine own_max (by rfl) (by rfl) (by rfl) (by rfl) ?_; simp only [Act.put, List.setIfInBounds_toArray, List.set_cons_succ, List.set_cons_zero])
      | (refine own_min (by rfl) (by rfl) (by rfl) (by rfl) ?_; simp only [Act.put, List.setIfInBounds_toArray, List.set_cons_succ, List.set_cons_zero]))
    )
  refine own_call (axes_any a b 23 #[] _ _ _ _ Try.func23 (by kernel_rfl) (fun w' _ => sub_any a.x b.x w' ha.1 hb.1) (fun w' _ => sub_any a.y b.y w' ha.2.1 hb.2.1) (fun w' _ => sub_any a.z b.z w' ha.2.2 hb.2.2)) ?_ hR; clear hR; intro _ hR
  go_wp2_with (first
    | ((with_reducible apply is_list); first
      | ((with_reducible refine own_skip ?_ ?_); (exact rfl); simp only [Act.put, List.setIfInBounds_toArray, List.set_cons_succ, List.set_cons_zero])
      | (refine own_box (by rfl) (by rfl) (by simp [go_sem, V3.v, Pl.v, V3.cs, Pl.cs, layAt, Value.cells] <;> rfl) ?_ hR; clear hR; intro _ _ hR; simp only [Act.put, List.setIfInBounds_toArray, List.set_cons_succ, List.set_cons_zero])
      | (refine own_alloc (by rfl) (by rfl) (by first | exact zero_vec | exact zero_wide | exact zero_big) ?_ hR; clear hR; intro _ _ hR; simp only [Act.put, List.setIfInBounds_toArray, List.set_cons_succ, List.set_cons_zero])
      | (refine own_alloc1 (by rfl) (by rfl) (by first | exact zero_int | exact zero_int64 | exact zero_bool | exact zero_uint8 | exact zero_uint64 | exact zero_int32 | exact zero_uint64s) (by simp [go_sem, V3.v, Pl.v, V3.cs, Pl.cs, layAt, Value.cells] <;> rfl) ?_ hR; clear hR; intro _ _ hR; simp only [Act.put, List.setIfInBounds_toArray, List.set_cons_succ, List.set_cons_zero])
      | (refine own_load_all (by rfl) (by rfl) (by rfl) (by first | exact agg_vec | exact agg_wide | exact agg_big) (by repeat (first | exact .head _ | refine .tail _ ?_)) (by rfl) ?_ hR; clear hR; intro hR; simp only [Act.put, List.setIfInBounds_toArray, List.set_cons_succ, List.set_cons_zero])
      | (refine own_load_agg (by rfl) (by rfl) (by rfl) (by first | exact agg_vec | exact agg_wide | exact agg_big) (by repeat (first | exact .head _ | refine .tail _ ?_)) (by rfl) (by simp [go_sem, V3.v, Pl.v, V3.cs, Pl.cs, layAt, Value.cells] <;> rfl) ?_ hR; clear hR; intro hR; simp only [Act.put, List.setIfInBounds_toArray, List.set_cons_succ, List.set_cons_zero])
      | (refine own_load_one (by rfl) (by rfl) (by rfl) (by first | exact one_int | exact one_int64 | exact one_bool | exact one_uint8 | exact one_uint64 | exact one_int32 | exact one_uint64s) (by repeat (first | exact .head _ | refine .tail _ ?_)) (by simp [go_sem, V3.v, Pl.v, V3.cs, Pl.cs, layAt, Value.cells] <;> rfl) ?_ hR; clear hR; intro hR; simp only [Act.put, List.setIfInBounds_toArray, List.set_cons_succ, List.set_cons_zero])
      | (refine own_store_all (by rfl) (by rfl) (by rfl) (by first | exact agg_vec.size | exact agg_wide.size | exact agg_big.size | exact one_int.size | exact one_int64.size | exact one_bool.size | exact one_uint8.size | exact one_uint64.size | exact one_int32.size | exact one_uint64s.size) (by rfl) (by rfl) (by rfl) (by repeat (first | exact .head _ | refine .tail _ ?_)) (by rfl) (by simp [go_sem, V3.v, Pl.v, V3.cs, Pl.cs, layAt, Value.cells] <;> rfl) (by repeat (first | exact .here | apply Upd.there)) ?_ hR; clear hR; intro _ hR; simp only [Act.put, List.setIfInBounds_toArray, List.set_cons_succ, List.set_cons_zero])
      | (refine own_store (by rfl) (by rfl) (by rfl) (by first | exact agg_vec.size | exact agg_wide.size | exact agg_big.size | exact one_int.size | exact one_int64.size | exact one_bool.size | exact one_uint8.size | exact one_uint64.size | exact one_int32.size | exact one_uint64s.size) (by rfl) (by rfl) (by rfl) (by repeat (first | exact .head _ | refine .tail _ ?_)) (by rfl) (by simp [go_sem, V3.v, Pl.v, V3.cs, Pl.cs, layAt, Value.cells] <;> rfl) (by repeat (first | exact .here | apply Upd.there)) ?_ hR; clear hR; intro _ hR; simp only [Act.put, List.setIfInBounds_toArray, List.set_cons_succ, List.set_cons_zero])
      | (refine own_max (by rfl) (by rfl) (by rfl) (by rfl) ?_; simp only [Act.put, List.setIfInBounds_toArray, List.set_cons_succ, List.set_cons_zero])
      | (refine own_min (by rfl) (by rfl) (by rfl) (by rfl) ?_; simp only [Act.put, List.setIfInBounds_toArray, List.set_cons_succ, List.set_cons_zero]))
    )
  refine own_ret1 Try.results31 rfl (.all (by rfl) (by first | exact agg_vec | exact agg_wide | exact agg_big) (by repeat (first | exact .head _ | refine .tail _ ?_)) (by rfl)) (fun hR => hR.ret ?_) hR
  rw [HV.out]
  rfl

end Go.Proofs.Ytegafbkjdkpfiaa
