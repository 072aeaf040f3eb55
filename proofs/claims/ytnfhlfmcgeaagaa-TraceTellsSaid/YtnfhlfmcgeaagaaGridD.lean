/- Package grid's Clear: contract, for every box. -/
import Derived.Test.YtnfhlfmcgeaagaaGridC
-- EVDEFS: Mp.v
namespace Go.Proofs.Ytnfhlfmcgeaagaa
set_option linter.unusedSimpArgs false
set_option linter.unusedVariables false
open Go.RowKit

theorem clear_main (m : Mp) (lo hi : V3) (w : World) (hm : m.fits) (hr : m.reads w) (hlo : lo.fits) (hhi : hi.fits) (e1 : lo.x < hi.x) (e2 : lo.y < hi.y) (e3 : lo.z < hi.z) :
    Calls Try.prog 22 #[m.v, lo.v, hi.v] w (Ret w (.bool (m.clear lo hi))) := by
  cases hs1 : m.solid (lo.x / 65536) (lo.y / 65536) (lo.z / 65536)
  · cases hs2 : m.solid ((hi.x - 1) / 65536) ((hi.y - 1) / 65536) ((hi.z - 1) / 65536)
    · exact clear_free m lo hi w hm hr hlo hhi e1 e2 e3 hs1 hs2
    · exact clear_top m lo hi w hm hr hlo hhi e1 e2 e3 hs1 hs2
  · exact clear_low m lo hi w hm hr hlo hhi e1 e2 e3 hs1

set_option maxHeartbeats 1000000 in
theorem clear_x (m : Mp) (lo hi : V3) (w : World) (hm : m.fits) (e : hi.x ≤ lo.x) : Calls Try.prog 22 #[m.v, lo.v, hi.v] w (Ret w (.bool true)) := by
  obtain ⟨hsp, hone⟩ : m.sp.cells.size = 1 ∧ m.sp.oneCell' = true := ⟨hm.sp, hm.one⟩
  have k1 : Hid (decide (hi.x ≤ lo.x) = true) := Lib.hid (decide_eq_true e)
  clear hm e
  refine calls_hide fun V HV => ?_
  have hR := Own.start w
  go_enter Try.func22, Try.ntmps22
  go_wp2_with (first
    | ((with_reducible apply is_list); repeat1' (first | rw [k1.out] | (first
      | ((with_reducible refine own_skip ?_ ?_); (exact rfl); simp only [Act.put, List.setIfInBounds_toArray, List.set_cons_succ, List.set_cons_zero])
      | (refine own_move (by rfl) (by rfl) (by simp only [Act.eval, Array.getD_eq_getD_getElem?, List.getElem?_toArray, List.getElem?_cons_zero, List.getElem?_cons_succ, Option.getD_some] <;> rfl) ?_; simp only [Act.put, List.setIfInBounds_toArray, List.set_cons_succ, List.set_cons_zero])
      | (refine own_assign (by rfl) (by rfl) (by simp only [Act.eval, Array.getD_eq_getD_getElem?, List.getElem?_toArray, List.getElem?_cons_zero, List.getElem?_cons_succ, Option.getD_some] <;> rfl) ?_; simp only [Act.put, List.setIfInBounds_toArray, List.set_cons_succ, List.set_cons_zero])
      | (refine own_box (by rfl) (by rfl) (by simp [go_sem, V3.v, Pl.v, V3.cs, Pl.cs, layAt, Value.cells, Mp.v] <;> rfl) ?_ hR; clear hR; intro _ _ hR; simp only [Act.put, List.setIfInBounds_toArray, List.set_cons_succ, List.set_cons_zero])
      | (refine own_alloc (by rfl) (by rfl) (by first | exact zero_vec | exact zero_map | exact zero_b3 | exact zero_i3 | exact zero_p3 | exact zero_axis | exact zero_axis3 | exact zero_wide | exact zero_big) ?_ hR; clear hR; intro _ _ hR; simp only [Act.put, List.setIfInBounds_toArray, List.set_cons_succ, List.set_cons_zero])
      | (refine own_alloc1 (by rfl) (by rfl) (by first | exact zero_int | exact zero_int64 | exact zero_bool | exact zero_uint8 | exact zero_uint64 | exact zero_int32 | exact zero_bools | exact zero_vecs | exact zero_int64s | exact zero_uint64s | exact zero_pint64 | exact zero_paxis) (by simp [go_sem, V3.v, Pl.v, V3.cs, Pl.cs, layAt, Value.cells, Mp.v] <;> rfl) ?_ hR; clear hR; intro _ _ hR; simp only [Act.put, List.setIfInBounds_toArray, List.set_cons_succ, List.set_cons_zero])
      | (refine own_load_all (by rfl) (by rfl) (by rfl) (by first | exact agg_vec | exact agg_map | exact agg_b3 | exact agg_i3 | exact agg_p3 | exact agg_axis | exact agg_axis3 | exact agg_wide | exact agg_big) (by repeat (first | exact .head _ | refine .tail _ ?_)) (by rfl) ?_ hR; clear hR; intro hR; simp only [Act.put, List.setIfInBounds_toArray, List.set_cons_succ, List.set_cons_zero])
      | (refine own_load_agg (by rfl) (by rfl) (by rfl) (by first | exact agg_vec | exact agg_map | exact agg_b3 | exact agg_i3 | exact agg_p3 | exact agg_axis | exact agg_axis3 | exact agg_wide | exact agg_big) (by repeat (first | exact .head _ | refine .tail _ ?_)) (by rfl) (by simp [go_sem, V3.v, Pl.v, V3.cs, Pl.cs, layAt, Value.cells, Mp.v] <;> rfl) ?_ hR; clear hR; intro hR; simp only [Act.put, List.setIfInBounds_toArray, List.set_cons_succ, List.set_cons_zero])
      | (refine own_load_one (by rfl) (by rfl) (by rfl) (by first | exact one_int | exact one_int64 | exact one_bool | exact one_uint8 | exact one_uint64 | exact one_int32 | exact one_bools | exact one_vecs | exact one_int64s | exact one_uint64s | exact one_pint64 | exact one_paxis) (by repeat (first | exact .head _ | refine .tail _ ?_)) (by simp [go_sem, V3.v, Pl.v, V3.cs, Pl.cs, layAt, Value.cells, Mp.v] <;> rfl) ?_ hR; clear hR; intro hR; simp only [Act.put, List.setIfInBounds_toArray, List.set_cons_succ, List.set_cons_zero])
      | (refine own_store_all (by rfl) (by rfl) (by rfl) (by first | exact agg_vec.size | exact agg_map.size | exact agg_b3.size | exact agg_i3.size | exact agg_p3.size | exact agg_axis.size | exact agg_axis3.size | exact agg_wide.size | exact agg_big.size | exact one_int.size | exact one_int64.size | exact one_bool.size | exact one_uint8.size | exact one_uint64.size | exact one_int32.size | exact one_bools.size | exact one_vecs.size | exact one_int64s.size | exact one_uint64s.size | exact one_pint64.size | exact one_paxis.size) (by rfl) (by rfl) (by rfl) (by repeat (first | exact .head _ | refine .tail _ ?_)) (by rfl) (by simp [go_sem, V3.v, Pl.v, V3.cs, Pl.cs, layAt, Value.cells, Mp.v] <;> rfl) (by repeat (first | exact .here | apply Upd.there)) ?_ hR; clear hR; intro _ hR; simp only [Act.put, List.setIfInBounds_toArray, List.set_cons_succ, List.set_cons_zero])
      | (refine own_store (by rfl) (by rfl) (by rfl) (by first | exact agg_vec.size | exact agg_map.size | exact agg_b3.size | exact agg_i3.size | exact agg_p3.size | exact agg_axis.size | exact agg_axis3.size | exact agg_wide.size | exact agg_big.size | exact one_int.size | exact one_int64.size | exact one_bool.size | exact one_uint8.size | exact one_uint64.size | exact one_int32.size | exact one_bools.size | exact one_vecs.size | exact one_int64s.size | exact one_uint64s.size | exact one_pint64.size | exact one_paxis.size) (by rfl) (by rfl) (by rfl) (by repeat (first | exact .head _ | refine .tail _ ?_)) (by rfl) (by simp [go_sem, V3.v, Pl.v, V3.cs, Pl.cs, layAt, Value.cells, Mp.v] <;> rfl) (by repeat (first | exact .here | apply Upd.there)) ?_ hR; clear hR; intro _ hR; simp only [Act.put, List.setIfInBounds_toArray, List.set_cons_succ, List.set_cons_zero])
      | (refine own_max (by rfl) (by rfl) (by rfl) (by rfl) ?_; simp only [Act.put, List.setIfInBounds_toArray, List.set_cons_succ, List.set_cons_zero])
      | (refine own_min (by rfl) (by rfl) (by rfl) (by rfl) ?_; simp only [Act.put, List.setIfInBounds_toArray, List.set_cons_succ, List.set_cons_zero])
      | (refine own_pure (by rfl) (by intro w; simp [go_sem, V3.v, Pl.v, V3.cs, Pl.cs, layAt, Value.cells, Mp.v] <;> rfl) ?_; simp only [Act.put, List.setIfInBounds_toArray, List.set_cons_succ, List.set_cons_zero])))))
  refine own_ret1 Try.results22 rfl (.tmp rfl) (fun hR => hR.ret ?_) hR
  rw [HV.out]
  rfl

set_option maxHeartbeats 1000000 in
theorem clear_y (m : Mp) (lo hi : V3) (w : World) (hm : m.fits) (e1 : lo.x < hi.x) (e : hi.y ≤ lo.y) : Calls Try.prog 22 #[m.v, lo.v, hi.v] w (Ret w (.bool true)) := by
  obtain ⟨hsp, hone⟩ : m.sp.cells.size = 1 ∧ m.sp.oneCell' = true := ⟨hm.sp, hm.one⟩
  have k1 : Hid (decide (hi.x ≤ lo.x) = false) := Lib.hid (decide_eq_false (by omega))
  have k2 : Hid (decide (hi.y ≤ lo.y) = true) := Lib.hid (decide_eq_true e)
  clear hm e1 e
  refine calls_hide fun V HV => ?_
  have hR := Own.start w
  go_enter Try.func22, Try.ntmps22
  go_wp2_with (first
    | ((with_reducible apply is_list); repeat1' (first | rw [k1.out] | rw [k2.out] | (first
      | ((with_reducible refine own_skip ?_ ?_); (exact rfl); simp only [Act.put, List.setIfInBounds_toArray, List.set_cons_succ, List.set_cons_zero])
      | (refine own_move (by rfl) (by rfl) (by simp only [Act.eval, Array.getD_eq_getD_getElem?, List.getElem?_toArray, List.getElem?_cons_zero, List.getElem?_cons_succ, Option.getD_some] <;> rfl) ?_; simp only [Act.put, List.setIfInBounds_toArray, List.set_cons_succ, List.set_cons_zero])
      | (refine own_assign (by rfl) (by rfl) (by simp only [Act.eval, Array.getD_eq_getD_getElem?, List.getElem?_toArray, List.getElem?_cons_zero, List.getElem?_cons_succ, Option.getD_some] <;> rfl) ?_; simp only [Act.put, List.setIfInBounds_toArray, List.set_cons_succ, List.set_cons_zero])
      | (refine own_box (by rfl) (by rfl) (by simp [go_sem, V3.v, Pl.v, V3.cs, Pl.cs, layAt, Value.cells, Mp.v] <;> rfl) ?_ hR; clear hR; intro _ _ hR; simp only [Act.put, List.setIfInBounds_toArray, List.set_cons_succ, List.set_cons_zero])
      | (refine own_alloc (by rfl) (by rfl) (by first | exact zero_vec | exact zero_map | exact zero_b3 | exact zero_i3 | exact zero_p3 | exact zero_axis | exact zero_axis3 | exact zero_wide | exact zero_big) ?_ hR; clear hR; intro _ _ hR; simp only [Act.put, List.setIfInBounds_toArray, List.set_cons_succ, List.set_cons_zero])
      | (refine own_alloc1 (by rfl) (by rfl) (by first | exact zero_int | exact zero_int64 | exact zero_bool | exact zero_uint8 | exact zero_uint64 | exact zero_int32 | exact zero_bools | exact zero_vecs | exact zero_int64s | exact zero_uint64s | exact zero_pint64 | exact zero_paxis) (by simp [go_sem, V3.v, Pl.v, V3.cs, Pl.cs, layAt, Value.cells, Mp.v] <;> rfl) ?_ hR; clear hR; intro _ _ hR; simp only [Act.put, List.setIfInBounds_toArray, List.set_cons_succ, List.set_cons_zero])
      | (refine own_load_all (by rfl) (by rfl) (by rfl) (by first | exact agg_vec | exact agg_map | exact agg_b3 | exact agg_i3 | exact agg_p3 | exact agg_axis | exact agg_axis3 | exact agg_wide | exact agg_big) (by repeat (first | exact .head _ | refine .tail _ ?_)) (by rfl) ?_ hR; clear hR; intro hR; simp only [Act.put, List.setIfInBounds_toArray, List.set_cons_succ, List.set_cons_zero])
      | (refine own_load_agg (by rfl) (by rfl) (by rfl) (by first | exact agg_vec | exact agg_map | exact agg_b3 | exact agg_i3 | exact agg_p3 | exact agg_axis | exact agg_axis3 | exact agg_wide | exact agg_big) (by repeat (first | exact .head _ | refine .tail _ ?_)) (by rfl) (by simp [go_sem, V3.v, Pl.v, V3.cs, Pl.cs, layAt, Value.cells, Mp.v] <;> rfl) ?_ hR; clear hR; intro hR; simp only [Act.put, List.setIfInBounds_toArray, List.set_cons_succ, List.set_cons_zero])
      | (refine own_load_one (by rfl) (by rfl) (by rfl) (by first | exact one_int | exact one_int64 | exact one_bool | exact one_uint8 | exact one_uint64 | exact one_int32 | exact one_bools | exact one_vecs | exact one_int64s | exact one_uint64s | exact one_pint64 | exact one_paxis) (by repeat (first | exact .head _ | refine .tail _ ?_)) (by simp [go_sem, V3.v, Pl.v, V3.cs, Pl.cs, layAt, Value.cells, Mp.v] <;> rfl) ?_ hR; clear hR; intro hR; simp only [Act.put, List.setIfInBounds_toArray, List.set_cons_succ, List.set_cons_zero])
      | (refine own_store_all (by rfl) (by rfl) (by rfl) (by first | exact agg_vec.size | exact agg_map.size | exact agg_b3.size | exact agg_i3.size | exact agg_p3.size | exact agg_axis.size | exact agg_axis3.size | exact agg_wide.size | exact agg_big.size | exact one_int.size | exact one_int64.size | exact one_bool.size | exact one_uint8.size | exact one_uint64.size | exact one_int32.size | exact one_bools.size | exact one_vecs.size | exact one_int64s.size | exact one_uint64s.size | exact one_pint64.size | exact one_paxis.size) (by rfl) (by rfl) (by rfl) (by repeat (first | exact .head _ | refine .tail _ ?_)) (by rfl) (by simp [go_sem, V3.v, Pl.v, V3.cs, Pl.cs, layAt, Value.cells, Mp.v] <;> rfl) (by repeat (first | exact .here | apply Upd.there)) ?_ hR; clear hR; intro _ hR; simp only [Act.put, List.setIfInBounds_toArray, List.set_cons_succ, List.set_cons_zero])
      | (refine own_store (by rfl) (by rfl) (by rfl) (by first | exact agg_vec.size | exact agg_map.size | exact agg_b3.size | exact agg_i3.size | exact agg_p3.size | exact agg_axis.size | exact agg_axis3.size | exact agg_wide.size | exact agg_big.size | exact one_int.size | exact one_int64.size | exact one_bool.size | exact one_uint8.size | exact one_uint64.size | exact one_int32.size | exact one_bools.size | exact one_vecs.size | exact one_int64s.size | exact one_uint64s.size | exact one_pint64.size | exact one_paxis.size) (by rfl) (by rfl) (by rfl) (by repeat (first | exact .head _ | refine .tail _ ?_)) (by rfl) (by simp [go_sem, V3.v, Pl.v, V3.cs, Pl.cs, layAt, Value.cells, Mp.v] <;> rfl) (by repeat (first | exact .here | apply Upd.there)) ?_ hR; clear hR; intro _ hR; simp only [Act.put, List.setIfInBounds_toArray, List.set_cons_succ, List.set_cons_zero])
      | (refine own_max (by rfl) (by rfl) (by rfl) (by rfl) ?_; simp only [Act.put, List.setIfInBounds_toArray, List.set_cons_succ, List.set_cons_zero])
      | (refine own_min (by rfl) (by rfl) (by rfl) (by rfl) ?_; simp only [Act.put, List.setIfInBounds_toArray, List.set_cons_succ, List.set_cons_zero])
      | (refine own_pure (by rfl) (by intro w; simp [go_sem, V3.v, Pl.v, V3.cs, Pl.cs, layAt, Value.cells, Mp.v] <;> rfl) ?_; simp only [Act.put, List.setIfInBounds_toArray, List.set_cons_succ, List.set_cons_zero])))))
  refine own_ret1 Try.results22 rfl (.tmp rfl) (fun hR => hR.ret ?_) hR
  rw [HV.out]
  rfl

set_option maxHeartbeats 1000000 in
theorem clear_z (m : Mp) (lo hi : V3) (w : World) (hm : m.fits) (e1 : lo.x < hi.x) (e2 : lo.y < hi.y) (e : hi.z ≤ lo.z) : Calls Try.prog 22 #[m.v, lo.v, hi.v] w (Ret w (.bool true)) := by
  obtain ⟨hsp, hone⟩ : m.sp.cells.size = 1 ∧ m.sp.oneCell' = true := ⟨hm.sp, hm.one⟩
  have k1 : Hid (decide (hi.x ≤ lo.x) = false) := Lib.hid (decide_eq_false (by omega))
  have k2 : Hid (decide (hi.y ≤ lo.y) = false) := Lib.hid (decide_eq_false (by omega))
  have k3 : Hid (decide (hi.z ≤ lo.z) = true) := Lib.hid (decide_eq_true e)
  clear hm e1 e2 e
  refine calls_hide fun V HV => ?_
  have hR := Own.start w
  go_enter Try.func22, Try.ntmps22
  go_wp2_with (first
    | ((with_reducible apply is_list); repeat1' (first | rw [k1.out] | rw [k2.out] | rw [k3.out] | (first
      | ((with_reducible refine own_skip ?_ ?_); (exact rfl); simp only [Act.put, List.setIfInBounds_toArray, List.set_cons_succ, List.set_cons_zero])
      | (refine own_move (by rfl) (by rfl) (by simp only [Act.eval, Array.getD_eq_getD_getElem?, List.getElem?_toArray, List.getElem?_cons_zero, List.getElem?_cons_succ, Option.getD_some] <;> rfl) ?_; simp only [Act.put, List.setIfInBounds_toArray, List.set_cons_succ, List.set_cons_zero])
      | (refine own_assign (by rfl) (by rfl) (by simp only [Act.eval, Array.getD_eq_getD_getElem?, List.getElem?_toArray, List.getElem?_cons_zero, List.getElem?_cons_succ, Option.getD_some] <;> rfl) ?_; simp only [Act.put, List.setIfInBounds_toArray, List.set_cons_succ, List.set_cons_zero])
      | (refine own_box (by rfl) (by rfl) (by simp [go_sem, V3.v, Pl.v, V3.cs, Pl.cs, layAt, Value.cells, Mp.v] <;> rfl) ?_ hR; clear hR; intro _ _ hR; simp only [Act.put, List.setIfInBounds_toArray, List.set_cons_succ, List.set_cons_zero])
      | (refine own_alloc (by rfl) (by rfl) (by first | exact zero_vec | exact zero_map | exact zero_b3 | exact zero_i3 | exact zero_p3 | exact zero_axis | exact zero_axis3 | exact zero_wide | exact zero_big) ?_ hR; clear hR; intro _ _ hR; simp only [Act.put, List.setIfInBounds_toArray, List.set_cons_succ, List.set_cons_zero])
      | (refine own_alloc1 (by rfl) (by rfl) (by first | exact zero_int | exact zero_int64 | exact zero_bool | exact zero_uint8 | exact zero_uint64 | exact zero_int32 | exact zero_bools | exact zero_vecs | exact zero_int64s | exact zero_uint64s | exact zero_pint64 | exact zero_paxis) (by simp [go_sem, V3.v, Pl.v, V3.cs, Pl.cs, layAt, Value.cells, Mp.v] <;> rfl) ?_ hR; clear hR; intro _ _ hR; simp only [Act.put, List.setIfInBounds_toArray, List.set_cons_succ, List.set_cons_zero])
      | (refine own_load_all (by rfl) (by rfl) (by rfl) (by first | exact agg_vec | exact agg_map | exact agg_b3 | exact agg_i3 | exact agg_p3 | exact agg_axis | exact agg_axis3 | exact agg_wide | exact agg_big) (by repeat (first | exact .head _ | refine .tail _ ?_)) (by rfl) ?_ hR; clear hR; intro hR; simp only [Act.put, List.setIfInBounds_toArray, List.set_cons_succ, List.set_cons_zero])
      | (refine own_load_agg (by rfl) (by rfl) (by rfl) (by first | exact agg_vec | exact agg_map | exact agg_b3 | exact agg_i3 | exact agg_p3 | exact agg_axis | exact agg_axis3 | exact agg_wide | exact agg_big) (by repeat (first | exact .head _ | refine .tail _ ?_)) (by rfl) (by simp [go_sem, V3.v, Pl.v, V3.cs, Pl.cs, layAt, Value.cells, Mp.v] <;> rfl) ?_ hR; clear hR; intro hR; simp only [Act.put, List.setIfInBounds_toArray, List.set_cons_succ, List.set_cons_zero])
      | (refine own_load_one (by rfl) (by rfl) (by rfl) (by first | exact one_int | exact one_int64 | exact one_bool | exact one_uint8 | exact one_uint64 | exact one_int32 | exact one_bools | exact one_vecs | exact one_int64s | exact one_uint64s | exact one_pint64 | exact one_paxis) (by repeat (first | exact .head _ | refine .tail _ ?_)) (by simp [go_sem, V3.v, Pl.v, V3.cs, Pl.cs, layAt, Value.cells, Mp.v] <;> rfl) ?_ hR; clear hR; intro hR; simp only [Act.put, List.setIfInBounds_toArray, List.set_cons_succ, List.set_cons_zero])
      | (refine own_store_all (by rfl) (by rfl) (by rfl) (by first | exact agg_vec.size | exact agg_map.size | exact agg_b3.size | exact agg_i3.size | exact agg_p3.size | exact agg_axis.size | exact agg_axis3.size | exact agg_wide.size | exact agg_big.size | exact one_int.size | exact one_int64.size | exact one_bool.size | exact one_uint8.size | exact one_uint64.size | exact one_int32.size | exact one_bools.size | exact one_vecs.size | exact one_int64s.size | exact one_uint64s.size | exact one_pint64.size | exact one_paxis.size) (by rfl) (by rfl) (by rfl) (by repeat (first | exact .head _ | refine .tail _ ?_)) (by rfl) (by simp [go_sem, V3.v, Pl.v, V3.cs, Pl.cs, layAt, Value.cells, Mp.v] <;> rfl) (by repeat (first | exact .here | apply Upd.there)) ?_ hR; clear hR; intro _ hR; simp only [Act.put, List.setIfInBounds_toArray, List.set_cons_succ, List.set_cons_zero])
      | (refine own_store (by rfl) (by rfl) (by rfl) (by first | exact agg_vec.size | exact agg_map.size | exact agg_b3.size | exact agg_i3.size | exact agg_p3.size | exact agg_axis.size | exact agg_axis3.size | exact agg_wide.size | exact agg_big.size | exact one_int.size | exact one_int64.size | exact one_bool.size | exact one_uint8.size | exact one_uint64.size | exact one_int32.size | exact one_bools.size | exact one_vecs.size | exact one_int64s.size | exact one_uint64s.size | exact one_pint64.size | exact one_paxis.size) (by rfl) (by rfl) (by rfl) (by repeat (first | exact .head _ | refine .tail _ ?_)) (by rfl) (by simp [go_sem, V3.v, Pl.v, V3.cs, Pl.cs, layAt, Value.cells, Mp.v] <;> rfl) (by repeat (first | exact .here | apply Upd.there)) ?_ hR; clear hR; intro _ hR; simp only [Act.put, List.setIfInBounds_toArray, List.set_cons_succ, List.set_cons_zero])
      | (refine own_max (by rfl) (by rfl) (by rfl) (by rfl) ?_; simp only [Act.put, List.setIfInBounds_toArray, List.set_cons_succ, List.set_cons_zero])
      | (refine own_min (by rfl) (by rfl) (by rfl) (by rfl) ?_; simp only [Act.put, List.setIfInBounds_toArray, List.set_cons_succ, List.set_cons_zero])
      | (refine own_pure (by rfl) (by intro w; simp [go_sem, V3.v, Pl.v, V3.cs, Pl.cs, layAt, Value.cells, Mp.v] <;> rfl) ?_; simp only [Act.put, List.setIfInBounds_toArray, List.set_cons_succ, List.set_cons_zero])))))
  refine own_ret1 Try.results22 rfl (.tmp rfl) (fun hR => hR.ret ?_) hR
  rw [HV.out]
  rfl

theorem clear_any (m : Mp) (lo hi : V3) (w : World) (hm : m.fits) (hr : m.reads w) (hlo : lo.fits) (hhi : hi.fits) :
    Calls Try.prog 22 #[m.v, lo.v, hi.v] w (Ret w (.bool (m.clear lo hi))) := by
  by_cases e1 : hi.x ≤ lo.x
  · rw [Mp.clear_true (.inl e1)]; exact clear_x m lo hi w hm e1
  · by_cases e2 : hi.y ≤ lo.y
    · rw [Mp.clear_true (.inr (.inl e2))]; exact clear_y m lo hi w hm (by omega) e2
    · by_cases e3 : hi.z ≤ lo.z
      · rw [Mp.clear_true (.inr (.inr (.inl e3)))]; exact clear_z m lo hi w hm (by omega) (by omega) e3
      · exact clear_main m lo hi w hm hr hlo hhi (by omega) (by omega) (by omega)

end Go.Proofs.Ytnfhlfmcgeaagaa
