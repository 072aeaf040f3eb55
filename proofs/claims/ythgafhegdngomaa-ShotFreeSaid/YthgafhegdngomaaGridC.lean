/- Package grid's Clear: contract. -/
import Derived.Test.YthgafhegdngomaaGridB
-- EVDEFS: Mp.v
namespace Go.Proofs.Ythgafhegdngomaa
set_option linter.unusedSimpArgs false
set_option linter.unusedVariables false
open Go.RowKit

def Mp.boxFree (m : Mp) (x0 x1 y0 y1 z0 z1 : Int) : Prop := ∀ i j k, x0 ≤ i → i ≤ x1 → y0 ≤ j → j ≤ y1 → z0 ≤ k → k ≤ z1 → m.solid i j k = false

def Mp.Clear (m : Mp) (lo hi : V3) : Prop := hi.x ≤ lo.x ∨ hi.y ≤ lo.y ∨ hi.z ≤ lo.z ∨ m.boxFree (lo.x / 65536) ((hi.x - 1) / 65536) (lo.y / 65536) ((hi.y - 1) / 65536) (lo.z / 65536) ((hi.z - 1) / 65536)

open Classical in
noncomputable def Mp.clear (m : Mp) (lo hi : V3) : Bool := decide (m.Clear lo hi)

open Classical in
theorem Mp.clear_true {m : Mp} {lo hi : V3} (h : m.Clear lo hi) : m.clear lo hi = true := by unfold Mp.clear; exact decide_eq_true h
open Classical in
theorem Mp.clear_false {m : Mp} {lo hi : V3} (h : ¬ m.Clear lo hi) : m.clear lo hi = false := by unfold Mp.clear; exact decide_eq_false h
open Classical in
theorem Mp.clear_iff {m : Mp} {lo hi : V3} : m.clear lo hi = true ↔ m.Clear lo hi := by unfold Mp.clear; exact decide_eq_true_iff

/-- A free cell lies within. -/
theorem Mp.solid_in {m : Mp} {x y z : Int} (h : m.solid x y z = false) : (0 ≤ x ∧ x < 32) ∧ (0 ≤ y ∧ y < 32) ∧ (0 ≤ z ∧ z < 32) := by
  unfold Mp.solid at h
  simp only [Bool.or_eq_false_iff, Bool.not_eq_false'] at h
  obtain ⟨⟨⟨⟨h0, h1⟩, h2⟩, h3⟩, _⟩ := h
  unfold Mp.sized sideB at h0
  unfold inB at h1 h2 h3
  simp only [Bool.and_eq_true, decide_eq_true_eq, beq_iff_eq] at h0 h1 h2 h3
  omega

/-- The rows of Clear. -/
def CRows (m : Mp) (lo hi : V3) (b3 b4 b5 : Nat) : List Ent := [⟨b5, hi.cs, 23⟩, ⟨b4, lo.cs, 23⟩, ⟨b3, #[I m.w, I m.d, I m.h, .slice m.ptr m.len m.cap, m.sp], 36⟩]
def C1 (m : Mp) (x0 x1 y0 y1 z0 z1 : Int) (B : Nat) (w0 : World) (L : List Ent) (s : Value) (wr : World) : Prop :=
  ∃ k : Int, s = I k ∧ z0 ≤ k ∧ k ≤ z1 + 1 ∧ (∀ i j k', x0 ≤ i → i ≤ x1 → y0 ≤ j → j ≤ y1 → z0 ≤ k' → k' < k → m.solid i j k' = false) ∧ Own B w0 wr L
def C2 (m : Mp) (x0 x1 y0 y1 k : Int) (B : Nat) (w0 : World) (L : List Ent) (s : Value) (wr : World) : Prop :=
  ∃ j : Int, s = I j ∧ y0 ≤ j ∧ j ≤ y1 + 1 ∧ (∀ i j', x0 ≤ i → i ≤ x1 → y0 ≤ j' → j' < j → m.solid i j' k = false) ∧ Own B w0 wr L
def C3 (m : Mp) (x0 x1 j k : Int) (B : Nat) (w0 : World) (L : List Ent) (s : Value) (wr : World) : Prop :=
  ∃ i : Int, s = I i ∧ x0 ≤ i ∧ i ≤ x1 + 1 ∧ (∀ i', x0 ≤ i' → i' < i → m.solid i' j k = false) ∧ Own B w0 wr L

set_option maxRecDepth 100000 in
set_option maxHeartbeats 4000000 in
theorem clear_free (m : Mp) (lo hi : V3) (w : World) (hm : m.fits) (hr : m.reads w) (hlo : lo.fits) (hhi : hi.fits) (e1 : lo.x < hi.x) (e2 : lo.y < hi.y) (e3 : lo.z < hi.z) (hs1 : m.solid (lo.x / 65536) (lo.y / 65536) (lo.z / 65536) = false) (hs2 : m.solid ((hi.x - 1) / 65536) ((hi.y - 1) / 65536) ((hi.z - 1) / 65536) = false) :
    Calls Try.prog 29 #[m.v, lo.v, hi.v] w (Ret w (.bool (m.clear lo hi))) := by
  obtain ⟨hsp, hone⟩ : m.sp.cells.size = 1 ∧ m.sp.oneCell' = true := ⟨hm.sp, hm.one⟩
  have fx := hhi.1; have fy := hhi.2.1; have fz := hhi.2.2
  have gx := hlo.1; have gy := hlo.2.1; have gz := hlo.2.2
  unfold In64 at fx fy fz gx gy gz
  have k1 : Hid (decide (hi.x ≤ lo.x) = false) := Lib.hid (decide_eq_false (by omega))
  have k2 : Hid (decide (hi.y ≤ lo.y) = false) := Lib.hid (decide_eq_false (by omega))
  have k3 : Hid (decide (hi.z ≤ lo.z) = false) := Lib.hid (decide_eq_false (by omega))
  have w1 : Hid (IntKind.i64.wrap (hi.x - 1) = hi.x - 1) := Lib.hid (IntWalk.i64_in _ (by omega))
  have w2 : Hid (IntKind.i64.wrap (hi.y - 1) = hi.y - 1) := Lib.hid (IntWalk.i64_in _ (by omega))
  have w3 : Hid (IntKind.i64.wrap (hi.z - 1) = hi.z - 1) := Lib.hid (IntWalk.i64_in _ (by omega))
  have a1 := fun w => at_any lo w hlo
  have a2 := fun w => at_any ⟨hi.x - 1, hi.y - 1, hi.z - 1⟩ w ⟨by show In64 (hi.x - 1); unfold In64; omega, by show In64 (hi.y - 1); unfold In64; omega, by show In64 (hi.z - 1); unfold In64; omega⟩
  have hsol := fun (x y z : Int) (w' : World) (hb : Below w.heap.size w w') => solid_any m x y z w' hm (hr.below hb)
  have hC : m.Clear lo hi ↔ m.boxFree (lo.x / 65536) ((hi.x - 1) / 65536) (lo.y / 65536) ((hi.y - 1) / 65536) (lo.z / 65536) ((hi.z - 1) / 65536) := by
    unfold Mp.Clear
    constructor
    · rintro (h | h | h | h)
      · omega
      · omega
      · omega
      · exact h
    · exact fun h => .inr (.inr (.inr h))
  have o1 : lo.x / 65536 ≤ (hi.x - 1) / 65536 := by omega
  have o2 : lo.y / 65536 ≤ (hi.y - 1) / 65536 := by omega
  have o3 : lo.z / 65536 ≤ (hi.z - 1) / 65536 := by omega
  unfold V3.cellOf at a1 a2
  simp only at a2
  generalize hx0 : lo.x / 65536 = x0 at *
  generalize hx1 : (hi.x - 1) / 65536 = x1 at *
  generalize hy0 : lo.y / 65536 = y0 at *
  generalize hy1 : (hi.y - 1) / 65536 = y1 at *
  generalize hz0 : lo.z / 65536 = z0 at *
  generalize hz1 : (hi.z - 1) / 65536 = z1 at *
  clear hx0 hx1 hy0 hy1 hz0 hz1 fx fy fz gx gy gz e1 e2 e3 hm hr hlo hhi
  have s1 := hsol x0 y0 z0
  have s2 := hsol x1 y1 z1
  rw [hs1] at s1
  rw [hs2] at s2
  have hin0 := Mp.solid_in hs1
  have hin1 := Mp.solid_in hs2
  refine calls_hide fun V HV => ?_
  have hR := Own.start w
  go_enter Try.func29, Try.ntmps29
  go_wp2_with (first
    | ((with_reducible apply is_list); repeat1' (first | rw [k1.out] | rw [k2.out] | rw [k3.out] | (first
      | ((with_reducible refine own_skip ?_ ?_); (exact rfl); simp only [Act.put, List.setIfInBounds_toArray, List.set_cons_succ, List.set_cons_zero])
      | (refine own_move (by rfl) (by rfl) (by simp only [Act.eval, Array.getD_eq_getD_getElem?, List.getElem?_toArray, List.getElem?_cons_zero, List.getElem?_cons_succ, Option.getD_some] <;> rfl) ?_; simp only [Act.put, List.setIfInBounds_toArray, List.set_cons_succ, List.set_cons_zero])
      | (refine own_assign (by rfl) (by rfl) (by simp only [Act.eval, Array.getD_eq_getD_getElem?, List.getElem?_toArray, List.getElem?_cons_zero, List.getElem?_cons_succ, Option.getD_some] <;> rfl) ?_; simp only [Act.put, List.setIfInBounds_toArray, List.set_cons_succ, List.set_cons_zero])
      | (refine own_box (by rfl) (by rfl) (by simp [go_sem, V3.v, Pl.v, V3.cs, Pl.cs, layAt, Value.cells, Mp.v] <;> rfl) ?_ hR; clear hR; intro _ _ hR; simp only [Act.put, List.setIfInBounds_toArray, List.set_cons_succ, List.set_cons_zero])
      | (refine own_alloc (by rfl) (by rfl) (by first | exact zero_vec | exact zero_map | exact zero_shot | exact zero_p3 | exact zero_wide) ?_ hR; clear hR; intro _ _ hR; simp only [Act.put, List.setIfInBounds_toArray, List.set_cons_succ, List.set_cons_zero])
      | (refine own_alloc1 (by rfl) (by rfl) (by first | exact zero_int | exact zero_int64 | exact zero_bool | exact zero_uint8 | exact zero_uint64 | exact zero_int32 | exact zero_errno | exact zero_bools | exact zero_vecs | exact zero_pint64) (by simp [go_sem, V3.v, Pl.v, V3.cs, Pl.cs, layAt, Value.cells, Mp.v] <;> rfl) ?_ hR; clear hR; intro _ _ hR; simp only [Act.put, List.setIfInBounds_toArray, List.set_cons_succ, List.set_cons_zero])
      | (refine own_load_all (by rfl) (by rfl) (by rfl) (by first | exact agg_vec | exact agg_map | exact agg_shot | exact agg_p3 | exact agg_wide) (by repeat (first | exact .head _ | refine .tail _ ?_)) (by rfl) ?_ hR; clear hR; intro hR; simp only [Act.put, List.setIfInBounds_toArray, List.set_cons_succ, List.set_cons_zero])
      | (refine own_load_agg (by rfl) (by rfl) (by rfl) (by first | exact agg_vec | exact agg_map | exact agg_shot | exact agg_p3 | exact agg_wide) (by repeat (first | exact .head _ | refine .tail _ ?_)) (by rfl) (by simp [go_sem, V3.v, Pl.v, V3.cs, Pl.cs, layAt, Value.cells, Mp.v] <;> rfl) ?_ hR; clear hR; intro hR; simp only [Act.put, List.setIfInBounds_toArray, List.set_cons_succ, List.set_cons_zero])
      | (refine own_load_one (by rfl) (by rfl) (by rfl) (by first | exact one_int | exact one_int64 | exact one_bool | exact one_uint8 | exact one_uint64 | exact one_int32 | exact one_errno | exact one_bools | exact one_vecs | exact one_pint64) (by repeat (first | exact .head _ | refine .tail _ ?_)) (by simp [go_sem, V3.v, Pl.v, V3.cs, Pl.cs, layAt, Value.cells, Mp.v] <;> rfl) ?_ hR; clear hR; intro hR; simp only [Act.put, List.setIfInBounds_toArray, List.set_cons_succ, List.set_cons_zero])
      | (refine own_store_all (by rfl) (by rfl) (by rfl) (by first | exact agg_vec.size | exact agg_map.size | exact agg_shot.size | exact agg_p3.size | exact agg_wide.size | exact one_int.size | exact one_int64.size | exact one_bool.size | exact one_uint8.size | exact one_uint64.size | exact one_int32.size | exact one_errno.size | exact one_bools.size | exact one_vecs.size | exact one_pint64.size) (by rfl) (by rfl) (by rfl) (by repeat (first | exact .head _ | refine .tail _ ?_)) (by rfl) (by simp [go_sem, V3.v, Pl.v, V3.cs, Pl.cs, layAt, Value.cells, Mp.v] <;> rfl) (by repeat (first | exact .here | apply Upd.there)) ?_ hR; clear hR; intro _ hR; simp only [Act.put, List.setIfInBounds_toArray, List.set_cons_succ, List.set_cons_zero])
      | (refine own_store (by rfl) (by rfl) (by rfl) (by first | exact agg_vec.size | exact agg_map.size | exact agg_shot.size | exact agg_p3.size | exact agg_wide.size | exact one_int.size | exact one_int64.size | exact one_bool.size | exact one_uint8.size | exact one_uint64.size | exact one_int32.size | exact one_errno.size | exact one_bools.size | exact one_vecs.size | exact one_pint64.size) (by rfl) (by rfl) (by rfl) (by repeat (first | exact .head _ | refine .tail _ ?_)) (by rfl) (by simp [go_sem, V3.v, Pl.v, V3.cs, Pl.cs, layAt, Value.cells, Mp.v] <;> rfl) (by repeat (first | exact .here | apply Upd.there)) ?_ hR; clear hR; intro _ hR; simp only [Act.put, List.setIfInBounds_toArray, List.set_cons_succ, List.set_cons_zero])
      | (refine own_max (by rfl) (by rfl) (by rfl) (by rfl) ?_; simp only [Act.put, List.setIfInBounds_toArray, List.set_cons_succ, List.set_cons_zero])
      | (refine own_min (by rfl) (by rfl) (by rfl) (by rfl) ?_; simp only [Act.put, List.setIfInBounds_toArray, List.set_cons_succ, List.set_cons_zero])
      | (refine own_pure (by rfl) (by intro w; simp [go_sem, V3.v, Pl.v, V3.cs, Pl.cs, layAt, Value.cells, Mp.v] <;> rfl) ?_; simp only [Act.put, List.setIfInBounds_toArray, List.set_cons_succ, List.set_cons_zero])))))
  refine own_call (a1 _) ?_ hR; clear hR; intro _ hR
  go_wp2_with (first
    | ((with_reducible apply is_list); repeat1' (first | rw [w1.out] | rw [w2.out] | rw [w3.out] | (first
      | ((with_reducible refine own_skip ?_ ?_); (exact rfl); simp only [Act.put, List.setIfInBounds_toArray, List.set_cons_succ, List.set_cons_zero])
      | (refine own_move (by rfl) (by rfl) (by simp only [Act.eval, Array.getD_eq_getD_getElem?, List.getElem?_toArray, List.getElem?_cons_zero, List.getElem?_cons_succ, Option.getD_some] <;> rfl) ?_; simp only [Act.put, List.setIfInBounds_toArray, List.set_cons_succ, List.set_cons_zero])
      | (refine own_assign (by rfl) (by rfl) (by simp only [Act.eval, Array.getD_eq_getD_getElem?, List.getElem?_toArray, List.getElem?_cons_zero, List.getElem?_cons_succ, Option.getD_some] <;> rfl) ?_; simp only [Act.put, List.setIfInBounds_toArray, List.set_cons_succ, List.set_cons_zero])
      | (refine own_box (by rfl) (by rfl) (by simp [go_sem, V3.v, Pl.v, V3.cs, Pl.cs, layAt, Value.cells, Mp.v] <;> rfl) ?_ hR; clear hR; intro _ _ hR; simp only [Act.put, List.setIfInBounds_toArray, List.set_cons_succ, List.set_cons_zero])
      | (refine own_alloc (by rfl) (by rfl) (by first | exact zero_vec | exact zero_map | exact zero_shot | exact zero_p3 | exact zero_wide) ?_ hR; clear hR; intro _ _ hR; simp only [Act.put, List.setIfInBounds_toArray, List.set_cons_succ, List.set_cons_zero])
      | (refine own_alloc1 (by rfl) (by rfl) (by first | exact zero_int | exact zero_int64 | exact zero_bool | exact zero_uint8 | exact zero_uint64 | exact zero_int32 | exact zero_errno | exact zero_bools | exact zero_vecs | exact zero_pint64) (by simp [go_sem, V3.v, Pl.v, V3.cs, Pl.cs, layAt, Value.cells, Mp.v] <;> rfl) ?_ hR; clear hR; intro _ _ hR; simp only [Act.put, List.setIfInBounds_toArray, List.set_cons_succ, List.set_cons_zero])
      | (refine own_load_all (by rfl) (by rfl) (by rfl) (by first | exact agg_vec | exact agg_map | exact agg_shot | exact agg_p3 | exact agg_wide) (by repeat (first | exact .head _ | refine .tail _ ?_)) (by rfl) ?_ hR; clear hR; intro hR; simp only [Act.put, List.setIfInBounds_toArray, List.set_cons_succ, List.set_cons_zero])
      | (refine own_load_agg (by rfl) (by rfl) (by rfl) (by first | exact agg_vec | exact agg_map | exact agg_shot | exact agg_p3 | exact agg_wide) (by repeat (first | exact .head _ | refine .tail _ ?_)) (by rfl) (by simp [go_sem, V3.v, Pl.v, V3.cs, Pl.cs, layAt, Value.cells, Mp.v] <;> rfl) ?_ hR; clear hR; intro hR; simp only [Act.put, List.setIfInBounds_toArray, List.set_cons_succ, List.set_cons_zero])
      | (refine own_load_one (by rfl) (by rfl) (by rfl) (by first | exact one_int | exact one_int64 | exact one_bool | exact one_uint8 | exact one_uint64 | exact one_int32 | exact one_errno | exact one_bools | exact one_vecs | exact one_pint64) (by repeat (first | exact .head _ | refine .tail _ ?_)) (by simp [go_sem, V3.v, Pl.v, V3.cs, Pl.cs, layAt, Value.cells, Mp.v] <;> rfl) ?_ hR; clear hR; intro hR; simp only [Act.put, List.setIfInBounds_toArray, List.set_cons_succ, List.set_cons_zero])
      | (refine own_store_all (by rfl) (by rfl) (by rfl) (by first | exact agg_vec.size | exact agg_map.size | exact agg_shot.size | exact agg_p3.size | exact agg_wide.size | exact one_int.size | exact one_int64.size | exact one_bool.size | exact one_uint8.size | exact one_uint64.size | exact one_int32.size | exact one_errno.size | exact one_bools.size | exact one_vecs.size | exact one_pint64.size) (by rfl) (by rfl) (by rfl) (by repeat (first | exact .head _ | refine .tail _ ?_)) (by rfl) (by simp [go_sem, V3.v, Pl.v, V3.cs, Pl.cs, layAt, Value.cells, Mp.v] <;> rfl) (by repeat (first | exact .here | apply Upd.there)) ?_ hR; clear hR; intro _ hR; simp only [Act.put, List.setIfInBounds_toArray, List.set_cons_succ, List.set_cons_zero])
      | (refine own_store (by rfl) (by rfl) (by rfl) (by first | exact agg_vec.size | exact agg_map.size | exact agg_shot.size | exact agg_p3.size | exact agg_wide.size | exact one_int.size | exact one_int64.size | exact one_bool.size | exact one_uint8.size | exact one_uint64.size | exact one_int32.size | exact one_errno.size | exact one_bools.size | exact one_vecs.size | exact one_pint64.size) (by rfl) (by rfl) (by rfl) (by repeat (first | exact .head _ | refine .tail _ ?_)) (by rfl) (by simp [go_sem, V3.v, Pl.v, V3.cs, Pl.cs, layAt, Value.cells, Mp.v] <;> rfl) (by repeat (first | exact .here | apply Upd.there)) ?_ hR; clear hR; intro _ hR; simp only [Act.put, List.setIfInBounds_toArray, List.set_cons_succ, List.set_cons_zero])
      | (refine own_max (by rfl) (by rfl) (by rfl) (by rfl) ?_; simp only [Act.put, List.setIfInBounds_toArray, List.set_cons_succ, List.set_cons_zero])
      | (refine own_min (by rfl) (by rfl) (by rfl) (by rfl) ?_; simp only [Act.put, List.setIfInBounds_toArray, List.set_cons_succ, List.set_cons_zero])
      | (refine own_pure (by rfl) (by intro w; simp [go_sem, V3.v, Pl.v, V3.cs, Pl.cs, layAt, Value.cells, Mp.v] <;> rfl) ?_; simp only [Act.put, List.setIfInBounds_toArray, List.set_cons_succ, List.set_cons_zero])))))
  refine own_call (a2 _) ?_ hR; clear hR; intro _ hR
  go_wp2_with (first
    | ((with_reducible apply is_list); repeat1' (first | fail | (first
      | ((with_reducible refine own_skip ?_ ?_); (exact rfl); simp only [Act.put, List.setIfInBounds_toArray, List.set_cons_succ, List.set_cons_zero])
      | (refine own_move (by rfl) (by rfl) (by simp only [Act.eval, Array.getD_eq_getD_getElem?, List.getElem?_toArray, List.getElem?_cons_zero, List.getElem?_cons_succ, Option.getD_some] <;> rfl) ?_; simp only [Act.put, List.setIfInBounds_toArray, List.set_cons_succ, List.set_cons_zero])
      | (refine own_assign (by rfl) (by rfl) (by simp only [Act.eval, Array.getD_eq_getD_getElem?, List.getElem?_toArray, List.getElem?_cons_zero, List.getElem?_cons_succ, Option.getD_some] <;> rfl) ?_; simp only [Act.put, List.setIfInBounds_toArray, List.set_cons_succ, List.set_cons_zero])
      | (refine own_box (by rfl) (by rfl) (by simp [go_sem, V3.v, Pl.v, V3.cs, Pl.cs, layAt, Value.cells, Mp.v] <;> rfl) ?_ hR; clear hR; intro _ _ hR; simp only [Act.put, List.setIfInBounds_toArray, List.set_cons_succ, List.set_cons_zero])
      | (refine own_alloc (by rfl) (by rfl) (by first | exact zero_vec | exact zero_map | exact zero_shot | exact zero_p3 | exact zero_wide) ?_ hR; clear hR; intro _ _ hR; simp only [Act.put, List.setIfInBounds_toArray, List.set_cons_succ, List.set_cons_zero])
      | (refine own_alloc1 (by rfl) (by rfl) (by first | exact zero_int | exact zero_int64 | exact zero_bool | exact zero_uint8 | exact zero_uint64 | exact zero_int32 | exact zero_errno | exact zero_bools | exact zero_vecs | exact zero_pint64) (by simp [go_sem, V3.v, Pl.v, V3.cs, Pl.cs, layAt, Value.cells, Mp.v] <;> rfl) ?_ hR; clear hR; intro _ _ hR; simp only [Act.put, List.setIfInBounds_toArray, List.set_cons_succ, List.set_cons_zero])
      | (refine own_load_all (by rfl) (by rfl) (by rfl) (by first | exact agg_vec | exact agg_map | exact agg_shot | exact agg_p3 | exact agg_wide) (by repeat (first | exact .head _ | refine .tail _ ?_)) (by rfl) ?_ hR; clear hR; intro hR; simp only [Act.put, List.setIfInBounds_toArray, List.set_cons_succ, List.set_cons_zero])
      | (refine own_load_agg (by rfl) (by rfl) (by rfl) (by first | exact agg_vec | exact agg_map | exact agg_shot | exact agg_p3 | exact agg_wide) (by repeat (first | exact .head _ | refine .tail _ ?_)) (by rfl) (by simp [go_sem, V3.v, Pl.v, V3.cs, Pl.cs, layAt, Value.cells, Mp.v] <;> rfl) ?_ hR; clear hR; intro hR; simp only [Act.put, List.setIfInBounds_toArray, List.set_cons_succ, List.set_cons_zero])
      | (refine own_load_one (by rfl) (by rfl) (by rfl) (by first | exact one_int | exact one_int64 | exact one_bool | exact one_uint8 | exact one_uint64 | exact one_int32 | exact one_errno | exact one_bools | exact one_vecs | exact one_pint64) (by repeat (first | exact .head _ | refine .tail _ ?_)) (by simp [go_sem, V3.v, Pl.v, V3.cs, Pl.cs, layAt, Value.cells, Mp.v] <;> rfl) ?_ hR; clear hR; intro hR; simp only [Act.put, List.setIfInBounds_toArray, List.set_cons_succ, List.set_cons_zero])
      | (refine own_store_all (by rfl) (by rfl) (by rfl) (by first | exact agg_vec.size | exact agg_map.size | exact agg_shot.size | exact agg_p3.size | exact agg_wide.size | exact one_int.size | exact one_int64.size | exact one_bool.size | exact one_uint8.size | exact one_uint64.size | exact one_int32.size | exact one_errno.size | exact one_bools.size | exact one_vecs.size | exact one_pint64.size) (by rfl) (by rfl) (by rfl) (by repeat (first | exact .head _ | refine .tail _ ?_)) (by rfl) (by simp [go_sem, V3.v, Pl.v, V3.cs, Pl.cs, layAt, Value.cells, Mp.v] <;> rfl) (by repeat (first | exact .here | apply Upd.there)) ?_ hR; clear hR; intro _ hR; simp only [Act.put, List.setIfInBounds_toArray, List.set_cons_succ, List.set_cons_zero])
      | (refine own_store (by rfl) (by rfl) (by rfl) (by first | exact agg_vec.size | exact agg_map.size | exact agg_shot.size | exact agg_p3.size | exact agg_wide.size | exact one_int.size | exact one_int64.size | exact one_bool.size | exact one_uint8.size | exact one_uint64.size | exact one_int32.size | exact one_errno.size | exact one_bools.size | exact one_vecs.size | exact one_pint64.size) (by rfl) (by rfl) (by rfl) (by repeat (first | exact .head _ | refine .tail _ ?_)) (by rfl) (by simp [go_sem, V3.v, Pl.v, V3.cs, Pl.cs, layAt, Value.cells, Mp.v] <;> rfl) (by repeat (first | exact .here | apply Upd.there)) ?_ hR; clear hR; intro _ hR; simp only [Act.put, List.setIfInBounds_toArray, List.set_cons_succ, List.set_cons_zero])
      | (refine own_max (by rfl) (by rfl) (by rfl) (by rfl) ?_; simp only [Act.put, List.setIfInBounds_toArray, List.set_cons_succ, List.set_cons_zero])
      | (refine own_min (by rfl) (by rfl) (by rfl) (by rfl) ?_; simp only [Act.put, List.setIfInBounds_toArray, List.set_cons_succ, List.set_cons_zero])
      | (refine own_pure (by rfl) (by intro w; simp [go_sem, V3.v, Pl.v, V3.cs, Pl.cs, layAt, Value.cells, Mp.v] <;> rfl) ?_; simp only [Act.put, List.setIfInBounds_toArray, List.set_cons_succ, List.set_cons_zero])))))
  refine own_call (s1 _ hR.below) ?_ hR; clear hR; intro _ hR
  go_wp2_with (first
    | ((with_reducible apply is_list); repeat1' (first | fail | (first
      | ((with_reducible refine own_skip ?_ ?_); (exact rfl); simp only [Act.put, List.setIfInBounds_toArray, List.set_cons_succ, List.set_cons_zero])
      | (refine own_move (by rfl) (by rfl) (by simp only [Act.eval, Array.getD_eq_getD_getElem?, List.getElem?_toArray, List.getElem?_cons_zero, List.getElem?_cons_succ, Option.getD_some] <;> rfl) ?_; simp only [Act.put, List.setIfInBounds_toArray, List.set_cons_succ, List.set_cons_zero])
      | (refine own_assign (by rfl) (by rfl) (by simp only [Act.eval, Array.getD_eq_getD_getElem?, List.getElem?_toArray, List.getElem?_cons_zero, List.getElem?_cons_succ, Option.getD_some] <;> rfl) ?_; simp only [Act.put, List.setIfInBounds_toArray, List.set_cons_succ, List.set_cons_zero])
      | (refine own_box (by rfl) (by rfl) (by simp [go_sem, V3.v, Pl.v, V3.cs, Pl.cs, layAt, Value.cells, Mp.v] <;> rfl) ?_ hR; clear hR; intro _ _ hR; simp only [Act.put, List.setIfInBounds_toArray, List.set_cons_succ, List.set_cons_zero])
      | (refine own_alloc (by rfl) (by rfl) (by first | exact zero_vec | exact zero_map | exact zero_shot | exact zero_p3 | exact zero_wide) ?_ hR; clear hR; intro _ _ hR; simp only [Act.put, List.setIfInBounds_toArray, List.set_cons_succ, List.set_cons_zero])
      | (refine own_alloc1 (by rfl) (by rfl) (by first | exact zero_int | exact zero_int64 | exact zero_bool | exact zero_uint8 | exact zero_uint64 | exact zero_int32 | exact zero_errno | exact zero_bools | exact zero_vecs | exact zero_pint64) (by simp [go_sem, V3.v, Pl.v, V3.cs, Pl.cs, layAt, Value.cells, Mp.v] <;> rfl) ?_ hR; clear hR; intro _ _ hR; simp only [Act.put, List.setIfInBounds_toArray, List.set_cons_succ, List.set_cons_zero])
      | (refine own_load_all (by rfl) (by rfl) (by rfl) (by first | exact agg_vec | exact agg_map | exact agg_shot | exact agg_p3 | exact agg_wide) (by repeat (first | exact .head _ | refine .tail _ ?_)) (by rfl) ?_ hR; clear hR; intro hR; simp only [Act.put, List.setIfInBounds_toArray, List.set_cons_succ, List.set_cons_zero])
      | (refine own_load_agg (by rfl) (by rfl) (by rfl) (by first | exact agg_vec | exact agg_map | exact agg_shot | exact agg_p3 | exact agg_wide) (by repeat (first | exact .head _ | refine .tail _ ?_)) (by rfl) (by simp [go_sem, V3.v, Pl.v, V3.cs, Pl.cs, layAt, Value.cells, Mp.v] <;> rfl) ?_ hR; clear hR; intro hR; simp only [Act.put, List.setIfInBounds_toArray, List.set_cons_succ, List.set_cons_zero])
      | (refine own_load_one (by rfl) (by rfl) (by rfl) (by first | exact one_int | exact one_int64 | exact one_bool | exact one_uint8 | exact one_uint64 | exact one_int32 | exact one_errno | exact one_bools | exact one_vecs | exact one_pint64) (by repeat (first | exact .head _ | refine .tail _ ?_)) (by simp [go_sem, V3.v, Pl.v, V3.cs, Pl.cs, layAt, Value.cells, Mp.v] <;> rfl) ?_ hR; clear hR; intro hR; simp only [Act.put, List.setIfInBounds_toArray, List.set_cons_succ, List.set_cons_zero])
      | (refine own_store_all (by rfl) (by rfl) (by rfl) (by first | exact agg_vec.size | exact agg_map.size | exact agg_shot.size | exact agg_p3.size | exact agg_wide.size | exact one_int.size | exact one_int64.size | exact one_bool.size | exact one_uint8.size | exact one_uint64.size | exact one_int32.size | exact one_errno.size | exact one_bools.size | exact one_vecs.size | exact one_pint64.size) (by rfl) (by rfl) (by rfl) (by repeat (first | exact .head _ | refine .tail _ ?_)) (by rfl) (by simp [go_sem, V3.v, Pl.v, V3.cs, Pl.cs, layAt, Value.cells, Mp.v] <;> rfl) (by repeat (first | exact .here | apply Upd.there)) ?_ hR; clear hR; intro _ hR; simp only [Act.put, List.setIfInBounds_toArray, List.set_cons_succ, List.set_cons_zero])
      | (refine own_store (by rfl) (by rfl) (by rfl) (by first | exact agg_vec.size | exact agg_map.size | exact agg_shot.size | exact agg_p3.size | exact agg_wide.size | exact one_int.size | exact one_int64.size | exact one_bool.size | exact one_uint8.size | exact one_uint64.size | exact one_int32.size | exact one_errno.size | exact one_bools.size | exact one_vecs.size | exact one_pint64.size) (by rfl) (by rfl) (by rfl) (by repeat (first | exact .head _ | refine .tail _ ?_)) (by rfl) (by simp [go_sem, V3.v, Pl.v, V3.cs, Pl.cs, layAt, Value.cells, Mp.v] <;> rfl) (by repeat (first | exact .here | apply Upd.there)) ?_ hR; clear hR; intro _ hR; simp only [Act.put, List.setIfInBounds_toArray, List.set_cons_succ, List.set_cons_zero])
      | (refine own_max (by rfl) (by rfl) (by rfl) (by rfl) ?_; simp only [Act.put, List.setIfInBounds_toArray, List.set_cons_succ, List.set_cons_zero])
      | (refine own_min (by rfl) (by rfl) (by rfl) (by rfl) ?_; simp only [Act.put, List.setIfInBounds_toArray, List.set_cons_succ, List.set_cons_zero])
      | (refine own_pure (by rfl) (by intro w; simp [go_sem, V3.v, Pl.v, V3.cs, Pl.cs, layAt, Value.cells, Mp.v] <;> rfl) ?_; simp only [Act.put, List.setIfInBounds_toArray, List.set_cons_succ, List.set_cons_zero])))))
  refine own_call (s2 _ hR.below) ?_ hR; clear hR; intro _ hR
  go_wp2_with (first
    | ((with_reducible apply is_list); repeat1' (first | fail | (first
      | ((with_reducible refine own_skip ?_ ?_); (exact rfl); simp only [Act.put, List.setIfInBounds_toArray, List.set_cons_succ, List.set_cons_zero])
      | (refine own_move (by rfl) (by rfl) (by simp only [Act.eval, Array.getD_eq_getD_getElem?, List.getElem?_toArray, List.getElem?_cons_zero, List.getElem?_cons_succ, Option.getD_some] <;> rfl) ?_; simp only [Act.put, List.setIfInBounds_toArray, List.set_cons_succ, List.set_cons_zero])
      | (refine own_assign (by rfl) (by rfl) (by simp only [Act.eval, Array.getD_eq_getD_getElem?, List.getElem?_toArray, List.getElem?_cons_zero, List.getElem?_cons_succ, Option.getD_some] <;> rfl) ?_; simp only [Act.put, List.setIfInBounds_toArray, List.set_cons_succ, List.set_cons_zero])
      | (refine own_box (by rfl) (by rfl) (by simp [go_sem, V3.v, Pl.v, V3.cs, Pl.cs, layAt, Value.cells, Mp.v] <;> rfl) ?_ hR; clear hR; intro _ _ hR; simp only [Act.put, List.setIfInBounds_toArray, List.set_cons_succ, List.set_cons_zero])
      | (refine own_alloc (by rfl) (by rfl) (by first | exact zero_vec | exact zero_map | exact zero_shot | exact zero_p3 | exact zero_wide) ?_ hR; clear hR; intro _ _ hR; simp only [Act.put, List.setIfInBounds_toArray, List.set_cons_succ, List.set_cons_zero])
      | (refine own_alloc1 (by rfl) (by rfl) (by first | exact zero_int | exact zero_int64 | exact zero_bool | exact zero_uint8 | exact zero_uint64 | exact zero_int32 | exact zero_errno | exact zero_bools | exact zero_vecs | exact zero_pint64) (by simp [go_sem, V3.v, Pl.v, V3.cs, Pl.cs, layAt, Value.cells, Mp.v] <;> rfl) ?_ hR; clear hR; intro _ _ hR; simp only [Act.put, List.setIfInBounds_toArray, List.set_cons_succ, List.set_cons_zero])
      | (refine own_load_all (by rfl) (by rfl) (by rfl) (by first | exact agg_vec | exact agg_map | exact agg_shot | exact agg_p3 | exact agg_wide) (by repeat (first | exact .head _ | refine .tail _ ?_)) (by rfl) ?_ hR; clear hR; intro hR; simp only [Act.put, List.setIfInBounds_toArray, List.set_cons_succ, List.set_cons_zero])
      | (refine own_load_agg (by rfl) (by rfl) (by rfl) (by first | exact agg_vec | exact agg_map | exact agg_shot | exact agg_p3 | exact agg_wide) (by repeat (first | exact .head _ | refine .tail _ ?_)) (by rfl) (by simp [go_sem, V3.v, Pl.v, V3.cs, Pl.cs, layAt, Value.cells, Mp.v] <;> rfl) ?_ hR; clear hR; intro hR; simp only [Act.put, List.setIfInBounds_toArray, List.set_cons_succ, List.set_cons_zero])
      | (refine own_load_one (by rfl) (by rfl) (by rfl) (by first | exact one_int | exact one_int64 | exact one_bool | exact one_uint8 | exact one_uint64 | exact one_int32 | exact one_errno | exact one_bools | exact one_vecs | exact one_pint64) (by repeat (first | exact .head _ | refine .tail _ ?_)) (by simp [go_sem, V3.v, Pl.v, V3.cs, Pl.cs, layAt, Value.cells, Mp.v] <;> rfl) ?_ hR; clear hR; intro hR; simp only [Act.put, List.setIfInBounds_toArray, List.set_cons_succ, List.set_cons_zero])
      | (refine own_store_all (by rfl) (by rfl) (by rfl) (by first | exact agg_vec.size | exact agg_map.size | exact agg_shot.size | exact agg_p3.size | exact agg_wide.size | exact one_int.size | exact one_int64.size | exact one_bool.size | exact one_uint8.size | exact one_uint64.size | exact one_int32.size | exact one_errno.size | exact one_bools.size | exact one_vecs.size | exact one_pint64.size) (by rfl) (by rfl) (by rfl) (by repeat (first | exact .head _ | refine .tail _ ?_)) (by rfl) (by simp [go_sem, V3.v, Pl.v, V3.cs, Pl.cs, layAt, Value.cells, Mp.v] <;> rfl) (by repeat (first | exact .here | apply Upd.there)) ?_ hR; clear hR; intro _ hR; simp only [Act.put, List.setIfInBounds_toArray, List.set_cons_succ, List.set_cons_zero])
      | (refine own_store (by rfl) (by rfl) (by rfl) (by first | exact agg_vec.size | exact agg_map.size | exact agg_shot.size | exact agg_p3.size | exact agg_wide.size | exact one_int.size | exact one_int64.size | exact one_bool.size | exact one_uint8.size | exact one_uint64.size | exact one_int32.size | exact one_errno.size | exact one_bools.size | exact one_vecs.size | exact one_pint64.size) (by rfl) (by rfl) (by rfl) (by repeat (first | exact .head _ | refine .tail _ ?_)) (by rfl) (by simp [go_sem, V3.v, Pl.v, V3.cs, Pl.cs, layAt, Value.cells, Mp.v] <;> rfl) (by repeat (first | exact .here | apply Upd.there)) ?_ hR; clear hR; intro _ hR; simp only [Act.put, List.setIfInBounds_toArray, List.set_cons_succ, List.set_cons_zero])
      | (refine own_max (by rfl) (by rfl) (by rfl) (by rfl) ?_; simp only [Act.put, List.setIfInBounds_toArray, List.set_cons_succ, List.set_cons_zero])
      | (refine own_min (by rfl) (by rfl) (by rfl) (by rfl) ?_; simp only [Act.put, List.setIfInBounds_toArray, List.set_cons_succ, List.set_cons_zero])
      | (refine own_pure (by rfl) (by intro w; simp [go_sem, V3.v, Pl.v, V3.cs, Pl.cs, layAt, Value.cells, Mp.v] <;> rfl) ?_; simp only [Act.put, List.setIfInBounds_toArray, List.set_cons_succ, List.set_cons_zero])))))
  obtain ⟨L, hL, hR0⟩ := Own.name hR
  clear hR k1 k2 k3 w1 w2 w3 a1 a2 s1 s2 hs1 hs2
  go_loopw [9] (fun s wr => C1 m x0 x1 y0 y1 z0 z1 w.heap.size w L s wr) (fun s _ => match s with | .int _ z => (z1 + 1 - z).toNat | _ => 0)
  case atStart => exact ⟨z0, rfl, Int.le_refl _, by omega, fun i j k' _ _ _ _ h1 h2 => absurd h2 (by omega), hR0⟩
  case round =>
    obtain ⟨k, rfl, hk0, hk1, hfree, hR⟩ := hrel
    clear hR0
    by_cases c1 : k ≤ z1
    ·
      have t1 := Lib.hid (decide_eq_true c1)
      go_wp2_with (first
        | ((with_reducible apply is_list); repeat1' (first | rw [t1.out] | (first
          | ((with_reducible refine own_skip ?_ ?_); (exact rfl); simp only [Act.put, List.setIfInBounds_toArray, List.set_cons_succ, List.set_cons_zero])
          | (refine own_move (by rfl) (by rfl) (by simp only [Act.eval, Array.getD_eq_getD_getElem?, List.getElem?_toArray, List.getElem?_cons_zero, List.getElem?_cons_succ, Option.getD_some] <;> rfl) ?_; simp only [Act.put, List.setIfInBounds_toArray, List.set_cons_succ, List.set_cons_zero])
          | (refine own_assign (by rfl) (by rfl) (by simp only [Act.eval, Array.getD_eq_getD_getElem?, List.getElem?_toArray, List.getElem?_cons_zero, List.getElem?_cons_succ, Option.getD_some] <;> rfl) ?_; simp only [Act.put, List.setIfInBounds_toArray, List.set_cons_succ, List.set_cons_zero])
          | (refine own_box (by rfl) (by rfl) (by simp [go_sem, V3.v, Pl.v, V3.cs, Pl.cs, layAt, Value.cells, Mp.v] <;> rfl) ?_ hR; clear hR; intro _ _ hR; simp only [Act.put, List.setIfInBounds_toArray, List.set_cons_succ, List.set_cons_zero])
          | (refine own_alloc (by rfl) (by rfl) (by first | exact zero_vec | exact zero_map | exact zero_shot | exact zero_p3 | exact zero_wide) ?_ hR; clear hR; intro _ _ hR; simp only [Act.put, List.setIfInBounds_toArray, List.set_cons_succ, List.set_cons_zero])
          | (refine own_alloc1 (by rfl) (by rfl) (by first | exact zero_int | exact zero_int64 | exact zero_bool | exact zero_uint8 | exact zero_uint64 | exact zero_int32 | exact zero_errno | exact zero_bools | exact zero_vecs | exact zero_pint64) (by simp [go_sem, V3.v, Pl.v, V3.cs, Pl.cs, layAt, Value.cells, Mp.v] <;> rfl) ?_ hR; clear hR; intro _ _ hR; simp only [Act.put, List.setIfInBounds_toArray, List.set_cons_succ, List.set_cons_zero])
          | (refine own_load_all (by rfl) (by rfl) (by rfl) (by first | exact agg_vec | exact agg_map | exact agg_shot | exact agg_p3 | exact agg_wide) (by repeat (first | exact .head _ | refine .tail _ ?_)) (by rfl) ?_ hR; clear hR; intro hR; simp only [Act.put, List.setIfInBounds_toArray, List.set_cons_succ, List.set_cons_zero])
          | (refine own_load_agg (by rfl) (by rfl) (by rfl) (by first | exact agg_vec | exact agg_map | exact agg_shot | exact agg_p3 | exact agg_wide) (by repeat (first | exact .head _ | refine .tail _ ?_)) (by rfl) (by simp [go_sem, V3.v, Pl.v, V3.cs, Pl.cs, layAt, Value.cells, Mp.v] <;> rfl) ?_ hR; clear hR; intro hR; simp only [Act.put, List.setIfInBounds_toArray, List.set_cons_succ, List.set_cons_zero])
          | (refine own_load_one (by rfl) (by rfl) (by rfl) (by first | exact one_int | exact one_int64 | exact one_bool | exact one_uint8 | exact one_uint64 | exact one_int32 | exact one_errno | exact one_bools | exact one_vecs | exact one_pint64) (by repeat (first | exact .head _ | refine .tail _ ?_)) (by simp [go_sem, V3.v, Pl.v, V3.cs, Pl.cs, layAt, Value.cells, Mp.v] <;> rfl) ?_ hR; clear hR; intro hR; simp only [Act.put, List.setIfInBounds_toArray, List.set_cons_succ, List.set_cons_zero])
          | (refine own_store_all (by rfl) (by rfl) (by rfl) (by first | exact agg_vec.size | exact agg_map.size | exact agg_shot.size | exact agg_p3.size | exact agg_wide.size | exact one_int.size | exact one_int64.size | exact one_bool.size | exact one_uint8.size | exact one_uint64.size | exact one_int32.size | exact one_errno.size | exact one_bools.size | exact one_vecs.size | exact one_pint64.size) (by rfl) (by rfl) (by rfl) (by repeat (first | exact .head _ | refine .tail _ ?_)) (by rfl) (by simp [go_sem, V3.v, Pl.v, V3.cs, Pl.cs, layAt, Value.cells, Mp.v] <;> rfl) (by repeat (first | exact .here | apply Upd.there)) ?_ hR; clear hR; intro _ hR; simp only [Act.put, List.setIfInBounds_toArray, List.set_cons_succ, List.set_cons_zero])
          | (refine own_store (by rfl) (by rfl) (by rfl) (by first | exact agg_vec.size | exact agg_map.size | exact agg_shot.size | exact agg_p3.size | exact agg_wide.size | exact one_int.size | exact one_int64.size | exact one_bool.size | exact one_uint8.size | exact one_uint64.size | exact one_int32.size | exact one_errno.size | exact one_bools.size | exact one_vecs.size | exact one_pint64.size) (by rfl) (by rfl) (by rfl) (by repeat (first | exact .head _ | refine .tail _ ?_)) (by rfl) (by simp [go_sem, V3.v, Pl.v, V3.cs, Pl.cs, layAt, Value.cells, Mp.v] <;> rfl) (by repeat (first | exact .here | apply Upd.there)) ?_ hR; clear hR; intro _ hR; simp only [Act.put, List.setIfInBounds_toArray, List.set_cons_succ, List.set_cons_zero])
          | (refine own_max (by rfl) (by rfl) (by rfl) (by rfl) ?_; simp only [Act.put, List.setIfInBounds_toArray, List.set_cons_succ, List.set_cons_zero])
          | (refine own_min (by rfl) (by rfl) (by rfl) (by rfl) ?_; simp only [Act.put, List.setIfInBounds_toArray, List.set_cons_succ, List.set_cons_zero])
          | (refine own_pure (by rfl) (by intro w; simp [go_sem, V3.v, Pl.v, V3.cs, Pl.cs, layAt, Value.cells, Mp.v] <;> rfl) ?_; simp only [Act.put, List.setIfInBounds_toArray, List.set_cons_succ, List.set_cons_zero])))))
      have hR1 := hR
      clear hR
      go_loopw [13] (fun s wr => C2 m x0 x1 y0 y1 k w.heap.size w L s wr) (fun s _ => match s with | .int _ z => (y1 + 1 - z).toNat | _ => 0)
      case atStart => exact ⟨y0, rfl, Int.le_refl _, by omega, fun i j' _ _ h1 h2 => absurd h2 (by omega), hR1⟩
      case round =>
        obtain ⟨j, rfl, hj0, hj1, hfj, hR⟩ := hrel
        clear hR1
        by_cases c2 : j ≤ y1
        ·
          have t2 := Lib.hid (decide_eq_true c2)
          go_wp2_with (first
            | ((with_reducible apply is_list); repeat1' (first | rw [t2.out] | (first
              | ((with_reducible refine own_skip ?_ ?_); (exact rfl); simp only [Act.put, List.setIfInBounds_toArray, List.set_cons_succ, List.set_cons_zero])
              | (refine own_move (by rfl) (by rfl) (by simp only [Act.eval, Array.getD_eq_getD_getElem?, List.getElem?_toArray, List.getElem?_cons_zero, List.getElem?_cons_succ, Option.getD_some] <;> rfl) ?_; simp only [Act.put, List.setIfInBounds_toArray, List.set_cons_succ, List.set_cons_zero])
              | (refine own_assign (by rfl) (by rfl) (by simp only [Act.eval, Array.getD_eq_getD_getElem?, List.getElem?_toArray, List.getElem?_cons_zero, List.getElem?_cons_succ, Option.getD_some] <;> rfl) ?_; simp only [Act.put, List.setIfInBounds_toArray, List.set_cons_succ, List.set_cons_zero])
              | (refine own_box (by rfl) (by rfl) (by simp [go_sem, V3.v, Pl.v, V3.cs, Pl.cs, layAt, Value.cells, Mp.v] <;> rfl) ?_ hR; clear hR; intro _ _ hR; simp only [Act.put, List.setIfInBounds_toArray, List.set_cons_succ, List.set_cons_zero])
              | (refine own_alloc (by rfl) (by rfl) (by first | exact zero_vec | exact zero_map | exact zero_shot | exact zero_p3 | exact zero_wide) ?_ hR; clear hR; intro _ _ hR; simp only [Act.put, List.setIfInBounds_toArray, List.set_cons_succ, List.set_cons_zero])
              | (refine own_alloc1 (by rfl) (by rfl) (by first | exact zero_int | exact zero_int64 | exact zero_bool | exact zero_uint8 | exact zero_uint64 | exact zero_int32 | exact zero_errno | exact zero_bools | exact zero_vecs | exact zero_pint64) (by simp [go_sem, V3.v, Pl.v, V3.cs, Pl.cs, layAt, Value.cells, Mp.v] <;> rfl) ?_ hR; clear hR; intro _ _ hR; simp only [Act.put, List.setIfInBounds_toArray, List.set_cons_succ, List.set_cons_zero])
              | (refine own_load_all (by rfl) (by rfl) (by rfl) (by first | exact agg_vec | exact agg_map | exact agg_shot | exact agg_p3 | exact agg_wide) (by repeat (first | exact .head _ | refine .tail _ ?_)) (by rfl) ?_ hR; clear hR; intro hR; simp only [Act.put, List.setIfInBounds_toArray, List.set_cons_succ, List.set_cons_zero])
              | (refine own_load_agg (by rfl) (by rfl) (by rfl) (by first | exact agg_vec | exact agg_map | exact agg_shot | exact agg_p3 | exact agg_wide) (by repeat (first | exact .head _ | refine .tail _ ?_)) (by rfl) (by simp [go_sem, V3.v, Pl.v, V3.cs, Pl.cs, layAt, Value.cells, Mp.v] <;> rfl) ?_ hR; clear hR; intro hR; simp only [Act.put, List.setIfInBounds_toArray, List.set_cons_succ, List.set_cons_zero])
              | (refine own_load_one (by rfl) (by rfl) (by rfl) (by first | exact one_int | exact one_int64 | exact one_bool | exact one_uint8 | exact one_uint64 | exact one_int32 | exact one_errno | exact one_bools | exact one_vecs | exact one_pint64) (by repeat (first | exact .head _ | refine .tail _ ?_)) (by simp [go_sem, V3.v, Pl.v, V3.cs, Pl.cs, layAt, Value.cells, Mp.v] <;> rfl) ?_ hR; clear hR; intro hR; simp only [Act.put, List.setIfInBounds_toArray, List.set_cons_succ, List.set_cons_zero])
              | (refine own_store_all (by rfl) (by rfl) (by rfl) (by first | exact agg_vec.size | exact agg_map.size | exact agg_shot.size | exact agg_p3.size | exact agg_wide.size | exact one_int.size | exact one_int64.size | exact one_bool.size | exact one_uint8.size | exact one_uint64.size | exact one_int32.size | exact one_errno.size | exact one_bools.size | exact one_vecs.size | exact one_pint64.size) (by rfl) (by rfl) (by rfl) (by repeat (first | exact .head _ | refine .tail _ ?_)) (by rfl) (by simp [go_sem, V3.v, Pl.v, V3.cs, Pl.cs, layAt, Value.cells, Mp.v] <;> rfl) (by repeat (first | exact .here | apply Upd.there)) ?_ hR; clear hR; intro _ hR; simp only [Act.put, List.setIfInBounds_toArray, List.set_cons_succ, List.set_cons_zero])
              | (refine own_store (by rfl) (by rfl) (by rfl) (by first | exact agg_vec.size | exact agg_map.size | exact agg_shot.size | exact agg_p3.size | exact agg_wide.size | exact one_int.size | exact one_int64.size | exact one_bool.size | exact one_uint8.size | exact one_uint64.size | exact one_int32.size | exact one_errno.size | exact one_bools.size | exact one_vecs.size | exact one_pint64.size) (by rfl) (by rfl) (by rfl) (by repeat (first | exact .head _ | refine .tail _ ?_)) (by rfl) (by simp [go_sem, V3.v, Pl.v, V3.cs, Pl.cs, layAt, Value.cells, Mp.v] <;> rfl) (by repeat (first | exact .here | apply Upd.there)) ?_ hR; clear hR; intro _ hR; simp only [Act.put, List.setIfInBounds_toArray, List.set_cons_succ, List.set_cons_zero])
              | (refine own_max (by rfl) (by rfl) (by rfl) (by rfl) ?_; simp only [Act.put, List.setIfInBounds_toArray, List.set_cons_succ, List.set_cons_zero])
              | (refine own_min (by rfl) (by rfl) (by rfl) (by rfl) ?_; simp only [Act.put, List.setIfInBounds_toArray, List.set_cons_succ, List.set_cons_zero])
              | (refine own_pure (by rfl) (by intro w; simp [go_sem, V3.v, Pl.v, V3.cs, Pl.cs, layAt, Value.cells, Mp.v] <;> rfl) ?_; simp only [Act.put, List.setIfInBounds_toArray, List.set_cons_succ, List.set_cons_zero])))))
          have hR2 := hR
          clear hR
          go_loopw [14] (fun s wr => C3 m x0 x1 j k w.heap.size w L s wr) (fun s _ => match s with | .int _ z => (x1 + 1 - z).toNat | _ => 0)
          case atStart => exact ⟨x0, rfl, Int.le_refl _, by omega, fun i' h1 h2 => absurd h2 (by omega), hR2⟩
          case round =>
            obtain ⟨i, rfl, hi0, hi1, hfi, hR⟩ := hrel
            clear hR2
            by_cases c3 : i ≤ x1
            ·
              have t3 := Lib.hid (decide_eq_true c3)
              have u3 : Hid (IntKind.i64.wrap (i + 1) = i + 1) := Lib.hid (IntWalk.i64_in _ (by omega))
              have s := hsol i j k
              subst hL
              cases hs : m.solid i j k
              ·
                rw [hs] at s
                go_wp2_with (first
                  | ((with_reducible apply is_list); repeat1' (first | rw [t3.out] | rw [u3.out] | (first
                    | ((with_reducible refine own_skip ?_ ?_); (exact rfl); simp only [Act.put, List.setIfInBounds_toArray, List.set_cons_succ, List.set_cons_zero])
                    | (refine own_move (by rfl) (by rfl) (by simp only [Act.eval, Array.getD_eq_getD_getElem?, List.getElem?_toArray, List.getElem?_cons_zero, List.getElem?_cons_succ, Option.getD_some] <;> rfl) ?_; simp only [Act.put, List.setIfInBounds_toArray, List.set_cons_succ, List.set_cons_zero])
                    | (refine own_assign (by rfl) (by rfl) (by simp only [Act.eval, Array.getD_eq_getD_getElem?, List.getElem?_toArray, List.getElem?_cons_zero, List.getElem?_cons_succ, Option.getD_some] <;> rfl) ?_; simp only [Act.put, List.setIfInBounds_toArray, List.set_cons_succ, List.set_cons_zero])
                    | (refine own_box (by rfl) (by rfl) (by simp [go_sem, V3.v, Pl.v, V3.cs, Pl.cs, layAt, Value.cells, Mp.v] <;> rfl) ?_ hR; clear hR; intro _ _ hR; simp only [Act.put, List.setIfInBounds_toArray, List.set_cons_succ, List.set_cons_zero])
                    | (refine own_alloc (by rfl) (by rfl) (by first | exact zero_vec | exact zero_map | exact zero_shot | exact zero_p3 | exact zero_wide) ?_ hR; clear hR; intro _ _ hR; simp only [Act.put, List.setIfInBounds_toArray, List.set_cons_succ, List.set_cons_zero])
                    | (refine own_alloc1 (by rfl) (by rfl) (by first | exact zero_int | exact zero_int64 | exact zero_bool | exact zero_uint8 | exact zero_uint64 | exact zero_int32 | exact zero_errno | exact zero_bools | exact zero_vecs | exact zero_pint64) (by simp [go_sem, V3.v, Pl.v, V3.cs, Pl.cs, layAt, Value.cells, Mp.v] <;> rfl) ?_ hR; clear hR; intro _ _ hR; simp only [Act.put, List.setIfInBounds_toArray, List.set_cons_succ, List.set_cons_zero])
                    | (refine own_load_all (by rfl) (by rfl) (by rfl) (by first | exact agg_vec | exact agg_map | exact agg_shot | exact agg_p3 | exact agg_wide) (by repeat (first | exact .head _ | refine .tail _ ?_)) (by rfl) ?_ hR; clear hR; intro hR; simp only [Act.put, List.setIfInBounds_toArray, List.set_cons_succ, List.set_cons_zero])
                    | (refine own_load_agg (by rfl) (by rfl) (by rfl) (by first | exact agg_vec | exact agg_map | exact agg_shot | exact agg_p3 | exact agg_wide) (by repeat (first | exact .head _ | refine .tail _ ?_)) (by rfl) (by simp [go_sem, V3.v, Pl.v, V3.cs, Pl.cs, layAt, Value.cells, Mp.v] <;> rfl) ?_ hR; clear hR; intro hR; simp only [Act.put, List.setIfInBounds_toArray, List.set_cons_succ, List.set_cons_zero])
                    | (refine own_load_one (by rfl) (by rfl) (by rfl) (by first | exact one_int | exact one_int64 | exact one_bool | exact one_uint8 | exact one_uint64 | exact one_int32 | exact one_errno | exact one_bools | exact one_vecs | exact one_pint64) (by repeat (first | exact .head _ | refine .tail _ ?_)) (by simp [go_sem, V3.v, Pl.v, V3.cs, Pl.cs, layAt, Value.cells, Mp.v] <;> rfl) ?_ hR; clear hR; intro hR; simp only [Act.put, List.setIfInBounds_toArray, List.set_cons_succ, List.set_cons_zero])
                    | (refine own_store_all (by rfl) (by rfl) (by rfl) (by first | exact agg_vec.size | exact agg_map.size | exact agg_shot.size | exact agg_p3.size | exact agg_wide.size | exact one_int.size | exact one_int64.size | exact one_bool.size | exact one_uint8.size | exact one_uint64.size | exact one_int32.size | exact one_errno.size | exact one_bools.size | exact one_vecs.size | exact one_pint64.size) (by rfl) (by rfl) (by rfl) (by repeat (first | exact .head _ | refine .tail _ ?_)) (by rfl) (by simp [go_sem, V3.v, Pl.v, V3.cs, Pl.cs, layAt, Value.cells, Mp.v] <;> rfl) (by repeat (first | exact .here | apply Upd.there)) ?_ hR; clear hR; intro _ hR; simp only [Act.put, List.setIfInBounds_toArray, List.set_cons_succ, List.set_cons_zero])
                    | (refine own_store (by rfl) (by rfl) (by rfl) (by first | exact agg_vec.size | exact agg_map.size | exact agg_shot.size | exact agg_p3.size | exact agg_wide.size | exact one_int.size | exact one_int64.size | exact one_bool.size | exact one_uint8.size | exact one_uint64.size | exact one_int32.size | exact one_errno.size | exact one_bools.size | exact one_vecs.size | exact one_pint64.size) (by rfl) (by rfl) (by rfl) (by repeat (first | exact .head _ | refine .tail _ ?_)) (by rfl) (by simp [go_sem, V3.v, Pl.v, V3.cs, Pl.cs, layAt, Value.cells, Mp.v] <;> rfl) (by repeat (first | exact .here | apply Upd.there)) ?_ hR; clear hR; intro _ hR; simp only [Act.put, List.setIfInBounds_toArray, List.set_cons_succ, List.set_cons_zero])
                    | (refine own_max (by rfl) (by rfl) (by rfl) (by rfl) ?_; simp only [Act.put, List.setIfInBounds_toArray, List.set_cons_succ, List.set_cons_zero])
                    | (refine own_min (by rfl) (by rfl) (by rfl) (by rfl) ?_; simp only [Act.put, List.setIfInBounds_toArray, List.set_cons_succ, List.set_cons_zero])
                    | (refine own_pure (by rfl) (by intro w; simp [go_sem, V3.v, Pl.v, V3.cs, Pl.cs, layAt, Value.cells, Mp.v] <;> rfl) ?_; simp only [Act.put, List.setIfInBounds_toArray, List.set_cons_succ, List.set_cons_zero])))))
                refine own_call (s _ hR.below) ?_ hR; clear hR; intro _ hR
                go_wp2_with (first
                  | ((with_reducible apply is_list); repeat1' (first | rw [t3.out] | rw [u3.out] | (first
                    | ((with_reducible refine own_skip ?_ ?_); (exact rfl); simp only [Act.put, List.setIfInBounds_toArray, List.set_cons_succ, List.set_cons_zero])
                    | (refine own_move (by rfl) (by rfl) (by simp only [Act.eval, Array.getD_eq_getD_getElem?, List.getElem?_toArray, List.getElem?_cons_zero, List.getElem?_cons_succ, Option.getD_some] <;> rfl) ?_; simp only [Act.put, List.setIfInBounds_toArray, List.set_cons_succ, List.set_cons_zero])
                    | (refine own_assign (by rfl) (by rfl) (by simp only [Act.eval, Array.getD_eq_getD_getElem?, List.getElem?_toArray, List.getElem?_cons_zero, List.getElem?_cons_succ, Option.getD_some] <;> rfl) ?_; simp only [Act.put, List.setIfInBounds_toArray, List.set_cons_succ, List.set_cons_zero])
                    | (refine own_box (by rfl) (by rfl) (by simp [go_sem, V3.v, Pl.v, V3.cs, Pl.cs, layAt, Value.cells, Mp.v] <;> rfl) ?_ hR; clear hR; intro _ _ hR; simp only [Act.put, List.setIfInBounds_toArray, List.set_cons_succ, List.set_cons_zero])
                    | (refine own_alloc (by rfl) (by rfl) (by first | exact zero_vec | exact zero_map | exact zero_shot | exact zero_p3 | exact zero_wide) ?_ hR; clear hR; intro _ _ hR; simp only [Act.put, List.setIfInBounds_toArray, List.set_cons_succ, List.set_cons_zero])
                    | (refine own_alloc1 (by rfl) (by rfl) (by first | exact zero_int | exact zero_int64 | exact zero_bool | exact zero_uint8 | exact zero_uint64 | exact zero_int32 | exact zero_errno | exact zero_bools | exact zero_vecs | exact zero_pint64) (by simp [go_sem, V3.v, Pl.v, V3.cs, Pl.cs, layAt, Value.cells, Mp.v] <;> rfl) ?_ hR; clear hR; intro _ _ hR; simp only [Act.put, List.setIfInBounds_toArray, List.set_cons_succ, List.set_cons_zero])
                    | (refine own_load_all (by rfl) (by rfl) (by rfl) (by first | exact agg_vec | exact agg_map | exact agg_shot | exact agg_p3 | exact agg_wide) (by repeat (first | exact .head _ | refine .tail _ ?_)) (by rfl) ?_ hR; clear hR; intro hR; simp only [Act.put, List.setIfInBounds_toArray, List.set_cons_succ, List.set_cons_zero])
                    | (refine own_load_agg (by rfl) (by rfl) (by rfl) (by first | exact agg_vec | exact agg_map | exact agg_shot | exact agg_p3 | exact agg_wide) (by repeat (first | exact .head _ | refine .tail _ ?_)) (by rfl) (by simp [go_sem, V3.v, Pl.v, V3.cs, Pl.cs, layAt, Value.cells, Mp.v] <;> rfl) ?_ hR; clear hR; intro hR; simp only [Act.put, List.setIfInBounds_toArray, List.set_cons_succ, List.set_cons_zero])
                    | (refine own_load_one (by rfl) (by rfl) (by rfl) (by first | exact one_int | exact one_int64 | exact one_bool | exact one_uint8 | exact one_uint64 | exact one_int32 | exact one_errno | exact one_bools | exact one_vecs | exact one_pint64) (by repeat (first | exact .head _ | refine .tail _ ?_)) (by simp [go_sem, V3.v, Pl.v, V3.cs, Pl.cs, layAt, Value.cells, Mp.v] <;> rfl) ?_ hR; clear hR; intro hR; simp only [Act.put, List.setIfInBounds_toArray, List.set_cons_succ, List.set_cons_zero])
                    | (refine own_store_all (by rfl) (by rfl) (by rfl) (by first | exact agg_vec.size | exact agg_map.size | exact agg_shot.size | exact agg_p3.size | exact agg_wide.size | exact one_int.size | exact one_int64.size | exact one_bool.size | exact one_uint8.size | exact one_uint64.size | exact one_int32.size | exact one_errno.size | exact one_bools.size | exact one_vecs.size | exact one_pint64.size) (by rfl) (by rfl) (by rfl) (by repeat (first | exact .head _ | refine .tail _ ?_)) (by rfl) (by simp [go_sem, V3.v, Pl.v, V3.cs, Pl.cs, layAt, Value.cells, Mp.v] <;> rfl) (by repeat (first | exact .here | apply Upd.there)) ?_ hR; clear hR; intro _ hR; simp only [Act.put, List.setIfInBounds_toArray, List.set_cons_succ, List.set_cons_zero])
                    | (refine own_store (by rfl) (by rfl) (by rfl) (by first | exact agg_vec.size | exact agg_map.size | exact agg_shot.size | exact agg_p3.size | exact agg_wide.size | exact one_int.size | exact one_int64.size | exact one_bool.size | exact one_uint8.size | exact one_uint64.size | exact one_int32.size | exact one_errno.size | exact one_bools.size | exact one_vecs.size | exact one_pint64.size) (by rfl) (by rfl) (by rfl) (by repeat (first | exact .head _ | refine .tail _ ?_)) (by rfl) (by simp [go_sem, V3.v, Pl.v, V3.cs, Pl.cs, layAt, Value.cells, Mp.v] <;> rfl) (by repeat (first | exact .here | apply Upd.there)) ?_ hR; clear hR; intro _ hR; simp only [Act.put, List.setIfInBounds_toArray, List.set_cons_succ, List.set_cons_zero])
                    | (refine own_max (by rfl) (by rfl) (by rfl) (by rfl) ?_; simp only [Act.put, List.setIfInBounds_toArray, List.set_cons_succ, List.set_cons_zero])
                    | (refine own_min (by rfl) (by rfl) (by rfl) (by rfl) ?_; simp only [Act.put, List.setIfInBounds_toArray, List.set_cons_succ, List.set_cons_zero])
                    | (refine own_pure (by rfl) (by intro w; simp [go_sem, V3.v, Pl.v, V3.cs, Pl.cs, layAt, Value.cells, Mp.v] <;> rfl) ?_; simp only [Act.put, List.setIfInBounds_toArray, List.set_cons_succ, List.set_cons_zero])))))
                go_roundw
                case rel =>
                  refine ⟨i + 1, rfl, by omega, by omega, fun i' h1 h2 => ?_, hR⟩
                  by_cases h : i' = i
                  · rw [h]; exact hs
                  · exact hfi i' h1 (by omega)
                case measure => show (x1 + 1 - (i + 1)).toNat < (x1 + 1 - i).toNat; omega
              ·
                rw [hs] at s
                have hF : m.clear lo hi = false := Mp.clear_false (fun h => by
                  have := (hC.1 h) i j k hi0 c3 hj0 c2 hk0 c1
                  rw [hs] at this; cases this)
                rw [hF] at HV
                go_wp2_with (first
                  | ((with_reducible apply is_list); repeat1' (first | rw [t3.out] | rw [u3.out] | (first
                    | ((with_reducible refine own_skip ?_ ?_); (exact rfl); simp only [Act.put, List.setIfInBounds_toArray, List.set_cons_succ, List.set_cons_zero])
                    | (refine own_move (by rfl) (by rfl) (by simp only [Act.eval, Array.getD_eq_getD_getElem?, List.getElem?_toArray, List.getElem?_cons_zero, List.getElem?_cons_succ, Option.getD_some] <;> rfl) ?_; simp only [Act.put, List.setIfInBounds_toArray, List.set_cons_succ, List.set_cons_zero])
                    | (refine own_assign (by rfl) (by rfl) (by simp only [Act.eval, Array.getD_eq_getD_getElem?, List.getElem?_toArray, List.getElem?_cons_zero, List.getElem?_cons_succ, Option.getD_some] <;> rfl) ?_; simp only [Act.put, List.setIfInBounds_toArray, List.set_cons_succ, List.set_cons_zero])
                    | (refine own_box (by rfl) (by rfl) (by simp [go_sem, V3.v, Pl.v, V3.cs, Pl.cs, layAt, Value.cells, Mp.v] <;> rfl) ?_ hR; clear hR; intro _ _ hR; simp only [Act.put, List.setIfInBounds_toArray, List.set_cons_succ, List.set_cons_zero])
                    | (refine own_alloc (by rfl) (by rfl) (by first | exact zero_vec | exact zero_map | exact zero_shot | exact zero_p3 | exact zero_wide) ?_ hR; clear hR; intro _ _ hR; simp only [Act.put, List.setIfInBounds_toArray, List.set_cons_succ, List.set_cons_zero])
                    | (refine own_alloc1 (by rfl) (by rfl) (by first | exact zero_int | exact zero_int64 | exact zero_bool | exact zero_uint8 | exact zero_uint64 | exact zero_int32 | exact zero_errno | exact zero_bools | exact zero_vecs | exact zero_pint64) (by simp [go_sem, V3.v, Pl.v, V3.cs, Pl.cs, layAt, Value.cells, Mp.v] <;> rfl) ?_ hR; clear hR; intro _ _ hR; simp only [Act.put, List.setIfInBounds_toArray, List.set_cons_succ, List.set_cons_zero])
                    | (refine own_load_all (by rfl) (by rfl) (by rfl) (by first | exact agg_vec | exact agg_map | exact agg_shot | exact agg_p3 | exact agg_wide) (by repeat (first | exact .head _ | refine .tail _ ?_)) (by rfl) ?_ hR; clear hR; intro hR; simp only [Act.put, List.setIfInBounds_toArray, List.set_cons_succ, List.set_cons_zero])
                    | (refine own_load_agg (by rfl) (by rfl) (by rfl) (by first | exact agg_vec | exact agg_map | exact agg_shot | exact agg_p3 | exact agg_wide) (by repeat (first | exact .head _ | refine .tail _ ?_)) (by rfl) (by simp [go_sem, V3.v, Pl.v, V3.cs, Pl.cs, layAt, Value.cells, Mp.v] <;> rfl) ?_ hR; clear hR; intro hR; simp only [Act.put, List.setIfInBounds_toArray, List.set_cons_succ, List.set_cons_zero])
                    | (refine own_load_one (by rfl) (by rfl) (by rfl) (by first | exact one_int | exact one_int64 | exact one_bool | exact one_uint8 | exact one_uint64 | exact one_int32 | exact one_errno | exact one_bools | exact one_vecs | exact one_pint64) (by repeat (first | exact .head _ | refine .tail _ ?_)) (by simp [go_sem, V3.v, Pl.v, V3.cs, Pl.cs, layAt, Value.cells, Mp.v] <;> rfl) ?_ hR; clear hR; intro hR; simp only [Act.put, List.setIfInBounds_toArray, List.set_cons_succ, List.set_cons_zero])
                    | (refine own_store_all (by rfl) (by rfl) (by rfl) (by first | exact agg_vec.size | exact agg_map.size | exact agg_shot.size | exact agg_p3.size | exact agg_wide.size | exact one_int.size | exact one_int64.size | exact one_bool.size | exact one_uint8.size | exact one_uint64.size | exact one_int32.size | exact one_errno.size | exact one_bools.size | exact one_vecs.size | exact one_pint64.size) (by rfl) (by rfl) (by rfl) (by repeat (first | exact .head _ | refine .tail _ ?_)) (by rfl) (by simp [go_sem, V3.v, Pl.v, V3.cs, Pl.cs, layAt, Value.cells, Mp.v] <;> rfl) (by repeat (first | exact .here | apply Upd.there)) ?_ hR; clear hR; intro _ hR; simp only [Act.put, List.setIfInBounds_toArray, List.set_cons_succ, List.set_cons_zero])
                    | (refine own_store (by rfl) (by rfl) (by rfl) (by first | exact agg_vec.size | exact agg_map.size | exact agg_shot.size | exact agg_p3.size | exact agg_wide.size | exact one_int.size | exact one_int64.size | exact one_bool.size | exact one_uint8.size | exact one_uint64.size | exact one_int32.size | exact one_errno.size | exact one_bools.size | exact one_vecs.size | exact one_pint64.size) (by rfl) (by rfl) (by rfl) (by repeat (first | exact .head _ | refine .tail _ ?_)) (by rfl) (by simp [go_sem, V3.v, Pl.v, V3.cs, Pl.cs, layAt, Value.cells, Mp.v] <;> rfl) (by repeat (first | exact .here | apply Upd.there)) ?_ hR; clear hR; intro _ hR; simp only [Act.put, List.setIfInBounds_toArray, List.set_cons_succ, List.set_cons_zero])
                    | (refine own_max (by rfl) (by rfl) (by rfl) (by rfl) ?_; simp only [Act.put, List.setIfInBounds_toArray, List.set_cons_succ, List.set_cons_zero])
                    | (refine own_min (by rfl) (by rfl) (by rfl) (by rfl) ?_; simp only [Act.put, List.setIfInBounds_toArray, List.set_cons_succ, List.set_cons_zero])
                    | (refine own_pure (by rfl) (by intro w; simp [go_sem, V3.v, Pl.v, V3.cs, Pl.cs, layAt, Value.cells, Mp.v] <;> rfl) ?_; simp only [Act.put, List.setIfInBounds_toArray, List.set_cons_succ, List.set_cons_zero])))))
                refine own_call (s _ hR.below) ?_ hR; clear hR; intro _ hR
                go_wp2_with (first
                  | ((with_reducible apply is_list); repeat1' (first | rw [t3.out] | rw [u3.out] | (first
                    | ((with_reducible refine own_skip ?_ ?_); (exact rfl); simp only [Act.put, List.setIfInBounds_toArray, List.set_cons_succ, List.set_cons_zero])
                    | (refine own_move (by rfl) (by rfl) (by simp only [Act.eval, Array.getD_eq_getD_getElem?, List.getElem?_toArray, List.getElem?_cons_zero, List.getElem?_cons_succ, Option.getD_some] <;> rfl) ?_; simp only [Act.put, List.setIfInBounds_toArray, List.set_cons_succ, List.set_cons_zero])
                    | (refine own_assign (by rfl) (by rfl) (by simp only [Act.eval, Array.getD_eq_getD_getElem?, List.getElem?_toArray, List.getElem?_cons_zero, List.getElem?_cons_succ, Option.getD_some] <;> rfl) ?_; simp only [Act.put, List.setIfInBounds_toArray, List.set_cons_succ, List.set_cons_zero])
                    | (refine own_box (by rfl) (by rfl) (by simp [go_sem, V3.v, Pl.v, V3.cs, Pl.cs, layAt, Value.cells, Mp.v] <;> rfl) ?_ hR; clear hR; intro _ _ hR; simp only [Act.put, List.setIfInBounds_toArray, List.set_cons_succ, List.set_cons_zero])
                    | (refine own_alloc (by rfl) (by rfl) (by first | exact zero_vec | exact zero_map | exact zero_shot | exact zero_p3 | exact zero_wide) ?_ hR; clear hR; intro _ _ hR; simp only [Act.put, List.setIfInBounds_toArray, List.set_cons_succ, List.set_cons_zero])
                    | (refine own_alloc1 (by rfl) (by rfl) (by first | exact zero_int | exact zero_int64 | exact zero_bool | exact zero_uint8 | exact zero_uint64 | exact zero_int32 | exact zero_errno | exact zero_bools | exact zero_vecs | exact zero_pint64) (by simp [go_sem, V3.v, Pl.v, V3.cs, Pl.cs, layAt, Value.cells, Mp.v] <;> rfl) ?_ hR; clear hR; intro _ _ hR; simp only [Act.put, List.setIfInBounds_toArray, List.set_cons_succ, List.set_cons_zero])
                    | (refine own_load_all (by rfl) (by rfl) (by rfl) (by first | exact agg_vec | exact agg_map | exact agg_shot | exact agg_p3 | exact agg_wide) (by repeat (first | exact .head _ | refine .tail _ ?_)) (by rfl) ?_ hR; clear hR; intro hR; simp only [Act.put, List.setIfInBounds_toArray, List.set_cons_succ, List.set_cons_zero])
                    | (refine own_load_agg (by rfl) (by rfl) (by rfl) (by first | exact agg_vec | exact agg_map | exact agg_shot | exact agg_p3 | exact agg_wide) (by repeat (first | exact .head _ | refine .tail _ ?_)) (by rfl) (by simp [go_sem, V3.v, Pl.v, V3.cs, Pl.cs, layAt, Value.cells, Mp.v] <;> rfl) ?_ hR; clear hR; intro hR; simp only [Act.put, List.setIfInBounds_toArray, List.set_cons_succ, List.set_cons_zero])
                    | (refine own_load_one (by rfl) (by rfl) (by rfl) (by first | exact one_int | exact one_int64 | exact one_bool | exact one_uint8 | exact one_uint64 | exact one_int32 | exact one_errno | exact one_bools | exact one_vecs | exact one_pint64) (by repeat (first | exact .head _ | refine .tail _ ?_)) (by simp [go_sem, V3.v, Pl.v, V3.cs, Pl.cs, layAt, Value.cells, Mp.v] <;> rfl) ?_ hR; clear hR; intro hR; simp only [Act.put, List.setIfInBounds_toArray, List.set_cons_succ, List.set_cons_zero])
                    | (refine own_store_all (by rfl) (by rfl) (by rfl) (by first | exact agg_vec.size | exact agg_map.size | exact agg_shot.size | exact agg_p3.size | exact agg_wide.size | exact one_int.size | exact one_int64.size | exact one_bool.size | exact one_uint8.size | exact one_uint64.size | exact one_int32.size | exact one_errno.size | exact one_bools.size | exact one_vecs.size | exact one_pint64.size) (by rfl) (by rfl) (by rfl) (by repeat (first | exact .head _ | refine .tail _ ?_)) (by rfl) (by simp [go_sem, V3.v, Pl.v, V3.cs, Pl.cs, layAt, Value.cells, Mp.v] <;> rfl) (by repeat (first | exact .here | apply Upd.there)) ?_ hR; clear hR; intro _ hR; simp only [Act.put, List.setIfInBounds_toArray, List.set_cons_succ, List.set_cons_zero])
                    | (refine own_store (by rfl) (by rfl) (by rfl) (by first | exact agg_vec.size | exact agg_map.size | exact agg_shot.size | exact agg_p3.size | exact agg_wide.size | exact one_int.size | exact one_int64.size | exact one_bool.size | exact one_uint8.size | exact one_uint64.size | exact one_int32.size | exact one_errno.size | exact one_bools.size | exact one_vecs.size | exact one_pint64.size) (by rfl) (by rfl) (by rfl) (by repeat (first | exact .head _ | refine .tail _ ?_)) (by rfl) (by simp [go_sem, V3.v, Pl.v, V3.cs, Pl.cs, layAt, Value.cells, Mp.v] <;> rfl) (by repeat (first | exact .here | apply Upd.there)) ?_ hR; clear hR; intro _ hR; simp only [Act.put, List.setIfInBounds_toArray, List.set_cons_succ, List.set_cons_zero])
                    | (refine own_max (by rfl) (by rfl) (by rfl) (by rfl) ?_; simp only [Act.put, List.setIfInBounds_toArray, List.set_cons_succ, List.set_cons_zero])
                    | (refine own_min (by rfl) (by rfl) (by rfl) (by rfl) ?_; simp only [Act.put, List.setIfInBounds_toArray, List.set_cons_succ, List.set_cons_zero])
                    | (refine own_pure (by rfl) (by intro w; simp [go_sem, V3.v, Pl.v, V3.cs, Pl.cs, layAt, Value.cells, Mp.v] <;> rfl) ?_; simp only [Act.put, List.setIfInBounds_toArray, List.set_cons_succ, List.set_cons_zero])))))
                refine own_ret1 Try.results29 rfl (.tmp rfl) (fun hR => hR.ret ?_) hR
                rw [HV.out]
                rfl
            ·
              have t3 := Lib.hid (decide_eq_false c3)
              have u2 : Hid (IntKind.i64.wrap (j + 1) = j + 1) := Lib.hid (IntWalk.i64_in _ (by omega))
              go_wp2_with (first
                | ((with_reducible apply is_list); repeat1' (first | rw [t3.out] | rw [u2.out] | (first
                  | ((with_reducible refine own_skip ?_ ?_); (exact rfl); simp only [Act.put, List.setIfInBounds_toArray, List.set_cons_succ, List.set_cons_zero])
                  | (refine own_move (by rfl) (by rfl) (by simp only [Act.eval, Array.getD_eq_getD_getElem?, List.getElem?_toArray, List.getElem?_cons_zero, List.getElem?_cons_succ, Option.getD_some] <;> rfl) ?_; simp only [Act.put, List.setIfInBounds_toArray, List.set_cons_succ, List.set_cons_zero])
                  | (refine own_assign (by rfl) (by rfl) (by simp only [Act.eval, Array.getD_eq_getD_getElem?, List.getElem?_toArray, List.getElem?_cons_zero, List.getElem?_cons_succ, Option.getD_some] <;> rfl) ?_; simp only [Act.put, List.setIfInBounds_toArray, List.set_cons_succ, List.set_cons_zero])
                  | (refine own_box (by rfl) (by rfl) (by simp [go_sem, V3.v, Pl.v, V3.cs, Pl.cs, layAt, Value.cells, Mp.v] <;> rfl) ?_ hR; clear hR; intro _ _ hR; simp only [Act.put, List.setIfInBounds_toArray, List.set_cons_succ, List.set_cons_zero])
                  | (refine own_alloc (by rfl) (by rfl) (by first | exact zero_vec | exact zero_map | exact zero_shot | exact zero_p3 | exact zero_wide) ?_ hR; clear hR; intro _ _ hR; simp only [Act.put, List.setIfInBounds_toArray, List.set_cons_succ, List.set_cons_zero])
                  | (refine own_alloc1 (by rfl) (by rfl) (by first | exact zero_int | exact zero_int64 | exact zero_bool | exact zero_uint8 | exact zero_uint64 | exact zero_int32 | exact zero_errno | exact zero_bools | exact zero_vecs | exact zero_pint64) (by simp [go_sem, V3.v, Pl.v, V3.cs, Pl.cs, layAt, Value.cells, Mp.v] <;> rfl) ?_ hR; clear hR; intro _ _ hR; simp only [Act.put, List.setIfInBounds_toArray, List.set_cons_succ, List.set_cons_zero])
                  | (refine own_load_all (by rfl) (by rfl) (by rfl) (by first | exact agg_vec | exact agg_map | exact agg_shot | exact agg_p3 | exact agg_wide) (by repeat (first | exact .head _ | refine .tail _ ?_)) (by rfl) ?_ hR; clear hR; intro hR; simp only [Act.put, List.setIfInBounds_toArray, List.set_cons_succ, List.set_cons_zero])
                  | (refine own_load_agg (by rfl) (by rfl) (by rfl) (by first | exact agg_vec | exact agg_map | exact agg_shot | exact agg_p3 | exact agg_wide) (by repeat (first | exact .head _ | refine .tail _ ?_)) (by rfl) (by simp [go_sem, V3.v, Pl.v, V3.cs, Pl.cs, layAt, Value.cells, Mp.v] <;> rfl) ?_ hR; clear hR; intro hR; simp only [Act.put, List.setIfInBounds_toArray, List.set_cons_succ, List.set_cons_zero])
                  | (refine own_load_one (by rfl) (by rfl) (by rfl) (by first | exact one_int | exact one_int64 | exact one_bool | exact one_uint8 | exact one_uint64 | exact one_int32 | exact one_errno | exact one_bools | exact one_vecs | exact one_pint64) (by repeat (first | exact .head _ | refine .tail _ ?_)) (by simp [go_sem, V3.v, Pl.v, V3.cs, Pl.cs, layAt, Value.cells, Mp.v] <;> rfl) ?_ hR; clear hR; intro hR; simp only [Act.put, List.setIfInBounds_toArray, List.set_cons_succ, List.set_cons_zero])
                  | (refine own_store_all (by rfl) (by rfl) (by rfl) (by first | exact agg_vec.size | exact agg_map.size | exact agg_shot.size | exact agg_p3.size | exact agg_wide.size | exact one_int.size | exact one_int64.size | exact one_bool.size | exact one_uint8.size | exact one_uint64.size | exact one_int32.size | exact one_errno.size | exact one_bools.size | exact one_vecs.size | exact one_pint64.size) (by rfl) (by rfl) (by rfl) (by repeat (first | exact .head _ | refine .tail _ ?_)) (by rfl) (by simp [go_sem, V3.v, Pl.v, V3.cs, Pl.cs, layAt, Value.cells, Mp.v] <;> rfl) (by repeat (first | exact .here | apply Upd.there)) ?_ hR; clear hR; intro _ hR; simp only [Act.put, List.setIfInBounds_toArray, List.set_cons_succ, List.set_cons_zero])
                  | (refine own_store (by rfl) (by rfl) (by rfl) (by first | exact agg_vec.size | exact agg_map.size | exact agg_shot.size | exact agg_p3.size | exact agg_wide.size | exact one_int.size | exact one_int64.size | exact one_bool.size | exact one_uint8.size | exact one_uint64.size | exact one_int32.size | exact one_errno.size | exact one_bools.size | exact one_vecs.size | exact one_pint64.size) (by rfl) (by rfl) (by rfl) (by repeat (first | exact .head _ | refine .tail _ ?_)) (by rfl) (by simp [go_sem, V3.v, Pl.v, V3.cs, Pl.cs, layAt, Value.cells, Mp.v] <;> rfl) (by repeat (first | exact .here | apply Upd.there)) ?_ hR; clear hR; intro _ hR; simp only [Act.put, List.setIfInBounds_toArray, List.set_cons_succ, List.set_cons_zero])
                  | (refine own_max (by rfl) (by rfl) (by rfl) (by rfl) ?_; simp only [Act.put, List.setIfInBounds_toArray, List.set_cons_succ, List.set_cons_zero])
                  | (refine own_min (by rfl) (by rfl) (by rfl) (by rfl) ?_; simp only [Act.put, List.setIfInBounds_toArray, List.set_cons_succ, List.set_cons_zero])
                  | (refine own_pure (by rfl) (by intro w; simp [go_sem, V3.v, Pl.v, V3.cs, Pl.cs, layAt, Value.cells, Mp.v] <;> rfl) ?_; simp only [Act.put, List.setIfInBounds_toArray, List.set_cons_succ, List.set_cons_zero])))))
              go_roundw
              case rel =>
                refine ⟨j + 1, rfl, by omega, by omega, fun i j' h1 h2 h3 h4 => ?_, hR⟩
                by_cases h : j' = j
                · rw [h]; exact hfi i h1 (by omega)
                · exact hfj i j' h1 h2 h3 (by omega)
              case measure => show (y1 + 1 - (j + 1)).toNat < (y1 + 1 - j).toNat; omega
        ·
          have t2 := Lib.hid (decide_eq_false c2)
          have u1 : Hid (IntKind.i64.wrap (k + 1) = k + 1) := Lib.hid (IntWalk.i64_in _ (by omega))
          go_wp2_with (first
            | ((with_reducible apply is_list); repeat1' (first | rw [t2.out] | rw [u1.out] | (first
              | ((with_reducible refine own_skip ?_ ?_); (exact rfl); simp only [Act.put, List.setIfInBounds_toArray, List.set_cons_succ, List.set_cons_zero])
              | (refine own_move (by rfl) (by rfl) (by simp only [Act.eval, Array.getD_eq_getD_getElem?, List.getElem?_toArray, List.getElem?_cons_zero, List.getElem?_cons_succ, Option.getD_some] <;> rfl) ?_; simp only [Act.put, List.setIfInBounds_toArray, List.set_cons_succ, List.set_cons_zero])
              | (refine own_assign (by rfl) (by rfl) (by simp only [Act.eval, Array.getD_eq_getD_getElem?, List.getElem?_toArray, List.getElem?_cons_zero, List.getElem?_cons_succ, Option.getD_some] <;> rfl) ?_; simp only [Act.put, List.setIfInBounds_toArray, List.set_cons_succ, List.set_cons_zero])
              | (refine own_box (by rfl) (by rfl) (by simp [go_sem, V3.v, Pl.v, V3.cs, Pl.cs, layAt, Value.cells, Mp.v] <;> rfl) ?_ hR; clear hR; intro _ _ hR; simp only [Act.put, List.setIfInBounds_toArray, List.set_cons_succ, List.set_cons_zero])
              | (refine own_alloc (by rfl) (by rfl) (by first | exact zero_vec | exact zero_map | exact zero_shot | exact zero_p3 | exact zero_wide) ?_ hR; clear hR; intro _ _ hR; simp only [Act.put, List.setIfInBounds_toArray, List.set_cons_succ, List.set_cons_zero])
              | (refine own_alloc1 (by rfl) (by rfl) (by first | exact zero_int | exact zero_int64 | exact zero_bool | exact zero_uint8 | exact zero_uint64 | exact zero_int32 | exact zero_errno | exact zero_bools | exact zero_vecs | exact zero_pint64) (by simp [go_sem, V3.v, Pl.v, V3.cs, Pl.cs, layAt, Value.cells, Mp.v] <;> rfl) ?_ hR; clear hR; intro _ _ hR; simp only [Act.put, List.setIfInBounds_toArray, List.set_cons_succ, List.set_cons_zero])
              | (refine own_load_all (by rfl) (by rfl) (by rfl) (by first | exact agg_vec | exact agg_map | exact agg_shot | exact agg_p3 | exact agg_wide) (by repeat (first | exact .head _ | refine .tail _ ?_)) (by rfl) ?_ hR; clear hR; intro hR; simp only [Act.put, List.setIfInBounds_toArray, List.set_cons_succ, List.set_cons_zero])
              | (refine own_load_agg (by rfl) (by rfl) (by rfl) (by first | exact agg_vec | exact agg_map | exact agg_shot | exact agg_p3 | exact agg_wide) (by repeat (first | exact .head _ | refine .tail _ ?_)) (by rfl) (by simp [go_sem, V3.v, Pl.v, V3.cs, Pl.cs, layAt, Value.cells, Mp.v] <;> rfl) ?_ hR; clear hR; intro hR; simp only [Act.put, List.setIfInBounds_toArray, List.set_cons_succ, List.set_cons_zero])
              | (refine own_load_one (by rfl) (by rfl) (by rfl) (by first | exact one_int | exact one_int64 | exact one_bool | exact one_uint8 | exact one_uint64 | exact one_int32 | exact one_errno | exact one_bools | exact one_vecs | exact one_pint64) (by repeat (first | exact .head _ | refine .tail _ ?_)) (by simp [go_sem, V3.v, Pl.v, V3.cs, Pl.cs, layAt, Value.cells, Mp.v] <;> rfl) ?_ hR; clear hR; intro hR; simp only [Act.put, List.setIfInBounds_toArray, List.set_cons_succ, List.set_cons_zero])
              | (refine own_store_all (by rfl) (by rfl) (by rfl) (by first | exact agg_vec.size | exact agg_map.size | exact agg_shot.size | exact agg_p3.size | exact agg_wide.size | exact one_int.size | exact one_int64.size | exact one_bool.size | exact one_uint8.size | exact one_uint64.size | exact one_int32.size | exact one_errno.size | exact one_bools.size | exact one_vecs.size | exact one_pint64.size) (by rfl) (by rfl) (by rfl) (by repeat (first | exact .head _ | refine .tail _ ?_)) (by rfl) (by simp [go_sem, V3.v, Pl.v, V3.cs, Pl.cs, layAt, Value.cells, Mp.v] <;> rfl) (by repeat (first | exact .here | apply Upd.there)) ?_ hR; clear hR; intro _ hR; simp only [Act.put, List.setIfInBounds_toArray, List.set_cons_succ, List.set_cons_zero])
              | (refine own_store (by rfl) (by rfl) (by rfl) (by first | exact agg_vec.size | exact agg_map.size | exact agg_shot.size | exact agg_p3.size | exact agg_wide.size | exact one_int.size | exact one_int64.size | exact one_bool.size | exact one_uint8.size | exact one_uint64.size | exact one_int32.size | exact one_errno.size | exact one_bools.size | exact one_vecs.size | exact one_pint64.size) (by rfl) (by rfl) (by rfl) (by repeat (first | exact .head _ | refine .tail _ ?_)) (by rfl) (by simp [go_sem, V3.v, Pl.v, V3.cs, Pl.cs, layAt, Value.cells, Mp.v] <;> rfl) (by repeat (first | exact .here | apply Upd.there)) ?_ hR; clear hR; intro _ hR; simp only [Act.put, List.setIfInBounds_toArray, List.set_cons_succ, List.set_cons_zero])
              | (refine own_max (by rfl) (by rfl) (by rfl) (by rfl) ?_; simp only [Act.put, List.setIfInBounds_toArray, List.set_cons_succ, List.set_cons_zero])
              | (refine own_min (by rfl) (by rfl) (by rfl) (by rfl) ?_; simp only [Act.put, List.setIfInBounds_toArray, List.set_cons_succ, List.set_cons_zero])
              | (refine own_pure (by rfl) (by intro w; simp [go_sem, V3.v, Pl.v, V3.cs, Pl.cs, layAt, Value.cells, Mp.v] <;> rfl) ?_; simp only [Act.put, List.setIfInBounds_toArray, List.set_cons_succ, List.set_cons_zero])))))
          go_roundw
          case rel =>
            refine ⟨k + 1, rfl, by omega, by omega, fun i j k' h1 h2 h3 h4 h5 h6 => ?_, hR⟩
            by_cases h : k' = k
            · rw [h]; exact hfj i j h1 h2 h3 (by omega)
            · exact hfree i j k' h1 h2 h3 h4 h5 (by omega)
          case measure => show (z1 + 1 - (k + 1)).toNat < (z1 + 1 - k).toNat; omega
    ·
      have t1 := Lib.hid (decide_eq_false c1)
      have hT : m.clear lo hi = true := Mp.clear_true (hC.2 (fun i j k' h1 h2 h3 h4 h5 h6 => hfree i j k' h1 h2 h3 h4 h5 (by omega)))
      rw [hT] at HV
      go_wp2_with (first
        | ((with_reducible apply is_list); repeat1' (first | rw [t1.out] | (first
          | ((with_reducible refine own_skip ?_ ?_); (exact rfl); simp only [Act.put, List.setIfInBounds_toArray, List.set_cons_succ, List.set_cons_zero])
          | (refine own_move (by rfl) (by rfl) (by simp only [Act.eval, Array.getD_eq_getD_getElem?, List.getElem?_toArray, List.getElem?_cons_zero, List.getElem?_cons_succ, Option.getD_some] <;> rfl) ?_; simp only [Act.put, List.setIfInBounds_toArray, List.set_cons_succ, List.set_cons_zero])
          | (refine own_assign (by rfl) (by rfl) (by simp only [Act.eval, Array.getD_eq_getD_getElem?, List.getElem?_toArray, List.getElem?_cons_zero, List.getElem?_cons_succ, Option.getD_some] <;> rfl) ?_; simp only [Act.put, List.setIfInBounds_toArray, List.set_cons_succ, List.set_cons_zero])
          | (refine own_box (by rfl) (by rfl) (by simp [go_sem, V3.v, Pl.v, V3.cs, Pl.cs, layAt, Value.cells, Mp.v] <;> rfl) ?_ hR; clear hR; intro _ _ hR; simp only [Act.put, List.setIfInBounds_toArray, List.set_cons_succ, List.set_cons_zero])
          | (refine own_alloc (by rfl) (by rfl) (by first | exact zero_vec | exact zero_map | exact zero_shot | exact zero_p3 | exact zero_wide) ?_ hR; clear hR; intro _ _ hR; simp only [Act.put, List.setIfInBounds_toArray, List.set_cons_succ, List.set_cons_zero])
          | (refine own_alloc1 (by rfl) (by rfl) (by first | exact zero_int | exact zero_int64 | exact zero_bool | exact zero_uint8 | exact zero_uint64 | exact zero_int32 | exact zero_errno | exact zero_bools | exact zero_vecs | exact zero_pint64) (by simp [go_sem, V3.v, Pl.v, V3.cs, Pl.cs, layAt, Value.cells, Mp.v] <;> rfl) ?_ hR; clear hR; intro _ _ hR; simp only [Act.put, List.setIfInBounds_toArray, List.set_cons_succ, List.set_cons_zero])
          | (refine own_load_all (by rfl) (by rfl) (by rfl) (by first | exact agg_vec | exact agg_map | exact agg_shot | exact agg_p3 | exact agg_wide) (by repeat (first | exact .head _ | refine .tail _ ?_)) (by rfl) ?_ hR; clear hR; intro hR; simp only [Act.put, List.setIfInBounds_toArray, List.set_cons_succ, List.set_cons_zero])
          | (refine own_load_agg (by rfl) (by rfl) (by rfl) (by first | exact agg_vec | exact agg_map | exact agg_shot | exact agg_p3 | exact agg_wide) (by repeat (first | exact .head _ | refine .tail _ ?_)) (by rfl) (by simp [go_sem, V3.v, Pl.v, V3.cs, Pl.cs, layAt, Value.cells, Mp.v] <;> rfl) ?_ hR; clear hR; intro hR; simp only [Act.put, List.setIfInBounds_toArray, List.set_cons_succ, List.set_cons_zero])
          | (refine own_load_one (by rfl) (by rfl) (by rfl) (by first | exact one_int | exact one_int64 | exact one_bool | exact one_uint8 | exact one_uint64 | exact one_int32 | exact one_errno | exact one_bools | exact one_vecs | exact one_pint64) (by repeat (first | exact .head _ | refine .tail _ ?_)) (by simp [go_sem, V3.v, Pl.v, V3.cs, Pl.cs, layAt, Value.cells, Mp.v] <;> rfl) ?_ hR; clear hR; intro hR; simp only [Act.put, List.setIfInBounds_toArray, List.set_cons_succ, List.set_cons_zero])
          | (refine own_store_all (by rfl) (by rfl) (by rfl) (by first | exact agg_vec.size | exact agg_map.size | exact agg_shot.size | exact agg_p3.size | exact agg_wide.size | exact one_int.size | exact one_int64.size | exact one_bool.size | exact one_uint8.size | exact one_uint64.size | exact one_int32.size | exact one_errno.size | exact one_bools.size | exact one_vecs.size | exact one_pint64.size) (by rfl) (by rfl) (by rfl) (by repeat (first | exact .head _ | refine .tail _ ?_)) (by rfl) (by simp [go_sem, V3.v, Pl.v, V3.cs, Pl.cs, layAt, Value.cells, Mp.v] <;> rfl) (by repeat (first | exact .here | apply Upd.there)) ?_ hR; clear hR; intro _ hR; simp only [Act.put, List.setIfInBounds_toArray, List.set_cons_succ, List.set_cons_zero])
          | (refine own_store (by rfl) (by rfl) (by rfl) (by first | exact agg_vec.size | exact agg_map.size | exact agg_shot.size | exact agg_p3.size | exact agg_wide.size | exact one_int.size | exact one_int64.size | exact one_bool.size | exact one_uint8.size | exact one_uint64.size | exact one_int32.size | exact one_errno.size | exact one_bools.size | exact one_vecs.size | exact one_pint64.size) (by rfl) (by rfl) (by rfl) (by repeat (first | exact .head _ | refine .tail _ ?_)) (by rfl) (by simp [go_sem, V3.v, Pl.v, V3.cs, Pl.cs, layAt, Value.cells, Mp.v] <;> rfl) (by repeat (first | exact .here | apply Upd.there)) ?_ hR; clear hR; intro _ hR; simp only [Act.put, List.setIfInBounds_toArray, List.set_cons_succ, List.set_cons_zero])
          | (refine own_max (by rfl) (by rfl) (by rfl) (by rfl) ?_; simp only [Act.put, List.setIfInBounds_toArray, List.set_cons_succ, List.set_cons_zero])
          | (refine own_min (by rfl) (by rfl) (by rfl) (by rfl) ?_; simp only [Act.put, List.setIfInBounds_toArray, List.set_cons_succ, List.set_cons_zero])
          | (refine own_pure (by rfl) (by intro w; simp [go_sem, V3.v, Pl.v, V3.cs, Pl.cs, layAt, Value.cells, Mp.v] <;> rfl) ?_; simp only [Act.put, List.setIfInBounds_toArray, List.set_cons_succ, List.set_cons_zero])))))
      refine own_ret1 Try.results29 rfl (.tmp rfl) (fun hR => hR.ret ?_) hR
      rw [HV.out]
      rfl

set_option maxRecDepth 100000 in
set_option maxHeartbeats 4000000 in
theorem clear_top (m : Mp) (lo hi : V3) (w : World) (hm : m.fits) (hr : m.reads w) (hlo : lo.fits) (hhi : hi.fits) (e1 : lo.x < hi.x) (e2 : lo.y < hi.y) (e3 : lo.z < hi.z) (hs1 : m.solid (lo.x / 65536) (lo.y / 65536) (lo.z / 65536) = false) (hs2 : m.solid ((hi.x - 1) / 65536) ((hi.y - 1) / 65536) ((hi.z - 1) / 65536) = true) :
    Calls Try.prog 29 #[m.v, lo.v, hi.v] w (Ret w (.bool (m.clear lo hi))) := by
  obtain ⟨hsp, hone⟩ : m.sp.cells.size = 1 ∧ m.sp.oneCell' = true := ⟨hm.sp, hm.one⟩
  have fx := hhi.1; have fy := hhi.2.1; have fz := hhi.2.2
  have gx := hlo.1; have gy := hlo.2.1; have gz := hlo.2.2
  unfold In64 at fx fy fz gx gy gz
  have k1 : Hid (decide (hi.x ≤ lo.x) = false) := Lib.hid (decide_eq_false (by omega))
  have k2 : Hid (decide (hi.y ≤ lo.y) = false) := Lib.hid (decide_eq_false (by omega))
  have k3 : Hid (decide (hi.z ≤ lo.z) = false) := Lib.hid (decide_eq_false (by omega))
  have w1 : Hid (IntKind.i64.wrap (hi.x - 1) = hi.x - 1) := Lib.hid (IntWalk.i64_in _ (by omega))
  have w2 : Hid (IntKind.i64.wrap (hi.y - 1) = hi.y - 1) := Lib.hid (IntWalk.i64_in _ (by omega))
  have w3 : Hid (IntKind.i64.wrap (hi.z - 1) = hi.z - 1) := Lib.hid (IntWalk.i64_in _ (by omega))
  have a1 := fun w => at_any lo w hlo
  have a2 := fun w => at_any ⟨hi.x - 1, hi.y - 1, hi.z - 1⟩ w ⟨by show In64 (hi.x - 1); unfold In64; omega, by show In64 (hi.y - 1); unfold In64; omega, by show In64 (hi.z - 1); unfold In64; omega⟩
  have hsol := fun (x y z : Int) (w' : World) (hb : Below w.heap.size w w') => solid_any m x y z w' hm (hr.below hb)
  have hC : m.Clear lo hi ↔ m.boxFree (lo.x / 65536) ((hi.x - 1) / 65536) (lo.y / 65536) ((hi.y - 1) / 65536) (lo.z / 65536) ((hi.z - 1) / 65536) := by
    unfold Mp.Clear
    constructor
    · rintro (h | h | h | h)
      · omega
      · omega
      · omega
      · exact h
    · exact fun h => .inr (.inr (.inr h))
  have o1 : lo.x / 65536 ≤ (hi.x - 1) / 65536 := by omega
  have o2 : lo.y / 65536 ≤ (hi.y - 1) / 65536 := by omega
  have o3 : lo.z / 65536 ≤ (hi.z - 1) / 65536 := by omega
  unfold V3.cellOf at a1 a2
  simp only at a2
  generalize hx0 : lo.x / 65536 = x0 at *
  generalize hx1 : (hi.x - 1) / 65536 = x1 at *
  generalize hy0 : lo.y / 65536 = y0 at *
  generalize hy1 : (hi.y - 1) / 65536 = y1 at *
  generalize hz0 : lo.z / 65536 = z0 at *
  generalize hz1 : (hi.z - 1) / 65536 = z1 at *
  clear hx0 hx1 hy0 hy1 hz0 hz1 fx fy fz gx gy gz e1 e2 e3 hm hr hlo hhi
  have s1 := hsol x0 y0 z0
  have s2 := hsol x1 y1 z1
  rw [hs1] at s1
  rw [hs2] at s2
  have hF : m.clear lo hi = false := Mp.clear_false (fun h => by
    have := (hC.1 h) x1 y1 z1 o1 (Int.le_refl _) o2 (Int.le_refl _) o3 (Int.le_refl _)
    rw [hs2] at this; cases this)
  rw [hF]
  clear hC o1 o2 o3
  refine calls_hide fun V HV => ?_
  have hR := Own.start w
  go_enter Try.func29, Try.ntmps29
  go_wp2_with (first
    | ((with_reducible apply is_list); repeat1' (first | rw [k1.out] | rw [k2.out] | rw [k3.out] | (first
      | ((with_reducible refine own_skip ?_ ?_); (exact rfl); simp only [Act.put, List.setIfInBounds_toArray, List.set_cons_succ, List.set_cons_zero])
      | (refine own_move (by rfl) (by rfl) (by simp only [Act.eval, Array.getD_eq_getD_getElem?, List.getElem?_toArray, List.getElem?_cons_zero, List.getElem?_cons_succ, Option.getD_some] <;> rfl) ?_; simp only [Act.put, List.setIfInBounds_toArray, List.set_cons_succ, List.set_cons_zero])
      | (refine own_assign (by rfl) (by rfl) (by simp only [Act.eval, Array.getD_eq_getD_getElem?, List.getElem?_toArray, List.getElem?_cons_zero, List.getElem?_cons_succ, Option.getD_some] <;> rfl) ?_; simp only [Act.put, List.setIfInBounds_toArray, List.set_cons_succ, List.set_cons_zero])
      | (refine own_box (by rfl) (by rfl) (by simp [go_sem, V3.v, Pl.v, V3.cs, Pl.cs, layAt, Value.cells, Mp.v] <;> rfl) ?_ hR; clear hR; intro _ _ hR; simp only [Act.put, List.setIfInBounds_toArray, List.set_cons_succ, List.set_cons_zero])
      | (refine own_alloc (by rfl) (by rfl) (by first | exact zero_vec | exact zero_map | exact zero_shot | exact zero_p3 | exact zero_wide) ?_ hR; clear hR; intro _ _ hR; simp only [Act.put, List.setIfInBounds_toArray, List.set_cons_succ, List.set_cons_zero])
      | (refine own_alloc1 (by rfl) (by rfl) (by first | exact zero_int | exact zero_int64 | exact zero_bool | exact zero_uint8 | exact zero_uint64 | exact zero_int32 | exact zero_errno | exact zero_bools | exact zero_vecs | exact zero_pint64) (by simp [go_sem, V3.v, Pl.v, V3.cs, Pl.cs, layAt, Value.cells, Mp.v] <;> rfl) ?_ hR; clear hR; intro _ _ hR; simp only [Act.put, List.setIfInBounds_toArray, List.set_cons_succ, List.set_cons_zero])
      | (refine own_load_all (by rfl) (by rfl) (by rfl) (by first | exact agg_vec | exact agg_map | exact agg_shot | exact agg_p3 | exact agg_wide) (by repeat (first | exact .head _ | refine .tail _ ?_)) (by rfl) ?_ hR; clear hR; intro hR; simp only [Act.put, List.setIfInBounds_toArray, List.set_cons_succ, List.set_cons_zero])
      | (refine own_load_agg (by rfl) (by rfl) (by rfl) (by first | exact agg_vec | exact agg_map | exact agg_shot | exact agg_p3 | exact agg_wide) (by repeat (first | exact .head _ | refine .tail _ ?_)) (by rfl) (by simp [go_sem, V3.v, Pl.v, V3.cs, Pl.cs, layAt, Value.cells, Mp.v] <;> rfl) ?_ hR; clear hR; intro hR; simp only [Act.put, List.setIfInBounds_toArray, List.set_cons_succ, List.set_cons_zero])
      | (refine own_load_one (by rfl) (by rfl) (by rfl) (by first | exact one_int | exact one_int64 | exact one_bool | exact one_uint8 | exact one_uint64 | exact one_int32 | exact one_errno | exact one_bools | exact one_vecs | exact one_pint64) (by repeat (first | exact .head _ | refine .tail _ ?_)) (by simp [go_sem, V3.v, Pl.v, V3.cs, Pl.cs, layAt, Value.cells, Mp.v] <;> rfl) ?_ hR; clear hR; intro hR; simp only [Act.put, List.setIfInBounds_toArray, List.set_cons_succ, List.set_cons_zero])
      | (refine own_store_all (by rfl) (by rfl) (by rfl) (by first | exact agg_vec.size | exact agg_map.size | exact agg_shot.size | exact agg_p3.size | exact agg_wide.size | exact one_int.size | exact one_int64.size | exact one_bool.size | exact one_uint8.size | exact one_uint64.size | exact one_int32.size | exact one_errno.size | exact one_bools.size | exact one_vecs.size | exact one_pint64.size) (by rfl) (by rfl) (by rfl) (by repeat (first | exact .head _ | refine .tail _ ?_)) (by rfl) (by simp [go_sem, V3.v, Pl.v, V3.cs, Pl.cs, layAt, Value.cells, Mp.v] <;> rfl) (by repeat (first | exact .here | apply Upd.there)) ?_ hR; clear hR; intro _ hR; simp only [Act.put, List.setIfInBounds_toArray, List.set_cons_succ, List.set_cons_zero])
      | (refine own_store (by rfl) (by rfl) (by rfl) (by first | exact agg_vec.size | exact agg_map.size | exact agg_shot.size | exact agg_p3.size | exact agg_wide.size | exact one_int.size | exact one_int64.size | exact one_bool.size | exact one_uint8.size | exact one_uint64.size | exact one_int32.size | exact one_errno.size | exact one_bools.size | exact one_vecs.size | exact one_pint64.size) (by rfl) (by rfl) (by rfl) (by repeat (first | exact .head _ | refine .tail _ ?_)) (by rfl) (by simp [go_sem, V3.v, Pl.v, V3.cs, Pl.cs, layAt, Value.cells, Mp.v] <;> rfl) (by repeat (first | exact .here | apply Upd.there)) ?_ hR; clear hR; intro _ hR; simp only [Act.put, List.setIfInBounds_toArray, List.set_cons_succ, List.set_cons_zero])
      | (refine own_max (by rfl) (by rfl) (by rfl) (by rfl) ?_; simp only [Act.put, List.setIfInBounds_toArray, List.set_cons_succ, List.set_cons_zero])
      | (refine own_min (by rfl) (by rfl) (by rfl) (by rfl) ?_; simp only [Act.put, List.setIfInBounds_toArray, List.set_cons_succ, List.set_cons_zero])
      | (refine own_pure (by rfl) (by intro w; simp [go_sem, V3.v, Pl.v, V3.cs, Pl.cs, layAt, Value.cells, Mp.v] <;> rfl) ?_; simp only [Act.put, List.setIfInBounds_toArray, List.set_cons_succ, List.set_cons_zero])))))
  refine own_call (a1 _) ?_ hR; clear hR; intro _ hR
  go_wp2_with (first
    | ((with_reducible apply is_list); repeat1' (first | rw [w1.out] | rw [w2.out] | rw [w3.out] | (first
      | ((with_reducible refine own_skip ?_ ?_); (exact rfl); simp only [Act.put, List.setIfInBounds_toArray, List.set_cons_succ, List.set_cons_zero])
      | (refine own_move (by rfl) (by rfl) (by simp only [Act.eval, Array.getD_eq_getD_getElem?, List.getElem?_toArray, List.getElem?_cons_zero, List.getElem?_cons_succ, Option.getD_some] <;> rfl) ?_; simp only [Act.put, List.setIfInBounds_toArray, List.set_cons_succ, List.set_cons_zero])
      | (refine own_assign (by rfl) (by rfl) (by simp only [Act.eval, Array.getD_eq_getD_getElem?, List.getElem?_toArray, List.getElem?_cons_zero, List.getElem?_cons_succ, Option.getD_some] <;> rfl) ?_; simp only [Act.put, List.setIfInBounds_toArray, List.set_cons_succ, List.set_cons_zero])
      | (refine own_box (by rfl) (by rfl) (by simp [go_sem, V3.v, Pl.v, V3.cs, Pl.cs, layAt, Value.cells, Mp.v] <;> rfl) ?_ hR; clear hR; intro _ _ hR; simp only [Act.put, List.setIfInBounds_toArray, List.set_cons_succ, List.set_cons_zero])
      | (refine own_alloc (by rfl) (by rfl) (by first | exact zero_vec | exact zero_map | exact zero_shot | exact zero_p3 | exact zero_wide) ?_ hR; clear hR; intro _ _ hR; simp only [Act.put, List.setIfInBounds_toArray, List.set_cons_succ, List.set_cons_zero])
      | (refine own_alloc1 (by rfl) (by rfl) (by first | exact zero_int | exact zero_int64 | exact zero_bool | exact zero_uint8 | exact zero_uint64 | exact zero_int32 | exact zero_errno | exact zero_bools | exact zero_vecs | exact zero_pint64) (by simp [go_sem, V3.v, Pl.v, V3.cs, Pl.cs, layAt, Value.cells, Mp.v] <;> rfl) ?_ hR; clear hR; intro _ _ hR; simp only [Act.put, List.setIfInBounds_toArray, List.set_cons_succ, List.set_cons_zero])
      | (refine own_load_all (by rfl) (by rfl) (by rfl) (by first | exact agg_vec | exact agg_map | exact agg_shot | exact agg_p3 | exact agg_wide) (by repeat (first | exact .head _ | refine .tail _ ?_)) (by rfl) ?_ hR; clear hR; intro hR; simp only [Act.put, List.setIfInBounds_toArray, List.set_cons_succ, List.set_cons_zero])
      | (refine own_load_agg (by rfl) (by rfl) (by rfl) (by first | exact agg_vec | exact agg_map | exact agg_shot | exact agg_p3 | exact agg_wide) (by repeat (first | exact .head _ | refine .tail _ ?_)) (by rfl) (by simp [go_sem, V3.v, Pl.v, V3.cs, Pl.cs, layAt, Value.cells, Mp.v] <;> rfl) ?_ hR; clear hR; intro hR; simp only [Act.put, List.setIfInBounds_toArray, List.set_cons_succ, List.set_cons_zero])
      | (refine own_load_one (by rfl) (by rfl) (by rfl) (by first | exact one_int | exact one_int64 | exact one_bool | exact one_uint8 | exact one_uint64 | exact one_int32 | exact one_errno | exact one_bools | exact one_vecs | exact one_pint64) (by repeat (first | exact .head _ | refine .tail _ ?_)) (by simp [go_sem, V3.v, Pl.v, V3.cs, Pl.cs, layAt, Value.cells, Mp.v] <;> rfl) ?_ hR; clear hR; intro hR; simp only [Act.put, List.setIfInBounds_toArray, List.set_cons_succ, List.set_cons_zero])
      | (refine own_store_all (by rfl) (by rfl) (by rfl) (by first | exact agg_vec.size | exact agg_map.size | exact agg_shot.size | exact agg_p3.size | exact agg_wide.size | exact one_int.size | exact one_int64.size | exact one_bool.size | exact one_uint8.size | exact one_uint64.size | exact one_int32.size | exact one_errno.size | exact one_bools.size | exact one_vecs.size | exact one_pint64.size) (by rfl) (by rfl) (by rfl) (by repeat (first | exact .head _ | refine .tail _ ?_)) (by rfl) (by simp [go_sem, V3.v, Pl.v, V3.cs, Pl.cs, layAt, Value.cells, Mp.v] <;> rfl) (by repeat (first | exact .here | apply Upd.there)) ?_ hR; clear hR; intro _ hR; simp only [Act.put, List.setIfInBounds_toArray, List.set_cons_succ, List.set_cons_zero])
      | (refine own_store (by rfl) (by rfl) (by rfl) (by first | exact agg_vec.size | exact agg_map.size | exact agg_shot.size | exact agg_p3.size | exact agg_wide.size | exact one_int.size | exact one_int64.size | exact one_bool.size | exact one_uint8.size | exact one_uint64.size | exact one_int32.size | exact one_errno.size | exact one_bools.size | exact one_vecs.size | exact one_pint64.size) (by rfl) (by rfl) (by rfl) (by repeat (first | exact .head _ | refine .tail _ ?_)) (by rfl) (by simp [go_sem, V3.v, Pl.v, V3.cs, Pl.cs, layAt, Value.cells, Mp.v] <;> rfl) (by repeat (first | exact .here | apply Upd.there)) ?_ hR; clear hR; intro _ hR; simp only [Act.put, List.setIfInBounds_toArray, List.set_cons_succ, List.set_cons_zero])
      | (refine own_max (by rfl) (by rfl) (by rfl) (by rfl) ?_; simp only [Act.put, List.setIfInBounds_toArray, List.set_cons_succ, List.set_cons_zero])
      | (refine own_min (by rfl) (by rfl) (by rfl) (by rfl) ?_; simp only [Act.put, List.setIfInBounds_toArray, List.set_cons_succ, List.set_cons_zero])
      | (refine own_pure (by rfl) (by intro w; simp [go_sem, V3.v, Pl.v, V3.cs, Pl.cs, layAt, Value.cells, Mp.v] <;> rfl) ?_; simp only [Act.put, List.setIfInBounds_toArray, List.set_cons_succ, List.set_cons_zero])))))
  refine own_call (a2 _) ?_ hR; clear hR; intro _ hR
  go_wp2_with (first
    | ((with_reducible apply is_list); repeat1' (first | fail | (first
      | ((with_reducible refine own_skip ?_ ?_); (exact rfl); simp only [Act.put, List.setIfInBounds_toArray, List.set_cons_succ, List.set_cons_zero])
      | (refine own_move (by rfl) (by rfl) (by simp only [Act.eval, Array.getD_eq_getD_getElem?, List.getElem?_toArray, List.getElem?_cons_zero, List.getElem?_cons_succ, Option.getD_some] <;> rfl) ?_; simp only [Act.put, List.setIfInBounds_toArray, List.set_cons_succ, List.set_cons_zero])
      | (refine own_assign (by rfl) (by rfl) (by simp only [Act.eval, Array.getD_eq_getD_getElem?, List.getElem?_toArray, List.getElem?_cons_zero, List.getElem?_cons_succ, Option.getD_some] <;> rfl) ?_; simp only [Act.put, List.setIfInBounds_toArray, List.set_cons_succ, List.set_cons_zero])
      | (refine own_box (by rfl) (by rfl) (by simp [go_sem, V3.v, Pl.v, V3.cs, Pl.cs, layAt, Value.cells, Mp.v] <;> rfl) ?_ hR; clear hR; intro _ _ hR; simp only [Act.put, List.setIfInBounds_toArray, List.set_cons_succ, List.set_cons_zero])
      | (refine own_alloc (by rfl) (by rfl) (by first | exact zero_vec | exact zero_map | exact zero_shot | exact zero_p3 | exact zero_wide) ?_ hR; clear hR; intro _ _ hR; simp only [Act.put, List.setIfInBounds_toArray, List.set_cons_succ, List.set_cons_zero])
      | (refine own_alloc1 (by rfl) (by rfl) (by first | exact zero_int | exact zero_int64 | exact zero_bool | exact zero_uint8 | exact zero_uint64 | exact zero_int32 | exact zero_errno | exact zero_bools | exact zero_vecs | exact zero_pint64) (by simp [go_sem, V3.v, Pl.v, V3.cs, Pl.cs, layAt, Value.cells, Mp.v] <;> rfl) ?_ hR; clear hR; intro _ _ hR; simp only [Act.put, List.setIfInBounds_toArray, List.set_cons_succ, List.set_cons_zero])
      | (refine own_load_all (by rfl) (by rfl) (by rfl) (by first | exact agg_vec | exact agg_map | exact agg_shot | exact agg_p3 | exact agg_wide) (by repeat (first | exact .head _ | refine .tail _ ?_)) (by rfl) ?_ hR; clear hR; intro hR; simp only [Act.put, List.setIfInBounds_toArray, List.set_cons_succ, List.set_cons_zero])
      | (refine own_load_agg (by rfl) (by rfl) (by rfl) (by first | exact agg_vec | exact agg_map | exact agg_shot | exact agg_p3 | exact agg_wide) (by repeat (first | exact .head _ | refine .tail _ ?_)) (by rfl) (by simp [go_sem, V3.v, Pl.v, V3.cs, Pl.cs, layAt, Value.cells, Mp.v] <;> rfl) ?_ hR; clear hR; intro hR; simp only [Act.put, List.setIfInBounds_toArray, List.set_cons_succ, List.set_cons_zero])
      | (refine own_load_one (by rfl) (by rfl) (by rfl) (by first | exact one_int | exact one_int64 | exact one_bool | exact one_uint8 | exact one_uint64 | exact one_int32 | exact one_errno | exact one_bools | exact one_vecs | exact one_pint64) (by repeat (first | exact .head _ | refine .tail _ ?_)) (by simp [go_sem, V3.v, Pl.v, V3.cs, Pl.cs, layAt, Value.cells, Mp.v] <;> rfl) ?_ hR; clear hR; intro hR; simp only [Act.put, List.setIfInBounds_toArray, List.set_cons_succ, List.set_cons_zero])
      | (refine own_store_all (by rfl) (by rfl) (by rfl) (by first | exact agg_vec.size | exact agg_map.size | exact agg_shot.size | exact agg_p3.size | exact agg_wide.size | exact one_int.size | exact one_int64.size | exact one_bool.size | exact one_uint8.size | exact one_uint64.size | exact one_int32.size | exact one_errno.size | exact one_bools.size | exact one_vecs.size | exact one_pint64.size) (by rfl) (by rfl) (by rfl) (by repeat (first | exact .head _ | refine .tail _ ?_)) (by rfl) (by simp [go_sem, V3.v, Pl.v, V3.cs, Pl.cs, layAt, Value.cells, Mp.v] <;> rfl) (by repeat (first | exact .here | apply Upd.there)) ?_ hR; clear hR; intro _ hR; simp only [Act.put, List.setIfInBounds_toArray, List.set_cons_succ, List.set_cons_zero])
      | (refine own_store (by rfl) (by rfl) (by rfl) (by first | exact agg_vec.size | exact agg_map.size | exact agg_shot.size | exact agg_p3.size | exact agg_wide.size | exact one_int.size | exact one_int64.size | exact one_bool.size | exact one_uint8.size | exact one_uint64.size | exact one_int32.size | exact one_errno.size | exact one_bools.size | exact one_vecs.size | exact one_pint64.size) (by rfl) (by rfl) (by rfl) (by repeat (first | exact .head _ | refine .tail _ ?_)) (by rfl) (by simp [go_sem, V3.v, Pl.v, V3.cs, Pl.cs, layAt, Value.cells, Mp.v] <;> rfl) (by repeat (first | exact .here | apply Upd.there)) ?_ hR; clear hR; intro _ hR; simp only [Act.put, List.setIfInBounds_toArray, List.set_cons_succ, List.set_cons_zero])
      | (refine own_max (by rfl) (by rfl) (by rfl) (by rfl) ?_; simp only [Act.put, List.setIfInBounds_toArray, List.set_cons_succ, List.set_cons_zero])
      | (refine own_min (by rfl) (by rfl) (by rfl) (by rfl) ?_; simp only [Act.put, List.setIfInBounds_toArray, List.set_cons_succ, List.set_cons_zero])
      | (refine own_pure (by rfl) (by intro w; simp [go_sem, V3.v, Pl.v, V3.cs, Pl.cs, layAt, Value.cells, Mp.v] <;> rfl) ?_; simp only [Act.put, List.setIfInBounds_toArray, List.set_cons_succ, List.set_cons_zero])))))
  refine own_call (s1 _ hR.below) ?_ hR; clear hR; intro _ hR
  go_wp2_with (first
    | ((with_reducible apply is_list); repeat1' (first | fail | (first
      | ((with_reducible refine own_skip ?_ ?_); (exact rfl); simp only [Act.put, List.setIfInBounds_toArray, List.set_cons_succ, List.set_cons_zero])
      | (refine own_move (by rfl) (by rfl) (by simp only [Act.eval, Array.getD_eq_getD_getElem?, List.getElem?_toArray, List.getElem?_cons_zero, List.getElem?_cons_succ, Option.getD_some] <;> rfl) ?_; simp only [Act.put, List.setIfInBounds_toArray, List.set_cons_succ, List.set_cons_zero])
      | (refine own_assign (by rfl) (by rfl) (by simp only [Act.eval, Array.getD_eq_getD_getElem?, List.getElem?_toArray, List.getElem?_cons_zero, List.getElem?_cons_succ, Option.getD_some] <;> rfl) ?_; simp only [Act.put, List.setIfInBounds_toArray, List.set_cons_succ, List.set_cons_zero])
      | (refine own_box (by rfl) (by rfl) (by simp [go_sem, V3.v, Pl.v, V3.cs, Pl.cs, layAt, Value.cells, Mp.v] <;> rfl) ?_ hR; clear hR; intro _ _ hR; simp only [Act.put, List.setIfInBounds_toArray, List.set_cons_succ, List.set_cons_zero])
      | (refine own_alloc (by rfl) (by rfl) (by first | exact zero_vec | exact zero_map | exact zero_shot | exact zero_p3 | exact zero_wide) ?_ hR; clear hR; intro _ _ hR; simp only [Act.put, List.setIfInBounds_toArray, List.set_cons_succ, List.set_cons_zero])
      | (refine own_alloc1 (by rfl) (by rfl) (by first | exact zero_int | exact zero_int64 | exact zero_bool | exact zero_uint8 | exact zero_uint64 | exact zero_int32 | exact zero_errno | exact zero_bools | exact zero_vecs | exact zero_pint64) (by simp [go_sem, V3.v, Pl.v, V3.cs, Pl.cs, layAt, Value.cells, Mp.v] <;> rfl) ?_ hR; clear hR; intro _ _ hR; simp only [Act.put, List.setIfInBounds_toArray, List.set_cons_succ, List.set_cons_zero])
      | (refine own_load_all (by rfl) (by rfl) (by rfl) (by first | exact agg_vec | exact agg_map | exact agg_shot | exact agg_p3 | exact agg_wide) (by repeat (first | exact .head _ | refine .tail _ ?_)) (by rfl) ?_ hR; clear hR; intro hR; simp only [Act.put, List.setIfInBounds_toArray, List.set_cons_succ, List.set_cons_zero])
      | (refine own_load_agg (by rfl) (by rfl) (by rfl) (by first | exact agg_vec | exact agg_map | exact agg_shot | exact agg_p3 | exact agg_wide) (by repeat (first | exact .head _ | refine .tail _ ?_)) (by rfl) (by simp [go_sem, V3.v, Pl.v, V3.cs, Pl.cs, layAt, Value.cells, Mp.v] <;> rfl) ?_ hR; clear hR; intro hR; simp only [Act.put, List.setIfInBounds_toArray, List.set_cons_succ, List.set_cons_zero])
      | (refine own_load_one (by rfl) (by rfl) (by rfl) (by first | exact one_int | exact one_int64 | exact one_bool | exact one_uint8 | exact one_uint64 | exact one_int32 | exact one_errno | exact one_bools | exact one_vecs | exact one_pint64) (by repeat (first | exact .head _ | refine .tail _ ?_)) (by simp [go_sem, V3.v, Pl.v, V3.cs, Pl.cs, layAt, Value.cells, Mp.v] <;> rfl) ?_ hR; clear hR; intro hR; simp only [Act.put, List.setIfInBounds_toArray, List.set_cons_succ, List.set_cons_zero])
      | (refine own_store_all (by rfl) (by rfl) (by rfl) (by first | exact agg_vec.size | exact agg_map.size | exact agg_shot.size | exact agg_p3.size | exact agg_wide.size | exact one_int.size | exact one_int64.size | exact one_bool.size | exact one_uint8.size | exact one_uint64.size | exact one_int32.size | exact one_errno.size | exact one_bools.size | exact one_vecs.size | exact one_pint64.size) (by rfl) (by rfl) (by rfl) (by repeat (first | exact .head _ | refine .tail _ ?_)) (by rfl) (by simp [go_sem, V3.v, Pl.v, V3.cs, Pl.cs, layAt, Value.cells, Mp.v] <;> rfl) (by repeat (first | exact .here | apply Upd.there)) ?_ hR; clear hR; intro _ hR; simp only [Act.put, List.setIfInBounds_toArray, List.set_cons_succ, List.set_cons_zero])
      | (refine own_store (by rfl) (by rfl) (by rfl) (by first | exact agg_vec.size | exact agg_map.size | exact agg_shot.size | exact agg_p3.size | exact agg_wide.size | exact one_int.size | exact one_int64.size | exact one_bool.size | exact one_uint8.size | exact one_uint64.size | exact one_int32.size | exact one_errno.size | exact one_bools.size | exact one_vecs.size | exact one_pint64.size) (by rfl) (by rfl) (by rfl) (by repeat (first | exact .head _ | refine .tail _ ?_)) (by rfl) (by simp [go_sem, V3.v, Pl.v, V3.cs, Pl.cs, layAt, Value.cells, Mp.v] <;> rfl) (by repeat (first | exact .here | apply Upd.there)) ?_ hR; clear hR; intro _ hR; simp only [Act.put, List.setIfInBounds_toArray, List.set_cons_succ, List.set_cons_zero])
      | (refine own_max (by rfl) (by rfl) (by rfl) (by rfl) ?_; simp only [Act.put, List.setIfInBounds_toArray, List.set_cons_succ, List.set_cons_zero])
      | (refine own_min (by rfl) (by rfl) (by rfl) (by rfl) ?_; simp only [Act.put, List.setIfInBounds_toArray, List.set_cons_succ, List.set_cons_zero])
      | (refine own_pure (by rfl) (by intro w; simp [go_sem, V3.v, Pl.v, V3.cs, Pl.cs, layAt, Value.cells, Mp.v] <;> rfl) ?_; simp only [Act.put, List.setIfInBounds_toArray, List.set_cons_succ, List.set_cons_zero])))))
  refine own_call (s2 _ hR.below) ?_ hR; clear hR; intro _ hR
  go_wp2_with (first
    | ((with_reducible apply is_list); repeat1' (first | fail | (first
      | ((with_reducible refine own_skip ?_ ?_); (exact rfl); simp only [Act.put, List.setIfInBounds_toArray, List.set_cons_succ, List.set_cons_zero])
      | (refine own_move (by rfl) (by rfl) (by simp only [Act.eval, Array.getD_eq_getD_getElem?, List.getElem?_toArray, List.getElem?_cons_zero, List.getElem?_cons_succ, Option.getD_some] <;> rfl) ?_; simp only [Act.put, List.setIfInBounds_toArray, List.set_cons_succ, List.set_cons_zero])
      | (refine own_assign (by rfl) (by rfl) (by simp only [Act.eval, Array.getD_eq_getD_getElem?, List.getElem?_toArray, List.getElem?_cons_zero, List.getElem?_cons_succ, Option.getD_some] <;> rfl) ?_; simp only [Act.put, List.setIfInBounds_toArray, List.set_cons_succ, List.set_cons_zero])
      | (refine own_box (by rfl) (by rfl) (by simp [go_sem, V3.v, Pl.v, V3.cs, Pl.cs, layAt, Value.cells, Mp.v] <;> rfl) ?_ hR; clear hR; intro _ _ hR; simp only [Act.put, List.setIfInBounds_toArray, List.set_cons_succ, List.set_cons_zero])
      | (refine own_alloc (by rfl) (by rfl) (by first | exact zero_vec | exact zero_map | exact zero_shot | exact zero_p3 | exact zero_wide) ?_ hR; clear hR; intro _ _ hR; simp only [Act.put, List.setIfInBounds_toArray, List.set_cons_succ, List.set_cons_zero])
      | (refine own_alloc1 (by rfl) (by rfl) (by first | exact zero_int | exact zero_int64 | exact zero_bool | exact zero_uint8 | exact zero_uint64 | exact zero_int32 | exact zero_errno | exact zero_bools | exact zero_vecs | exact zero_pint64) (by simp [go_sem, V3.v, Pl.v, V3.cs, Pl.cs, layAt, Value.cells, Mp.v] <;> rfl) ?_ hR; clear hR; intro _ _ hR; simp only [Act.put, List.setIfInBounds_toArray, List.set_cons_succ, List.set_cons_zero])
      | (refine own_load_all (by rfl) (by rfl) (by rfl) (by first | exact agg_vec | exact agg_map | exact agg_shot | exact agg_p3 | exact agg_wide) (by repeat (first | exact .head _ | refine .tail _ ?_)) (by rfl) ?_ hR; clear hR; intro hR; simp only [Act.put, List.setIfInBounds_toArray, List.set_cons_succ, List.set_cons_zero])
      | (refine own_load_agg (by rfl) (by rfl) (by rfl) (by first | exact agg_vec | exact agg_map | exact agg_shot | exact agg_p3 | exact agg_wide) (by repeat (first | exact .head _ | refine .tail _ ?_)) (by rfl) (by simp [go_sem, V3.v, Pl.v, V3.cs, Pl.cs, layAt, Value.cells, Mp.v] <;> rfl) ?_ hR; clear hR; intro hR; simp only [Act.put, List.setIfInBounds_toArray, List.set_cons_succ, List.set_cons_zero])
      | (refine own_load_one (by rfl) (by rfl) (by rfl) (by first | exact one_int | exact one_int64 | exact one_bool | exact one_uint8 | exact one_uint64 | exact one_int32 | exact one_errno | exact one_bools | exact one_vecs | exact one_pint64) (by repeat (first | exact .head _ | refine .tail _ ?_)) (by simp [go_sem, V3.v, Pl.v, V3.cs, Pl.cs, layAt, Value.cells, Mp.v] <;> rfl) ?_ hR; clear hR; intro hR; simp only [Act.put, List.setIfInBounds_toArray, List.set_cons_succ, List.set_cons_zero])
      | (refine own_store_all (by rfl) (by rfl) (by rfl) (by first | exact agg_vec.size | exact agg_map.size | exact agg_shot.size | exact agg_p3.size | exact agg_wide.size | exact one_int.size | exact one_int64.size | exact one_bool.size | exact one_uint8.size | exact one_uint64.size | exact one_int32.size | exact one_errno.size | exact one_bools.size | exact one_vecs.size | exact one_pint64.size) (by rfl) (by rfl) (by rfl) (by repeat (first | exact .head _ | refine .tail _ ?_)) (by rfl) (by simp [go_sem, V3.v, Pl.v, V3.cs, Pl.cs, layAt, Value.cells, Mp.v] <;> rfl) (by repeat (first | exact .here | apply Upd.there)) ?_ hR; clear hR; intro _ hR; simp only [Act.put, List.setIfInBounds_toArray, List.set_cons_succ, List.set_cons_zero])
      | (refine own_store (by rfl) (by rfl) (by rfl) (by first | exact agg_vec.size | exact agg_map.size | exact agg_shot.size | exact agg_p3.size | exact agg_wide.size | exact one_int.size | exact one_int64.size | exact one_bool.size | exact one_uint8.size | exact one_uint64.size | exact one_int32.size | exact one_errno.size | exact one_bools.size | exact one_vecs.size | exact one_pint64.size) (by rfl) (by rfl) (by rfl) (by repeat (first | exact .head _ | refine .tail _ ?_)) (by rfl) (by simp [go_sem, V3.v, Pl.v, V3.cs, Pl.cs, layAt, Value.cells, Mp.v] <;> rfl) (by repeat (first | exact .here | apply Upd.there)) ?_ hR; clear hR; intro _ hR; simp only [Act.put, List.setIfInBounds_toArray, List.set_cons_succ, List.set_cons_zero])
      | (refine own_max (by rfl) (by rfl) (by rfl) (by rfl) ?_; simp only [Act.put, List.setIfInBounds_toArray, List.set_cons_succ, List.set_cons_zero])
      | (refine own_min (by rfl) (by rfl) (by rfl) (by rfl) ?_; simp only [Act.put, List.setIfInBounds_toArray, List.set_cons_succ, List.set_cons_zero])
      | (refine own_pure (by rfl) (by intro w; simp [go_sem, V3.v, Pl.v, V3.cs, Pl.cs, layAt, Value.cells, Mp.v] <;> rfl) ?_; simp only [Act.put, List.setIfInBounds_toArray, List.set_cons_succ, List.set_cons_zero])))))
  refine own_ret1 Try.results29 rfl (.tmp rfl) (fun hR => hR.ret ?_) hR
  rw [HV.out]
  rfl

set_option maxRecDepth 100000 in
set_option maxHeartbeats 4000000 in
theorem clear_low (m : Mp) (lo hi : V3) (w : World) (hm : m.fits) (hr : m.reads w) (hlo : lo.fits) (hhi : hi.fits) (e1 : lo.x < hi.x) (e2 : lo.y < hi.y) (e3 : lo.z < hi.z) (hs1 : m.solid (lo.x / 65536) (lo.y / 65536) (lo.z / 65536) = true) :
    Calls Try.prog 29 #[m.v, lo.v, hi.v] w (Ret w (.bool (m.clear lo hi))) := by
  obtain ⟨hsp, hone⟩ : m.sp.cells.size = 1 ∧ m.sp.oneCell' = true := ⟨hm.sp, hm.one⟩
  have fx := hhi.1; have fy := hhi.2.1; have fz := hhi.2.2
  have gx := hlo.1; have gy := hlo.2.1; have gz := hlo.2.2
  unfold In64 at fx fy fz gx gy gz
  have k1 : Hid (decide (hi.x ≤ lo.x) = false) := Lib.hid (decide_eq_false (by omega))
  have k2 : Hid (decide (hi.y ≤ lo.y) = false) := Lib.hid (decide_eq_false (by omega))
  have k3 : Hid (decide (hi.z ≤ lo.z) = false) := Lib.hid (decide_eq_false (by omega))
  have w1 : Hid (IntKind.i64.wrap (hi.x - 1) = hi.x - 1) := Lib.hid (IntWalk.i64_in _ (by omega))
  have w2 : Hid (IntKind.i64.wrap (hi.y - 1) = hi.y - 1) := Lib.hid (IntWalk.i64_in _ (by omega))
  have w3 : Hid (IntKind.i64.wrap (hi.z - 1) = hi.z - 1) := Lib.hid (IntWalk.i64_in _ (by omega))
  have a1 := fun w => at_any lo w hlo
  have a2 := fun w => at_any ⟨hi.x - 1, hi.y - 1, hi.z - 1⟩ w ⟨by show In64 (hi.x - 1); unfold In64; omega, by show In64 (hi.y - 1); unfold In64; omega, by show In64 (hi.z - 1); unfold In64; omega⟩
  have hsol := fun (x y z : Int) (w' : World) (hb : Below w.heap.size w w') => solid_any m x y z w' hm (hr.below hb)
  have hC : m.Clear lo hi ↔ m.boxFree (lo.x / 65536) ((hi.x - 1) / 65536) (lo.y / 65536) ((hi.y - 1) / 65536) (lo.z / 65536) ((hi.z - 1) / 65536) := by
    unfold Mp.Clear
    constructor
    · rintro (h | h | h | h)
      · omega
      · omega
      · omega
      · exact h
    · exact fun h => .inr (.inr (.inr h))
  have o1 : lo.x / 65536 ≤ (hi.x - 1) / 65536 := by omega
  have o2 : lo.y / 65536 ≤ (hi.y - 1) / 65536 := by omega
  have o3 : lo.z / 65536 ≤ (hi.z - 1) / 65536 := by omega
  unfold V3.cellOf at a1 a2
  simp only at a2
  generalize hx0 : lo.x / 65536 = x0 at *
  generalize hx1 : (hi.x - 1) / 65536 = x1 at *
  generalize hy0 : lo.y / 65536 = y0 at *
  generalize hy1 : (hi.y - 1) / 65536 = y1 at *
  generalize hz0 : lo.z / 65536 = z0 at *
  generalize hz1 : (hi.z - 1) / 65536 = z1 at *
  clear hx0 hx1 hy0 hy1 hz0 hz1 fx fy fz gx gy gz e1 e2 e3 hm hr hlo hhi
  have s1 := hsol x0 y0 z0
  have s2 := hsol x1 y1 z1
  rw [hs1] at s1
  have hF : m.clear lo hi = false := Mp.clear_false (fun h => by
    have := (hC.1 h) x0 y0 z0 (Int.le_refl _) o1 (Int.le_refl _) o2 (Int.le_refl _) o3
    rw [hs1] at this; cases this)
  rw [hF]
  clear hC o1 o2 o3
  refine calls_hide fun V HV => ?_
  have hR := Own.start w
  go_enter Try.func29, Try.ntmps29
  go_wp2_with (first
    | ((with_reducible apply is_list); repeat1' (first | rw [k1.out] | rw [k2.out] | rw [k3.out] | (first
      | ((with_reducible refine own_skip ?_ ?_); (exact rfl); simp only [Act.put, List.setIfInBounds_toArray, List.set_cons_succ, List.set_cons_zero])
      | (refine own_move (by rfl) (by rfl) (by simp only [Act.eval, Array.getD_eq_getD_getElem?, List.getElem?_toArray, List.getElem?_cons_zero, List.getElem?_cons_succ, Option.getD_some] <;> rfl) ?_; simp only [Act.put, List.setIfInBounds_toArray, List.set_cons_succ, List.set_cons_zero])
      | (refine own_assign (by rfl) (by rfl) (by simp only [Act.eval, Array.getD_eq_getD_getElem?, List.getElem?_toArray, List.getElem?_cons_zero, List.getElem?_cons_succ, Option.getD_some] <;> rfl) ?_; simp only [Act.put, List.setIfInBounds_toArray, List.set_cons_succ, List.set_cons_zero])
      | (refine own_box (by rfl) (by rfl) (by simp [go_sem, V3.v, Pl.v, V3.cs, Pl.cs, layAt, Value.cells, Mp.v] <;> rfl) ?_ hR; clear hR; intro _ _ hR; simp only [Act.put, List.setIfInBounds_toArray, List.set_cons_succ, List.set_cons_zero])
      | (refine own_alloc (by rfl) (by rfl) (by first | exact zero_vec | exact zero_map | exact zero_shot | exact zero_p3 | exact zero_wide) ?_ hR; clear hR; intro _ _ hR; simp only [Act.put, List.setIfInBounds_toArray, List.set_cons_succ, List.set_cons_zero])
      | (refine own_alloc1 (by rfl) (by rfl) (by first | exact zero_int | exact zero_int64 | exact zero_bool | exact zero_uint8 | exact zero_uint64 | exact zero_int32 | exact zero_errno | exact zero_bools | exact zero_vecs | exact zero_pint64) (by simp [go_sem, V3.v, Pl.v, V3.cs, Pl.cs, layAt, Value.cells, Mp.v] <;> rfl) ?_ hR; clear hR; intro _ _ hR; simp only [Act.put, List.setIfInBounds_toArray, List.set_cons_succ, List.set_cons_zero])
      | (refine own_load_all (by rfl) (by rfl) (by rfl) (by first | exact agg_vec | exact agg_map | exact agg_shot | exact agg_p3 | exact agg_wide) (by repeat (first | exact .head _ | refine .tail _ ?_)) (by rfl) ?_ hR; clear hR; intro hR; simp only [Act.put, List.setIfInBounds_toArray, List.set_cons_succ, List.set_cons_zero])
      | (refine own_load_agg (by rfl) (by rfl) (by rfl) (by first | exact agg_vec | exact agg_map | exact agg_shot | exact agg_p3 | exact agg_wide) (by repeat (first | exact .head _ | refine .tail _ ?_)) (by rfl) (by simp [go_sem, V3.v, Pl.v, V3.cs, Pl.cs, layAt, Value.cells, Mp.v] <;> rfl) ?_ hR; clear hR; intro hR; simp only [Act.put, List.setIfInBounds_toArray, List.set_cons_succ, List.set_cons_zero])
      | (refine own_load_one (by rfl) (by rfl) (by rfl) (by first | exact one_int | exact one_int64 | exact one_bool | exact one_uint8 | exact one_uint64 | exact one_int32 | exact one_errno | exact one_bools | exact one_vecs | exact one_pint64) (by repeat (first | exact .head _ | refine .tail _ ?_)) (by simp [go_sem, V3.v, Pl.v, V3.cs, Pl.cs, layAt, Value.cells, Mp.v] <;> rfl) ?_ hR; clear hR; intro hR; simp only [Act.put, List.setIfInBounds_toArray, List.set_cons_succ, List.set_cons_zero])
      | (refine own_store_all (by rfl) (by rfl) (by rfl) (by first | exact agg_vec.size | exact agg_map.size | exact agg_shot.size | exact agg_p3.size | exact agg_wide.size | exact one_int.size | exact one_int64.size | exact one_bool.size | exact one_uint8.size | exact one_uint64.size | exact one_int32.size | exact one_errno.size | exact one_bools.size | exact one_vecs.size | exact one_pint64.size) (by rfl) (by rfl) (by rfl) (by repeat (first | exact .head _ | refine .tail _ ?_)) (by rfl) (by simp [go_sem, V3.v, Pl.v, V3.cs, Pl.cs, layAt, Value.cells, Mp.v] <;> rfl) (by repeat (first | exact .here | apply Upd.there)) ?_ hR; clear hR; intro _ hR; simp only [Act.put, List.setIfInBounds_toArray, List.set_cons_succ, List.set_cons_zero])
      | (refine own_store (by rfl) (by rfl) (by rfl) (by first | exact agg_vec.size | exact agg_map.size | exact agg_shot.size | exact agg_p3.size | exact agg_wide.size | exact one_int.size | exact one_int64.size | exact one_bool.size | exact one_uint8.size | exact one_uint64.size | exact one_int32.size | exact one_errno.size | exact one_bools.size | exact one_vecs.size | exact one_pint64.size) (by rfl) (by rfl) (by rfl) (by repeat (first | exact .head _ | refine .tail _ ?_)) (by rfl) (by simp [go_sem, V3.v, Pl.v, V3.cs, Pl.cs, layAt, Value.cells, Mp.v] <;> rfl) (by repeat (first | exact .here | apply Upd.there)) ?_ hR; clear hR; intro _ hR; simp only [Act.put, List.setIfInBounds_toArray, List.set_cons_succ, List.set_cons_zero])
      | (refine own_max (by rfl) (by rfl) (by rfl) (by rfl) ?_; simp only [Act.put, List.setIfInBounds_toArray, List.set_cons_succ, List.set_cons_zero])
      | (refine own_min (by rfl) (by rfl) (by rfl) (by rfl) ?_; simp only [Act.put, List.setIfInBounds_toArray, List.set_cons_succ, List.set_cons_zero])
      | (refine own_pure (by rfl) (by intro w; simp [go_sem, V3.v, Pl.v, V3.cs, Pl.cs, layAt, Value.cells, Mp.v] <;> rfl) ?_; simp only [Act.put, List.setIfInBounds_toArray, List.set_cons_succ, List.set_cons_zero])))))
  refine own_call (a1 _) ?_ hR; clear hR; intro _ hR
  go_wp2_with (first
    | ((with_reducible apply is_list); repeat1' (first | rw [w1.out] | rw [w2.out] | rw [w3.out] | (first
      | ((with_reducible refine own_skip ?_ ?_); (exact rfl); simp only [Act.put, List.setIfInBounds_toArray, List.set_cons_succ, List.set_cons_zero])
      | (refine own_move (by rfl) (by rfl) (by simp only [Act.eval, Array.getD_eq_getD_getElem?, List.getElem?_toArray, List.getElem?_cons_zero, List.getElem?_cons_succ, Option.getD_some] <;> rfl) ?_; simp only [Act.put, List.setIfInBounds_toArray, List.set_cons_succ, List.set_cons_zero])
      | (refine own_assign (by rfl) (by rfl) (by simp only [Act.eval, Array.getD_eq_getD_getElem?, List.getElem?_toArray, List.getElem?_cons_zero, List.getElem?_cons_succ, Option.getD_some] <;> rfl) ?_; simp only [Act.put, List.setIfInBounds_toArray, List.set_cons_succ, List.set_cons_zero])
      | (refine own_box (by rfl) (by rfl) (by simp [go_sem, V3.v, Pl.v, V3.cs, Pl.cs, layAt, Value.cells, Mp.v] <;> rfl) ?_ hR; clear hR; intro _ _ hR; simp only [Act.put, List.setIfInBounds_toArray, List.set_cons_succ, List.set_cons_zero])
      | (refine own_alloc (by rfl) (by rfl) (by first | exact zero_vec | exact zero_map | exact zero_shot | exact zero_p3 | exact zero_wide) ?_ hR; clear hR; intro _ _ hR; simp only [Act.put, List.setIfInBounds_toArray, List.set_cons_succ, List.set_cons_zero])
      | (refine own_alloc1 (by rfl) (by rfl) (by first | exact zero_int | exact zero_int64 | exact zero_bool | exact zero_uint8 | exact zero_uint64 | exact zero_int32 | exact zero_errno | exact zero_bools | exact zero_vecs | exact zero_pint64) (by simp [go_sem, V3.v, Pl.v, V3.cs, Pl.cs, layAt, Value.cells, Mp.v] <;> rfl) ?_ hR; clear hR; intro _ _ hR; simp only [Act.put, List.setIfInBounds_toArray, List.set_cons_succ, List.set_cons_zero])
      | (refine own_load_all (by rfl) (by rfl) (by rfl) (by first | exact agg_vec | exact agg_map | exact agg_shot | exact agg_p3 | exact agg_wide) (by repeat (first | exact .head _ | refine .tail _ ?_)) (by rfl) ?_ hR; clear hR; intro hR; simp only [Act.put, List.setIfInBounds_toArray, List.set_cons_succ, List.set_cons_zero])
      | (refine own_load_agg (by rfl) (by rfl) (by rfl) (by first | exact agg_vec | exact agg_map | exact agg_shot | exact agg_p3 | exact agg_wide) (by repeat (first | exact .head _ | refine .tail _ ?_)) (by rfl) (by simp [go_sem, V3.v, Pl.v, V3.cs, Pl.cs, layAt, Value.cells, Mp.v] <;> rfl) ?_ hR; clear hR; intro hR; simp only [Act.put, List.setIfInBounds_toArray, List.set_cons_succ, List.set_cons_zero])
      | (refine own_load_one (by rfl) (by rfl) (by rfl) (by first | exact one_int | exact one_int64 | exact one_bool | exact one_uint8 | exact one_uint64 | exact one_int32 | exact one_errno | exact one_bools | exact one_vecs | exact one_pint64) (by repeat (first | exact .head _ | refine .tail _ ?_)) (by simp [go_sem, V3.v, Pl.v, V3.cs, Pl.cs, layAt, Value.cells, Mp.v] <;> rfl) ?_ hR; clear hR; intro hR; simp only [Act.put, List.setIfInBounds_toArray, List.set_cons_succ, List.set_cons_zero])
      | (refine own_store_all (by rfl) (by rfl) (by rfl) (by first | exact agg_vec.size | exact agg_map.size | exact agg_shot.size | exact agg_p3.size | exact agg_wide.size | exact one_int.size | exact one_int64.size | exact one_bool.size | exact one_uint8.size | exact one_uint64.size | exact one_int32.size | exact one_errno.size | exact one_bools.size | exact one_vecs.size | exact one_pint64.size) (by rfl) (by rfl) (by rfl) (by repeat (first | exact .head _ | refine .tail _ ?_)) (by rfl) (by simp [go_sem, V3.v, Pl.v, V3.cs, Pl.cs, layAt, Value.cells, Mp.v] <;> rfl) (by repeat (first | exact .here | apply Upd.there)) ?_ hR; clear hR; intro _ hR; simp only [Act.put, List.setIfInBounds_toArray, List.set_cons_succ, List.set_cons_zero])
      | (refine own_store (by rfl) (by rfl) (by rfl) (by first | exact agg_vec.size | exact agg_map.size | exact agg_shot.size | exact agg_p3.size | exact agg_wide.size | exact one_int.size | exact one_int64.size | exact one_bool.size | exact one_uint8.size | exact one_uint64.size | exact one_int32.size | exact one_errno.size | exact one_bools.size | exact one_vecs.size | exact one_pint64.size) (by rfl) (by rfl) (by rfl) (by repeat (first | exact .head _ | refine .tail _ ?_)) (by rfl) (by simp [go_sem, V3.v, Pl.v, V3.cs, Pl.cs, layAt, Value.cells, Mp.v] <;> rfl) (by repeat (first | exact .here | apply Upd.there)) ?_ hR; clear hR; intro _ hR; simp only [Act.put, List.setIfInBounds_toArray, List.set_cons_succ, List.set_cons_zero])
      | (refine own_max (by rfl) (by rfl) (by rfl) (by rfl) ?_; simp only [Act.put, List.setIfInBounds_toArray, List.set_cons_succ, List.set_cons_zero])
      | (refine own_min (by rfl) (by rfl) (by rfl) (by rfl) ?_; simp only [Act.put, List.setIfInBounds_toArray, List.set_cons_succ, List.set_cons_zero])
      | (refine own_pure (by rfl) (by intro w; simp [go_sem, V3.v, Pl.v, V3.cs, Pl.cs, layAt, Value.cells, Mp.v] <;> rfl) ?_; simp only [Act.put, List.setIfInBounds_toArray, List.set_cons_succ, List.set_cons_zero])))))
  refine own_call (a2 _) ?_ hR; clear hR; intro _ hR
  go_wp2_with (first
    | ((with_reducible apply is_list); repeat1' (first | fail | (first
      | ((with_reducible refine own_skip ?_ ?_); (exact rfl); simp only [Act.put, List.setIfInBounds_toArray, List.set_cons_succ, List.set_cons_zero])
      | (refine own_move (by rfl) (by rfl) (by simp only [Act.eval, Array.getD_eq_getD_getElem?, List.getElem?_toArray, List.getElem?_cons_zero, List.getElem?_cons_succ, Option.getD_some] <;> rfl) ?_; simp only [Act.put, List.setIfInBounds_toArray, List.set_cons_succ, List.set_cons_zero])
      | (refine own_assign (by rfl) (by rfl) (by simp only [Act.eval, Array.getD_eq_getD_getElem?, List.getElem?_toArray, List.getElem?_cons_zero, List.getElem?_cons_succ, Option.getD_some] <;> rfl) ?_; simp only [Act.put, List.setIfInBounds_toArray, List.set_cons_succ, List.set_cons_zero])
      | (refine own_box (by rfl) (by rfl) (by simp [go_sem, V3.v, Pl.v, V3.cs, Pl.cs, layAt, Value.cells, Mp.v] <;> rfl) ?_ hR; clear hR; intro _ _ hR; simp only [Act.put, List.setIfInBounds_toArray, List.set_cons_succ, List.set_cons_zero])
      | (refine own_alloc (by rfl) (by rfl) (by first | exact zero_vec | exact zero_map | exact zero_shot | exact zero_p3 | exact zero_wide) ?_ hR; clear hR; intro _ _ hR; simp only [Act.put, List.setIfInBounds_toArray, List.set_cons_succ, List.set_cons_zero])
      | (refine own_alloc1 (by rfl) (by rfl) (by first | exact zero_int | exact zero_int64 | exact zero_bool | exact zero_uint8 | exact zero_uint64 | exact zero_int32 | exact zero_errno | exact zero_bools | exact zero_vecs | exact zero_pint64) (by simp [go_sem, V3.v, Pl.v, V3.cs, Pl.cs, layAt, Value.cells, Mp.v] <;> rfl) ?_ hR; clear hR; intro _ _ hR; simp only [Act.put, List.setIfInBounds_toArray, List.set_cons_succ, List.set_cons_zero])
      | (refine own_load_all (by rfl) (by rfl) (by rfl) (by first | exact agg_vec | exact agg_map | exact agg_shot | exact agg_p3 | exact agg_wide) (by repeat (first | exact .head _ | refine .tail _ ?_)) (by rfl) ?_ hR; clear hR; intro hR; simp only [Act.put, List.setIfInBounds_toArray, List.set_cons_succ, List.set_cons_zero])
      | (refine own_load_agg (by rfl) (by rfl) (by rfl) (by first | exact agg_vec | exact agg_map | exact agg_shot | exact agg_p3 | exact agg_wide) (by repeat (first | exact .head _ | refine .tail _ ?_)) (by rfl) (by simp [go_sem, V3.v, Pl.v, V3.cs, Pl.cs, layAt, Value.cells, Mp.v] <;> rfl) ?_ hR; clear hR; intro hR; simp only [Act.put, List.setIfInBounds_toArray, List.set_cons_succ, List.set_cons_zero])
      | (refine own_load_one (by rfl) (by rfl) (by rfl) (by first | exact one_int | exact one_int64 | exact one_bool | exact one_uint8 | exact one_uint64 | exact one_int32 | exact one_errno | exact one_bools | exact one_vecs | exact one_pint64) (by repeat (first | exact .head _ | refine .tail _ ?_)) (by simp [go_sem, V3.v, Pl.v, V3.cs, Pl.cs, layAt, Value.cells, Mp.v] <;> rfl) ?_ hR; clear hR; intro hR; simp only [Act.put, List.setIfInBounds_toArray, List.set_cons_succ, List.set_cons_zero])
      | (refine own_store_all (by rfl) (by rfl) (by rfl) (by first | exact agg_vec.size | exact agg_map.size | exact agg_shot.size | exact agg_p3.size | exact agg_wide.size | exact one_int.size | exact one_int64.size | exact one_bool.size | exact one_uint8.size | exact one_uint64.size | exact one_int32.size | exact one_errno.size | exact one_bools.size | exact one_vecs.size | exact one_pint64.size) (by rfl) (by rfl) (by rfl) (by repeat (first | exact .head _ | refine .tail _ ?_)) (by rfl) (by simp [go_sem, V3.v, Pl.v, V3.cs, Pl.cs, layAt, Value.cells, Mp.v] <;> rfl) (by repeat (first | exact .here | apply Upd.there)) ?_ hR; clear hR; intro _ hR; simp only [Act.put, List.setIfInBounds_toArray, List.set_cons_succ, List.set_cons_zero])
      | (refine own_store (by rfl) (by rfl) (by rfl) (by first | exact agg_vec.size | exact agg_map.size | exact agg_shot.size | exact agg_p3.size | exact agg_wide.size | exact one_int.size | exact one_int64.size | exact one_bool.size | exact one_uint8.size | exact one_uint64.size | exact one_int32.size | exact one_errno.size | exact one_bools.size | exact one_vecs.size | exact one_pint64.size) (by rfl) (by rfl) (by rfl) (by repeat (first | exact .head _ | refine .tail _ ?_)) (by rfl) (by simp [go_sem, V3.v, Pl.v, V3.cs, Pl.cs, layAt, Value.cells, Mp.v] <;> rfl) (by repeat (first | exact .here | apply Upd.there)) ?_ hR; clear hR; intro _ hR; simp only [Act.put, List.setIfInBounds_toArray, List.set_cons_succ, List.set_cons_zero])
      | (refine own_max (by rfl) (by rfl) (by rfl) (by rfl) ?_; simp only [Act.put, List.setIfInBounds_toArray, List.set_cons_succ, List.set_cons_zero])
      | (refine own_min (by rfl) (by rfl) (by rfl) (by rfl) ?_; simp only [Act.put, List.setIfInBounds_toArray, List.set_cons_succ, List.set_cons_zero])
      | (refine own_pure (by rfl) (by intro w; simp [go_sem, V3.v, Pl.v, V3.cs, Pl.cs, layAt, Value.cells, Mp.v] <;> rfl) ?_; simp only [Act.put, List.setIfInBounds_toArray, List.set_cons_succ, List.set_cons_zero])))))
  refine own_call (s1 _ hR.below) ?_ hR; clear hR; intro _ hR
  go_wp2_with fail
  refine own_ret1 Try.results29 rfl (.tmp rfl) (fun hR => hR.ret ?_) hR
  rw [HV.out]
  rfl

end Go.Proofs.Ythgafhegdngomaa
