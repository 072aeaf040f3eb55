/- FixAway of embrasurelaw01 returns true, for every six numbers of 32 bits. No condition. -/
import Derived.Test.YtegafbkjdkpfiaaFixTurned
import Derived.Test.YtegafbkjdkpfiaaFixLong
-- EVDEFS: V3.plus, V3.minus
namespace Go.Proofs.Ytegafbkjdkpfiaa
set_option linter.unusedSimpArgs false
set_option linter.unusedVariables false
open Go.RowKit

theorem tdiv4 (x : Int) : x.tdiv 4 = if 0 ≤ x then x / 4 else -((-x) / 4) := by
  by_cases h : 0 ≤ x
  · rw [if_pos h, Int.tdiv_eq_ediv_of_nonneg h]
  · rw [if_neg h, ← Int.tdiv_eq_ediv_of_nonneg (show 0 ≤ -x by omega), Int.neg_tdiv, Int.neg_neg]
theorem div4 {x : Int} (h1 : -2147483648 ≤ x) (h2 : x ≤ 2147483647) : ∃ q : Int, -536870912 ≤ q ∧ q ≤ 536870911 ∧ IntKind.i64.wrap x = x ∧ IntKind.i64.wrap (x.tdiv 4) = q := by
  have e := tdiv4 x
  refine ⟨x.tdiv 4, ?_, ?_, IntWalk.i64_in _ (by omega), ?_⟩
  · rw [e]; split <;> omega
  · rw [e]; split <;> omega
  · rw [e]; exact IntWalk.i64_in _ (by split <;> omega)

def V3.small (a : V3) : Prop := (-536870912 ≤ a.x ∧ a.x ≤ 536870911) ∧ (-536870912 ≤ a.y ∧ a.y ≤ 536870911) ∧ (-536870912 ≤ a.z ∧ a.z ≤ 536870911)
theorem plus_small {a b : V3} (ha : a.small) (hb : b.small) : a.plus b = ⟨a.x + b.x, a.y + b.y, a.z + b.z⟩ := by
  unfold V3.small at *
  unfold V3.plus
  rw [cut64_in (by unfold In64; omega), cut64_in (by unfold In64; omega), cut64_in (by unfold In64; omega)]
theorem minus_small {a b : V3} (ha : a.small) (hb : b.small) : a.minus b = ⟨a.x - b.x, a.y - b.y, a.z - b.z⟩ := by
  unfold V3.small at *
  unfold V3.minus
  rw [cut64_in (by unfold In64; omega), cut64_in (by unfold In64; omega), cut64_in (by unfold In64; omega)]
theorem small_within {a : V3} (ha : a.small) : a.within 2147483648 := by unfold V3.small at ha; unfold V3.within; omega
theorem plus_within {a b : V3} (ha : a.small) (hb : b.small) : (a.plus b).within 2147483648 := by
  rw [plus_small ha hb]; unfold V3.small at *; unfold V3.within
  show (_ ≤ a.x + b.x ∧ a.x + b.x ≤ _) ∧ (_ ≤ a.y + b.y ∧ a.y + b.y ≤ _) ∧ (_ ≤ a.z + b.z ∧ a.z + b.z ≤ _)
  omega
theorem minus_within {a b : V3} (ha : a.small) (hb : b.small) : (a.minus b).within 2147483648 := by
  rw [minus_small ha hb]; unfold V3.small at *; unfold V3.within
  show (_ ≤ a.x - b.x ∧ a.x - b.x ≤ _) ∧ (_ ≤ a.y - b.y ∧ a.y - b.y ≤ _) ∧ (_ ≤ a.z - b.z ∧ a.z - b.z ≤ _)
  omega
theorem len_of_sq {a b : V3} (h : a.sq = b.sq) : a.len = b.len := by
  have h1 := len_spec a
  have h2 := len_spec b
  rw [h] at h1
  have h3 := abs_lt_of_sq (x := a.len) (y := b.len + 1) (by omega) (by omega)
  have h4 := abs_lt_of_sq (x := b.len) (y := a.len + 1) (by omega) (by omega)
  omega
theorem away_turned {a b : V3} (ha : a.small) (hb : b.small) : (b.minus a).len = (a.minus b).len := by
  refine len_of_sq ?_
  rw [minus_small ha hb, minus_small hb ha]
  unfold V3.sq
  grind
theorem away_plus {a b : V3} (ha : a.small) (hb : b.small) : (a.plus b).len ≤ a.len + b.len + 1 := by
  have h1 := len_spec a
  have h2 := len_spec b
  have h3 := (len_spec (a.plus b)).2.1
  rw [plus_small ha hb] at h3 ⊢
  unfold V3.sq at h1 h2 h3
  exact triangle a.x a.y a.z b.x b.y b.z a.len b.len _ h1.1 h2.1 h1.2.2 h2.2.2 h3
theorem away_minus {a b : V3} (ha : a.small) (hb : b.small) : (a.minus b).len ≤ a.len + b.len + 1 := by
  have h1 := len_spec a
  have h2 := len_spec b
  have h3 := (len_spec (a.minus b)).2.1
  rw [minus_small ha hb] at h3 ⊢
  unfold V3.sq at h1 h2 h3
  refine triangle a.x a.y a.z (-b.x) (-b.y) (-b.z) a.len b.len _ h1.1 h2.1 h1.2.2 ?_ ?_
  · have := h2.2.2
    grind
  · grind
theorem away_zero {a b : V3} (ha : a.small) (hb : b.small) : ((a.minus b).len == 0) = decide (a = b) := by
  have h1 := len_spec (a.minus b)
  rw [minus_small ha hb] at h1 ⊢
  rw [Bool.eq_iff_iff, beq_iff_eq, decide_eq_true_iff]
  constructor
  · intro h
    rw [h] at h1
    have hs : (a.x - b.x) * (a.x - b.x) + (a.y - b.y) * (a.y - b.y) + (a.z - b.z) * (a.z - b.z) < 1 := h1.2.2
    have e1 := sqn (a.x - b.x); have e2 := sqn (a.y - b.y); have e3 := sqn (a.z - b.z)
    have f1 : (a.x - b.x) * (a.x - b.x) = 0 := by omega
    have f2 : (a.y - b.y) * (a.y - b.y) = 0 := by omega
    have f3 : (a.z - b.z) * (a.z - b.z) = 0 := by omega
    have g1 := Int.mul_eq_zero.1 f1; have g2 := Int.mul_eq_zero.1 f2; have g3 := Int.mul_eq_zero.1 f3
    cases a; cases b
    simp only [V3.mk.injEq]
    simp only at g1 g2 g3
    omega
  · intro h
    subst h
    rw [Int.sub_self, Int.sub_self, Int.sub_self]
    have := len_le (a := ⟨0, 0, 0⟩) (k := 0) (by omega) (by decide)
    have h2 := (len_spec ⟨0, 0, 0⟩).1
    omega
theorem away_back {a b : V3} (ha : a.small) (hb : b.small) : (a.plus b).minus b = a := by
  rw [plus_small ha hb]
  unfold V3.small at *
  unfold V3.minus
  show (⟨cut64 (a.x + b.x - b.x), cut64 (a.y + b.y - b.y), cut64 (a.z + b.z - b.z)⟩ : V3) = a
  rw [Int.add_sub_cancel, Int.add_sub_cancel, Int.add_sub_cancel, cut64_in (by unfold In64; omega), cut64_in (by unfold In64; omega), cut64_in (by unfold In64; omega)]
theorem downN_self (a : Int) : downN a a = 0 := by unfold downN; rw [if_pos rfl]
theorem dot_self (a : V3) : 0 ≤ dotN a a := by
  unfold dotN
  rw [show downV a a = 0 by unfold downV; rw [downN_self, downN_self, downN_self], if_neg (by omega)]
  unfold signedN
  rw [if_neg (by decide)]
  omega

set_option maxRecDepth 100000 in
set_option maxHeartbeats 4000000 in
theorem away_law_any (x y z p q r : Int) (w : World) (hx : In32 x) (hy : In32 y) (hz : In32 z) (hp : In32 p) (hq : In32 q) (hr : In32 r) :
    Calls Try.prog 12 #[.int .i32 x, .int .i32 y, .int .i32 z, .int .i32 p, .int .i32 q, .int .i32 r] w (Ret w (.bool true)) := by
  obtain ⟨a0, a01, a02, kx0, kx1⟩ := div4 hx.1 hx.2
  obtain ⟨a1, a11, a12, ky0, ky1⟩ := div4 hy.1 hy.2
  obtain ⟨a2, a21, a22, kz0, kz1⟩ := div4 hz.1 hz.2
  obtain ⟨b0, b01, b02, kp0, kp1⟩ := div4 hp.1 hp.2
  obtain ⟨b1, b11, b12, kq0, kq1⟩ := div4 hq.1 hq.2
  obtain ⟨b2, b21, b22, kr0, kr1⟩ := div4 hr.1 hr.2
  have kx0 := Lib.hid kx0; have kx1 := Lib.hid kx1
  have ky0 := Lib.hid ky0; have ky1 := Lib.hid ky1
  have kz0 := Lib.hid kz0; have kz1 := Lib.hid kz1
  have kp0 := Lib.hid kp0; have kp1 := Lib.hid kp1
  have kq0 := Lib.hid kq0; have kq1 := Lib.hid kq1
  have kr0 := Lib.hid kr0; have kr1 := Lib.hid kr1
  obtain ⟨a, ha⟩ : ∃ a : V3, a = ⟨a0, a1, a2⟩ := ⟨_, rfl⟩
  obtain ⟨b, hb⟩ : ∃ b : V3, b = ⟨b0, b1, b2⟩ := ⟨_, rfl⟩
  have sa : a.small := by rw [ha]; exact ⟨⟨a01, a02⟩, ⟨a11, a12⟩, a21, a22⟩
  have sb : b.small := by rw [hb]; exact ⟨⟨b01, b02⟩, ⟨b11, b12⟩, b21, b22⟩
  have fa := within_fits (small_within sa)
  have fb := within_fits (small_within sb)
  have wa := len_within (small_within sa)
  have wb := len_within (small_within sb)
  have za := (len_spec a).1
  have zb := (len_spec b).1
  have c1 := fun w => vminus_any a b w fa fb
  have c2 := fun w => long_len (minus_within sa sb) w
  have c3 := fun w => vminus_any b a w fb fa
  have c4 := fun w => Ret.val (long_len (minus_within sb sa) w) (congrArg I (away_turned sa sb))
  have c5 := fun w => vplus_any a b w fa fb
  have c6 := fun w => long_len (plus_within sa sb) w
  have c7 := fun w => long_len (small_within sa) w
  have c8 := fun w => long_len (small_within sb) w
  have c9 := fun w => dot_any a a w fa fa
  have c10 := fun w => Ret.val (vminus_any (a.plus b) b w (within_fits (plus_within sa sb)) fb) (congrArg V3.v (away_back sa sb))
  have k1 : Hid (IntKind.i64.wrap (a.len + b.len) = a.len + b.len) := Lib.hid (IntWalk.i64_in _ (by omega))
  have k2 : Hid (IntKind.i64.wrap (a.len + b.len + 1) = a.len + b.len + 1) := Lib.hid (IntWalk.i64_in _ (by omega))
  have k3 : Hid (decide ((a.plus b).len ≤ a.len + b.len + 1) = true) := Lib.hid (decide_eq_true (away_plus sa sb))
  have k4 : Hid (decide ((a.minus b).len ≤ a.len + b.len + 1) = true) := Lib.hid (decide_eq_true (away_minus sa sb))
  have k5 : Hid (((a.minus b).len == 0) = decide ((⟨a0, a1, a2⟩ : V3) = ⟨b0, b1, b2⟩)) := Lib.hid (by rw [away_zero sa sb, ha, hb])
  have k6 : Hid (decide (0 ≤ dotN a a) = true) := Lib.hid (decide_eq_true (dot_self a))
  generalize dotN a a = D at *
  generalize (a.plus b).len = L1 at *
  generalize (a.minus b).len = L2 at *
  generalize a.len = La at *
  generalize b.len = Lb at *
  subst ha hb
  clear wa wb za zb
  refine calls_hide fun V HV => ?_
  have hR := Own.start w
  go_enter Try.func12, Try.ntmps12
  go_wp2_with (first
    | ((with_reducible apply is_list); first
      | ((with_reducible refine own_skip ?_ ?_); (exact rfl); simp only [Act.put, List.setIfInBounds_toArray, List.set_cons_succ, List.set_cons_zero])
      | (refine own_box (by rfl) (by rfl) (by simp [go_sem, V3.v, Pl.v, V3.cs, Pl.cs, layAt, Value.cells, V3.plus, V3.minus] <;> rfl) ?_ hR; clear hR; intro _ _ hR; simp only [Act.put, List.setIfInBounds_toArray, List.set_cons_succ, List.set_cons_zero])
      | (refine own_alloc (by rfl) (by rfl) (by first | exact zero_vec | exact zero_wide | exact zero_big) ?_ hR; clear hR; intro _ _ hR; simp only [Act.put, List.setIfInBounds_toArray, List.set_cons_succ, List.set_cons_zero])
      | (refine own_alloc1 (by rfl) (by rfl) (by first | exact zero_int | exact zero_int64 | exact zero_bool | exact zero_uint8 | exact zero_uint64 | exact zero_int32 | exact zero_uint64s) (by simp [go_sem, V3.v, Pl.v, V3.cs, Pl.cs, layAt, Value.cells, V3.plus, V3.minus] <;> rfl) ?_ hR; clear hR; intro _ _ hR; simp only [Act.put, List.setIfInBounds_toArray, List.set_cons_succ, List.set_cons_zero])
      | (refine own_load_all (by rfl) (by rfl) (by rfl) (by first | exact agg_vec | exact agg_wide | exact agg_big) (by repeat (first | exact .head _ | refine .tail _ ?_)) (by rfl) ?_ hR; clear hR; intro hR; simp only [Act.put, List.setIfInBounds_toArray, List.set_cons_succ, List.set_cons_zero])
      | (refine own_load_agg (by rfl) (by rfl) (by rfl) (by first | exact agg_vec | exact agg_wide | exact agg_big) (by repeat (first | exact .head _ | refine .tail _ ?_)) (by rfl) (by simp [go_sem, V3.v, Pl.v, V3.cs, Pl.cs, layAt, Value.cells, V3.plus, V3.minus] <;> rfl) ?_ hR; clear hR; intro hR; simp only [Act.put, List.setIfInBounds_toArray, List.set_cons_succ, List.set_cons_zero])
      | (refine own_load_one (by rfl) (by rfl) (by rfl) (by first | exact one_int | exact one_int64 | exact one_bool | exact one_uint8 | exact one_uint64 | exact one_int32 | exact one_uint64s) (by repeat (first | exact .head _ | refine .tail _ ?_)) (by simp [go_sem, V3.v, Pl.v, V3.cs, Pl.cs, layAt, Value.cells, V3.plus, V3.minus] <;> rfl) ?_ hR; clear hR; intro hR; simp only [Act.put, List.setIfInBounds_toArray, List.set_cons_succ, List.set_cons_zero])
      | (refine own_store_all (by rfl) (by rfl) (by rfl) (by first | exact agg_vec.size | exact agg_wide.size | exact agg_big.size | exact one_int.size | exact one_int64.size | exact one_bool.size | exact one_uint8.size | exact one_uint64.size | exact one_int32.size | exact one_uint64s.size) (by rfl) (by rfl) (by rfl) (by repeat (first | exact .head _ | refine .tail _ ?_)) (by rfl) (by simp [go_sem, V3.v, Pl.v, V3.cs, Pl.cs, layAt, Value.cells, V3.plus, V3.minus] <;> rfl) (by repeat (first | exact .here | apply Upd.there)) ?_ hR; clear hR; intro _ hR; simp only [Act.put, List.setIfInBounds_toArray, List.set_cons_succ, List.set_cons_zero])
      | (refine own_store (by rfl) (by rfl) (by rfl) (by first | exact agg_vec.size | exact agg_wide.size | exact agg_big.size | exact one_int.size | exact one_int64.size | exact one_bool.size | exact one_uint8.size | exact one_uint64.size | exact one_int32.size | exact one_uint64s.size) (by rfl) (by rfl) (by rfl) (by repeat (first | exact .head _ | refine .tail _ ?_)) (by rfl) (by simp [go_sem, V3.v, Pl.v, V3.cs, Pl.cs, layAt, Value.cells, V3.plus, V3.minus] <;> rfl) (by repeat (first | exact .here | apply Upd.there)) ?_ hR; clear hR; intro _ hR; simp only [Act.put, List.setIfInBounds_toArray, List.set_cons_succ, List.set_cons_zero])
      | (refine own_max (by rfl) (by rfl) (by rfl) (by rfl) ?_; simp only [Act.put, List.setIfInBounds_toArray, List.set_cons_succ, List.set_cons_zero])
      | (refine own_min (by rfl) (by rfl) (by rfl) (by rfl) ?_; simp only [Act.put, List.setIfInBounds_toArray, List.set_cons_succ, List.set_cons_zero]))
    )
  refine own_call (shown01_any _) ?_ hR; clear hR; intro _ hR
  go_wp2_with (first
    | ((with_reducible apply is_list); repeat1' (first | rw [kx0.out] | rw [kx1.out] | rw [ky0.out] | rw [ky1.out] | rw [kz0.out] | rw [kz1.out] | rw [kp0.out] | rw [kp1.out] | rw [kq0.out] | rw [kq1.out] | rw [kr0.out] | rw [kr1.out] | (first
      | ((with_reducible refine own_skip ?_ ?_); (exact rfl); simp only [Act.put, List.setIfInBounds_toArray, List.set_cons_succ, List.set_cons_zero])
      | (refine own_move (by rfl) (by rfl) (by simp only [Act.eval, Array.getD_eq_getD_getElem?, List.getElem?_toArray, List.getElem?_cons_zero, List.getElem?_cons_succ, Option.getD_some] <;> rfl) ?_; simp only [Act.put, List.setIfInBounds_toArray, List.set_cons_succ, List.set_cons_zero])
      | (refine own_assign (by rfl) (by rfl) (by simp only [Act.eval, Array.getD_eq_getD_getElem?, List.getElem?_toArray, List.getElem?_cons_zero, List.getElem?_cons_succ, Option.getD_some] <;> rfl) ?_; simp only [Act.put, List.setIfInBounds_toArray, List.set_cons_succ, List.set_cons_zero])
      | (refine own_box (by rfl) (by rfl) (by simp [go_sem, V3.v, Pl.v, V3.cs, Pl.cs, layAt, Value.cells, V3.plus, V3.minus] <;> rfl) ?_ hR; clear hR; intro _ _ hR; simp only [Act.put, List.setIfInBounds_toArray, List.set_cons_succ, List.set_cons_zero])
      | (refine own_alloc (by rfl) (by rfl) (by first | exact zero_vec | exact zero_wide | exact zero_big) ?_ hR; clear hR; intro _ _ hR; simp only [Act.put, List.setIfInBounds_toArray, List.set_cons_succ, List.set_cons_zero])
      | (refine own_alloc1 (by rfl) (by rfl) (by first | exact zero_int | exact zero_int64 | exact zero_bool | exact zero_uint8 | exact zero_uint64 | exact zero_int32 | exact zero_uint64s) (by simp [go_sem, V3.v, Pl.v, V3.cs, Pl.cs, layAt, Value.cells, V3.plus, V3.minus] <;> rfl) ?_ hR; clear hR; intro _ _ hR; simp only [Act.put, List.setIfInBounds_toArray, List.set_cons_succ, List.set_cons_zero])
      | (refine own_load_all (by rfl) (by rfl) (by rfl) (by first | exact agg_vec | exact agg_wide | exact agg_big) (by repeat (first | exact .head _ | refine .tail _ ?_)) (by rfl) ?_ hR; clear hR; intro hR; simp only [Act.put, List.setIfInBounds_toArray, List.set_cons_succ, List.set_cons_zero])
      | (refine own_load_agg (by rfl) (by rfl) (by rfl) (by first | exact agg_vec | exact agg_wide | exact agg_big) (by repeat (first | exact .head _ | refine .tail _ ?_)) (by rfl) (by simp [go_sem, V3.v, Pl.v, V3.cs, Pl.cs, layAt, Value.cells, V3.plus, V3.minus] <;> rfl) ?_ hR; clear hR; intro hR; simp only [Act.put, List.setIfInBounds_toArray, List.set_cons_succ, List.set_cons_zero])
      | (refine own_load_one (by rfl) (by rfl) (by rfl) (by first | exact one_int | exact one_int64 | exact one_bool | exact one_uint8 | exact one_uint64 | exact one_int32 | exact one_uint64s) (by repeat (first | exact .head _ | refine .tail _ ?_)) (by simp [go_sem, V3.v, Pl.v, V3.cs, Pl.cs, layAt, Value.cells, V3.plus, V3.minus] <;> rfl) ?_ hR; clear hR; intro hR; simp only [Act.put, List.setIfInBounds_toArray, List.set_cons_succ, List.set_cons_zero])
      | (refine own_store_all (by rfl) (by rfl) (by rfl) (by first | exact agg_vec.size | exact agg_wide.size | exact agg_big.size | exact one_int.size | exact one_int64.size | exact one_bool.size | exact one_uint8.size | exact one_uint64.size | exact one_int32.size | exact one_uint64s.size) (by rfl) (by rfl) (by rfl) (by repeat (first | exact .head _ | refine .tail _ ?_)) (by rfl) (by simp [go_sem, V3.v, Pl.v, V3.cs, Pl.cs, layAt, Value.cells, V3.plus, V3.minus] <;> rfl) (by repeat (first | exact .here | apply Upd.there)) ?_ hR; clear hR; intro _ hR; simp only [Act.put, List.setIfInBounds_toArray, List.set_cons_succ, List.set_cons_zero])
      | (refine own_store (by rfl) (by rfl) (by rfl) (by first | exact agg_vec.size | exact agg_wide.size | exact agg_big.size | exact one_int.size | exact one_int64.size | exact one_bool.size | exact one_uint8.size | exact one_uint64.size | exact one_int32.size | exact one_uint64s.size) (by rfl) (by rfl) (by rfl) (by repeat (first | exact .head _ | refine .tail _ ?_)) (by rfl) (by simp [go_sem, V3.v, Pl.v, V3.cs, Pl.cs, layAt, Value.cells, V3.plus, V3.minus] <;> rfl) (by repeat (first | exact .here | apply Upd.there)) ?_ hR; clear hR; intro _ hR; simp only [Act.put, List.setIfInBounds_toArray, List.set_cons_succ, List.set_cons_zero])
      | (refine own_max (by rfl) (by rfl) (by rfl) (by rfl) ?_; simp only [Act.put, List.setIfInBounds_toArray, List.set_cons_succ, List.set_cons_zero])
      | (refine own_min (by rfl) (by rfl) (by rfl) (by rfl) ?_; simp only [Act.put, List.setIfInBounds_toArray, List.set_cons_succ, List.set_cons_zero])
      | (refine own_pure (by rfl) (by intro w; simp [go_sem, V3.v, Pl.v, V3.cs, Pl.cs, layAt, Value.cells, V3.plus, V3.minus] <;> rfl) ?_; simp only [Act.put, List.setIfInBounds_toArray, List.set_cons_succ, List.set_cons_zero])))))
  refine own_call (c1 _) ?_ hR; clear hR; intro _ hR
  go_wp2_with (first
    | ((with_reducible apply is_list); first
      | ((with_reducible refine own_skip ?_ ?_); (exact rfl); simp only [Act.put, List.setIfInBounds_toArray, List.set_cons_succ, List.set_cons_zero])
      | (refine own_box (by rfl) (by rfl) (by simp [go_sem, V3.v, Pl.v, V3.cs, Pl.cs, layAt, Value.cells, V3.plus, V3.minus] <;> rfl) ?_ hR; clear hR; intro _ _ hR; simp only [Act.put, List.setIfInBounds_toArray, List.set_cons_succ, List.set_cons_zero])
      | (refine own_alloc (by rfl) (by rfl) (by first | exact zero_vec | exact zero_wide | exact zero_big) ?_ hR; clear hR; intro _ _ hR; simp only [Act.put, List.setIfInBounds_toArray, List.set_cons_succ, List.set_cons_zero])
      | (refine own_alloc1 (by rfl) (by rfl) (by first | exact zero_int | exact zero_int64 | exact zero_bool | exact zero_uint8 | exact zero_uint64 | exact zero_int32 | exact zero_uint64s) (by simp [go_sem, V3.v, Pl.v, V3.cs, Pl.cs, layAt, Value.cells, V3.plus, V3.minus] <;> rfl) ?_ hR; clear hR; intro _ _ hR; simp only [Act.put, List.setIfInBounds_toArray, List.set_cons_succ, List.set_cons_zero])
      | (refine own_load_all (by rfl) (by rfl) (by rfl) (by first | exact agg_vec | exact agg_wide | exact agg_big) (by repeat (first | exact .head _ | refine .tail _ ?_)) (by rfl) ?_ hR; clear hR; intro hR; simp only [Act.put, List.setIfInBounds_toArray, List.set_cons_succ, List.set_cons_zero])
      | (refine own_load_agg (by rfl) (by rfl) (by rfl) (by first | exact agg_vec | exact agg_wide | exact agg_big) (by repeat (first | exact .head _ | refine .tail _ ?_)) (by rfl) (by simp [go_sem, V3.v, Pl.v, V3.cs, Pl.cs, layAt, Value.cells, V3.plus, V3.minus] <;> rfl) ?_ hR; clear hR; intro hR; simp only [Act.put, List.setIfInBounds_toArray, List.set_cons_succ, List.set_cons_zero])
      | (refine own_load_one (by rfl) (by rfl) (by rfl) (by first | exact one_int | exact one_int64 | exact one_bool | exact one_uint8 | exact one_uint64 | exact one_int32 | exact one_uint64s) (by repeat (first | exact .head _ | refine .tail _ ?_)) (by simp [go_sem, V3.v, Pl.v, V3.cs, Pl.cs, layAt, Value.cells, V3.plus, V3.minus] <;> rfl) ?_ hR; clear hR; intro hR; simp only [Act.put, List.setIfInBounds_toArray, List.set_cons_succ, List.set_cons_zero])
      | (refine own_store_all (by rfl) (by rfl) (by rfl) (by first | exact agg_vec.size | exact agg_wide.size | exact agg_big.size | exact one_int.size | exact one_int64.size | exact one_bool.size | exact one_uint8.size | exact one_uint64.size | exact one_int32.size | exact one_uint64s.size) (by rfl) (by rfl) (by rfl) (by repeat (first | exact .head _ | refine .tail _ ?_)) (by rfl) (by simp [go_sem, V3.v, Pl.v, V3.cs, Pl.cs, layAt, Value.cells, V3.plus, V3.minus] <;> rfl) (by repeat (first | exact .here | apply Upd.there)) ?_ hR; clear hR; intro _ hR; simp only [Act.put, List.setIfInBounds_toArray, List.set_cons_succ, List.set_cons_zero])
      | (refine own_store (by rfl) (by rfl) (by rfl) (by first | exact agg_vec.size | exact agg_wide.size | exact agg_big.size | exact one_int.size | exact one_int64.size | exact one_bool.size | exact one_uint8.size | exact one_uint64.size | exact one_int32.size | exact one_uint64s.size) (by rfl) (by rfl) (by rfl) (by repeat (first | exact .head _ | refine .tail _ ?_)) (by rfl) (by simp [go_sem, V3.v, Pl.v, V3.cs, Pl.cs, layAt, Value.cells, V3.plus, V3.minus] <;> rfl) (by repeat (first | exact .here | apply Upd.there)) ?_ hR; clear hR; intro _ hR; simp only [Act.put, List.setIfInBounds_toArray, List.set_cons_succ, List.set_cons_zero])
      | (refine own_max (by rfl) (by rfl) (by rfl) (by rfl) ?_; simp only [Act.put, List.setIfInBounds_toArray, List.set_cons_succ, List.set_cons_zero])
      | (refine own_min (by rfl) (by rfl) (by rfl) (by rfl) ?_; simp only [Act.put, List.setIfInBounds_toArray, List.set_cons_succ, List.set_cons_zero]))
    )
  refine own_call (c2 _) ?_ hR; clear hR; intro _ hR
  go_wp2_with (first
    | ((with_reducible apply is_list); first
      | ((with_reducible refine own_skip ?_ ?_); (exact rfl); simp only [Act.put, List.setIfInBounds_toArray, List.set_cons_succ, List.set_cons_zero])
      | (refine own_box (by rfl) (by rfl) (by simp [go_sem, V3.v, Pl.v, V3.cs, Pl.cs, layAt, Value.cells, V3.plus, V3.minus] <;> rfl) ?_ hR; clear hR; intro _ _ hR; simp only [Act.put, List.setIfInBounds_toArray, List.set_cons_succ, List.set_cons_zero])
      | (refine own_alloc (by rfl) (by rfl) (by first | exact zero_vec | exact zero_wide | exact zero_big) ?_ hR; clear hR; intro _ _ hR; simp only [Act.put, List.setIfInBounds_toArray, List.set_cons_succ, List.set_cons_zero])
      | (refine own_alloc1 (by rfl) (by rfl) (by first | exact zero_int | exact zero_int64 | exact zero_bool | exact zero_uint8 | exact zero_uint64 | exact zero_int32 | exact zero_uint64s) (by simp [go_sem, V3.v, Pl.v, V3.cs, Pl.cs, layAt, Value.cells, V3.plus, V3.minus] <;> rfl) ?_ hR; clear hR; intro _ _ hR; simp only [Act.put, List.setIfInBounds_toArray, List.set_cons_succ, List.set_cons_zero])
      | (refine own_load_all (by rfl) (by rfl) (by rfl) (by first | exact agg_vec | exact agg_wide | exact agg_big) (by repeat (first | exact .head _ | refine .tail _ ?_)) (by rfl) ?_ hR; clear hR; intro hR; simp only [Act.put, List.setIfInBounds_toArray, List.set_cons_succ, List.set_cons_zero])
      | (refine own_load_agg (by rfl) (by rfl) (by rfl) (by first | exact agg_vec | exact agg_wide | exact agg_big) (by repeat (first | exact .head _ | refine .tail _ ?_)) (by rfl) (by simp [go_sem, V3.v, Pl.v, V3.cs, Pl.cs, layAt, Value.cells, V3.plus, V3.minus] <;> rfl) ?_ hR; clear hR; intro hR; simp only [Act.put, List.setIfInBounds_toArray, List.set_cons_succ, List.set_cons_zero])
      | (refine own_load_one (by rfl) (by rfl) (by rfl) (by first | exact one_int | exact one_int64 | exact one_bool | exact one_uint8 | exact one_uint64 | exact one_int32 | exact one_uint64s) (by repeat (first | exact .head _ | refine .tail _ ?_)) (by simp [go_sem, V3.v, Pl.v, V3.cs, Pl.cs, layAt, Value.cells, V3.plus, V3.minus] <;> rfl) ?_ hR; clear hR; intro hR; simp only [Act.put, List.setIfInBounds_toArray, List.set_cons_succ, List.set_cons_zero])
      | (refine own_store_all (by rfl) (by rfl) (by rfl) (by first | exact agg_vec.size | exact agg_wide.size | exact agg_big.size | exact one_int.size | exact one_int64.size | exact one_bool.size | exact one_uint8.size | exact one_uint64.size | exact one_int32.size | exact one_uint64s.size) (by rfl) (by rfl) (by rfl) (by repeat (first | exact .head _ | refine .tail _ ?_)) (by rfl) (by simp [go_sem, V3.v, Pl.v, V3.cs, Pl.cs, layAt, Value.cells, V3.plus, V3.minus] <;> rfl) (by repeat (first | exact .here | apply Upd.there)) ?_ hR; clear hR; intro _ hR; simp only [Act.put, List.setIfInBounds_toArray, List.set_cons_succ, List.set_cons_zero])
      | (refine own_store (by rfl) (by rfl) (by rfl) (by first | exact agg_vec.size | exact agg_wide.size | exact agg_big.size | exact one_int.size | exact one_int64.size | exact one_bool.size | exact one_uint8.size | exact one_uint64.size | exact one_int32.size | exact one_uint64s.size) (by rfl) (by rfl) (by rfl) (by repeat (first | exact .head _ | refine .tail _ ?_)) (by rfl) (by simp [go_sem, V3.v, Pl.v, V3.cs, Pl.cs, layAt, Value.cells, V3.plus, V3.minus] <;> rfl) (by repeat (first | exact .here | apply Upd.there)) ?_ hR; clear hR; intro _ hR; simp only [Act.put, List.setIfInBounds_toArray, List.set_cons_succ, List.set_cons_zero])
      | (refine own_max (by rfl) (by rfl) (by rfl) (by rfl) ?_; simp only [Act.put, List.setIfInBounds_toArray, List.set_cons_succ, List.set_cons_zero])
      | (refine own_min (by rfl) (by rfl) (by rfl) (by rfl) ?_; simp only [Act.put, List.setIfInBounds_toArray, List.set_cons_succ, List.set_cons_zero]))
    )
  refine oq_start (by kernel_rfl) (by kernel_rfl) ?_ hR
  repeat (first | rw [k1.out] | rw [k2.out] | rw [k3.out] | rw [k4.out] | rw [k5.out] | rw [k6.out] | (first
    | (refine oq_skip (by rfl) ?_; simp only [Act.put, List.setIfInBounds_toArray, List.set_cons_succ, List.set_cons_zero])
    | (refine oq_move (by rfl) (by rfl) (by simp only [Act.eval, Array.getD_eq_getD_getElem?, List.getElem?_toArray, List.getElem?_cons_zero, List.getElem?_cons_succ, Option.getD_some] <;> rfl) ?_; simp only [Act.put, List.setIfInBounds_toArray, List.set_cons_succ, List.set_cons_zero])
    | (refine oq_assign (by rfl) (by rfl) (by simp only [Act.eval, Array.getD_eq_getD_getElem?, List.getElem?_toArray, List.getElem?_cons_zero, List.getElem?_cons_succ, Option.getD_some] <;> rfl) ?_; simp only [Act.put, List.setIfInBounds_toArray, List.set_cons_succ, List.set_cons_zero])
    | (refine oq_load_all (by rfl) (by rfl) (by rfl) (by first | exact agg_vec | exact agg_wide | exact agg_big) (by repeat (first | exact .head _ | refine .tail _ ?_)) (by rfl) ?_; simp only [Act.put, List.setIfInBounds_toArray, List.set_cons_succ, List.set_cons_zero])
    | (refine oq_load_agg (by rfl) (by rfl) (by rfl) (by first | exact agg_vec | exact agg_wide | exact agg_big) (by repeat (first | exact .head _ | refine .tail _ ?_)) (by rfl) (by simp [go_sem, V3.v, Pl.v, V3.cs, Pl.cs, layAt, Value.cells, V3.plus, V3.minus] <;> rfl) ?_; simp only [Act.put, List.setIfInBounds_toArray, List.set_cons_succ, List.set_cons_zero])
    | (refine oq_load_one (by rfl) (by rfl) (by rfl) (by first | exact one_int | exact one_int64 | exact one_bool | exact one_uint8 | exact one_uint64 | exact one_int32 | exact one_uint64s) (by repeat (first | exact .head _ | refine .tail _ ?_)) (by simp [go_sem, V3.v, Pl.v, V3.cs, Pl.cs, layAt, Value.cells, V3.plus, V3.minus] <;> rfl) ?_; simp only [Act.put, List.setIfInBounds_toArray, List.set_cons_succ, List.set_cons_zero])
    | (refine oq_max (by rfl) (by rfl) (by rfl) (by rfl) ?_; simp only [Act.put, List.setIfInBounds_toArray, List.set_cons_succ, List.set_cons_zero])
    | (refine oq_min (by rfl) (by rfl) (by rfl) (by rfl) ?_; simp only [Act.put, List.setIfInBounds_toArray, List.set_cons_succ, List.set_cons_zero])
    | (refine oq_eql (by rfl) (by rfl) (by simp [go_sem, V3.v, Pl.v, V3.cs, Pl.cs, layAt, Value.cells, V3.plus, V3.minus] <;> rfl) (by simp [go_sem, V3.v, Pl.v, V3.cs, Pl.cs, layAt, Value.cells, V3.plus, V3.minus] <;> rfl) (by first | exact guard_vec) (by intro w; first | exact eqr_vec 9998 w _ _ _ | exact eqb_vec 9998 w _ _ _ _ _ _) ?_; simp only [Act.put, List.setIfInBounds_toArray, List.set_cons_succ, List.set_cons_zero])
    | (refine oq_neq (by rfl) (by rfl) (by simp [go_sem, V3.v, Pl.v, V3.cs, Pl.cs, layAt, Value.cells, V3.plus, V3.minus] <;> rfl) (by simp [go_sem, V3.v, Pl.v, V3.cs, Pl.cs, layAt, Value.cells, V3.plus, V3.minus] <;> rfl) (by first | exact guard_vec) (by intro w; first | exact eqr_vec 9998 w _ _ _ | exact eqb_vec 9998 w _ _ _ _ _ _) ?_; simp only [Act.put, List.setIfInBounds_toArray, List.set_cons_succ, List.set_cons_zero])
    | (refine oq_pure (by rfl) (by intro w; simp [go_sem, V3.v, Pl.v, V3.cs, Pl.cs, layAt, Value.cells, V3.plus, V3.minus] <;> rfl) ?_; simp only [Act.put, List.setIfInBounds_toArray, List.set_cons_succ, List.set_cons_zero])))
  refine oq_call (by rfl) (by rfl) (fun w _ => c3 _) (by rfl) Try.func31 (by kernel_rfl) ?_; simp only [Act.put, List.setIfInBounds_toArray, List.set_cons_succ, List.set_cons_zero]
  repeat (first | rw [k1.out] | rw [k2.out] | rw [k3.out] | rw [k4.out] | rw [k5.out] | rw [k6.out] | (first
    | (refine oq_skip (by rfl) ?_; simp only [Act.put, List.setIfInBounds_toArray, List.set_cons_succ, List.set_cons_zero])
    | (refine oq_move (by rfl) (by rfl) (by simp only [Act.eval, Array.getD_eq_getD_getElem?, List.getElem?_toArray, List.getElem?_cons_zero, List.getElem?_cons_succ, Option.getD_some] <;> rfl) ?_; simp only [Act.put, List.setIfInBounds_toArray, List.set_cons_succ, List.set_cons_zero])
    | (refine oq_assign (by rfl) (by rfl) (by simp only [Act.eval, Array.getD_eq_getD_getElem?, List.getElem?_toArray, List.getElem?_cons_zero, List.getElem?_cons_succ, Option.getD_some] <;> rfl) ?_; simp only [Act.put, List.setIfInBounds_toArray, List.set_cons_succ, List.set_cons_zero])
    | (refine oq_load_all (by rfl) (by rfl) (by rfl) (by first | exact agg_vec | exact agg_wide | exact agg_big) (by repeat (first | exact .head _ | refine .tail _ ?_)) (by rfl) ?_; simp only [Act.put, List.setIfInBounds_toArray, List.set_cons_succ, List.set_cons_zero])
    | (refine oq_load_agg (by rfl) (by rfl) (by rfl) (by first | exact agg_vec | exact agg_wide | exact agg_big) (by repeat (first | exact .head _ | refine .tail _ ?_)) (by rfl) (by simp [go_sem, V3.v, Pl.v, V3.cs, Pl.cs, layAt, Value.cells, V3.plus, V3.minus] <;> rfl) ?_; simp only [Act.put, List.setIfInBounds_toArray, List.set_cons_succ, List.set_cons_zero])
    | (refine oq_load_one (by rfl) (by rfl) (by rfl) (by first | exact one_int | exact one_int64 | exact one_bool | exact one_uint8 | exact one_uint64 | exact one_int32 | exact one_uint64s) (by repeat (first | exact .head _ | refine .tail _ ?_)) (by simp [go_sem, V3.v, Pl.v, V3.cs, Pl.cs, layAt, Value.cells, V3.plus, V3.minus] <;> rfl) ?_; simp only [Act.put, List.setIfInBounds_toArray, List.set_cons_succ, List.set_cons_zero])
    | (refine oq_max (by rfl) (by rfl) (by rfl) (by rfl) ?_; simp only [Act.put, List.setIfInBounds_toArray, List.set_cons_succ, List.set_cons_zero])
    | (refine oq_min (by rfl) (by rfl) (by rfl) (by rfl) ?_; simp only [Act.put, List.setIfInBounds_toArray, List.set_cons_succ, List.set_cons_zero])
    | (refine oq_eql (by rfl) (by rfl) (by simp [go_sem, V3.v, Pl.v, V3.cs, Pl.cs, layAt, Value.cells, V3.plus, V3.minus] <;> rfl) (by simp [go_sem, V3.v, Pl.v, V3.cs, Pl.cs, layAt, Value.cells, V3.plus, V3.minus] <;> rfl) (by first | exact guard_vec) (by intro w; first | exact eqr_vec 9998 w _ _ _ | exact eqb_vec 9998 w _ _ _ _ _ _) ?_; simp only [Act.put, List.setIfInBounds_toArray, List.set_cons_succ, List.set_cons_zero])
    | (refine oq_neq (by rfl) (by rfl) (by simp [go_sem, V3.v, Pl.v, V3.cs, Pl.cs, layAt, Value.cells, V3.plus, V3.minus] <;> rfl) (by simp [go_sem, V3.v, Pl.v, V3.cs, Pl.cs, layAt, Value.cells, V3.plus, V3.minus] <;> rfl) (by first | exact guard_vec) (by intro w; first | exact eqr_vec 9998 w _ _ _ | exact eqb_vec 9998 w _ _ _ _ _ _) ?_; simp only [Act.put, List.setIfInBounds_toArray, List.set_cons_succ, List.set_cons_zero])
    | (refine oq_pure (by rfl) (by intro w; simp [go_sem, V3.v, Pl.v, V3.cs, Pl.cs, layAt, Value.cells, V3.plus, V3.minus] <;> rfl) ?_; simp only [Act.put, List.setIfInBounds_toArray, List.set_cons_succ, List.set_cons_zero])))
  refine oq_call (by rfl) (by rfl) (fun w _ => c4 _) (by rfl) Try.func17 (by kernel_rfl) ?_; simp only [Act.put, List.setIfInBounds_toArray, List.set_cons_succ, List.set_cons_zero]
  repeat (first | rw [k1.out] | rw [k2.out] | rw [k3.out] | rw [k4.out] | rw [k5.out] | rw [k6.out] | (first
    | (refine oq_skip (by rfl) ?_; simp only [Act.put, List.setIfInBounds_toArray, List.set_cons_succ, List.set_cons_zero])
    | (refine oq_move (by rfl) (by rfl) (by simp only [Act.eval, Array.getD_eq_getD_getElem?, List.getElem?_toArray, List.getElem?_cons_zero, List.getElem?_cons_succ, Option.getD_some] <;> rfl) ?_; simp only [Act.put, List.setIfInBounds_toArray, List.set_cons_succ, List.set_cons_zero])
    | (refine oq_assign (by rfl) (by rfl) (by simp only [Act.eval, Array.getD_eq_getD_getElem?, List.getElem?_toArray, List.getElem?_cons_zero, List.getElem?_cons_succ, Option.getD_some] <;> rfl) ?_; simp only [Act.put, List.setIfInBounds_toArray, List.set_cons_succ, List.set_cons_zero])
    | (refine oq_load_all (by rfl) (by rfl) (by rfl) (by first | exact agg_vec | exact agg_wide | exact agg_big) (by repeat (first | exact .head _ | refine .tail _ ?_)) (by rfl) ?_; simp only [Act.put, List.setIfInBounds_toArray, List.set_cons_succ, List.set_cons_zero])
    | (refine oq_load_agg (by rfl) (by rfl) (by rfl) (by first | exact agg_vec | exact agg_wide | exact agg_big) (by repeat (first | exact .head _ | refine .tail _ ?_)) (by rfl) (by simp [go_sem, V3.v, Pl.v, V3.cs, Pl.cs, layAt, Value.cells, V3.plus, V3.minus] <;> rfl) ?_; simp only [Act.put, List.setIfInBounds_toArray, List.set_cons_succ, List.set_cons_zero])
    | (refine oq_load_one (by rfl) (by rfl) (by rfl) (by first | exact one_int | exact one_int64 | exact one_bool | exact one_uint8 | exact one_uint64 | exact one_int32 | exact one_uint64s) (by repeat (first | exact .head _ | refine .tail _ ?_)) (by simp [go_sem, V3.v, Pl.v, V3.cs, Pl.cs, layAt, Value.cells, V3.plus, V3.minus] <;> rfl) ?_; simp only [Act.put, List.setIfInBounds_toArray, List.set_cons_succ, List.set_cons_zero])
    | (refine oq_max (by rfl) (by rfl) (by rfl) (by rfl) ?_; simp only [Act.put, List.setIfInBounds_toArray, List.set_cons_succ, List.set_cons_zero])
    | (refine oq_min (by rfl) (by rfl) (by rfl) (by rfl) ?_; simp only [Act.put, List.setIfInBounds_toArray, List.set_cons_succ, List.set_cons_zero])
    | (refine oq_eql (by rfl) (by rfl) (by simp [go_sem, V3.v, Pl.v, V3.cs, Pl.cs, layAt, Value.cells, V3.plus, V3.minus] <;> rfl) (by simp [go_sem, V3.v, Pl.v, V3.cs, Pl.cs, layAt, Value.cells, V3.plus, V3.minus] <;> rfl) (by first | exact guard_vec) (by intro w; first | exact eqr_vec 9998 w _ _ _ | exact eqb_vec 9998 w _ _ _ _ _ _) ?_; simp only [Act.put, List.setIfInBounds_toArray, List.set_cons_succ, List.set_cons_zero])
    | (refine oq_neq (by rfl) (by rfl) (by simp [go_sem, V3.v, Pl.v, V3.cs, Pl.cs, layAt, Value.cells, V3.plus, V3.minus] <;> rfl) (by simp [go_sem, V3.v, Pl.v, V3.cs, Pl.cs, layAt, Value.cells, V3.plus, V3.minus] <;> rfl) (by first | exact guard_vec) (by intro w; first | exact eqr_vec 9998 w _ _ _ | exact eqb_vec 9998 w _ _ _ _ _ _) ?_; simp only [Act.put, List.setIfInBounds_toArray, List.set_cons_succ, List.set_cons_zero])
    | (refine oq_pure (by rfl) (by intro w; simp [go_sem, V3.v, Pl.v, V3.cs, Pl.cs, layAt, Value.cells, V3.plus, V3.minus] <;> rfl) ?_; simp only [Act.put, List.setIfInBounds_toArray, List.set_cons_succ, List.set_cons_zero])))
  refine oq_call (by rfl) (by rfl) (fun w _ => c5 _) (by rfl) Try.func30 (by kernel_rfl) ?_; simp only [Act.put, List.setIfInBounds_toArray, List.set_cons_succ, List.set_cons_zero]
  repeat (first | rw [k1.out] | rw [k2.out] | rw [k3.out] | rw [k4.out] | rw [k5.out] | rw [k6.out] | (first
    | (refine oq_skip (by rfl) ?_; simp only [Act.put, List.setIfInBounds_toArray, List.set_cons_succ, List.set_cons_zero])
    | (refine oq_move (by rfl) (by rfl) (by simp only [Act.eval, Array.getD_eq_getD_getElem?, List.getElem?_toArray, List.getElem?_cons_zero, List.getElem?_cons_succ, Option.getD_some] <;> rfl) ?_; simp only [Act.put, List.setIfInBounds_toArray, List.set_cons_succ, List.set_cons_zero])
    | (refine oq_assign (by rfl) (by rfl) (by simp only [Act.eval, Array.getD_eq_getD_getElem?, List.getElem?_toArray, List.getElem?_cons_zero, List.getElem?_cons_succ, Option.getD_some] <;> rfl) ?_; simp only [Act.put, List.setIfInBounds_toArray, List.set_cons_succ, List.set_cons_zero])
    | (refine oq_load_all (by rfl) (by rfl) (by rfl) (by first | exact agg_vec | exact agg_wide | exact agg_big) (by repeat (first | exact .head _ | refine .tail _ ?_)) (by rfl) ?_; simp only [Act.put, List.setIfInBounds_toArray, List.set_cons_succ, List.set_cons_zero])
    | (refine oq_load_agg (by rfl) (by rfl) (by rfl) (by first | exact agg_vec | exact agg_wide | exact agg_big) (by repeat (first | exact .head _ | refine .tail _ ?_)) (by rfl) (by simp [go_sem, V3.v, Pl.v, V3.cs, Pl.cs, layAt, Value.cells, V3.plus, V3.minus] <;> rfl) ?_; simp only [Act.put, List.setIfInBounds_toArray, List.set_cons_succ, List.set_cons_zero])
    | (refine oq_load_one (by rfl) (by rfl) (by rfl) (by first | exact one_int | exact one_int64 | exact one_bool | exact one_uint8 | exact one_uint64 | exact one_int32 | exact one_uint64s) (by repeat (first | exact .head _ | refine .tail _ ?_)) (by simp [go_sem, V3.v, Pl.v, V3.cs, Pl.cs, layAt, Value.cells, V3.plus, V3.minus] <;> rfl) ?_; simp only [Act.put, List.setIfInBounds_toArray, List.set_cons_succ, List.set_cons_zero])
    | (refine oq_max (by rfl) (by rfl) (by rfl) (by rfl) ?_; simp only [Act.put, List.setIfInBounds_toArray, List.set_cons_succ, List.set_cons_zero])
    | (refine oq_min (by rfl) (by rfl) (by rfl) (by rfl) ?_; simp only [Act.put, List.setIfInBounds_toArray, List.set_cons_succ, List.set_cons_zero])
    | (refine oq_eql (by rfl) (by rfl) (by simp [go_sem, V3.v, Pl.v, V3.cs, Pl.cs, layAt, Value.cells, V3.plus, V3.minus] <;> rfl) (by simp [go_sem, V3.v, Pl.v, V3.cs, Pl.cs, layAt, Value.cells, V3.plus, V3.minus] <;> rfl) (by first | exact guard_vec) (by intro w; first | exact eqr_vec 9998 w _ _ _ | exact eqb_vec 9998 w _ _ _ _ _ _) ?_; simp only [Act.put, List.setIfInBounds_toArray, List.set_cons_succ, List.set_cons_zero])
    | (refine oq_neq (by rfl) (by rfl) (by simp [go_sem, V3.v, Pl.v, V3.cs, Pl.cs, layAt, Value.cells, V3.plus, V3.minus] <;> rfl) (by simp [go_sem, V3.v, Pl.v, V3.cs, Pl.cs, layAt, Value.cells, V3.plus, V3.minus] <;> rfl) (by first | exact guard_vec) (by intro w; first | exact eqr_vec 9998 w _ _ _ | exact eqb_vec 9998 w _ _ _ _ _ _) ?_; simp only [Act.put, List.setIfInBounds_toArray, List.set_cons_succ, List.set_cons_zero])
    | (refine oq_pure (by rfl) (by intro w; simp [go_sem, V3.v, Pl.v, V3.cs, Pl.cs, layAt, Value.cells, V3.plus, V3.minus] <;> rfl) ?_; simp only [Act.put, List.setIfInBounds_toArray, List.set_cons_succ, List.set_cons_zero])))
  refine oq_call (by rfl) (by rfl) (fun w _ => c6 _) (by rfl) Try.func17 (by kernel_rfl) ?_; simp only [Act.put, List.setIfInBounds_toArray, List.set_cons_succ, List.set_cons_zero]
  repeat (first | rw [k1.out] | rw [k2.out] | rw [k3.out] | rw [k4.out] | rw [k5.out] | rw [k6.out] | (first
    | (refine oq_skip (by rfl) ?_; simp only [Act.put, List.setIfInBounds_toArray, List.set_cons_succ, List.set_cons_zero])
    | (refine oq_move (by rfl) (by rfl) (by simp only [Act.eval, Array.getD_eq_getD_getElem?, List.getElem?_toArray, List.getElem?_cons_zero, List.getElem?_cons_succ, Option.getD_some] <;> rfl) ?_; simp only [Act.put, List.setIfInBounds_toArray, List.set_cons_succ, List.set_cons_zero])
    | (refine oq_assign (by rfl) (by rfl) (by simp only [Act.eval, Array.getD_eq_getD_getElem?, List.getElem?_toArray, List.getElem?_cons_zero, List.getElem?_cons_succ, Option.getD_some] <;> rfl) ?_; simp only [Act.put, List.setIfInBounds_toArray, List.set_cons_succ, List.set_cons_zero])
    | (refine oq_load_all (by rfl) (by rfl) (by rfl) (by first | exact agg_vec | exact agg_wide | exact agg_big) (by repeat (first | exact .head _ | refine .tail _ ?_)) (by rfl) ?_; simp only [Act.put, List.setIfInBounds_toArray, List.set_cons_succ, List.set_cons_zero])
    | (refine oq_load_agg (by rfl) (by rfl) (by rfl) (by first | exact agg_vec | exact agg_wide | exact agg_big) (by repeat (first | exact .head _ | refine .tail _ ?_)) (by rfl) (by simp [go_sem, V3.v, Pl.v, V3.cs, Pl.cs, layAt, Value.cells, V3.plus, V3.minus] <;> rfl) ?_; simp only [Act.put, List.setIfInBounds_toArray, List.set_cons_succ, List.set_cons_zero])
    | (refine oq_load_one (by rfl) (by rfl) (by rfl) (by first | exact one_int | exact one_int64 | exact one_bool | exact one_uint8 | exact one_uint64 | exact one_int32 | exact one_uint64s) (by repeat (first | exact .head _ | refine .tail _ ?_)) (by simp [go_sem, V3.v, Pl.v, V3.cs, Pl.cs, layAt, Value.cells, V3.plus, V3.minus] <;> rfl) ?_; simp only [Act.put, List.setIfInBounds_toArray, List.set_cons_succ, List.set_cons_zero])
    | (refine oq_max (by rfl) (by rfl) (by rfl) (by rfl) ?_; simp only [Act.put, List.setIfInBounds_toArray, List.set_cons_succ, List.set_cons_zero])
    | (refine oq_min (by rfl) (by rfl) (by rfl) (by rfl) ?_; simp only [Act.put, List.setIfInBounds_toArray, List.set_cons_succ, List.set_cons_zero])
    | (refine oq_eql (by rfl) (by rfl) (by simp [go_sem, V3.v, Pl.v, V3.cs, Pl.cs, layAt, Value.cells, V3.plus, V3.minus] <;> rfl) (by simp [go_sem, V3.v, Pl.v, V3.cs, Pl.cs, layAt, Value.cells, V3.plus, V3.minus] <;> rfl) (by first | exact guard_vec) (by intro w; first | exact eqr_vec 9998 w _ _ _ | exact eqb_vec 9998 w _ _ _ _ _ _) ?_; simp only [Act.put, List.setIfInBounds_toArray, List.set_cons_succ, List.set_cons_zero])
    | (refine oq_neq (by rfl) (by rfl) (by simp [go_sem, V3.v, Pl.v, V3.cs, Pl.cs, layAt, Value.cells, V3.plus, V3.minus] <;> rfl) (by simp [go_sem, V3.v, Pl.v, V3.cs, Pl.cs, layAt, Value.cells, V3.plus, V3.minus] <;> rfl) (by first | exact guard_vec) (by intro w; first | exact eqr_vec 9998 w _ _ _ | exact eqb_vec 9998 w _ _ _ _ _ _) ?_; simp only [Act.put, List.setIfInBounds_toArray, List.set_cons_succ, List.set_cons_zero])
    | (refine oq_pure (by rfl) (by intro w; simp [go_sem, V3.v, Pl.v, V3.cs, Pl.cs, layAt, Value.cells, V3.plus, V3.minus] <;> rfl) ?_; simp only [Act.put, List.setIfInBounds_toArray, List.set_cons_succ, List.set_cons_zero])))
  refine oq_call (by rfl) (by rfl) (fun w _ => c7 _) (by rfl) Try.func17 (by kernel_rfl) ?_; simp only [Act.put, List.setIfInBounds_toArray, List.set_cons_succ, List.set_cons_zero]
  repeat (first | rw [k1.out] | rw [k2.out] | rw [k3.out] | rw [k4.out] | rw [k5.out] | rw [k6.out] | (first
    | (refine oq_skip (by rfl) ?_; simp only [Act.put, List.setIfInBounds_toArray, List.set_cons_succ, List.set_cons_zero])
    | (refine oq_move (by rfl) (by rfl) (by simp only [Act.eval, Array.getD_eq_getD_getElem?, List.getElem?_toArray, List.getElem?_cons_zero, List.getElem?_cons_succ, Option.getD_some] <;> rfl) ?_; simp only [Act.put, List.setIfInBounds_toArray, List.set_cons_succ, List.set_cons_zero])
    | (refine oq_assign (by rfl) (by rfl) (by simp only [Act.eval, Array.getD_eq_getD_getElem?, List.getElem?_toArray, List.getElem?_cons_zero, List.getElem?_cons_succ, Option.getD_some] <;> rfl) ?_; simp only [Act.put, List.setIfInBounds_toArray, List.set_cons_succ, List.set_cons_zero])
    | (refine oq_load_all (by rfl) (by rfl) (by rfl) (by first | exact agg_vec | exact agg_wide | exact agg_big) (by repeat (first | exact .head _ | refine .tail _ ?_)) (by rfl) ?_; simp only [Act.put, List.setIfInBounds_toArray, List.set_cons_succ, List.set_cons_zero])
    | (refine oq_load_agg (by rfl) (by rfl) (by rfl) (by first | exact agg_vec | exact agg_wide | exact agg_big) (by repeat (first | exact .head _ | refine .tail _ ?_)) (by rfl) (by simp [go_sem, V3.v, Pl.v, V3.cs, Pl.cs, layAt, Value.cells, V3.plus, V3.minus] <;> rfl) ?_; simp only [Act.put, List.setIfInBounds_toArray, List.set_cons_succ, List.set_cons_zero])
    | (refine oq_load_one (by rfl) (by rfl) (by rfl) (by first | exact one_int | exact one_int64 | exact one_bool | exact one_uint8 | exact one_uint64 | exact one_int32 | exact one_uint64s) (by repeat (first | exact .head _ | refine .tail _ ?_)) (by simp [go_sem, V3.v, Pl.v, V3.cs, Pl.cs, layAt, Value.cells, V3.plus, V3.minus] <;> rfl) ?_; simp only [Act.put, List.setIfInBounds_toArray, List.set_cons_succ, List.set_cons_zero])
    | (refine oq_max (by rfl) (by rfl) (by rfl) (by rfl) ?_; simp only [Act.put, List.setIfInBounds_toArray, List.set_cons_succ, List.set_cons_zero])
    | (refine oq_min (by rfl) (by rfl) (by rfl) (by rfl) ?_; simp only [Act.put, List.setIfInBounds_toArray, List.set_cons_succ, List.set_cons_zero])
    | (refine oq_eql (by rfl) (by rfl) (by simp [go_sem, V3.v, Pl.v, V3.cs, Pl.cs, layAt, Value.cells, V3.plus, V3.minus] <;> rfl) (by simp [go_sem, V3.v, Pl.v, V3.cs, Pl.cs, layAt, Value.cells, V3.plus, V3.minus] <;> rfl) (by first | exact guard_vec) (by intro w; first | exact eqr_vec 9998 w _ _ _ | exact eqb_vec 9998 w _ _ _ _ _ _) ?_; simp only [Act.put, List.setIfInBounds_toArray, List.set_cons_succ, List.set_cons_zero])
    | (refine oq_neq (by rfl) (by rfl) (by simp [go_sem, V3.v, Pl.v, V3.cs, Pl.cs, layAt, Value.cells, V3.plus, V3.minus] <;> rfl) (by simp [go_sem, V3.v, Pl.v, V3.cs, Pl.cs, layAt, Value.cells, V3.plus, V3.minus] <;> rfl) (by first | exact guard_vec) (by intro w; first | exact eqr_vec 9998 w _ _ _ | exact eqb_vec 9998 w _ _ _ _ _ _) ?_; simp only [Act.put, List.setIfInBounds_toArray, List.set_cons_succ, List.set_cons_zero])
    | (refine oq_pure (by rfl) (by intro w; simp [go_sem, V3.v, Pl.v, V3.cs, Pl.cs, layAt, Value.cells, V3.plus, V3.minus] <;> rfl) ?_; simp only [Act.put, List.setIfInBounds_toArray, List.set_cons_succ, List.set_cons_zero])))
  refine oq_call (by rfl) (by rfl) (fun w _ => c8 _) (by rfl) Try.func17 (by kernel_rfl) ?_; simp only [Act.put, List.setIfInBounds_toArray, List.set_cons_succ, List.set_cons_zero]
  repeat (first | rw [k1.out] | rw [k2.out] | rw [k3.out] | rw [k4.out] | rw [k5.out] | rw [k6.out] | (first
    | (refine oq_skip (by rfl) ?_; simp only [Act.put, List.setIfInBounds_toArray, List.set_cons_succ, List.set_cons_zero])
    | (refine oq_move (by rfl) (by rfl) (by simp only [Act.eval, Array.getD_eq_getD_getElem?, List.getElem?_toArray, List.getElem?_cons_zero, List.getElem?_cons_succ, Option.getD_some] <;> rfl) ?_; simp only [Act.put, List.setIfInBounds_toArray, List.set_cons_succ, List.set_cons_zero])
    | (refine oq_assign (by rfl) (by rfl) (by simp only [Act.eval, Array.getD_eq_getD_getElem?, List.getElem?_toArray, List.getElem?_cons_zero, List.getElem?_cons_succ, Option.getD_some] <;> rfl) ?_; simp only [Act.put, List.setIfInBounds_toArray, List.set_cons_succ, List.set_cons_zero])
    | (refine oq_load_all (by rfl) (by rfl) (by rfl) (by first | exact agg_vec | exact agg_wide | exact agg_big) (by repeat (first | exact .head _ | refine .tail _ ?_)) (by rfl) ?_; simp only [Act.put, List.setIfInBounds_toArray, List.set_cons_succ, List.set_cons_zero])
    | (refine oq_load_agg (by rfl) (by rfl) (by rfl) (by first | exact agg_vec | exact agg_wide | exact agg_big) (by repeat (first | exact .head _ | refine .tail _ ?_)) (by rfl) (by simp [go_sem, V3.v, Pl.v, V3.cs, Pl.cs, layAt, Value.cells, V3.plus, V3.minus] <;> rfl) ?_; simp only [Act.put, List.setIfInBounds_toArray, List.set_cons_succ, List.set_cons_zero])
    | (refine oq_load_one (by rfl) (by rfl) (by rfl) (by first | exact one_int | exact one_int64 | exact one_bool | exact one_uint8 | exact one_uint64 | exact one_int32 | exact one_uint64s) (by repeat (first | exact .head _ | refine .tail _ ?_)) (by simp [go_sem, V3.v, Pl.v, V3.cs, Pl.cs, layAt, Value.cells, V3.plus, V3.minus] <;> rfl) ?_; simp only [Act.put, List.setIfInBounds_toArray, List.set_cons_succ, List.set_cons_zero])
    | (refine oq_max (by rfl) (by rfl) (by rfl) (by rfl) ?_; simp only [Act.put, List.setIfInBounds_toArray, List.set_cons_succ, List.set_cons_zero])
    | (refine oq_min (by rfl) (by rfl) (by rfl) (by rfl) ?_; simp only [Act.put, List.setIfInBounds_toArray, List.set_cons_succ, List.set_cons_zero])
    | (refine oq_eql (by rfl) (by rfl) (by simp [go_sem, V3.v, Pl.v, V3.cs, Pl.cs, layAt, Value.cells, V3.plus, V3.minus] <;> rfl) (by simp [go_sem, V3.v, Pl.v, V3.cs, Pl.cs, layAt, Value.cells, V3.plus, V3.minus] <;> rfl) (by first | exact guard_vec) (by intro w; first | exact eqr_vec 9998 w _ _ _ | exact eqb_vec 9998 w _ _ _ _ _ _) ?_; simp only [Act.put, List.setIfInBounds_toArray, List.set_cons_succ, List.set_cons_zero])
    | (refine oq_neq (by rfl) (by rfl) (by simp [go_sem, V3.v, Pl.v, V3.cs, Pl.cs, layAt, Value.cells, V3.plus, V3.minus] <;> rfl) (by simp [go_sem, V3.v, Pl.v, V3.cs, Pl.cs, layAt, Value.cells, V3.plus, V3.minus] <;> rfl) (by first | exact guard_vec) (by intro w; first | exact eqr_vec 9998 w _ _ _ | exact eqb_vec 9998 w _ _ _ _ _ _) ?_; simp only [Act.put, List.setIfInBounds_toArray, List.set_cons_succ, List.set_cons_zero])
    | (refine oq_pure (by rfl) (by intro w; simp [go_sem, V3.v, Pl.v, V3.cs, Pl.cs, layAt, Value.cells, V3.plus, V3.minus] <;> rfl) ?_; simp only [Act.put, List.setIfInBounds_toArray, List.set_cons_succ, List.set_cons_zero])))
  refine oq_call (by rfl) (by rfl) (fun w _ => c7 _) (by rfl) Try.func17 (by kernel_rfl) ?_; simp only [Act.put, List.setIfInBounds_toArray, List.set_cons_succ, List.set_cons_zero]
  repeat (first | rw [k1.out] | rw [k2.out] | rw [k3.out] | rw [k4.out] | rw [k5.out] | rw [k6.out] | (first
    | (refine oq_skip (by rfl) ?_; simp only [Act.put, List.setIfInBounds_toArray, List.set_cons_succ, List.set_cons_zero])
    | (refine oq_move (by rfl) (by rfl) (by simp only [Act.eval, Array.getD_eq_getD_getElem?, List.getElem?_toArray, List.getElem?_cons_zero, List.getElem?_cons_succ, Option.getD_some] <;> rfl) ?_; simp only [Act.put, List.setIfInBounds_toArray, List.set_cons_succ, List.set_cons_zero])
    | (refine oq_assign (by rfl) (by rfl) (by simp only [Act.eval, Array.getD_eq_getD_getElem?, List.getElem?_toArray, List.getElem?_cons_zero, List.getElem?_cons_succ, Option.getD_some] <;> rfl) ?_; simp only [Act.put, List.setIfInBounds_toArray, List.set_cons_succ, List.set_cons_zero])
    | (refine oq_load_all (by rfl) (by rfl) (by rfl) (by first | exact agg_vec | exact agg_wide | exact agg_big) (by repeat (first | exact .head _ | refine .tail _ ?_)) (by rfl) ?_; simp only [Act.put, List.setIfInBounds_toArray, List.set_cons_succ, List.set_cons_zero])
    | (refine oq_load_agg (by rfl) (by rfl) (by rfl) (by first | exact agg_vec | exact agg_wide | exact agg_big) (by repeat (first | exact .head _ | refine .tail _ ?_)) (by rfl) (by simp [go_sem, V3.v, Pl.v, V3.cs, Pl.cs, layAt, Value.cells, V3.plus, V3.minus] <;> rfl) ?_; simp only [Act.put, List.setIfInBounds_toArray, List.set_cons_succ, List.set_cons_zero])
    | (refine oq_load_one (by rfl) (by rfl) (by rfl) (by first | exact one_int | exact one_int64 | exact one_bool | exact one_uint8 | exact one_uint64 | exact one_int32 | exact one_uint64s) (by repeat (first | exact .head _ | refine .tail _ ?_)) (by simp [go_sem, V3.v, Pl.v, V3.cs, Pl.cs, layAt, Value.cells, V3.plus, V3.minus] <;> rfl) ?_; simp only [Act.put, List.setIfInBounds_toArray, List.set_cons_succ, List.set_cons_zero])
    | (refine oq_max (by rfl) (by rfl) (by rfl) (by rfl) ?_; simp only [Act.put, List.setIfInBounds_toArray, List.set_cons_succ, List.set_cons_zero])
    | (refine oq_min (by rfl) (by rfl) (by rfl) (by rfl) ?_; simp only [Act.put, List.setIfInBounds_toArray, List.set_cons_succ, List.set_cons_zero])
    | (refine oq_eql (by rfl) (by rfl) (by simp [go_sem, V3.v, Pl.v, V3.cs, Pl.cs, layAt, Value.cells, V3.plus, V3.minus] <;> rfl) (by simp [go_sem, V3.v, Pl.v, V3.cs, Pl.cs, layAt, Value.cells, V3.plus, V3.minus] <;> rfl) (by first | exact guard_vec) (by intro w; first | exact eqr_vec 9998 w _ _ _ | exact eqb_vec 9998 w _ _ _ _ _ _) ?_; simp only [Act.put, List.setIfInBounds_toArray, List.set_cons_succ, List.set_cons_zero])
    | (refine oq_neq (by rfl) (by rfl) (by simp [go_sem, V3.v, Pl.v, V3.cs, Pl.cs, layAt, Value.cells, V3.plus, V3.minus] <;> rfl) (by simp [go_sem, V3.v, Pl.v, V3.cs, Pl.cs, layAt, Value.cells, V3.plus, V3.minus] <;> rfl) (by first | exact guard_vec) (by intro w; first | exact eqr_vec 9998 w _ _ _ | exact eqb_vec 9998 w _ _ _ _ _ _) ?_; simp only [Act.put, List.setIfInBounds_toArray, List.set_cons_succ, List.set_cons_zero])
    | (refine oq_pure (by rfl) (by intro w; simp [go_sem, V3.v, Pl.v, V3.cs, Pl.cs, layAt, Value.cells, V3.plus, V3.minus] <;> rfl) ?_; simp only [Act.put, List.setIfInBounds_toArray, List.set_cons_succ, List.set_cons_zero])))
  refine oq_call (by rfl) (by rfl) (fun w _ => c8 _) (by rfl) Try.func17 (by kernel_rfl) ?_; simp only [Act.put, List.setIfInBounds_toArray, List.set_cons_succ, List.set_cons_zero]
  repeat (first | rw [k1.out] | rw [k2.out] | rw [k3.out] | rw [k4.out] | rw [k5.out] | rw [k6.out] | (first
    | (refine oq_skip (by rfl) ?_; simp only [Act.put, List.setIfInBounds_toArray, List.set_cons_succ, List.set_cons_zero])
    | (refine oq_move (by rfl) (by rfl) (by simp only [Act.eval, Array.getD_eq_getD_getElem?, List.getElem?_toArray, List.getElem?_cons_zero, List.getElem?_cons_succ, Option.getD_some] <;> rfl) ?_; simp only [Act.put, List.setIfInBounds_toArray, List.set_cons_succ, List.set_cons_zero])
    | (refine oq_assign (by rfl) (by rfl) (by simp only [Act.eval, Array.getD_eq_getD_getElem?, List.getElem?_toArray, List.getElem?_cons_zero, List.getElem?_cons_succ, Option.getD_some] <;> rfl) ?_; simp only [Act.put, List.setIfInBounds_toArray, List.set_cons_succ, List.set_cons_zero])
    | (refine oq_load_all (by rfl) (by rfl) (by rfl) (by first | exact agg_vec | exact agg_wide | exact agg_big) (by repeat (first | exact .head _ | refine .tail _ ?_)) (by rfl) ?_; simp only [Act.put, List.setIfInBounds_toArray, List.set_cons_succ, List.set_cons_zero])
    | (refine oq_load_agg (by rfl) (by rfl) (by rfl) (by first | exact agg_vec | exact agg_wide | exact agg_big) (by repeat (first | exact .head _ | refine .tail _ ?_)) (by rfl) (by simp [go_sem, V3.v, Pl.v, V3.cs, Pl.cs, layAt, Value.cells, V3.plus, V3.minus] <;> rfl) ?_; simp only [Act.put, List.setIfInBounds_toArray, List.set_cons_succ, List.set_cons_zero])
    | (refine oq_load_one (by rfl) (by rfl) (by rfl) (by first | exact one_int | exact one_int64 | exact one_bool | exact one_uint8 | exact one_uint64 | exact one_int32 | exact one_uint64s) (by repeat (first | exact .head _ | refine .tail _ ?_)) (by simp [go_sem, V3.v, Pl.v, V3.cs, Pl.cs, layAt, Value.cells, V3.plus, V3.minus] <;> rfl) ?_; simp only [Act.put, List.setIfInBounds_toArray, List.set_cons_succ, List.set_cons_zero])
    | (refine oq_max (by rfl) (by rfl) (by rfl) (by rfl) ?_; simp only [Act.put, List.setIfInBounds_toArray, List.set_cons_succ, List.set_cons_zero])
    | (refine oq_min (by rfl) (by rfl) (by rfl) (by rfl) ?_; simp only [Act.put, List.setIfInBounds_toArray, List.set_cons_succ, List.set_cons_zero])
    | (refine oq_eql (by rfl) (by rfl) (by simp [go_sem, V3.v, Pl.v, V3.cs, Pl.cs, layAt, Value.cells, V3.plus, V3.minus] <;> rfl) (by simp [go_sem, V3.v, Pl.v, V3.cs, Pl.cs, layAt, Value.cells, V3.plus, V3.minus] <;> rfl) (by first | exact guard_vec) (by intro w; first | exact eqr_vec 9998 w _ _ _ | exact eqb_vec 9998 w _ _ _ _ _ _) ?_; simp only [Act.put, List.setIfInBounds_toArray, List.set_cons_succ, List.set_cons_zero])
    | (refine oq_neq (by rfl) (by rfl) (by simp [go_sem, V3.v, Pl.v, V3.cs, Pl.cs, layAt, Value.cells, V3.plus, V3.minus] <;> rfl) (by simp [go_sem, V3.v, Pl.v, V3.cs, Pl.cs, layAt, Value.cells, V3.plus, V3.minus] <;> rfl) (by first | exact guard_vec) (by intro w; first | exact eqr_vec 9998 w _ _ _ | exact eqb_vec 9998 w _ _ _ _ _ _) ?_; simp only [Act.put, List.setIfInBounds_toArray, List.set_cons_succ, List.set_cons_zero])
    | (refine oq_pure (by rfl) (by intro w; simp [go_sem, V3.v, Pl.v, V3.cs, Pl.cs, layAt, Value.cells, V3.plus, V3.minus] <;> rfl) ?_; simp only [Act.put, List.setIfInBounds_toArray, List.set_cons_succ, List.set_cons_zero])))
  refine oq_call (by rfl) (by rfl) (fun w _ => c9 _) (by rfl) Try.func33 (by kernel_rfl) ?_; simp only [Act.put, List.setIfInBounds_toArray, List.set_cons_succ, List.set_cons_zero]
  repeat (first | rw [k1.out] | rw [k2.out] | rw [k3.out] | rw [k4.out] | rw [k5.out] | rw [k6.out] | (first
    | (refine oq_skip (by rfl) ?_; simp only [Act.put, List.setIfInBounds_toArray, List.set_cons_succ, List.set_cons_zero])
    | (refine oq_move (by rfl) (by rfl) (by simp only [Act.eval, Array.getD_eq_getD_getElem?, List.getElem?_toArray, List.getElem?_cons_zero, List.getElem?_cons_succ, Option.getD_some] <;> rfl) ?_; simp only [Act.put, List.setIfInBounds_toArray, List.set_cons_succ, List.set_cons_zero])
    | (refine oq_assign (by rfl) (by rfl) (by simp only [Act.eval, Array.getD_eq_getD_getElem?, List.getElem?_toArray, List.getElem?_cons_zero, List.getElem?_cons_succ, Option.getD_some] <;> rfl) ?_; simp only [Act.put, List.setIfInBounds_toArray, List.set_cons_succ, List.set_cons_zero])
    | (refine oq_load_all (by rfl) (by rfl) (by rfl) (by first | exact agg_vec | exact agg_wide | exact agg_big) (by repeat (first | exact .head _ | refine .tail _ ?_)) (by rfl) ?_; simp only [Act.put, List.setIfInBounds_toArray, List.set_cons_succ, List.set_cons_zero])
    | (refine oq_load_agg (by rfl) (by rfl) (by rfl) (by first | exact agg_vec | exact agg_wide | exact agg_big) (by repeat (first | exact .head _ | refine .tail _ ?_)) (by rfl) (by simp [go_sem, V3.v, Pl.v, V3.cs, Pl.cs, layAt, Value.cells, V3.plus, V3.minus] <;> rfl) ?_; simp only [Act.put, List.setIfInBounds_toArray, List.set_cons_succ, List.set_cons_zero])
    | (refine oq_load_one (by rfl) (by rfl) (by rfl) (by first | exact one_int | exact one_int64 | exact one_bool | exact one_uint8 | exact one_uint64 | exact one_int32 | exact one_uint64s) (by repeat (first | exact .head _ | refine .tail _ ?_)) (by simp [go_sem, V3.v, Pl.v, V3.cs, Pl.cs, layAt, Value.cells, V3.plus, V3.minus] <;> rfl) ?_; simp only [Act.put, List.setIfInBounds_toArray, List.set_cons_succ, List.set_cons_zero])
    | (refine oq_max (by rfl) (by rfl) (by rfl) (by rfl) ?_; simp only [Act.put, List.setIfInBounds_toArray, List.set_cons_succ, List.set_cons_zero])
    | (refine oq_min (by rfl) (by rfl) (by rfl) (by rfl) ?_; simp only [Act.put, List.setIfInBounds_toArray, List.set_cons_succ, List.set_cons_zero])
    | (refine oq_eql (by rfl) (by rfl) (by simp [go_sem, V3.v, Pl.v, V3.cs, Pl.cs, layAt, Value.cells, V3.plus, V3.minus] <;> rfl) (by simp [go_sem, V3.v, Pl.v, V3.cs, Pl.cs, layAt, Value.cells, V3.plus, V3.minus] <;> rfl) (by first | exact guard_vec) (by intro w; first | exact eqr_vec 9998 w _ _ _ | exact eqb_vec 9998 w _ _ _ _ _ _) ?_; simp only [Act.put, List.setIfInBounds_toArray, List.set_cons_succ, List.set_cons_zero])
    | (refine oq_neq (by rfl) (by rfl) (by simp [go_sem, V3.v, Pl.v, V3.cs, Pl.cs, layAt, Value.cells, V3.plus, V3.minus] <;> rfl) (by simp [go_sem, V3.v, Pl.v, V3.cs, Pl.cs, layAt, Value.cells, V3.plus, V3.minus] <;> rfl) (by first | exact guard_vec) (by intro w; first | exact eqr_vec 9998 w _ _ _ | exact eqb_vec 9998 w _ _ _ _ _ _) ?_; simp only [Act.put, List.setIfInBounds_toArray, List.set_cons_succ, List.set_cons_zero])
    | (refine oq_pure (by rfl) (by intro w; simp [go_sem, V3.v, Pl.v, V3.cs, Pl.cs, layAt, Value.cells, V3.plus, V3.minus] <;> rfl) ?_; simp only [Act.put, List.setIfInBounds_toArray, List.set_cons_succ, List.set_cons_zero])))
  refine oq_call (by rfl) (by rfl) (fun w _ => c5 _) (by rfl) Try.func30 (by kernel_rfl) ?_; simp only [Act.put, List.setIfInBounds_toArray, List.set_cons_succ, List.set_cons_zero]
  repeat (first | rw [k1.out] | rw [k2.out] | rw [k3.out] | rw [k4.out] | rw [k5.out] | rw [k6.out] | (first
    | (refine oq_skip (by rfl) ?_; simp only [Act.put, List.setIfInBounds_toArray, List.set_cons_succ, List.set_cons_zero])
    | (refine oq_move (by rfl) (by rfl) (by simp only [Act.eval, Array.getD_eq_getD_getElem?, List.getElem?_toArray, List.getElem?_cons_zero, List.getElem?_cons_succ, Option.getD_some] <;> rfl) ?_; simp only [Act.put, List.setIfInBounds_toArray, List.set_cons_succ, List.set_cons_zero])
    | (refine oq_assign (by rfl) (by rfl) (by simp only [Act.eval, Array.getD_eq_getD_getElem?, List.getElem?_toArray, List.getElem?_cons_zero, List.getElem?_cons_succ, Option.getD_some] <;> rfl) ?_; simp only [Act.put, List.setIfInBounds_toArray, List.set_cons_succ, List.set_cons_zero])
    | (refine oq_load_all (by rfl) (by rfl) (by rfl) (by first | exact agg_vec | exact agg_wide | exact agg_big) (by repeat (first | exact .head _ | refine .tail _ ?_)) (by rfl) ?_; simp only [Act.put, List.setIfInBounds_toArray, List.set_cons_succ, List.set_cons_zero])
    | (refine oq_load_agg (by rfl) (by rfl) (by rfl) (by first | exact agg_vec | exact agg_wide | exact agg_big) (by repeat (first | exact .head _ | refine .tail _ ?_)) (by rfl) (by simp [go_sem, V3.v, Pl.v, V3.cs, Pl.cs, layAt, Value.cells, V3.plus, V3.minus] <;> rfl) ?_; simp only [Act.put, List.setIfInBounds_toArray, List.set_cons_succ, List.set_cons_zero])
    | (refine oq_load_one (by rfl) (by rfl) (by rfl) (by first | exact one_int | exact one_int64 | exact one_bool | exact one_uint8 | exact one_uint64 | exact one_int32 | exact one_uint64s) (by repeat (first | exact .head _ | refine .tail _ ?_)) (by simp [go_sem, V3.v, Pl.v, V3.cs, Pl.cs, layAt, Value.cells, V3.plus, V3.minus] <;> rfl) ?_; simp only [Act.put, List.setIfInBounds_toArray, List.set_cons_succ, List.set_cons_zero])
    | (refine oq_max (by rfl) (by rfl) (by rfl) (by rfl) ?_; simp only [Act.put, List.setIfInBounds_toArray, List.set_cons_succ, List.set_cons_zero])
    | (refine oq_min (by rfl) (by rfl) (by rfl) (by rfl) ?_; simp only [Act.put, List.setIfInBounds_toArray, List.set_cons_succ, List.set_cons_zero])
    | (refine oq_eql (by rfl) (by rfl) (by simp [go_sem, V3.v, Pl.v, V3.cs, Pl.cs, layAt, Value.cells, V3.plus, V3.minus] <;> rfl) (by simp [go_sem, V3.v, Pl.v, V3.cs, Pl.cs, layAt, Value.cells, V3.plus, V3.minus] <;> rfl) (by first | exact guard_vec) (by intro w; first | exact eqr_vec 9998 w _ _ _ | exact eqb_vec 9998 w _ _ _ _ _ _) ?_; simp only [Act.put, List.setIfInBounds_toArray, List.set_cons_succ, List.set_cons_zero])
    | (refine oq_neq (by rfl) (by rfl) (by simp [go_sem, V3.v, Pl.v, V3.cs, Pl.cs, layAt, Value.cells, V3.plus, V3.minus] <;> rfl) (by simp [go_sem, V3.v, Pl.v, V3.cs, Pl.cs, layAt, Value.cells, V3.plus, V3.minus] <;> rfl) (by first | exact guard_vec) (by intro w; first | exact eqr_vec 9998 w _ _ _ | exact eqb_vec 9998 w _ _ _ _ _ _) ?_; simp only [Act.put, List.setIfInBounds_toArray, List.set_cons_succ, List.set_cons_zero])
    | (refine oq_pure (by rfl) (by intro w; simp [go_sem, V3.v, Pl.v, V3.cs, Pl.cs, layAt, Value.cells, V3.plus, V3.minus] <;> rfl) ?_; simp only [Act.put, List.setIfInBounds_toArray, List.set_cons_succ, List.set_cons_zero])))
  refine oq_call (by rfl) (by rfl) (fun w _ => c10 _) (by rfl) Try.func31 (by kernel_rfl) ?_; simp only [Act.put, List.setIfInBounds_toArray, List.set_cons_succ, List.set_cons_zero]
  repeat (first | rw [k1.out] | rw [k2.out] | rw [k3.out] | rw [k4.out] | rw [k5.out] | rw [k6.out] | (first
    | (refine oq_skip (by rfl) ?_; simp only [Act.put, List.setIfInBounds_toArray, List.set_cons_succ, List.set_cons_zero])
    | (refine oq_move (by rfl) (by rfl) (by simp only [Act.eval, Array.getD_eq_getD_getElem?, List.getElem?_toArray, List.getElem?_cons_zero, List.getElem?_cons_succ, Option.getD_some] <;> rfl) ?_; simp only [Act.put, List.setIfInBounds_toArray, List.set_cons_succ, List.set_cons_zero])
    | (refine oq_assign (by rfl) (by rfl) (by simp only [Act.eval, Array.getD_eq_getD_getElem?, List.getElem?_toArray, List.getElem?_cons_zero, List.getElem?_cons_succ, Option.getD_some] <;> rfl) ?_; simp only [Act.put, List.setIfInBounds_toArray, List.set_cons_succ, List.set_cons_zero])
    | (refine oq_load_all (by rfl) (by rfl) (by rfl) (by first | exact agg_vec | exact agg_wide | exact agg_big) (by repeat (first | exact .head _ | refine .tail _ ?_)) (by rfl) ?_; simp only [Act.put, List.setIfInBounds_toArray, List.set_cons_succ, List.set_cons_zero])
    | (refine oq_load_agg (by rfl) (by rfl) (by rfl) (by first | exact agg_vec | exact agg_wide | exact agg_big) (by repeat (first | exact .head _ | refine .tail _ ?_)) (by rfl) (by simp [go_sem, V3.v, Pl.v, V3.cs, Pl.cs, layAt, Value.cells, V3.plus, V3.minus] <;> rfl) ?_; simp only [Act.put, List.setIfInBounds_toArray, List.set_cons_succ, List.set_cons_zero])
    | (refine oq_load_one (by rfl) (by rfl) (by rfl) (by first | exact one_int | exact one_int64 | exact one_bool | exact one_uint8 | exact one_uint64 | exact one_int32 | exact one_uint64s) (by repeat (first | exact .head _ | refine .tail _ ?_)) (by simp [go_sem, V3.v, Pl.v, V3.cs, Pl.cs, layAt, Value.cells, V3.plus, V3.minus] <;> rfl) ?_; simp only [Act.put, List.setIfInBounds_toArray, List.set_cons_succ, List.set_cons_zero])
    | (refine oq_max (by rfl) (by rfl) (by rfl) (by rfl) ?_; simp only [Act.put, List.setIfInBounds_toArray, List.set_cons_succ, List.set_cons_zero])
    | (refine oq_min (by rfl) (by rfl) (by rfl) (by rfl) ?_; simp only [Act.put, List.setIfInBounds_toArray, List.set_cons_succ, List.set_cons_zero])
    | (refine oq_eql (by rfl) (by rfl) (by simp [go_sem, V3.v, Pl.v, V3.cs, Pl.cs, layAt, Value.cells, V3.plus, V3.minus] <;> rfl) (by simp [go_sem, V3.v, Pl.v, V3.cs, Pl.cs, layAt, Value.cells, V3.plus, V3.minus] <;> rfl) (by first | exact guard_vec) (by intro w; first | exact eqr_vec 9998 w _ _ _ | exact eqb_vec 9998 w _ _ _ _ _ _) ?_; simp only [Act.put, List.setIfInBounds_toArray, List.set_cons_succ, List.set_cons_zero])
    | (refine oq_neq (by rfl) (by rfl) (by simp [go_sem, V3.v, Pl.v, V3.cs, Pl.cs, layAt, Value.cells, V3.plus, V3.minus] <;> rfl) (by simp [go_sem, V3.v, Pl.v, V3.cs, Pl.cs, layAt, Value.cells, V3.plus, V3.minus] <;> rfl) (by first | exact guard_vec) (by intro w; first | exact eqr_vec 9998 w _ _ _ | exact eqb_vec 9998 w _ _ _ _ _ _) ?_; simp only [Act.put, List.setIfInBounds_toArray, List.set_cons_succ, List.set_cons_zero])
    | (refine oq_pure (by rfl) (by intro w; simp [go_sem, V3.v, Pl.v, V3.cs, Pl.cs, layAt, Value.cells, V3.plus, V3.minus] <;> rfl) ?_; simp only [Act.put, List.setIfInBounds_toArray, List.set_cons_succ, List.set_cons_zero])))
  refine oq_end ?_; clear hR; intro _ hR
  go_wp2_with (first
    | ((with_reducible apply is_list); first
      | ((with_reducible refine own_skip ?_ ?_); (exact rfl); simp only [Act.put, List.setIfInBounds_toArray, List.set_cons_succ, List.set_cons_zero])
      | (refine own_box (by rfl) (by rfl) (by simp [go_sem, V3.v, Pl.v, V3.cs, Pl.cs, layAt, Value.cells, V3.plus, V3.minus] <;> rfl) ?_ hR; clear hR; intro _ _ hR; simp only [Act.put, List.setIfInBounds_toArray, List.set_cons_succ, List.set_cons_zero])
      | (refine own_alloc (by rfl) (by rfl) (by first | exact zero_vec | exact zero_wide | exact zero_big) ?_ hR; clear hR; intro _ _ hR; simp only [Act.put, List.setIfInBounds_toArray, List.set_cons_succ, List.set_cons_zero])
      | (refine own_alloc1 (by rfl) (by rfl) (by first | exact zero_int | exact zero_int64 | exact zero_bool | exact zero_uint8 | exact zero_uint64 | exact zero_int32 | exact zero_uint64s) (by simp [go_sem, V3.v, Pl.v, V3.cs, Pl.cs, layAt, Value.cells, V3.plus, V3.minus] <;> rfl) ?_ hR; clear hR; intro _ _ hR; simp only [Act.put, List.setIfInBounds_toArray, List.set_cons_succ, List.set_cons_zero])
      | (refine own_load_all (by rfl) (by rfl) (by rfl) (by first | exact agg_vec | exact agg_wide | exact agg_big) (by repeat (first | exact .head _ | refine .tail _ ?_)) (by rfl) ?_ hR; clear hR; intro hR; simp only [Act.put, List.setIfInBounds_toArray, List.set_cons_succ, List.set_cons_zero])
      | (refine own_load_agg (by rfl) (by rfl) (by rfl) (by first | exact agg_vec | exact agg_wide | exact agg_big) (by repeat (first | exact .head _ | refine .tail _ ?_)) (by rfl) (by simp [go_sem, V3.v, Pl.v, V3.cs, Pl.cs, layAt, Value.cells, V3.plus, V3.minus] <;> rfl) ?_ hR; clear hR; intro hR; simp only [Act.put, List.setIfInBounds_toArray, List.set_cons_succ, List.set_cons_zero])
      | (refine own_load_one (by rfl) (by rfl) (by rfl) (by first | exact one_int | exact one_int64 | exact one_bool | exact one_uint8 | exact one_uint64 | exact one_int32 | exact one_uint64s) (by repeat (first | exact .head _ | refine .tail _ ?_)) (by simp [go_sem, V3.v, Pl.v, V3.cs, Pl.cs, layAt, Value.cells, V3.plus, V3.minus] <;> rfl) ?_ hR; clear hR; intro hR; simp only [Act.put, List.setIfInBounds_toArray, List.set_cons_succ, List.set_cons_zero])
      | (refine own_store_all (by rfl) (by rfl) (by rfl) (by first | exact agg_vec.size | exact agg_wide.size | exact agg_big.size | exact one_int.size | exact one_int64.size | exact one_bool.size | exact one_uint8.size | exact one_uint64.size | exact one_int32.size | exact one_uint64s.size) (by rfl) (by rfl) (by rfl) (by repeat (first | exact .head _ | refine .tail _ ?_)) (by rfl) (by simp [go_sem, V3.v, Pl.v, V3.cs, Pl.cs, layAt, Value.cells, V3.plus, V3.minus] <;> rfl) (by repeat (first | exact .here | apply Upd.there)) ?_ hR; clear hR; intro _ hR; simp only [Act.put, List.setIfInBounds_toArray, List.set_cons_succ, List.set_cons_zero])
      | (refine own_store (by rfl) (by rfl) (by rfl) (by first | exact agg_vec.size | exact agg_wide.size | exact agg_big.size | exact one_int.size | exact one_int64.size | exact one_bool.size | exact one_uint8.size | exact one_uint64.size | exact one_int32.size | exact one_uint64s.size) (by rfl) (by rfl) (by rfl) (by repeat (first | exact .head _ | refine .tail _ ?_)) (by rfl) (by simp [go_sem, V3.v, Pl.v, V3.cs, Pl.cs, layAt, Value.cells, V3.plus, V3.minus] <;> rfl) (by repeat (first | exact .here | apply Upd.there)) ?_ hR; clear hR; intro _ hR; simp only [Act.put, List.setIfInBounds_toArray, List.set_cons_succ, List.set_cons_zero])
      | (refine own_max (by rfl) (by rfl) (by rfl) (by rfl) ?_; simp only [Act.put, List.setIfInBounds_toArray, List.set_cons_succ, List.set_cons_zero])
      | (refine own_min (by rfl) (by rfl) (by rfl) (by rfl) ?_; simp only [Act.put, List.setIfInBounds_toArray, List.set_cons_succ, List.set_cons_zero]))
    )
  refine own_ret1 Try.results12 rfl (.tmp rfl) (fun hR => hR.ret ?_) hR
  rw [HV.out]
  rfl

end Go.Proofs.Ytegafbkjdkpfiaa
