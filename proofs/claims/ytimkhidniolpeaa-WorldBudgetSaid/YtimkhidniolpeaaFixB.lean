/- Package fix's numbers: Add, Neg, Sub, Mul: contracts. -/
import Derived.Test.YtimkhidniolpeaaFixA
namespace Go.Proofs.Ytimkhidniolpeaa
set_option linter.unusedSimpArgs false
set_option linter.unusedVariables false
set_option maxRecDepth 100000
set_option maxHeartbeats 0
open Go.RowKit

def cut64 (z : Int) : Int := max (-9223372036854775808) (min 9223372036854775807 z)

theorem signedN_cut (n : Nat) (b : Bool) : signedN n b = cut64 (if b then -(n : Int) else n) := by
 unfold signedN cut64; cases b <;> simp <;> omega

theorem Wide_word (n : Nat) (h : n < 18446744073709551616) : Wide n = .agg #[.int .u64 0, U n] := by
 have e1 : n / 18446744073709551616 = 0 := by omega
 have e2 : n % 18446744073709551616 = n := by omega
 unfold Wide Wide.cs
 rw [e1, e2, nI_eq 0]
 rfl

theorem plus_words (x y : Nat) (w : World) (hx : x < 18446744073709551616) (hy : y < 18446744073709551616) : Calls Try.prog 81 #[.agg #[.int .u64 0, U x], .agg #[.int .u64 0, U y]] w (Ret w (Wide (x + y))) := by
 rw [← Wide_word x hx, ← Wide_word y hy]
 exact plus_any x y w (by omega)

theorem signed_word (x : Nat) (b : Bool) (w : World) (hx : x < 18446744073709551616) : Calls Try.prog 69 #[.agg #[.int .u64 0, U x], .bool b] w (Ret w (I (signedN x b))) := by
 rw [← Wide_word x hx]
 exact signed_any x b w

set_option maxHeartbeats 1000000 in
theorem add_any (a b : Int) (w : World) (ha : In64 a) (hb : In64 b) : Calls Try.prog 65 #[I a, I b] w (Ret w (I (cut64 (a + b)))) := by
 have ha' := ha; have hb' := hb
 unfold In64 at ha' hb'
 rcases h : (decide (a < 0) == decide (b < 0)) with _ | _
 ·
  have k1 := Lib.hid h
  have e : cut64 (a + b) = IntKind.i64.wrap (a + b) := by
   have hh : (a < 0 ∧ 0 ≤ b) ∨ (0 ≤ a ∧ b < 0) := by
    by_cases hx : a < 0 <;> by_cases hy : b < 0 <;> simp_all <;> omega
   rw [IntWalk.i64_in _ (by omega)]
   unfold cut64; omega
  clear h
  rw [e]
  refine calls_hide fun V HV => ?_
  have hR := Own.start w
  go_enter Try.func65, Try.ntmps65
  go_wp2_with (first
   | ((with_reducible apply is_list); repeat1' (first | rw [k1.out] | ((first
    | ((with_reducible refine own_skip ?_ ?_); (exact rfl))
    | (refine own_move (by rfl) (by rfl) (by simp only [Act.eval, Array.getD_eq_getD_getElem?, List.getElem?_toArray, List.getElem?_cons_zero, List.getElem?_cons_succ, Option.getD_some] <;> rfl) ?_)
    | (refine own_assign (by rfl) (by rfl) (by simp only [Act.eval, Array.getD_eq_getD_getElem?, List.getElem?_toArray, List.getElem?_cons_zero, List.getElem?_cons_succ, Option.getD_some] <;> rfl) ?_)
    | (refine own_box (by rfl) (by rfl) (by simp [go_sem, V3.v, Pl.v, V3.cs, Pl.cs, layAt, Value.cells, Wide, Wide.cs] <;> rfl) ?_ hR; clear hR; intro _ _ hR)
    | (refine own_alloc (by rfl) (by rfl) (by first | exact zero_all _ _ rfl) ?_ hR; clear hR; intro _ _ hR)
    | (refine own_alloc1 (by rfl) (by rfl) (by first | exact zero_all _ _ rfl) (by simp [go_sem, V3.v, Pl.v, V3.cs, Pl.cs, layAt, Value.cells, Wide, Wide.cs] <;> rfl) ?_ hR; clear hR; intro _ _ hR)
    | (refine own_load_all (by rfl) (by rfl) (by rfl) (by first | exact agg_all _ _ rfl) (by repeat (first | exact .head _ | refine .tail _ ?_)) (by rfl) ?_ hR; clear hR; intro hR)
    | (refine own_load_agg (by rfl) (by rfl) (by rfl) (by first | exact agg_all _ _ rfl) (by repeat (first | exact .head _ | refine .tail _ ?_)) (by rfl) (by simp [go_sem, V3.v, Pl.v, V3.cs, Pl.cs, layAt, Value.cells, Wide, Wide.cs] <;> rfl) ?_ hR; clear hR; intro hR)
    | (refine own_load_one (by rfl) (by rfl) (by rfl) (by first | exact one_all _ rfl) (by repeat (first | exact .head _ | refine .tail _ ?_)) (by simp [go_sem, V3.v, Pl.v, V3.cs, Pl.cs, layAt, Value.cells, Wide, Wide.cs] <;> rfl) ?_ hR; clear hR; intro hR)
    | (refine own_store_all (by rfl) (by rfl) (by rfl) (by first | exact (agg_all _ _ rfl).size | exact (one_all _ rfl).size) (by rfl) (by rfl) (by rfl) (by repeat (first | exact .head _ | refine .tail _ ?_)) (by rfl) (by simp [go_sem, V3.v, Pl.v, V3.cs, Pl.cs, layAt, Value.cells, Wide, Wide.cs] <;> rfl) (by repeat (first | exact .here | apply Upd.there)) ?_ hR; clear hR; intro _ hR)
    | (refine own_store (by rfl) (by rfl) (by rfl) (by first | exact (agg_all _ _ rfl).size | exact (one_all _ rfl).size) (by rfl) (by rfl) (by rfl) (by repeat (first | exact .head _ | refine .tail _ ?_)) (by rfl) (by simp [go_sem, V3.v, Pl.v, V3.cs, Pl.cs, layAt, Value.cells, Wide, Wide.cs] <;> rfl) (by repeat (first | exact .here | apply Upd.there)) ?_ hR; clear hR; intro _ hR)
    | (refine own_max (by rfl) (by rfl) (by rfl) (by rfl) ?_)
    | (refine own_min (by rfl) (by rfl) (by rfl) (by rfl) ?_)
    | (refine own_pure (by rfl) (by intro w; simp [go_sem, V3.v, Pl.v, V3.cs, Pl.cs, layAt, Value.cells, Wide, Wide.cs] <;> rfl) ?_)); simp only [Act.put, List.setIfInBounds_toArray, List.set_cons_succ, List.set_cons_zero]))))
  refine own_ret1 Try.results65 rfl (.tmp rfl) (fun hR => hR.ret ?_) hR
  rw [HV.out]
  rfl
 ·
  have k1 := Lib.hid h
  have e : cut64 (a + b) = signedN (a.natAbs + b.natAbs) (decide (a < 0)) := by
   rw [signedN_cut]
   congr 1
   by_cases hx : a < 0 <;> by_cases hy : b < 0 <;> simp_all <;> omega
  clear h
  rw [e]
  refine calls_hide fun V HV => ?_
  have hR := Own.start w
  go_enter Try.func65, Try.ntmps65
  go_wp2_with (first
   | ((with_reducible apply is_list); repeat1' (first | rw [k1.out] | ((first
    | ((with_reducible refine own_skip ?_ ?_); (exact rfl))
    | (refine own_move (by rfl) (by rfl) (by simp only [Act.eval, Array.getD_eq_getD_getElem?, List.getElem?_toArray, List.getElem?_cons_zero, List.getElem?_cons_succ, Option.getD_some] <;> rfl) ?_)
    | (refine own_assign (by rfl) (by rfl) (by simp only [Act.eval, Array.getD_eq_getD_getElem?, List.getElem?_toArray, List.getElem?_cons_zero, List.getElem?_cons_succ, Option.getD_some] <;> rfl) ?_)
    | (refine own_box (by rfl) (by rfl) (by simp [go_sem, V3.v, Pl.v, V3.cs, Pl.cs, layAt, Value.cells, Wide, Wide.cs] <;> rfl) ?_ hR; clear hR; intro _ _ hR)
    | (refine own_alloc (by rfl) (by rfl) (by first | exact zero_all _ _ rfl) ?_ hR; clear hR; intro _ _ hR)
    | (refine own_alloc1 (by rfl) (by rfl) (by first | exact zero_all _ _ rfl) (by simp [go_sem, V3.v, Pl.v, V3.cs, Pl.cs, layAt, Value.cells, Wide, Wide.cs] <;> rfl) ?_ hR; clear hR; intro _ _ hR)
    | (refine own_load_all (by rfl) (by rfl) (by rfl) (by first | exact agg_all _ _ rfl) (by repeat (first | exact .head _ | refine .tail _ ?_)) (by rfl) ?_ hR; clear hR; intro hR)
    | (refine own_load_agg (by rfl) (by rfl) (by rfl) (by first | exact agg_all _ _ rfl) (by repeat (first | exact .head _ | refine .tail _ ?_)) (by rfl) (by simp [go_sem, V3.v, Pl.v, V3.cs, Pl.cs, layAt, Value.cells, Wide, Wide.cs] <;> rfl) ?_ hR; clear hR; intro hR)
    | (refine own_load_one (by rfl) (by rfl) (by rfl) (by first | exact one_all _ rfl) (by repeat (first | exact .head _ | refine .tail _ ?_)) (by simp [go_sem, V3.v, Pl.v, V3.cs, Pl.cs, layAt, Value.cells, Wide, Wide.cs] <;> rfl) ?_ hR; clear hR; intro hR)
    | (refine own_store_all (by rfl) (by rfl) (by rfl) (by first | exact (agg_all _ _ rfl).size | exact (one_all _ rfl).size) (by rfl) (by rfl) (by rfl) (by repeat (first | exact .head _ | refine .tail _ ?_)) (by rfl) (by simp [go_sem, V3.v, Pl.v, V3.cs, Pl.cs, layAt, Value.cells, Wide, Wide.cs] <;> rfl) (by repeat (first | exact .here | apply Upd.there)) ?_ hR; clear hR; intro _ hR)
    | (refine own_store (by rfl) (by rfl) (by rfl) (by first | exact (agg_all _ _ rfl).size | exact (one_all _ rfl).size) (by rfl) (by rfl) (by rfl) (by repeat (first | exact .head _ | refine .tail _ ?_)) (by rfl) (by simp [go_sem, V3.v, Pl.v, V3.cs, Pl.cs, layAt, Value.cells, Wide, Wide.cs] <;> rfl) (by repeat (first | exact .here | apply Upd.there)) ?_ hR; clear hR; intro _ hR)
    | (refine own_max (by rfl) (by rfl) (by rfl) (by rfl) ?_)
    | (refine own_min (by rfl) (by rfl) (by rfl) (by rfl) ?_)
    | (refine own_pure (by rfl) (by intro w; simp [go_sem, V3.v, Pl.v, V3.cs, Pl.cs, layAt, Value.cells, Wide, Wide.cs] <;> rfl) ?_)); simp only [Act.put, List.setIfInBounds_toArray, List.set_cons_succ, List.set_cons_zero]))))
  refine own_call (size_any a _ ha) ?_ hR; clear hR; intro _ hR
  go_wp2_with (first
   | ((with_reducible apply is_list); repeat1' (first | rw [k1.out] | ((first
    | ((with_reducible refine own_skip ?_ ?_); (exact rfl))
    | (refine own_move (by rfl) (by rfl) (by simp only [Act.eval, Array.getD_eq_getD_getElem?, List.getElem?_toArray, List.getElem?_cons_zero, List.getElem?_cons_succ, Option.getD_some] <;> rfl) ?_)
    | (refine own_assign (by rfl) (by rfl) (by simp only [Act.eval, Array.getD_eq_getD_getElem?, List.getElem?_toArray, List.getElem?_cons_zero, List.getElem?_cons_succ, Option.getD_some] <;> rfl) ?_)
    | (refine own_box (by rfl) (by rfl) (by simp [go_sem, V3.v, Pl.v, V3.cs, Pl.cs, layAt, Value.cells, Wide, Wide.cs] <;> rfl) ?_ hR; clear hR; intro _ _ hR)
    | (refine own_alloc (by rfl) (by rfl) (by first | exact zero_all _ _ rfl) ?_ hR; clear hR; intro _ _ hR)
    | (refine own_alloc1 (by rfl) (by rfl) (by first | exact zero_all _ _ rfl) (by simp [go_sem, V3.v, Pl.v, V3.cs, Pl.cs, layAt, Value.cells, Wide, Wide.cs] <;> rfl) ?_ hR; clear hR; intro _ _ hR)
    | (refine own_load_all (by rfl) (by rfl) (by rfl) (by first | exact agg_all _ _ rfl) (by repeat (first | exact .head _ | refine .tail _ ?_)) (by rfl) ?_ hR; clear hR; intro hR)
    | (refine own_load_agg (by rfl) (by rfl) (by rfl) (by first | exact agg_all _ _ rfl) (by repeat (first | exact .head _ | refine .tail _ ?_)) (by rfl) (by simp [go_sem, V3.v, Pl.v, V3.cs, Pl.cs, layAt, Value.cells, Wide, Wide.cs] <;> rfl) ?_ hR; clear hR; intro hR)
    | (refine own_load_one (by rfl) (by rfl) (by rfl) (by first | exact one_all _ rfl) (by repeat (first | exact .head _ | refine .tail _ ?_)) (by simp [go_sem, V3.v, Pl.v, V3.cs, Pl.cs, layAt, Value.cells, Wide, Wide.cs] <;> rfl) ?_ hR; clear hR; intro hR)
    | (refine own_store_all (by rfl) (by rfl) (by rfl) (by first | exact (agg_all _ _ rfl).size | exact (one_all _ rfl).size) (by rfl) (by rfl) (by rfl) (by repeat (first | exact .head _ | refine .tail _ ?_)) (by rfl) (by simp [go_sem, V3.v, Pl.v, V3.cs, Pl.cs, layAt, Value.cells, Wide, Wide.cs] <;> rfl) (by repeat (first | exact .here | apply Upd.there)) ?_ hR; clear hR; intro _ hR)
    | (refine own_store (by rfl) (by rfl) (by rfl) (by first | exact (agg_all _ _ rfl).size | exact (one_all _ rfl).size) (by rfl) (by rfl) (by rfl) (by repeat (first | exact .head _ | refine .tail _ ?_)) (by rfl) (by simp [go_sem, V3.v, Pl.v, V3.cs, Pl.cs, layAt, Value.cells, Wide, Wide.cs] <;> rfl) (by repeat (first | exact .here | apply Upd.there)) ?_ hR; clear hR; intro _ hR)
    | (refine own_max (by rfl) (by rfl) (by rfl) (by rfl) ?_)
    | (refine own_min (by rfl) (by rfl) (by rfl) (by rfl) ?_)
    | (refine own_pure (by rfl) (by intro w; simp [go_sem, V3.v, Pl.v, V3.cs, Pl.cs, layAt, Value.cells, Wide, Wide.cs] <;> rfl) ?_)); simp only [Act.put, List.setIfInBounds_toArray, List.set_cons_succ, List.set_cons_zero]))))
  refine own_call (size_any b _ hb) ?_ hR; clear hR; intro _ hR
  go_wp2_with (first
   | ((with_reducible apply is_list); repeat1' (first | rw [k1.out] | ((first
    | ((with_reducible refine own_skip ?_ ?_); (exact rfl))
    | (refine own_move (by rfl) (by rfl) (by simp only [Act.eval, Array.getD_eq_getD_getElem?, List.getElem?_toArray, List.getElem?_cons_zero, List.getElem?_cons_succ, Option.getD_some] <;> rfl) ?_)
    | (refine own_assign (by rfl) (by rfl) (by simp only [Act.eval, Array.getD_eq_getD_getElem?, List.getElem?_toArray, List.getElem?_cons_zero, List.getElem?_cons_succ, Option.getD_some] <;> rfl) ?_)
    | (refine own_box (by rfl) (by rfl) (by simp [go_sem, V3.v, Pl.v, V3.cs, Pl.cs, layAt, Value.cells, Wide, Wide.cs] <;> rfl) ?_ hR; clear hR; intro _ _ hR)
    | (refine own_alloc (by rfl) (by rfl) (by first | exact zero_all _ _ rfl) ?_ hR; clear hR; intro _ _ hR)
    | (refine own_alloc1 (by rfl) (by rfl) (by first | exact zero_all _ _ rfl) (by simp [go_sem, V3.v, Pl.v, V3.cs, Pl.cs, layAt, Value.cells, Wide, Wide.cs] <;> rfl) ?_ hR; clear hR; intro _ _ hR)
    | (refine own_load_all (by rfl) (by rfl) (by rfl) (by first | exact agg_all _ _ rfl) (by repeat (first | exact .head _ | refine .tail _ ?_)) (by rfl) ?_ hR; clear hR; intro hR)
    | (refine own_load_agg (by rfl) (by rfl) (by rfl) (by first | exact agg_all _ _ rfl) (by repeat (first | exact .head _ | refine .tail _ ?_)) (by rfl) (by simp [go_sem, V3.v, Pl.v, V3.cs, Pl.cs, layAt, Value.cells, Wide, Wide.cs] <;> rfl) ?_ hR; clear hR; intro hR)
    | (refine own_load_one (by rfl) (by rfl) (by rfl) (by first | exact one_all _ rfl) (by repeat (first | exact .head _ | refine .tail _ ?_)) (by simp [go_sem, V3.v, Pl.v, V3.cs, Pl.cs, layAt, Value.cells, Wide, Wide.cs] <;> rfl) ?_ hR; clear hR; intro hR)
    | (refine own_store_all (by rfl) (by rfl) (by rfl) (by first | exact (agg_all _ _ rfl).size | exact (one_all _ rfl).size) (by rfl) (by rfl) (by rfl) (by repeat (first | exact .head _ | refine .tail _ ?_)) (by rfl) (by simp [go_sem, V3.v, Pl.v, V3.cs, Pl.cs, layAt, Value.cells, Wide, Wide.cs] <;> rfl) (by repeat (first | exact .here | apply Upd.there)) ?_ hR; clear hR; intro _ hR)
    | (refine own_store (by rfl) (by rfl) (by rfl) (by first | exact (agg_all _ _ rfl).size | exact (one_all _ rfl).size) (by rfl) (by rfl) (by rfl) (by repeat (first | exact .head _ | refine .tail _ ?_)) (by rfl) (by simp [go_sem, V3.v, Pl.v, V3.cs, Pl.cs, layAt, Value.cells, Wide, Wide.cs] <;> rfl) (by repeat (first | exact .here | apply Upd.there)) ?_ hR; clear hR; intro _ hR)
    | (refine own_max (by rfl) (by rfl) (by rfl) (by rfl) ?_)
    | (refine own_min (by rfl) (by rfl) (by rfl) (by rfl) ?_)
    | (refine own_pure (by rfl) (by intro w; simp [go_sem, V3.v, Pl.v, V3.cs, Pl.cs, layAt, Value.cells, Wide, Wide.cs] <;> rfl) ?_)); simp only [Act.put, List.setIfInBounds_toArray, List.set_cons_succ, List.set_cons_zero]))))
  refine own_call (plus_words a.natAbs b.natAbs _ (by omega) (by omega)) ?_ hR; clear hR; intro _ hR
  go_wp2_with (first
   | ((with_reducible apply is_list); repeat1' (first | rw [k1.out] | ((first
    | ((with_reducible refine own_skip ?_ ?_); (exact rfl))
    | (refine own_move (by rfl) (by rfl) (by simp only [Act.eval, Array.getD_eq_getD_getElem?, List.getElem?_toArray, List.getElem?_cons_zero, List.getElem?_cons_succ, Option.getD_some] <;> rfl) ?_)
    | (refine own_assign (by rfl) (by rfl) (by simp only [Act.eval, Array.getD_eq_getD_getElem?, List.getElem?_toArray, List.getElem?_cons_zero, List.getElem?_cons_succ, Option.getD_some] <;> rfl) ?_)
    | (refine own_box (by rfl) (by rfl) (by simp [go_sem, V3.v, Pl.v, V3.cs, Pl.cs, layAt, Value.cells, Wide, Wide.cs] <;> rfl) ?_ hR; clear hR; intro _ _ hR)
    | (refine own_alloc (by rfl) (by rfl) (by first | exact zero_all _ _ rfl) ?_ hR; clear hR; intro _ _ hR)
    | (refine own_alloc1 (by rfl) (by rfl) (by first | exact zero_all _ _ rfl) (by simp [go_sem, V3.v, Pl.v, V3.cs, Pl.cs, layAt, Value.cells, Wide, Wide.cs] <;> rfl) ?_ hR; clear hR; intro _ _ hR)
    | (refine own_load_all (by rfl) (by rfl) (by rfl) (by first | exact agg_all _ _ rfl) (by repeat (first | exact .head _ | refine .tail _ ?_)) (by rfl) ?_ hR; clear hR; intro hR)
    | (refine own_load_agg (by rfl) (by rfl) (by rfl) (by first | exact agg_all _ _ rfl) (by repeat (first | exact .head _ | refine .tail _ ?_)) (by rfl) (by simp [go_sem, V3.v, Pl.v, V3.cs, Pl.cs, layAt, Value.cells, Wide, Wide.cs] <;> rfl) ?_ hR; clear hR; intro hR)
    | (refine own_load_one (by rfl) (by rfl) (by rfl) (by first | exact one_all _ rfl) (by repeat (first | exact .head _ | refine .tail _ ?_)) (by simp [go_sem, V3.v, Pl.v, V3.cs, Pl.cs, layAt, Value.cells, Wide, Wide.cs] <;> rfl) ?_ hR; clear hR; intro hR)
    | (refine own_store_all (by rfl) (by rfl) (by rfl) (by first | exact (agg_all _ _ rfl).size | exact (one_all _ rfl).size) (by rfl) (by rfl) (by rfl) (by repeat (first | exact .head _ | refine .tail _ ?_)) (by rfl) (by simp [go_sem, V3.v, Pl.v, V3.cs, Pl.cs, layAt, Value.cells, Wide, Wide.cs] <;> rfl) (by repeat (first | exact .here | apply Upd.there)) ?_ hR; clear hR; intro _ hR)
    | (refine own_store (by rfl) (by rfl) (by rfl) (by first | exact (agg_all _ _ rfl).size | exact (one_all _ rfl).size) (by rfl) (by rfl) (by rfl) (by repeat (first | exact .head _ | refine .tail _ ?_)) (by rfl) (by simp [go_sem, V3.v, Pl.v, V3.cs, Pl.cs, layAt, Value.cells, Wide, Wide.cs] <;> rfl) (by repeat (first | exact .here | apply Upd.there)) ?_ hR; clear hR; intro _ hR)
    | (refine own_max (by rfl) (by rfl) (by rfl) (by rfl) ?_)
    | (refine own_min (by rfl) (by rfl) (by rfl) (by rfl) ?_)
    | (refine own_pure (by rfl) (by intro w; simp [go_sem, V3.v, Pl.v, V3.cs, Pl.cs, layAt, Value.cells, Wide, Wide.cs] <;> rfl) ?_)); simp only [Act.put, List.setIfInBounds_toArray, List.set_cons_succ, List.set_cons_zero]))))
  refine own_call (signed_any (a.natAbs + b.natAbs) (decide (a < 0)) _) ?_ hR; clear hR; intro _ hR
  go_wp2_with (first
   | ((with_reducible apply is_list); repeat1' (first | rw [k1.out] | ((first
    | ((with_reducible refine own_skip ?_ ?_); (exact rfl))
    | (refine own_move (by rfl) (by rfl) (by simp only [Act.eval, Array.getD_eq_getD_getElem?, List.getElem?_toArray, List.getElem?_cons_zero, List.getElem?_cons_succ, Option.getD_some] <;> rfl) ?_)
    | (refine own_assign (by rfl) (by rfl) (by simp only [Act.eval, Array.getD_eq_getD_getElem?, List.getElem?_toArray, List.getElem?_cons_zero, List.getElem?_cons_succ, Option.getD_some] <;> rfl) ?_)
    | (refine own_box (by rfl) (by rfl) (by simp [go_sem, V3.v, Pl.v, V3.cs, Pl.cs, layAt, Value.cells, Wide, Wide.cs] <;> rfl) ?_ hR; clear hR; intro _ _ hR)
    | (refine own_alloc (by rfl) (by rfl) (by first | exact zero_all _ _ rfl) ?_ hR; clear hR; intro _ _ hR)
    | (refine own_alloc1 (by rfl) (by rfl) (by first | exact zero_all _ _ rfl) (by simp [go_sem, V3.v, Pl.v, V3.cs, Pl.cs, layAt, Value.cells, Wide, Wide.cs] <;> rfl) ?_ hR; clear hR; intro _ _ hR)
    | (refine own_load_all (by rfl) (by rfl) (by rfl) (by first | exact agg_all _ _ rfl) (by repeat (first | exact .head _ | refine .tail _ ?_)) (by rfl) ?_ hR; clear hR; intro hR)
    | (refine own_load_agg (by rfl) (by rfl) (by rfl) (by first | exact agg_all _ _ rfl) (by repeat (first | exact .head _ | refine .tail _ ?_)) (by rfl) (by simp [go_sem, V3.v, Pl.v, V3.cs, Pl.cs, layAt, Value.cells, Wide, Wide.cs] <;> rfl) ?_ hR; clear hR; intro hR)
    | (refine own_load_one (by rfl) (by rfl) (by rfl) (by first | exact one_all _ rfl) (by repeat (first | exact .head _ | refine .tail _ ?_)) (by simp [go_sem, V3.v, Pl.v, V3.cs, Pl.cs, layAt, Value.cells, Wide, Wide.cs] <;> rfl) ?_ hR; clear hR; intro hR)
    | (refine own_store_all (by rfl) (by rfl) (by rfl) (by first | exact (agg_all _ _ rfl).size | exact (one_all _ rfl).size) (by rfl) (by rfl) (by rfl) (by repeat (first | exact .head _ | refine .tail _ ?_)) (by rfl) (by simp [go_sem, V3.v, Pl.v, V3.cs, Pl.cs, layAt, Value.cells, Wide, Wide.cs] <;> rfl) (by repeat (first | exact .here | apply Upd.there)) ?_ hR; clear hR; intro _ hR)
    | (refine own_store (by rfl) (by rfl) (by rfl) (by first | exact (agg_all _ _ rfl).size | exact (one_all _ rfl).size) (by rfl) (by rfl) (by rfl) (by repeat (first | exact .head _ | refine .tail _ ?_)) (by rfl) (by simp [go_sem, V3.v, Pl.v, V3.cs, Pl.cs, layAt, Value.cells, Wide, Wide.cs] <;> rfl) (by repeat (first | exact .here | apply Upd.there)) ?_ hR; clear hR; intro _ hR)
    | (refine own_max (by rfl) (by rfl) (by rfl) (by rfl) ?_)
    | (refine own_min (by rfl) (by rfl) (by rfl) (by rfl) ?_)
    | (refine own_pure (by rfl) (by intro w; simp [go_sem, V3.v, Pl.v, V3.cs, Pl.cs, layAt, Value.cells, Wide, Wide.cs] <;> rfl) ?_)); simp only [Act.put, List.setIfInBounds_toArray, List.set_cons_succ, List.set_cons_zero]))))
  refine own_ret1 Try.results65 rfl (.tmp rfl) (fun hR => hR.ret ?_) hR
  rw [HV.out]
  rfl

set_option maxHeartbeats 1000000 in
theorem sub_any (a b : Int) (w : World) (ha : In64 a) (hb : In64 b) : Calls Try.prog 64 #[I a, I b] w (Ret w (I (cut64 (a - b)))) := by
 have ha' := ha; have hb' := hb
 unfold In64 at ha' hb'
 rcases h : (decide (a < 0) == decide (b < 0)) with _ | _
 ·
  have k1 := Lib.hid h
  have e : cut64 (a - b) = signedN (a.natAbs + b.natAbs) (decide (a < 0)) := by
   rw [signedN_cut]
   congr 1
   by_cases hx : a < 0 <;> by_cases hy : b < 0 <;> simp_all <;> omega
  clear h
  rw [e]
  refine calls_hide fun V HV => ?_
  have hR := Own.start w
  go_enter Try.func64, Try.ntmps64
  go_wp2_with (first
   | ((with_reducible apply is_list); repeat1' (first | rw [k1.out] | ((first
    | ((with_reducible refine own_skip ?_ ?_); (exact rfl))
    | (refine own_move (by rfl) (by rfl) (by simp only [Act.eval, Array.getD_eq_getD_getElem?, List.getElem?_toArray, List.getElem?_cons_zero, List.getElem?_cons_succ, Option.getD_some] <;> rfl) ?_)
    | (refine own_assign (by rfl) (by rfl) (by simp only [Act.eval, Array.getD_eq_getD_getElem?, List.getElem?_toArray, List.getElem?_cons_zero, List.getElem?_cons_succ, Option.getD_some] <;> rfl) ?_)
    | (refine own_box (by rfl) (by rfl) (by simp [go_sem, V3.v, Pl.v, V3.cs, Pl.cs, layAt, Value.cells, Wide, Wide.cs] <;> rfl) ?_ hR; clear hR; intro _ _ hR)
    | (refine own_alloc (by rfl) (by rfl) (by first | exact zero_all _ _ rfl) ?_ hR; clear hR; intro _ _ hR)
    | (refine own_alloc1 (by rfl) (by rfl) (by first | exact zero_all _ _ rfl) (by simp [go_sem, V3.v, Pl.v, V3.cs, Pl.cs, layAt, Value.cells, Wide, Wide.cs] <;> rfl) ?_ hR; clear hR; intro _ _ hR)
    | (refine own_load_all (by rfl) (by rfl) (by rfl) (by first | exact agg_all _ _ rfl) (by repeat (first | exact .head _ | refine .tail _ ?_)) (by rfl) ?_ hR; clear hR; intro hR)
    | (refine own_load_agg (by rfl) (by rfl) (by rfl) (by first | exact agg_all _ _ rfl) (by repeat (first | exact .head _ | refine .tail _ ?_)) (by rfl) (by simp [go_sem, V3.v, Pl.v, V3.cs, Pl.cs, layAt, Value.cells, Wide, Wide.cs] <;> rfl) ?_ hR; clear hR; intro hR)
    | (refine own_load_one (by rfl) (by rfl) (by rfl) (by first | exact one_all _ rfl) (by repeat (first | exact .head _ | refine .tail _ ?_)) (by simp [go_sem, V3.v, Pl.v, V3.cs, Pl.cs, layAt, Value.cells, Wide, Wide.cs] <;> rfl) ?_ hR; clear hR; intro hR)
    | (refine own_store_all (by rfl) (by rfl) (by rfl) (by first | exact (agg_all _ _ rfl).size | exact (one_all _ rfl).size) (by rfl) (by rfl) (by rfl) (by repeat (first | exact .head _ | refine .tail _ ?_)) (by rfl) (by simp [go_sem, V3.v, Pl.v, V3.cs, Pl.cs, layAt, Value.cells, Wide, Wide.cs] <;> rfl) (by repeat (first | exact .here | apply Upd.there)) ?_ hR; clear hR; intro _ hR)
    | (refine own_store (by rfl) (by rfl) (by rfl) (by first | exact (agg_all _ _ rfl).size | exact (one_all _ rfl).size) (by rfl) (by rfl) (by rfl) (by repeat (first | exact .head _ | refine .tail _ ?_)) (by rfl) (by simp [go_sem, V3.v, Pl.v, V3.cs, Pl.cs, layAt, Value.cells, Wide, Wide.cs] <;> rfl) (by repeat (first | exact .here | apply Upd.there)) ?_ hR; clear hR; intro _ hR)
    | (refine own_max (by rfl) (by rfl) (by rfl) (by rfl) ?_)
    | (refine own_min (by rfl) (by rfl) (by rfl) (by rfl) ?_)
    | (refine own_pure (by rfl) (by intro w; simp [go_sem, V3.v, Pl.v, V3.cs, Pl.cs, layAt, Value.cells, Wide, Wide.cs] <;> rfl) ?_)); simp only [Act.put, List.setIfInBounds_toArray, List.set_cons_succ, List.set_cons_zero]))))
  refine own_call (size_any a _ ha) ?_ hR; clear hR; intro _ hR
  go_wp2_with (first
   | ((with_reducible apply is_list); repeat1' (first | rw [k1.out] | ((first
    | ((with_reducible refine own_skip ?_ ?_); (exact rfl))
    | (refine own_move (by rfl) (by rfl) (by simp only [Act.eval, Array.getD_eq_getD_getElem?, List.getElem?_toArray, List.getElem?_cons_zero, List.getElem?_cons_succ, Option.getD_some] <;> rfl) ?_)
    | (refine own_assign (by rfl) (by rfl) (by simp only [Act.eval, Array.getD_eq_getD_getElem?, List.getElem?_toArray, List.getElem?_cons_zero, List.getElem?_cons_succ, Option.getD_some] <;> rfl) ?_)
    | (refine own_box (by rfl) (by rfl) (by simp [go_sem, V3.v, Pl.v, V3.cs, Pl.cs, layAt, Value.cells, Wide, Wide.cs] <;> rfl) ?_ hR; clear hR; intro _ _ hR)
    | (refine own_alloc (by rfl) (by rfl) (by first | exact zero_all _ _ rfl) ?_ hR; clear hR; intro _ _ hR)
    | (refine own_alloc1 (by rfl) (by rfl) (by first | exact zero_all _ _ rfl) (by simp [go_sem, V3.v, Pl.v, V3.cs, Pl.cs, layAt, Value.cells, Wide, Wide.cs] <;> rfl) ?_ hR; clear hR; intro _ _ hR)
    | (refine own_load_all (by rfl) (by rfl) (by rfl) (by first | exact agg_all _ _ rfl) (by repeat (first | exact .head _ | refine .tail _ ?_)) (by rfl) ?_ hR; clear hR; intro hR)
    | (refine own_load_agg (by rfl) (by rfl) (by rfl) (by first | exact agg_all _ _ rfl) (by repeat (first | exact .head _ | refine .tail _ ?_)) (by rfl) (by simp [go_sem, V3.v, Pl.v, V3.cs, Pl.cs, layAt, Value.cells, Wide, Wide.cs] <;> rfl) ?_ hR; clear hR; intro hR)
    | (refine own_load_one (by rfl) (by rfl) (by rfl) (by first | exact one_all _ rfl) (by repeat (first | exact .head _ | refine .tail _ ?_)) (by simp [go_sem, V3.v, Pl.v, V3.cs, Pl.cs, layAt, Value.cells, Wide, Wide.cs] <;> rfl) ?_ hR; clear hR; intro hR)
    | (refine own_store_all (by rfl) (by rfl) (by rfl) (by first | exact (agg_all _ _ rfl).size | exact (one_all _ rfl).size) (by rfl) (by rfl) (by rfl) (by repeat (first | exact .head _ | refine .tail _ ?_)) (by rfl) (by simp [go_sem, V3.v, Pl.v, V3.cs, Pl.cs, layAt, Value.cells, Wide, Wide.cs] <;> rfl) (by repeat (first | exact .here | apply Upd.there)) ?_ hR; clear hR; intro _ hR)
    | (refine own_store (by rfl) (by rfl) (by rfl) (by first | exact (agg_all _ _ rfl).size | exact (one_all _ rfl).size) (by rfl) (by rfl) (by rfl) (by repeat (first | exact .head _ | refine .tail _ ?_)) (by rfl) (by simp [go_sem, V3.v, Pl.v, V3.cs, Pl.cs, layAt, Value.cells, Wide, Wide.cs] <;> rfl) (by repeat (first | exact .here | apply Upd.there)) ?_ hR; clear hR; intro _ hR)
    | (refine own_max (by rfl) (by rfl) (by rfl) (by rfl) ?_)
    | (refine own_min (by rfl) (by rfl) (by rfl) (by rfl) ?_)
    | (refine own_pure (by rfl) (by intro w; simp [go_sem, V3.v, Pl.v, V3.cs, Pl.cs, layAt, Value.cells, Wide, Wide.cs] <;> rfl) ?_)); simp only [Act.put, List.setIfInBounds_toArray, List.set_cons_succ, List.set_cons_zero]))))
  refine own_call (size_any b _ hb) ?_ hR; clear hR; intro _ hR
  go_wp2_with (first
   | ((with_reducible apply is_list); repeat1' (first | rw [k1.out] | ((first
    | ((with_reducible refine own_skip ?_ ?_); (exact rfl))
    | (refine own_move (by rfl) (by rfl) (by simp only [Act.eval, Array.getD_eq_getD_getElem?, List.getElem?_toArray, List.getElem?_cons_zero, List.getElem?_cons_succ, Option.getD_some] <;> rfl) ?_)
    | (refine own_assign (by rfl) (by rfl) (by simp only [Act.eval, Array.getD_eq_getD_getElem?, List.getElem?_toArray, List.getElem?_cons_zero, List.getElem?_cons_succ, Option.getD_some] <;> rfl) ?_)
    | (refine own_box (by rfl) (by rfl) (by simp [go_sem, V3.v, Pl.v, V3.cs, Pl.cs, layAt, Value.cells, Wide, Wide.cs] <;> rfl) ?_ hR; clear hR; intro _ _ hR)
    | (refine own_alloc (by rfl) (by rfl) (by first | exact zero_all _ _ rfl) ?_ hR; clear hR; intro _ _ hR)
    | (refine own_alloc1 (by rfl) (by rfl) (by first | exact zero_all _ _ rfl) (by simp [go_sem, V3.v, Pl.v, V3.cs, Pl.cs, layAt, Value.cells, Wide, Wide.cs] <;> rfl) ?_ hR; clear hR; intro _ _ hR)
    | (refine own_load_all (by rfl) (by rfl) (by rfl) (by first | exact agg_all _ _ rfl) (by repeat (first | exact .head _ | refine .tail _ ?_)) (by rfl) ?_ hR; clear hR; intro hR)
    | (refine own_load_agg (by rfl) (by rfl) (by rfl) (by first | exact agg_all _ _ rfl) (by repeat (first | exact .head _ | refine .tail _ ?_)) (by rfl) (by simp [go_sem, V3.v, Pl.v, V3.cs, Pl.cs, layAt, Value.cells, Wide, Wide.cs] <;> rfl) ?_ hR; clear hR; intro hR)
    | (refine own_load_one (by rfl) (by rfl) (by rfl) (by first | exact one_all _ rfl) (by repeat (first | exact .head _ | refine .tail _ ?_)) (by simp [go_sem, V3.v, Pl.v, V3.cs, Pl.cs, layAt, Value.cells, Wide, Wide.cs] <;> rfl) ?_ hR; clear hR; intro hR)
    | (refine own_store_all (by rfl) (by rfl) (by rfl) (by first | exact (agg_all _ _ rfl).size | exact (one_all _ rfl).size) (by rfl) (by rfl) (by rfl) (by repeat (first | exact .head _ | refine .tail _ ?_)) (by rfl) (by simp [go_sem, V3.v, Pl.v, V3.cs, Pl.cs, layAt, Value.cells, Wide, Wide.cs] <;> rfl) (by repeat (first | exact .here | apply Upd.there)) ?_ hR; clear hR; intro _ hR)
    | (refine own_store (by rfl) (by rfl) (by rfl) (by first | exact (agg_all _ _ rfl).size | exact (one_all _ rfl).size) (by rfl) (by rfl) (by rfl) (by repeat (first | exact .head _ | refine .tail _ ?_)) (by rfl) (by simp [go_sem, V3.v, Pl.v, V3.cs, Pl.cs, layAt, Value.cells, Wide, Wide.cs] <;> rfl) (by repeat (first | exact .here | apply Upd.there)) ?_ hR; clear hR; intro _ hR)
    | (refine own_max (by rfl) (by rfl) (by rfl) (by rfl) ?_)
    | (refine own_min (by rfl) (by rfl) (by rfl) (by rfl) ?_)
    | (refine own_pure (by rfl) (by intro w; simp [go_sem, V3.v, Pl.v, V3.cs, Pl.cs, layAt, Value.cells, Wide, Wide.cs] <;> rfl) ?_)); simp only [Act.put, List.setIfInBounds_toArray, List.set_cons_succ, List.set_cons_zero]))))
  refine own_call (plus_words a.natAbs b.natAbs _ (by omega) (by omega)) ?_ hR; clear hR; intro _ hR
  go_wp2_with (first
   | ((with_reducible apply is_list); repeat1' (first | rw [k1.out] | ((first
    | ((with_reducible refine own_skip ?_ ?_); (exact rfl))
    | (refine own_move (by rfl) (by rfl) (by simp only [Act.eval, Array.getD_eq_getD_getElem?, List.getElem?_toArray, List.getElem?_cons_zero, List.getElem?_cons_succ, Option.getD_some] <;> rfl) ?_)
    | (refine own_assign (by rfl) (by rfl) (by simp only [Act.eval, Array.getD_eq_getD_getElem?, List.getElem?_toArray, List.getElem?_cons_zero, List.getElem?_cons_succ, Option.getD_some] <;> rfl) ?_)
    | (refine own_box (by rfl) (by rfl) (by simp [go_sem, V3.v, Pl.v, V3.cs, Pl.cs, layAt, Value.cells, Wide, Wide.cs] <;> rfl) ?_ hR; clear hR; intro _ _ hR)
    | (refine own_alloc (by rfl) (by rfl) (by first | exact zero_all _ _ rfl) ?_ hR; clear hR; intro _ _ hR)
    | (refine own_alloc1 (by rfl) (by rfl) (by first | exact zero_all _ _ rfl) (by simp [go_sem, V3.v, Pl.v, V3.cs, Pl.cs, layAt, Value.cells, Wide, Wide.cs] <;> rfl) ?_ hR; clear hR; intro _ _ hR)
    | (refine own_load_all (by rfl) (by rfl) (by rfl) (by first | exact agg_all _ _ rfl) (by repeat (first | exact .head _ | refine .tail _ ?_)) (by rfl) ?_ hR; clear hR; intro hR)
    | (refine own_load_agg (by rfl) (by rfl) (by rfl) (by first | exact agg_all _ _ rfl) (by repeat (first | exact .head _ | refine .tail _ ?_)) (by rfl) (by simp [go_sem, V3.v, Pl.v, V3.cs, Pl.cs, layAt, Value.cells, Wide, Wide.cs] <;> rfl) ?_ hR; clear hR; intro hR)
    | (refine own_load_one (by rfl) (by rfl) (by rfl) (by first | exact one_all _ rfl) (by repeat (first | exact .head _ | refine .tail _ ?_)) (by simp [go_sem, V3.v, Pl.v, V3.cs, Pl.cs, layAt, Value.cells, Wide, Wide.cs] <;> rfl) ?_ hR; clear hR; intro hR)
    | (refine own_store_all (by rfl) (by rfl) (by rfl) (by first | exact (agg_all _ _ rfl).size | exact (one_all _ rfl).size) (by rfl) (by rfl) (by rfl) (by repeat (first | exact .head _ | refine .tail _ ?_)) (by rfl) (by simp [go_sem, V3.v, Pl.v, V3.cs, Pl.cs, layAt, Value.cells, Wide, Wide.cs] <;> rfl) (by repeat (first | exact .here | apply Upd.there)) ?_ hR; clear hR; intro _ hR)
    | (refine own_store (by rfl) (by rfl) (by rfl) (by first | exact (agg_all _ _ rfl).size | exact (one_all _ rfl).size) (by rfl) (by rfl) (by rfl) (by repeat (first | exact .head _ | refine .tail _ ?_)) (by rfl) (by simp [go_sem, V3.v, Pl.v, V3.cs, Pl.cs, layAt, Value.cells, Wide, Wide.cs] <;> rfl) (by repeat (first | exact .here | apply Upd.there)) ?_ hR; clear hR; intro _ hR)
    | (refine own_max (by rfl) (by rfl) (by rfl) (by rfl) ?_)
    | (refine own_min (by rfl) (by rfl) (by rfl) (by rfl) ?_)
    | (refine own_pure (by rfl) (by intro w; simp [go_sem, V3.v, Pl.v, V3.cs, Pl.cs, layAt, Value.cells, Wide, Wide.cs] <;> rfl) ?_)); simp only [Act.put, List.setIfInBounds_toArray, List.set_cons_succ, List.set_cons_zero]))))
  refine own_call (signed_any (a.natAbs + b.natAbs) (decide (a < 0)) _) ?_ hR; clear hR; intro _ hR
  go_wp2_with (first
   | ((with_reducible apply is_list); repeat1' (first | rw [k1.out] | ((first
    | ((with_reducible refine own_skip ?_ ?_); (exact rfl))
    | (refine own_move (by rfl) (by rfl) (by simp only [Act.eval, Array.getD_eq_getD_getElem?, List.getElem?_toArray, List.getElem?_cons_zero, List.getElem?_cons_succ, Option.getD_some] <;> rfl) ?_)
    | (refine own_assign (by rfl) (by rfl) (by simp only [Act.eval, Array.getD_eq_getD_getElem?, List.getElem?_toArray, List.getElem?_cons_zero, List.getElem?_cons_succ, Option.getD_some] <;> rfl) ?_)
    | (refine own_box (by rfl) (by rfl) (by simp [go_sem, V3.v, Pl.v, V3.cs, Pl.cs, layAt, Value.cells, Wide, Wide.cs] <;> rfl) ?_ hR; clear hR; intro _ _ hR)
    | (refine own_alloc (by rfl) (by rfl) (by first | exact zero_all _ _ rfl) ?_ hR; clear hR; intro _ _ hR)
    | (refine own_alloc1 (by rfl) (by rfl) (by first | exact zero_all _ _ rfl) (by simp [go_sem, V3.v, Pl.v, V3.cs, Pl.cs, layAt, Value.cells, Wide, Wide.cs] <;> rfl) ?_ hR; clear hR; intro _ _ hR)
    | (refine own_load_all (by rfl) (by rfl) (by rfl) (by first | exact agg_all _ _ rfl) (by repeat (first | exact .head _ | refine .tail _ ?_)) (by rfl) ?_ hR; clear hR; intro hR)
    | (refine own_load_agg (by rfl) (by rfl) (by rfl) (by first | exact agg_all _ _ rfl) (by repeat (first | exact .head _ | refine .tail _ ?_)) (by rfl) (by simp [go_sem, V3.v, Pl.v, V3.cs, Pl.cs, layAt, Value.cells, Wide, Wide.cs] <;> rfl) ?_ hR; clear hR; intro hR)
    | (refine own_load_one (by rfl) (by rfl) (by rfl) (by first | exact one_all _ rfl) (by repeat (first | exact .head _ | refine .tail _ ?_)) (by simp [go_sem, V3.v, Pl.v, V3.cs, Pl.cs, layAt, Value.cells, Wide, Wide.cs] <;> rfl) ?_ hR; clear hR; intro hR)
    | (refine own_store_all (by rfl) (by rfl) (by rfl) (by first | exact (agg_all _ _ rfl).size | exact (one_all _ rfl).size) (by rfl) (by rfl) (by rfl) (by repeat (first | exact .head _ | refine .tail _ ?_)) (by rfl) (by simp [go_sem, V3.v, Pl.v, V3.cs, Pl.cs, layAt, Value.cells, Wide, Wide.cs] <;> rfl) (by repeat (first | exact .here | apply Upd.there)) ?_ hR; clear hR; intro _ hR)
    | (refine own_store (by rfl) (by rfl) (by rfl) (by first | exact (agg_all _ _ rfl).size | exact (one_all _ rfl).size) (by rfl) (by rfl) (by rfl) (by repeat (first | exact .head _ | refine .tail _ ?_)) (by rfl) (by simp [go_sem, V3.v, Pl.v, V3.cs, Pl.cs, layAt, Value.cells, Wide, Wide.cs] <;> rfl) (by repeat (first | exact .here | apply Upd.there)) ?_ hR; clear hR; intro _ hR)
    | (refine own_max (by rfl) (by rfl) (by rfl) (by rfl) ?_)
    | (refine own_min (by rfl) (by rfl) (by rfl) (by rfl) ?_)
    | (refine own_pure (by rfl) (by intro w; simp [go_sem, V3.v, Pl.v, V3.cs, Pl.cs, layAt, Value.cells, Wide, Wide.cs] <;> rfl) ?_)); simp only [Act.put, List.setIfInBounds_toArray, List.set_cons_succ, List.set_cons_zero]))))
  refine own_ret1 Try.results64 rfl (.tmp rfl) (fun hR => hR.ret ?_) hR
  rw [HV.out]
  rfl
 ·
  have k1 := Lib.hid h
  have e : cut64 (a - b) = IntKind.i64.wrap (a - b) := by
   have hh : (a < 0 ∧ b < 0) ∨ (0 ≤ a ∧ 0 ≤ b) := by
    by_cases hx : a < 0 <;> by_cases hy : b < 0 <;> simp_all <;> omega
   rw [IntWalk.i64_in _ (by omega)]
   unfold cut64; omega
  clear h
  rw [e]
  refine calls_hide fun V HV => ?_
  have hR := Own.start w
  go_enter Try.func64, Try.ntmps64
  go_wp2_with (first
   | ((with_reducible apply is_list); repeat1' (first | rw [k1.out] | ((first
    | ((with_reducible refine own_skip ?_ ?_); (exact rfl))
    | (refine own_move (by rfl) (by rfl) (by simp only [Act.eval, Array.getD_eq_getD_getElem?, List.getElem?_toArray, List.getElem?_cons_zero, List.getElem?_cons_succ, Option.getD_some] <;> rfl) ?_)
    | (refine own_assign (by rfl) (by rfl) (by simp only [Act.eval, Array.getD_eq_getD_getElem?, List.getElem?_toArray, List.getElem?_cons_zero, List.getElem?_cons_succ, Option.getD_some] <;> rfl) ?_)
    | (refine own_box (by rfl) (by rfl) (by simp [go_sem, V3.v, Pl.v, V3.cs, Pl.cs, layAt, Value.cells, Wide, Wide.cs] <;> rfl) ?_ hR; clear hR; intro _ _ hR)
    | (refine own_alloc (by rfl) (by rfl) (by first | exact zero_all _ _ rfl) ?_ hR; clear hR; intro _ _ hR)
    | (refine own_alloc1 (by rfl) (by rfl) (by first | exact zero_all _ _ rfl) (by simp [go_sem, V3.v, Pl.v, V3.cs, Pl.cs, layAt, Value.cells, Wide, Wide.cs] <;> rfl) ?_ hR; clear hR; intro _ _ hR)
    | (refine own_load_all (by rfl) (by rfl) (by rfl) (by first | exact agg_all _ _ rfl) (by repeat (first | exact .head _ | refine .tail _ ?_)) (by rfl) ?_ hR; clear hR; intro hR)
    | (refine own_load_agg (by rfl) (by rfl) (by rfl) (by first | exact agg_all _ _ rfl) (by repeat (first | exact .head _ | refine .tail _ ?_)) (by rfl) (by simp [go_sem, V3.v, Pl.v, V3.cs, Pl.cs, layAt, Value.cells, Wide, Wide.cs] <;> rfl) ?_ hR; clear hR; intro hR)
    | (refine own_load_one (by rfl) (by rfl) (by rfl) (by first | exact one_all _ rfl) (by repeat (first | exact .head _ | refine .tail _ ?_)) (by simp [go_sem, V3.v, Pl.v, V3.cs, Pl.cs, layAt, Value.cells, Wide, Wide.cs] <;> rfl) ?_ hR; clear hR; intro hR)
    | (refine own_store_all (by rfl) (by rfl) (by rfl) (by first | exact (agg_all _ _ rfl).size | exact (one_all _ rfl).size) (by rfl) (by rfl) (by rfl) (by repeat (first | exact .head _ | refine .tail _ ?_)) (by rfl) (by simp [go_sem, V3.v, Pl.v, V3.cs, Pl.cs, layAt, Value.cells, Wide, Wide.cs] <;> rfl) (by repeat (first | exact .here | apply Upd.there)) ?_ hR; clear hR; intro _ hR)
    | (refine own_store (by rfl) (by rfl) (by rfl) (by first | exact (agg_all _ _ rfl).size | exact (one_all _ rfl).size) (by rfl) (by rfl) (by rfl) (by repeat (first | exact .head _ | refine .tail _ ?_)) (by rfl) (by simp [go_sem, V3.v, Pl.v, V3.cs, Pl.cs, layAt, Value.cells, Wide, Wide.cs] <;> rfl) (by repeat (first | exact .here | apply Upd.there)) ?_ hR; clear hR; intro _ hR)
    | (refine own_max (by rfl) (by rfl) (by rfl) (by rfl) ?_)
    | (refine own_min (by rfl) (by rfl) (by rfl) (by rfl) ?_)
    | (refine own_pure (by rfl) (by intro w; simp [go_sem, V3.v, Pl.v, V3.cs, Pl.cs, layAt, Value.cells, Wide, Wide.cs] <;> rfl) ?_)); simp only [Act.put, List.setIfInBounds_toArray, List.set_cons_succ, List.set_cons_zero]))))
  refine own_ret1 Try.results64 rfl (.tmp rfl) (fun hR => hR.ret ?_) hR
  rw [HV.out]
  rfl

def mul16 (a b : Int) : Int := signedN (a.natAbs * b.natAbs / 65536) (!(decide (a < 0) == decide (b < 0)))

end Go.Proofs.Ytimkhidniolpeaa
