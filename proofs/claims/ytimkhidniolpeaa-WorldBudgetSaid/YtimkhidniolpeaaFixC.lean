/- Package fix's 'axes', over any function value. Package fix's Plus and Minus: contracts. Package fix's Clamp: contract. -/
import Derived.Test.YtimkhidniolpeaaFixB
import Derived.Test.YtimkhidniolpeaaRegion
namespace Go.Proofs.Ytimkhidniolpeaa
set_option linter.unusedSimpArgs false
set_option linter.unusedVariables false
set_option maxRecDepth 100000
set_option maxHeartbeats 0
open Go.RowKit

set_option maxHeartbeats 2000000 in
theorem axes_any (a b : V3) (f : FuncId) (cap : Array Value) (gx gy gz : Int) (w : World) {fn : Func} (hf : Try.prog.funcs[f]? = some fn) (hok : (fn.name == "runtime.NumGoroutine" || fn.body.isNone) = false)
    (hx : ∀ w', Below w.heap.size w w' → Calls Try.prog f (#[I a.x, I b.x] ++ cap) w' (Ret w' (I gx))) (hy : ∀ w', Below w.heap.size w w' → Calls Try.prog f (#[I a.y, I b.y] ++ cap) w' (Ret w' (I gy)))
    (hz : ∀ w', Below w.heap.size w w' → Calls Try.prog f (#[I a.z, I b.z] ++ cap) w' (Ret w' (I gz))) :
    Calls Try.prog 63 #[a.v, b.v, .func (.func f) #[] cap] w (Ret w (V3.v ⟨gx, gy, gz⟩)) := by
 refine calls_hide fun V HV => ?_
 have hR := Own.start w
 go_enter Try.func63, Try.ntmps63
 go_wp2_with (first
  | ((with_reducible apply is_list); (first
   | ((with_reducible refine own_skip ?_ ?_); (exact rfl))
   | (refine own_box (by rfl) (by rfl) (by simp [go_sem, V3.v, Pl.v, V3.cs, Pl.cs, layAt, Value.cells] <;> rfl) ?_ hR; clear hR; intro _ _ hR)
   | (refine own_alloc (by rfl) (by rfl) (by first | exact zero_all _ _ rfl) ?_ hR; clear hR; intro _ _ hR)
   | (refine own_alloc1 (by rfl) (by rfl) (by first | exact zero_all _ _ rfl) (by simp [go_sem, V3.v, Pl.v, V3.cs, Pl.cs, layAt, Value.cells] <;> rfl) ?_ hR; clear hR; intro _ _ hR)
   | (refine own_load_all (by rfl) (by rfl) (by rfl) (by first | exact agg_all _ _ rfl) (by repeat (first | exact .head _ | refine .tail _ ?_)) (by rfl) ?_ hR; clear hR; intro hR)
   | (refine own_load_agg (by rfl) (by rfl) (by rfl) (by first | exact agg_all _ _ rfl) (by repeat (first | exact .head _ | refine .tail _ ?_)) (by rfl) (by simp [go_sem, V3.v, Pl.v, V3.cs, Pl.cs, layAt, Value.cells] <;> rfl) ?_ hR; clear hR; intro hR)
   | (refine own_load_one (by rfl) (by rfl) (by rfl) (by first | exact one_all _ rfl) (by repeat (first | exact .head _ | refine .tail _ ?_)) (by simp [go_sem, V3.v, Pl.v, V3.cs, Pl.cs, layAt, Value.cells] <;> rfl) ?_ hR; clear hR; intro hR)
   | (refine own_store_all (by rfl) (by rfl) (by rfl) (by first | exact (agg_all _ _ rfl).size | exact (one_all _ rfl).size) (by rfl) (by rfl) (by rfl) (by repeat (first | exact .head _ | refine .tail _ ?_)) (by rfl) (by simp [go_sem, V3.v, Pl.v, V3.cs, Pl.cs, layAt, Value.cells] <;> rfl) (by repeat (first | exact .here | apply Upd.there)) ?_ hR; clear hR; intro _ hR)
   | (refine own_store (by rfl) (by rfl) (by rfl) (by first | exact (agg_all _ _ rfl).size | exact (one_all _ rfl).size) (by rfl) (by rfl) (by rfl) (by repeat (first | exact .head _ | refine .tail _ ?_)) (by rfl) (by simp [go_sem, V3.v, Pl.v, V3.cs, Pl.cs, layAt, Value.cells] <;> rfl) (by repeat (first | exact .here | apply Upd.there)) ?_ hR; clear hR; intro _ hR)
   | (refine own_max (by rfl) (by rfl) (by rfl) (by rfl) ?_)
   | (refine own_min (by rfl) (by rfl) (by rfl) (by rfl) ?_)); simp only [Act.put, List.setIfInBounds_toArray, List.set_cons_succ, List.set_cons_zero])
  )
 refine re_start [0, 1, 2, 3, 4, 5, 6, 7, 8, 9, 10, 11, 12, 13, 14, 15, 16, 17, 18] [19] 19 (by kernel_rfl) (by kernel_rfl) (by rfl) (by rfl) rfl (by rfl) (by kernel_rfl) (fun _ _ _ _ _ h => h) ?_ hR
 repeat (first
  | (refine re_skip (by rfl) ?_; simp only [Act.put, List.setIfInBounds_toArray, List.set_cons_succ, List.set_cons_zero])
  | (refine re_move (by rfl) (by rfl) (by simp only [Act.eval, Array.getD_eq_getD_getElem?, List.getElem?_toArray, List.getElem?_cons_zero, List.getElem?_cons_succ, Option.getD_some] <;> rfl) ?_; simp only [Act.put, List.setIfInBounds_toArray, List.set_cons_succ, List.set_cons_zero])
  | (refine re_assign (by rfl) (by rfl) (by simp only [Act.eval, Array.getD_eq_getD_getElem?, List.getElem?_toArray, List.getElem?_cons_zero, List.getElem?_cons_succ, Option.getD_some] <;> rfl) ?_; simp only [Act.put, List.setIfInBounds_toArray, List.set_cons_succ, List.set_cons_zero])
  | (refine re_load_all (by rfl) (by rfl) (by rfl) (by first | exact agg_all _ _ rfl) (by repeat (first | exact .head _ | refine .tail _ ?_)) (by rfl) ?_; simp only [Act.put, List.setIfInBounds_toArray, List.set_cons_succ, List.set_cons_zero])
  | (refine re_load_agg (by rfl) (by rfl) (by rfl) (by first | exact agg_all _ _ rfl) (by repeat (first | exact .head _ | refine .tail _ ?_)) (by rfl) (by simp [go_sem, V3.v, Pl.v, V3.cs, Pl.cs, layAt, Value.cells] <;> rfl) ?_; simp only [Act.put, List.setIfInBounds_toArray, List.set_cons_succ, List.set_cons_zero])
  | (refine re_load_one (by rfl) (by rfl) (by rfl) (by first | exact one_all _ rfl) (by repeat (first | exact .head _ | refine .tail _ ?_)) (by simp [go_sem, V3.v, Pl.v, V3.cs, Pl.cs, layAt, Value.cells] <;> rfl) ?_; simp only [Act.put, List.setIfInBounds_toArray, List.set_cons_succ, List.set_cons_zero])
  | (refine re_max (by rfl) (by rfl) (by rfl) (by rfl) ?_; simp only [Act.put, List.setIfInBounds_toArray, List.set_cons_succ, List.set_cons_zero])
  | (refine re_min (by rfl) (by rfl) (by rfl) (by rfl) ?_; simp only [Act.put, List.setIfInBounds_toArray, List.set_cons_succ, List.set_cons_zero])
  | (refine re_eql (by rfl) (by rfl) (by simp [go_sem, V3.v, Pl.v, V3.cs, Pl.cs, layAt, Value.cells] <;> rfl) (by simp [go_sem, V3.v, Pl.v, V3.cs, Pl.cs, layAt, Value.cells] <;> rfl) (by first | exact guard_vec | exact guard_pl | exact guard_b3) (by intro w; first | exact eqr_vec 9998 w _ _ _ | exact eqr_pl 9996 w _ _ _ _ _ _ _ _ _ _ _ _ _ _ _ | exact eqr_b3 9998 w _ _ _ | exact eqb_vec 9998 w _ _ _ _ _ _ | exact eqb_pl 9996 w _ _ _ _ _ _ _ _ _ _ _ _ _ _ _ _ _ _ _ _ _ _ _ _ _ _ _ _ _ _ | exact eqb_b3 9998 w _ _ _ _ _ _) ?_; simp only [Act.put, List.setIfInBounds_toArray, List.set_cons_succ, List.set_cons_zero])
  | (refine re_neq (by rfl) (by rfl) (by simp [go_sem, V3.v, Pl.v, V3.cs, Pl.cs, layAt, Value.cells] <;> rfl) (by simp [go_sem, V3.v, Pl.v, V3.cs, Pl.cs, layAt, Value.cells] <;> rfl) (by first | exact guard_vec | exact guard_pl | exact guard_b3) (by intro w; first | exact eqr_vec 9998 w _ _ _ | exact eqr_pl 9996 w _ _ _ _ _ _ _ _ _ _ _ _ _ _ _ | exact eqr_b3 9998 w _ _ _ | exact eqb_vec 9998 w _ _ _ _ _ _ | exact eqb_pl 9996 w _ _ _ _ _ _ _ _ _ _ _ _ _ _ _ _ _ _ _ _ _ _ _ _ _ _ _ _ _ _ | exact eqb_b3 9998 w _ _ _ _ _ _) ?_; simp only [Act.put, List.setIfInBounds_toArray, List.set_cons_succ, List.set_cons_zero])

    | (refine re_pure (by rfl) (by intro w; simp [go_sem, V3.v, Pl.v, V3.cs, Pl.cs, layAt, Value.cells] <;> rfl) ?_; simp only [Act.put, List.setIfInBounds_toArray, List.set_cons_succ, List.set_cons_zero]))
 refine re_callv (by rfl) (by rfl) (by rfl) (by rfl) (fun w hw => hx w hw.below) hf hok ?_; simp only [Act.put, List.setIfInBounds_toArray, List.set_cons_succ, List.set_cons_zero]
 repeat (first
  | (refine re_skip (by rfl) ?_; simp only [Act.put, List.setIfInBounds_toArray, List.set_cons_succ, List.set_cons_zero])
  | (refine re_move (by rfl) (by rfl) (by simp only [Act.eval, Array.getD_eq_getD_getElem?, List.getElem?_toArray, List.getElem?_cons_zero, List.getElem?_cons_succ, Option.getD_some] <;> rfl) ?_; simp only [Act.put, List.setIfInBounds_toArray, List.set_cons_succ, List.set_cons_zero])
  | (refine re_assign (by rfl) (by rfl) (by simp only [Act.eval, Array.getD_eq_getD_getElem?, List.getElem?_toArray, List.getElem?_cons_zero, List.getElem?_cons_succ, Option.getD_some] <;> rfl) ?_; simp only [Act.put, List.setIfInBounds_toArray, List.set_cons_succ, List.set_cons_zero])
  | (refine re_load_all (by rfl) (by rfl) (by rfl) (by first | exact agg_all _ _ rfl) (by repeat (first | exact .head _ | refine .tail _ ?_)) (by rfl) ?_; simp only [Act.put, List.setIfInBounds_toArray, List.set_cons_succ, List.set_cons_zero])
  | (refine re_load_agg (by rfl) (by rfl) (by rfl) (by first | exact agg_all _ _ rfl) (by repeat (first | exact .head _ | refine .tail _ ?_)) (by rfl) (by simp [go_sem, V3.v, Pl.v, V3.cs, Pl.cs, layAt, Value.cells] <;> rfl) ?_; simp only [Act.put, List.setIfInBounds_toArray, List.set_cons_succ, List.set_cons_zero])
  | (refine re_load_one (by rfl) (by rfl) (by rfl) (by first | exact one_all _ rfl) (by repeat (first | exact .head _ | refine .tail _ ?_)) (by simp [go_sem, V3.v, Pl.v, V3.cs, Pl.cs, layAt, Value.cells] <;> rfl) ?_; simp only [Act.put, List.setIfInBounds_toArray, List.set_cons_succ, List.set_cons_zero])
  | (refine re_max (by rfl) (by rfl) (by rfl) (by rfl) ?_; simp only [Act.put, List.setIfInBounds_toArray, List.set_cons_succ, List.set_cons_zero])
  | (refine re_min (by rfl) (by rfl) (by rfl) (by rfl) ?_; simp only [Act.put, List.setIfInBounds_toArray, List.set_cons_succ, List.set_cons_zero])
  | (refine re_eql (by rfl) (by rfl) (by simp [go_sem, V3.v, Pl.v, V3.cs, Pl.cs, layAt, Value.cells] <;> rfl) (by simp [go_sem, V3.v, Pl.v, V3.cs, Pl.cs, layAt, Value.cells] <;> rfl) (by first | exact guard_vec | exact guard_pl | exact guard_b3) (by intro w; first | exact eqr_vec 9998 w _ _ _ | exact eqr_pl 9996 w _ _ _ _ _ _ _ _ _ _ _ _ _ _ _ | exact eqr_b3 9998 w _ _ _ | exact eqb_vec 9998 w _ _ _ _ _ _ | exact eqb_pl 9996 w _ _ _ _ _ _ _ _ _ _ _ _ _ _ _ _ _ _ _ _ _ _ _ _ _ _ _ _ _ _ | exact eqb_b3 9998 w _ _ _ _ _ _) ?_; simp only [Act.put, List.setIfInBounds_toArray, List.set_cons_succ, List.set_cons_zero])
  | (refine re_neq (by rfl) (by rfl) (by simp [go_sem, V3.v, Pl.v, V3.cs, Pl.cs, layAt, Value.cells] <;> rfl) (by simp [go_sem, V3.v, Pl.v, V3.cs, Pl.cs, layAt, Value.cells] <;> rfl) (by first | exact guard_vec | exact guard_pl | exact guard_b3) (by intro w; first | exact eqr_vec 9998 w _ _ _ | exact eqr_pl 9996 w _ _ _ _ _ _ _ _ _ _ _ _ _ _ _ | exact eqr_b3 9998 w _ _ _ | exact eqb_vec 9998 w _ _ _ _ _ _ | exact eqb_pl 9996 w _ _ _ _ _ _ _ _ _ _ _ _ _ _ _ _ _ _ _ _ _ _ _ _ _ _ _ _ _ _ | exact eqb_b3 9998 w _ _ _ _ _ _) ?_; simp only [Act.put, List.setIfInBounds_toArray, List.set_cons_succ, List.set_cons_zero])

    | (refine re_pure (by rfl) (by intro w; simp [go_sem, V3.v, Pl.v, V3.cs, Pl.cs, layAt, Value.cells] <;> rfl) ?_; simp only [Act.put, List.setIfInBounds_toArray, List.set_cons_succ, List.set_cons_zero]))
 refine re_callv (by rfl) (by rfl) (by rfl) (by rfl) (fun w hw => hy w hw.below) hf hok ?_; simp only [Act.put, List.setIfInBounds_toArray, List.set_cons_succ, List.set_cons_zero]
 repeat (first
  | (refine re_skip (by rfl) ?_; simp only [Act.put, List.setIfInBounds_toArray, List.set_cons_succ, List.set_cons_zero])
  | (refine re_move (by rfl) (by rfl) (by simp only [Act.eval, Array.getD_eq_getD_getElem?, List.getElem?_toArray, List.getElem?_cons_zero, List.getElem?_cons_succ, Option.getD_some] <;> rfl) ?_; simp only [Act.put, List.setIfInBounds_toArray, List.set_cons_succ, List.set_cons_zero])
  | (refine re_assign (by rfl) (by rfl) (by simp only [Act.eval, Array.getD_eq_getD_getElem?, List.getElem?_toArray, List.getElem?_cons_zero, List.getElem?_cons_succ, Option.getD_some] <;> rfl) ?_; simp only [Act.put, List.setIfInBounds_toArray, List.set_cons_succ, List.set_cons_zero])
  | (refine re_load_all (by rfl) (by rfl) (by rfl) (by first | exact agg_all _ _ rfl) (by repeat (first | exact .head _ | refine .tail _ ?_)) (by rfl) ?_; simp only [Act.put, List.setIfInBounds_toArray, List.set_cons_succ, List.set_cons_zero])
  | (refine re_load_agg (by rfl) (by rfl) (by rfl) (by first | exact agg_all _ _ rfl) (by repeat (first | exact .head _ | refine .tail _ ?_)) (by rfl) (by simp [go_sem, V3.v, Pl.v, V3.cs, Pl.cs, layAt, Value.cells] <;> rfl) ?_; simp only [Act.put, List.setIfInBounds_toArray, List.set_cons_succ, List.set_cons_zero])
  | (refine re_load_one (by rfl) (by rfl) (by rfl) (by first | exact one_all _ rfl) (by repeat (first | exact .head _ | refine .tail _ ?_)) (by simp [go_sem, V3.v, Pl.v, V3.cs, Pl.cs, layAt, Value.cells] <;> rfl) ?_; simp only [Act.put, List.setIfInBounds_toArray, List.set_cons_succ, List.set_cons_zero])
  | (refine re_max (by rfl) (by rfl) (by rfl) (by rfl) ?_; simp only [Act.put, List.setIfInBounds_toArray, List.set_cons_succ, List.set_cons_zero])
  | (refine re_min (by rfl) (by rfl) (by rfl) (by rfl) ?_; simp only [Act.put, List.setIfInBounds_toArray, List.set_cons_succ, List.set_cons_zero])
  | (refine re_eql (by rfl) (by rfl) (by simp [go_sem, V3.v, Pl.v, V3.cs, Pl.cs, layAt, Value.cells] <;> rfl) (by simp [go_sem, V3.v, Pl.v, V3.cs, Pl.cs, layAt, Value.cells] <;> rfl) (by first | exact guard_vec | exact guard_pl | exact guard_b3) (by intro w; first | exact eqr_vec 9998 w _ _ _ | exact eqr_pl 9996 w _ _ _ _ _ _ _ _ _ _ _ _ _ _ _ | exact eqr_b3 9998 w _ _ _ | exact eqb_vec 9998 w _ _ _ _ _ _ | exact eqb_pl 9996 w _ _ _ _ _ _ _ _ _ _ _ _ _ _ _ _ _ _ _ _ _ _ _ _ _ _ _ _ _ _ | exact eqb_b3 9998 w _ _ _ _ _ _) ?_; simp only [Act.put, List.setIfInBounds_toArray, List.set_cons_succ, List.set_cons_zero])
  | (refine re_neq (by rfl) (by rfl) (by simp [go_sem, V3.v, Pl.v, V3.cs, Pl.cs, layAt, Value.cells] <;> rfl) (by simp [go_sem, V3.v, Pl.v, V3.cs, Pl.cs, layAt, Value.cells] <;> rfl) (by first | exact guard_vec | exact guard_pl | exact guard_b3) (by intro w; first | exact eqr_vec 9998 w _ _ _ | exact eqr_pl 9996 w _ _ _ _ _ _ _ _ _ _ _ _ _ _ _ | exact eqr_b3 9998 w _ _ _ | exact eqb_vec 9998 w _ _ _ _ _ _ | exact eqb_pl 9996 w _ _ _ _ _ _ _ _ _ _ _ _ _ _ _ _ _ _ _ _ _ _ _ _ _ _ _ _ _ _ | exact eqb_b3 9998 w _ _ _ _ _ _) ?_; simp only [Act.put, List.setIfInBounds_toArray, List.set_cons_succ, List.set_cons_zero])

    | (refine re_pure (by rfl) (by intro w; simp [go_sem, V3.v, Pl.v, V3.cs, Pl.cs, layAt, Value.cells] <;> rfl) ?_; simp only [Act.put, List.setIfInBounds_toArray, List.set_cons_succ, List.set_cons_zero]))
 refine re_callv (by rfl) (by rfl) (by rfl) (by rfl) (fun w hw => hz w hw.below) hf hok ?_; simp only [Act.put, List.setIfInBounds_toArray, List.set_cons_succ, List.set_cons_zero]
 repeat (first
  | (refine re_skip (by rfl) ?_; simp only [Act.put, List.setIfInBounds_toArray, List.set_cons_succ, List.set_cons_zero])
  | (refine re_move (by rfl) (by rfl) (by simp only [Act.eval, Array.getD_eq_getD_getElem?, List.getElem?_toArray, List.getElem?_cons_zero, List.getElem?_cons_succ, Option.getD_some] <;> rfl) ?_; simp only [Act.put, List.setIfInBounds_toArray, List.set_cons_succ, List.set_cons_zero])
  | (refine re_assign (by rfl) (by rfl) (by simp only [Act.eval, Array.getD_eq_getD_getElem?, List.getElem?_toArray, List.getElem?_cons_zero, List.getElem?_cons_succ, Option.getD_some] <;> rfl) ?_; simp only [Act.put, List.setIfInBounds_toArray, List.set_cons_succ, List.set_cons_zero])
  | (refine re_load_all (by rfl) (by rfl) (by rfl) (by first | exact agg_all _ _ rfl) (by repeat (first | exact .head _ | refine .tail _ ?_)) (by rfl) ?_; simp only [Act.put, List.setIfInBounds_toArray, List.set_cons_succ, List.set_cons_zero])
  | (refine re_load_agg (by rfl) (by rfl) (by rfl) (by first | exact agg_all _ _ rfl) (by repeat (first | exact .head _ | refine .tail _ ?_)) (by rfl) (by simp [go_sem, V3.v, Pl.v, V3.cs, Pl.cs, layAt, Value.cells] <;> rfl) ?_; simp only [Act.put, List.setIfInBounds_toArray, List.set_cons_succ, List.set_cons_zero])
  | (refine re_load_one (by rfl) (by rfl) (by rfl) (by first | exact one_all _ rfl) (by repeat (first | exact .head _ | refine .tail _ ?_)) (by simp [go_sem, V3.v, Pl.v, V3.cs, Pl.cs, layAt, Value.cells] <;> rfl) ?_; simp only [Act.put, List.setIfInBounds_toArray, List.set_cons_succ, List.set_cons_zero])
  | (refine re_max (by rfl) (by rfl) (by rfl) (by rfl) ?_; simp only [Act.put, List.setIfInBounds_toArray, List.set_cons_succ, List.set_cons_zero])
  | (refine re_min (by rfl) (by rfl) (by rfl) (by rfl) ?_; simp only [Act.put, List.setIfInBounds_toArray, List.set_cons_succ, List.set_cons_zero])
  | (refine re_eql (by rfl) (by rfl) (by simp [go_sem, V3.v, Pl.v, V3.cs, Pl.cs, layAt, Value.cells] <;> rfl) (by simp [go_sem, V3.v, Pl.v, V3.cs, Pl.cs, layAt, Value.cells] <;> rfl) (by first | exact guard_vec | exact guard_pl | exact guard_b3) (by intro w; first | exact eqr_vec 9998 w _ _ _ | exact eqr_pl 9996 w _ _ _ _ _ _ _ _ _ _ _ _ _ _ _ | exact eqr_b3 9998 w _ _ _ | exact eqb_vec 9998 w _ _ _ _ _ _ | exact eqb_pl 9996 w _ _ _ _ _ _ _ _ _ _ _ _ _ _ _ _ _ _ _ _ _ _ _ _ _ _ _ _ _ _ | exact eqb_b3 9998 w _ _ _ _ _ _) ?_; simp only [Act.put, List.setIfInBounds_toArray, List.set_cons_succ, List.set_cons_zero])
  | (refine re_neq (by rfl) (by rfl) (by simp [go_sem, V3.v, Pl.v, V3.cs, Pl.cs, layAt, Value.cells] <;> rfl) (by simp [go_sem, V3.v, Pl.v, V3.cs, Pl.cs, layAt, Value.cells] <;> rfl) (by first | exact guard_vec | exact guard_pl | exact guard_b3) (by intro w; first | exact eqr_vec 9998 w _ _ _ | exact eqr_pl 9996 w _ _ _ _ _ _ _ _ _ _ _ _ _ _ _ | exact eqr_b3 9998 w _ _ _ | exact eqb_vec 9998 w _ _ _ _ _ _ | exact eqb_pl 9996 w _ _ _ _ _ _ _ _ _ _ _ _ _ _ _ _ _ _ _ _ _ _ _ _ _ _ _ _ _ _ | exact eqb_b3 9998 w _ _ _ _ _ _) ?_; simp only [Act.put, List.setIfInBounds_toArray, List.set_cons_succ, List.set_cons_zero])

    | (refine re_pure (by rfl) (by intro w; simp [go_sem, V3.v, Pl.v, V3.cs, Pl.cs, layAt, Value.cells] <;> rfl) ?_; simp only [Act.put, List.setIfInBounds_toArray, List.set_cons_succ, List.set_cons_zero]))
 repeat (first
  | (refine rt_assign (by rfl) (by rfl) (by simp only [Act.eval, Array.getD_eq_getD_getElem?, List.getElem?_toArray, List.getElem?_cons_zero, List.getElem?_cons_succ, Option.getD_some] <;> rfl) (by first | exact .inr (fun _ h => h) | exact .inr (fun _ h => h.drop) | exact .inr (fun _ h => h.drop.drop) | exact .inl (by decide)) ?_; simp only [Act.put, List.setIfInBounds_toArray, List.set_cons_succ, List.set_cons_zero])
  | (refine rt_move (by rfl) (by rfl) (by simp only [Act.eval, Array.getD_eq_getD_getElem?, List.getElem?_toArray, List.getElem?_cons_zero, List.getElem?_cons_succ, Option.getD_some] <;> rfl) (by first | exact .inr (fun _ h => h) | exact .inr (fun _ h => h.drop) | exact .inr (fun _ h => h.drop.drop) | exact .inl (by decide)) ?_; simp only [Act.put, List.setIfInBounds_toArray, List.set_cons_succ, List.set_cons_zero])
  | (refine rt_alloc (by rfl) (by rfl) (by first | exact zero_all _ _ rfl) (by first | exact fun _ h => h | exact fun _ h => h.drop | exact fun _ h => h.drop.drop) ?_; intro _; simp only [Act.put, List.setIfInBounds_toArray, List.set_cons_succ, List.set_cons_zero])
  | (refine rt_box (by rfl) (by rfl) (by simp [go_sem, V3.v, Pl.v, V3.cs, Pl.cs, layAt, Value.cells] <;> rfl) (by first | exact fun _ h => h | exact fun _ h => h.drop | exact fun _ h => h.drop.drop) ?_; intro _; simp only [Act.put, List.setIfInBounds_toArray, List.set_cons_succ, List.set_cons_zero])
  | (refine rt_store_all (by rfl) (by rfl) (by rfl) (by first | exact (agg_all _ _ rfl).size | exact (one_all _ rfl).size) (by rfl) (by rfl) (by rfl) (by repeat (first | exact .head _ | refine .tail _ ?_)) (by rfl) (by simp [go_sem, V3.v, Pl.v, V3.cs, Pl.cs, layAt, Value.cells] <;> rfl) (by repeat (first | exact .here | apply Upd.there)) (by first | exact .inr (fun _ h => h) | exact .inr (fun _ h => h.drop) | exact .inr (fun _ h => h.drop.drop) | exact .inl (by decide)) ?_; simp only [Act.put, List.setIfInBounds_toArray, List.set_cons_succ, List.set_cons_zero])
  | (refine rt_store (by rfl) (by rfl) (by rfl) (by first | exact (agg_all _ _ rfl).size | exact (one_all _ rfl).size) (by rfl) (by rfl) (by rfl) (by repeat (first | exact .head _ | refine .tail _ ?_)) (by rfl) (by simp [go_sem, V3.v, Pl.v, V3.cs, Pl.cs, layAt, Value.cells] <;> rfl) (by repeat (first | exact .here | apply Upd.there)) (by first | exact .inr (fun _ h => h) | exact .inr (fun _ h => h.drop) | exact .inr (fun _ h => h.drop.drop) | exact .inl (by decide)) ?_; simp only [Act.put, List.setIfInBounds_toArray, List.set_cons_succ, List.set_cons_zero])
  | (refine rt_pure (by rfl) (by intro w; simp [go_sem, V3.v, Pl.v, V3.cs, Pl.cs, layAt, Value.cells] <;> rfl) (by first | exact .inr (fun _ h => h) | exact .inr (fun _ h => h.drop) | exact .inr (fun _ h => h.drop.drop) | exact .inl (by decide)) ?_; simp only [Act.put, List.setIfInBounds_toArray, List.set_cons_succ, List.set_cons_zero]))
 refine rt_end ?_; clear hR; intro _ hR
 go_wp2_with (first
  | ((with_reducible apply is_list); (first
   | ((with_reducible refine own_skip ?_ ?_); (exact rfl))
   | (refine own_box (by rfl) (by rfl) (by simp [go_sem, V3.v, Pl.v, V3.cs, Pl.cs, layAt, Value.cells] <;> rfl) ?_ hR; clear hR; intro _ _ hR)
   | (refine own_alloc (by rfl) (by rfl) (by first | exact zero_all _ _ rfl) ?_ hR; clear hR; intro _ _ hR)
   | (refine own_alloc1 (by rfl) (by rfl) (by first | exact zero_all _ _ rfl) (by simp [go_sem, V3.v, Pl.v, V3.cs, Pl.cs, layAt, Value.cells] <;> rfl) ?_ hR; clear hR; intro _ _ hR)
   | (refine own_load_all (by rfl) (by rfl) (by rfl) (by first | exact agg_all _ _ rfl) (by repeat (first | exact .head _ | refine .tail _ ?_)) (by rfl) ?_ hR; clear hR; intro hR)
   | (refine own_load_agg (by rfl) (by rfl) (by rfl) (by first | exact agg_all _ _ rfl) (by repeat (first | exact .head _ | refine .tail _ ?_)) (by rfl) (by simp [go_sem, V3.v, Pl.v, V3.cs, Pl.cs, layAt, Value.cells] <;> rfl) ?_ hR; clear hR; intro hR)
   | (refine own_load_one (by rfl) (by rfl) (by rfl) (by first | exact one_all _ rfl) (by repeat (first | exact .head _ | refine .tail _ ?_)) (by simp [go_sem, V3.v, Pl.v, V3.cs, Pl.cs, layAt, Value.cells] <;> rfl) ?_ hR; clear hR; intro hR)
   | (refine own_store_all (by rfl) (by rfl) (by rfl) (by first | exact (agg_all _ _ rfl).size | exact (one_all _ rfl).size) (by rfl) (by rfl) (by rfl) (by repeat (first | exact .head _ | refine .tail _ ?_)) (by rfl) (by simp [go_sem, V3.v, Pl.v, V3.cs, Pl.cs, layAt, Value.cells] <;> rfl) (by repeat (first | exact .here | apply Upd.there)) ?_ hR; clear hR; intro _ hR)
   | (refine own_store (by rfl) (by rfl) (by rfl) (by first | exact (agg_all _ _ rfl).size | exact (one_all _ rfl).size) (by rfl) (by rfl) (by rfl) (by repeat (first | exact .head _ | refine .tail _ ?_)) (by rfl) (by simp [go_sem, V3.v, Pl.v, V3.cs, Pl.cs, layAt, Value.cells] <;> rfl) (by repeat (first | exact .here | apply Upd.there)) ?_ hR; clear hR; intro _ hR)
   | (refine own_max (by rfl) (by rfl) (by rfl) (by rfl) ?_)
   | (refine own_min (by rfl) (by rfl) (by rfl) (by rfl) ?_)); simp only [Act.put, List.setIfInBounds_toArray, List.set_cons_succ, List.set_cons_zero])
  )
 refine own_ret1 Try.results63 rfl (.all (by rfl) (by first | exact agg_all _ _ rfl) (by repeat (first | exact .head _ | refine .tail _ ?_)) (by rfl)) (fun hR => hR.ret ?_) hR
 rw [HV.out]
 rfl

end Go.Proofs.Ytimkhidniolpeaa

namespace Go.Proofs.Ytimkhidniolpeaa
set_option linter.unusedSimpArgs false
set_option linter.unusedVariables false
set_option maxRecDepth 100000
set_option maxHeartbeats 0
open Go.RowKit

def V3.plus (a b : V3) : V3 := ⟨cut64 (a.x + b.x), cut64 (a.y + b.y), cut64 (a.z + b.z)⟩
def V3.minus (a b : V3) : V3 := ⟨cut64 (a.x - b.x), cut64 (a.y - b.y), cut64 (a.z - b.z)⟩

theorem cut64_fits (z : Int) : In64 (cut64 z) := by unfold In64 cut64; omega

set_option maxHeartbeats 1000000 in
theorem vplus_any (a b : V3) (w : World) (ha : a.fits) (hb : b.fits) : Calls Try.prog 46 #[a.v, b.v] w (Ret w (a.plus b).v) := by
 refine calls_hide fun V HV => ?_
 have hR := Own.start w
 go_enter Try.func46, Try.ntmps46
 go_wp2_with (first
  | ((with_reducible apply is_list); (first
   | ((with_reducible refine own_skip ?_ ?_); (exact rfl))
   | (refine own_box (by rfl) (by rfl) (by simp [go_sem, V3.v, Pl.v, V3.cs, Pl.cs, layAt, Value.cells] <;> rfl) ?_ hR; clear hR; intro _ _ hR)
   | (refine own_alloc (by rfl) (by rfl) (by first | exact zero_all _ _ rfl) ?_ hR; clear hR; intro _ _ hR)
   | (refine own_alloc1 (by rfl) (by rfl) (by first | exact zero_all _ _ rfl) (by simp [go_sem, V3.v, Pl.v, V3.cs, Pl.cs, layAt, Value.cells] <;> rfl) ?_ hR; clear hR; intro _ _ hR)
   | (refine own_load_all (by rfl) (by rfl) (by rfl) (by first | exact agg_all _ _ rfl) (by repeat (first | exact .head _ | refine .tail _ ?_)) (by rfl) ?_ hR; clear hR; intro hR)
   | (refine own_load_agg (by rfl) (by rfl) (by rfl) (by first | exact agg_all _ _ rfl) (by repeat (first | exact .head _ | refine .tail _ ?_)) (by rfl) (by simp [go_sem, V3.v, Pl.v, V3.cs, Pl.cs, layAt, Value.cells] <;> rfl) ?_ hR; clear hR; intro hR)
   | (refine own_load_one (by rfl) (by rfl) (by rfl) (by first | exact one_all _ rfl) (by repeat (first | exact .head _ | refine .tail _ ?_)) (by simp [go_sem, V3.v, Pl.v, V3.cs, Pl.cs, layAt, Value.cells] <;> rfl) ?_ hR; clear hR; intro hR)
   | (refine own_store_all (by rfl) (by rfl) (by rfl) (by first | exact (agg_all _ _ rfl).size | exact (one_all _ rfl).size) (by rfl) (by rfl) (by rfl) (by repeat (first | exact .head _ | refine .tail _ ?_)) (by rfl) (by simp [go_sem, V3.v, Pl.v, V3.cs, Pl.cs, layAt, Value.cells] <;> rfl) (by repeat (first | exact .here | apply Upd.there)) ?_ hR; clear hR; intro _ hR)
   | (refine own_store (by rfl) (by rfl) (by rfl) (by first | exact (agg_all _ _ rfl).size | exact (one_all _ rfl).size) (by rfl) (by rfl) (by rfl) (by repeat (first | exact .head _ | refine .tail _ ?_)) (by rfl) (by simp [go_sem, V3.v, Pl.v, V3.cs, Pl.cs, layAt, Value.cells] <;> rfl) (by repeat (first | exact .here | apply Upd.there)) ?_ hR; clear hR; intro _ hR)
   | (refine own_max (by rfl) (by rfl) (by rfl) (by rfl) ?_)
   | (refine own_min (by rfl) (by rfl) (by rfl) (by rfl) ?_)); simp only [Act.put, List.setIfInBounds_toArray, List.set_cons_succ, List.set_cons_zero])
  )
 refine own_call (axes_any a b 65 #[] _ _ _ _ Try.func65 (by kernel_rfl) (fun w' _ => add_any a.x b.x w' ha.1 hb.1) (fun w' _ => add_any a.y b.y w' ha.2.1 hb.2.1) (fun w' _ => add_any a.z b.z w' ha.2.2 hb.2.2)) ?_ hR; clear hR; intro _ hR
 go_wp2_with (first
  | ((with_reducible apply is_list); (first
   | ((with_reducible refine own_skip ?_ ?_); (exact rfl))
   | (refine own_box (by rfl) (by rfl) (by simp [go_sem, V3.v, Pl.v, V3.cs, Pl.cs, layAt, Value.cells] <;> rfl) ?_ hR; clear hR; intro _ _ hR)
   | (refine own_alloc (by rfl) (by rfl) (by first | exact zero_all _ _ rfl) ?_ hR; clear hR; intro _ _ hR)
   | (refine own_alloc1 (by rfl) (by rfl) (by first | exact zero_all _ _ rfl) (by simp [go_sem, V3.v, Pl.v, V3.cs, Pl.cs, layAt, Value.cells] <;> rfl) ?_ hR; clear hR; intro _ _ hR)
   | (refine own_load_all (by rfl) (by rfl) (by rfl) (by first | exact agg_all _ _ rfl) (by repeat (first | exact .head _ | refine .tail _ ?_)) (by rfl) ?_ hR; clear hR; intro hR)
   | (refine own_load_agg (by rfl) (by rfl) (by rfl) (by first | exact agg_all _ _ rfl) (by repeat (first | exact .head _ | refine .tail _ ?_)) (by rfl) (by simp [go_sem, V3.v, Pl.v, V3.cs, Pl.cs, layAt, Value.cells] <;> rfl) ?_ hR; clear hR; intro hR)
   | (refine own_load_one (by rfl) (by rfl) (by rfl) (by first | exact one_all _ rfl) (by repeat (first | exact .head _ | refine .tail _ ?_)) (by simp [go_sem, V3.v, Pl.v, V3.cs, Pl.cs, layAt, Value.cells] <;> rfl) ?_ hR; clear hR; intro hR)
   | (refine own_store_all (by rfl) (by rfl) (by rfl) (by first | exact (agg_all _ _ rfl).size | exact (one_all _ rfl).size) (by rfl) (by rfl) (by rfl) (by repeat (first | exact .head _ | refine .tail _ ?_)) (by rfl) (by simp [go_sem, V3.v, Pl.v, V3.cs, Pl.cs, layAt, Value.cells] <;> rfl) (by repeat (first | exact .here | apply Upd.there)) ?_ hR; clear hR; intro _ hR)
   | (refine own_store (by rfl) (by rfl) (by rfl) (by first | exact (agg_all _ _ rfl).size | exact (one_all _ rfl).size) (by rfl) (by rfl) (by rfl) (by repeat (first | exact .head _ | refine .tail _ ?_)) (by rfl) (by simp [go_sem, V3.v, Pl.v, V3.cs, Pl.cs, layAt, Value.cells] <;> rfl) (by repeat (first | exact .here | apply Upd.there)) ?_ hR; clear hR; intro _ hR)
   | (refine own_max (by rfl) (by rfl) (by rfl) (by rfl) ?_)
   | (refine own_min (by rfl) (by rfl) (by rfl) (by rfl) ?_)); simp only [Act.put, List.setIfInBounds_toArray, List.set_cons_succ, List.set_cons_zero])
  )
 refine own_ret1 Try.results46 rfl (.all (by rfl) (by first | exact agg_all _ _ rfl) (by repeat (first | exact .head _ | refine .tail _ ?_)) (by rfl)) (fun hR => hR.ret ?_) hR
 rw [HV.out]
 rfl

set_option maxHeartbeats 1000000 in
theorem vminus_any (a b : V3) (w : World) (ha : a.fits) (hb : b.fits) : Calls Try.prog 45 #[a.v, b.v] w (Ret w (a.minus b).v) := by
 refine calls_hide fun V HV => ?_
 have hR := Own.start w
 go_enter Try.func45, Try.ntmps45
 go_wp2_with (first
  | ((with_reducible apply is_list); (first
   | ((with_reducible refine own_skip ?_ ?_); (exact rfl))
   | (refine own_box (by rfl) (by rfl) (by simp [go_sem, V3.v, Pl.v, V3.cs, Pl.cs, layAt, Value.cells] <;> rfl) ?_ hR; clear hR; intro _ _ hR)
   | (refine own_alloc (by rfl) (by rfl) (by first | exact zero_all _ _ rfl) ?_ hR; clear hR; intro _ _ hR)
   | (refine own_alloc1 (by rfl) (by rfl) (by first | exact zero_all _ _ rfl) (by simp [go_sem, V3.v, Pl.v, V3.cs, Pl.cs, layAt, Value.cells] <;> rfl) ?_ hR; clear hR; intro _ _ hR)
   | (refine own_load_all (by rfl) (by rfl) (by rfl) (by first | exact agg_all _ _ rfl) (by repeat (first | exact .head _ | refine .tail _ ?_)) (by rfl) ?_ hR; clear hR; intro hR)
   | (refine own_load_agg (by rfl) (by rfl) (by rfl) (by first | exact agg_all _ _ rfl) (by repeat (first | exact .head _ | refine .tail _ ?_)) (by rfl) (by simp [go_sem, V3.v, Pl.v, V3.cs, Pl.cs, layAt, Value.cells] <;> rfl) ?_ hR; clear hR; intro hR)
   | (refine own_load_one (by rfl) (by rfl) (by rfl) (by first | exact one_all _ rfl) (by repeat (first | exact .head _ | refine .tail _ ?_)) (by simp [go_sem, V3.v, Pl.v, V3.cs, Pl.cs, layAt, Value.cells] <;> rfl) ?_ hR; clear hR; intro hR)
   | (refine own_store_all (by rfl) (by rfl) (by rfl) (by first | exact (agg_all _ _ rfl).size | exact (one_all _ rfl).size) (by rfl) (by rfl) (by rfl) (by repeat (first | exact .head _ | refine .tail _ ?_)) (by rfl) (by simp [go_sem, V3.v, Pl.v, V3.cs, Pl.cs, layAt, Value.cells] <;> rfl) (by repeat (first | exact .here | apply Upd.there)) ?_ hR; clear hR; intro _ hR)
   | (refine own_store (by rfl) (by rfl) (by rfl) (by first | exact (agg_all _ _ rfl).size | exact (one_all _ rfl).size) (by rfl) (by rfl) (by rfl) (by repeat (first | exact .head _ | refine .tail _ ?_)) (by rfl) (by simp [go_sem, V3.v, Pl.v, V3.cs, Pl.cs, layAt, Value.cells] <;> rfl) (by repeat (first | exact .here | apply Upd.there)) ?_ hR; clear hR; intro _ hR)
   | (refine own_max (by rfl) (by rfl) (by rfl) (by rfl) ?_)
   | (refine own_min (by rfl) (by rfl) (by rfl) (by rfl) ?_)); simp only [Act.put, List.setIfInBounds_toArray, List.set_cons_succ, List.set_cons_zero])
  )
 refine own_call (axes_any a b 64 #[] _ _ _ _ Try.func64 (by kernel_rfl) (fun w' _ => sub_any a.x b.x w' ha.1 hb.1) (fun w' _ => sub_any a.y b.y w' ha.2.1 hb.2.1) (fun w' _ => sub_any a.z b.z w' ha.2.2 hb.2.2)) ?_ hR; clear hR; intro _ hR
 go_wp2_with (first
  | ((with_reducible apply is_list); (first
   | ((with_reducible refine own_skip ?_ ?_); (exact rfl))
   | (refine own_box (by rfl) (by rfl) (by simp [go_sem, V3.v, Pl.v, V3.cs, Pl.cs, layAt, Value.cells] <;> rfl) ?_ hR; clear hR; intro _ _ hR)
   | (refine own_alloc (by rfl) (by rfl) (by first | exact zero_all _ _ rfl) ?_ hR; clear hR; intro _ _ hR)
   | (refine own_alloc1 (by rfl) (by rfl) (by first | exact zero_all _ _ rfl) (by simp [go_sem, V3.v, Pl.v, V3.cs, Pl.cs, layAt, Value.cells] <;> rfl) ?_ hR; clear hR; intro _ _ hR)
   | (refine own_load_all (by rfl) (by rfl) (by rfl) (by first | exact agg_all _ _ rfl) (by repeat (first | exact .head _ | refine .tail _ ?_)) (by rfl) ?_ hR; clear hR; intro hR)
   | (refine own_load_agg (by rfl) (by rfl) (by rfl) (by first | exact agg_all _ _ rfl) (by repeat (first | exact .head _ | refine .tail _ ?_)) (by rfl) (by simp [go_sem, V3.v, Pl.v, V3.cs, Pl.cs, layAt, Value.cells] <;> rfl) ?_ hR; clear hR; intro hR)
   | (refine own_load_one (by rfl) (by rfl) (by rfl) (by first | exact one_all _ rfl) (by repeat (first | exact .head _ | refine .tail _ ?_)) (by simp [go_sem, V3.v, Pl.v, V3.cs, Pl.cs, layAt, Value.cells] <;> rfl) ?_ hR; clear hR; intro hR)
   | (refine own_store_all (by rfl) (by rfl) (by rfl) (by first | exact (agg_all _ _ rfl).size | exact (one_all _ rfl).size) (by rfl) (by rfl) (by rfl) (by repeat (first | exact .head _ | refine .tail _ ?_)) (by rfl) (by simp [go_sem, V3.v, Pl.v, V3.cs, Pl.cs, layAt, Value.cells] <;> rfl) (by repeat (first | exact .here | apply Upd.there)) ?_ hR; clear hR; intro _ hR)
   | (refine own_store (by rfl) (by rfl) (by rfl) (by first | exact (agg_all _ _ rfl).size | exact (one_all _ rfl).size) (by rfl) (by rfl) (by rfl) (by repeat (first | exact .head _ | refine .tail _ ?_)) (by rfl) (by simp [go_sem, V3.v, Pl.v, V3.cs, Pl.cs, layAt, Value.cells] <;> rfl) (by repeat (first | exact .here | apply Upd.there)) ?_ hR; clear hR; intro _ hR)
   | (refine own_max (by rfl) (by rfl) (by rfl) (by rfl) ?_)
   | (refine own_min (by rfl) (by rfl) (by rfl) (by rfl) ?_)); simp only [Act.put, List.setIfInBounds_toArray, List.set_cons_succ, List.set_cons_zero])
  )
 refine own_ret1 Try.results45 rfl (.all (by rfl) (by first | exact agg_all _ _ rfl) (by repeat (first | exact .head _ | refine .tail _ ?_)) (by rfl)) (fun hR => hR.ret ?_) hR
 rw [HV.out]
 rfl

end Go.Proofs.Ytimkhidniolpeaa

namespace Go.Proofs.Ytimkhidniolpeaa
set_option linter.unusedSimpArgs false
set_option linter.unusedVariables false
set_option maxRecDepth 100000
set_option maxHeartbeats 0
open Go.RowKit

set_option maxHeartbeats 1000000 in
theorem clamp1_any (m a c : Int) (b : Nat) (w : World) (hm : 0 ≤ m) (hm' : m ≤ 9223372036854775807) (hb : b < w.heap.size) (hc : w.cell? ⟨b, 0, none⟩ = some (I m)) :
    Calls Try.prog 97 #[I a, I c, .pointer (some ⟨b, 0, none⟩)] w (Ret w (I (max (-m) (min m a)))) := by
 have HK := Lib.hid hc
 clear hc
 refine calls_hide fun V HV => ?_
 have hR := Own.start w
 go_enter Try.func97, Try.ntmps97
 go_wp2_with (first
  | ((with_reducible apply is_list); (first
   | ((with_reducible refine own_skip ?_ ?_); (exact rfl))
   | (refine own_box (by rfl) (by rfl) (by simp [go_sem, V3.v, Pl.v, V3.cs, Pl.cs, layAt, Value.cells] <;> rfl) ?_ hR; clear hR; intro _ _ hR)
   | (refine own_alloc (by rfl) (by rfl) (by first | exact zero_all _ _ rfl) ?_ hR; clear hR; intro _ _ hR)
   | (refine own_alloc1 (by rfl) (by rfl) (by first | exact zero_all _ _ rfl) (by simp [go_sem, V3.v, Pl.v, V3.cs, Pl.cs, layAt, Value.cells] <;> rfl) ?_ hR; clear hR; intro _ _ hR)
   | (refine own_load_all (by rfl) (by rfl) (by rfl) (by first | exact agg_all _ _ rfl) (by repeat (first | exact .head _ | refine .tail _ ?_)) (by rfl) ?_ hR; clear hR; intro hR)
   | (refine own_load_agg (by rfl) (by rfl) (by rfl) (by first | exact agg_all _ _ rfl) (by repeat (first | exact .head _ | refine .tail _ ?_)) (by rfl) (by simp [go_sem, V3.v, Pl.v, V3.cs, Pl.cs, layAt, Value.cells] <;> rfl) ?_ hR; clear hR; intro hR)
   | (refine own_load_one (by rfl) (by rfl) (by rfl) (by first | exact one_all _ rfl) (by repeat (first | exact .head _ | refine .tail _ ?_)) (by simp [go_sem, V3.v, Pl.v, V3.cs, Pl.cs, layAt, Value.cells] <;> rfl) ?_ hR; clear hR; intro hR)
   | (refine own_store_all (by rfl) (by rfl) (by rfl) (by first | exact (agg_all _ _ rfl).size | exact (one_all _ rfl).size) (by rfl) (by rfl) (by rfl) (by repeat (first | exact .head _ | refine .tail _ ?_)) (by rfl) (by simp [go_sem, V3.v, Pl.v, V3.cs, Pl.cs, layAt, Value.cells] <;> rfl) (by repeat (first | exact .here | apply Upd.there)) ?_ hR; clear hR; intro _ hR)
   | (refine own_store (by rfl) (by rfl) (by rfl) (by first | exact (agg_all _ _ rfl).size | exact (one_all _ rfl).size) (by rfl) (by rfl) (by rfl) (by repeat (first | exact .head _ | refine .tail _ ?_)) (by rfl) (by simp [go_sem, V3.v, Pl.v, V3.cs, Pl.cs, layAt, Value.cells] <;> rfl) (by repeat (first | exact .here | apply Upd.there)) ?_ hR; clear hR; intro _ hR)
   | (refine own_max (by rfl) (by rfl) (by rfl) (by rfl) ?_)
   | (refine own_min (by rfl) (by rfl) (by rfl) (by rfl) ?_)); simp only [Act.put, List.setIfInBounds_toArray, List.set_cons_succ, List.set_cons_zero])
  | ((with_reducible apply is_list); (refine own_load_arg (by rfl) (by rfl) (by rfl) one_int64 hb HK.out ?_ hR; clear hR; intro hR; simp only [Act.put, List.setIfInBounds_toArray, List.set_cons_succ, List.set_cons_zero])))
 refine own_ret1 Try.results97 rfl (.tmp rfl) (fun hR => hR.ret ?_) hR
 rw [HV.out]
 rfl

def clampN (n a : Int) : Int := max (-(max n 0)) (min (max n 0) a)
def V3.clamp (a : V3) (n : Int) : V3 := ⟨clampN n a.x, clampN n a.y, clampN n a.z⟩

set_option maxHeartbeats 1000000 in
theorem clamp_any (a : V3) (n : Int) (w : World) (hn : In64 n) : Calls Try.prog 88 #[a.v, I n] w (Ret w (a.clamp n).v) := by
 have hn' := hn
 unfold In64 at hn'
 refine calls_hide fun V HV => ?_
 have hR := Own.start w
 go_enter Try.func88, Try.ntmps88
 go_wp2_with (first
  | ((with_reducible apply is_list); (first
   | ((with_reducible refine own_skip ?_ ?_); (exact rfl))
   | (refine own_box (by rfl) (by rfl) (by simp [go_sem, V3.v, Pl.v, V3.cs, Pl.cs, layAt, Value.cells] <;> rfl) ?_ hR; clear hR; intro _ _ hR)
   | (refine own_alloc (by rfl) (by rfl) (by first | exact zero_all _ _ rfl) ?_ hR; clear hR; intro _ _ hR)
   | (refine own_alloc1 (by rfl) (by rfl) (by first | exact zero_all _ _ rfl) (by simp [go_sem, V3.v, Pl.v, V3.cs, Pl.cs, layAt, Value.cells] <;> rfl) ?_ hR; clear hR; intro _ _ hR)
   | (refine own_load_all (by rfl) (by rfl) (by rfl) (by first | exact agg_all _ _ rfl) (by repeat (first | exact .head _ | refine .tail _ ?_)) (by rfl) ?_ hR; clear hR; intro hR)
   | (refine own_load_agg (by rfl) (by rfl) (by rfl) (by first | exact agg_all _ _ rfl) (by repeat (first | exact .head _ | refine .tail _ ?_)) (by rfl) (by simp [go_sem, V3.v, Pl.v, V3.cs, Pl.cs, layAt, Value.cells] <;> rfl) ?_ hR; clear hR; intro hR)
   | (refine own_load_one (by rfl) (by rfl) (by rfl) (by first | exact one_all _ rfl) (by repeat (first | exact .head _ | refine .tail _ ?_)) (by simp [go_sem, V3.v, Pl.v, V3.cs, Pl.cs, layAt, Value.cells] <;> rfl) ?_ hR; clear hR; intro hR)
   | (refine own_store_all (by rfl) (by rfl) (by rfl) (by first | exact (agg_all _ _ rfl).size | exact (one_all _ rfl).size) (by rfl) (by rfl) (by rfl) (by repeat (first | exact .head _ | refine .tail _ ?_)) (by rfl) (by simp [go_sem, V3.v, Pl.v, V3.cs, Pl.cs, layAt, Value.cells] <;> rfl) (by repeat (first | exact .here | apply Upd.there)) ?_ hR; clear hR; intro _ hR)
   | (refine own_store (by rfl) (by rfl) (by rfl) (by first | exact (agg_all _ _ rfl).size | exact (one_all _ rfl).size) (by rfl) (by rfl) (by rfl) (by repeat (first | exact .head _ | refine .tail _ ?_)) (by rfl) (by simp [go_sem, V3.v, Pl.v, V3.cs, Pl.cs, layAt, Value.cells] <;> rfl) (by repeat (first | exact .here | apply Upd.there)) ?_ hR; clear hR; intro _ hR)
   | (refine own_max (by rfl) (by rfl) (by rfl) (by rfl) ?_)
   | (refine own_min (by rfl) (by rfl) (by rfl) (by rfl) ?_)); simp only [Act.put, List.setIfInBounds_toArray, List.set_cons_succ, List.set_cons_zero])
  )
 refine own_call (axes_any a a 97 #[.pointer (some ⟨_, 0, none⟩)] _ _ _ _ Try.func97 (by kernel_rfl) (fun w' hb => clamp1_any (max n 0) a.x a.x _ w' (by omega) (by omega) (Nat.lt_of_lt_of_le (hR.lt (.tail _ (.head _))) hb.size) ((hb.cell (p := ⟨_, 0, none⟩) (hR.lt (.tail _ (.head _)))).trans (hR.cell (.tail _ (.head _)) rfl))) (fun w' hb => clamp1_any (max n 0) a.y a.y _ w' (by omega) (by omega) (Nat.lt_of_lt_of_le (hR.lt (.tail _ (.head _))) hb.size) ((hb.cell (p := ⟨_, 0, none⟩) (hR.lt (.tail _ (.head _)))).trans (hR.cell (.tail _ (.head _)) rfl))) (fun w' hb => clamp1_any (max n 0) a.z a.z _ w' (by omega) (by omega) (Nat.lt_of_lt_of_le (hR.lt (.tail _ (.head _))) hb.size) ((hb.cell (p := ⟨_, 0, none⟩) (hR.lt (.tail _ (.head _)))).trans (hR.cell (.tail _ (.head _)) rfl)))) ?_ hR; clear hR; intro _ hR
 go_wp2_with (first
  | ((with_reducible apply is_list); (first
   | ((with_reducible refine own_skip ?_ ?_); (exact rfl))
   | (refine own_box (by rfl) (by rfl) (by simp [go_sem, V3.v, Pl.v, V3.cs, Pl.cs, layAt, Value.cells] <;> rfl) ?_ hR; clear hR; intro _ _ hR)
   | (refine own_alloc (by rfl) (by rfl) (by first | exact zero_all _ _ rfl) ?_ hR; clear hR; intro _ _ hR)
   | (refine own_alloc1 (by rfl) (by rfl) (by first | exact zero_all _ _ rfl) (by simp [go_sem, V3.v, Pl.v, V3.cs, Pl.cs, layAt, Value.cells] <;> rfl) ?_ hR; clear hR; intro _ _ hR)
   | (refine own_load_all (by rfl) (by rfl) (by rfl) (by first | exact agg_all _ _ rfl) (by repeat (first | exact .head _ | refine .tail _ ?_)) (by rfl) ?_ hR; clear hR; intro hR)
   | (refine own_load_agg (by rfl) (by rfl) (by rfl) (by first | exact agg_all _ _ rfl) (by repeat (first | exact .head _ | refine .tail _ ?_)) (by rfl) (by simp [go_sem, V3.v, Pl.v, V3.cs, Pl.cs, layAt, Value.cells] <;> rfl) ?_ hR; clear hR; intro hR)
   | (refine own_load_one (by rfl) (by rfl) (by rfl) (by first | exact one_all _ rfl) (by repeat (first | exact .head _ | refine .tail _ ?_)) (by simp [go_sem, V3.v, Pl.v, V3.cs, Pl.cs, layAt, Value.cells] <;> rfl) ?_ hR; clear hR; intro hR)
   | (refine own_store_all (by rfl) (by rfl) (by rfl) (by first | exact (agg_all _ _ rfl).size | exact (one_all _ rfl).size) (by rfl) (by rfl) (by rfl) (by repeat (first | exact .head _ | refine .tail _ ?_)) (by rfl) (by simp [go_sem, V3.v, Pl.v, V3.cs, Pl.cs, layAt, Value.cells] <;> rfl) (by repeat (first | exact .here | apply Upd.there)) ?_ hR; clear hR; intro _ hR)
   | (refine own_store (by rfl) (by rfl) (by rfl) (by first | exact (agg_all _ _ rfl).size | exact (one_all _ rfl).size) (by rfl) (by rfl) (by rfl) (by repeat (first | exact .head _ | refine .tail _ ?_)) (by rfl) (by simp [go_sem, V3.v, Pl.v, V3.cs, Pl.cs, layAt, Value.cells] <;> rfl) (by repeat (first | exact .here | apply Upd.there)) ?_ hR; clear hR; intro _ hR)
   | (refine own_max (by rfl) (by rfl) (by rfl) (by rfl) ?_)
   | (refine own_min (by rfl) (by rfl) (by rfl) (by rfl) ?_)); simp only [Act.put, List.setIfInBounds_toArray, List.set_cons_succ, List.set_cons_zero])
  )
 refine own_ret1 Try.results88 rfl (.all (by rfl) (by first | exact agg_all _ _ rfl) (by repeat (first | exact .head _ | refine .tail _ ?_)) (by rfl)) (fun hR => hR.ret ?_) hR
 rw [HV.out]
 rfl

end Go.Proofs.Ytimkhidniolpeaa
