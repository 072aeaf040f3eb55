/- Package fix's 'axes' over a function value that changes rows of one's own; products; Dot; Long. Package fix's products, Dot, Long: contracts. fix's Long as a contract: a root that can be reckoned. Lengths of vectors: plain laws. -/
import Derived.Test.YtimkhidniolpeaaFixF
import Derived.Test.YtimkhidniolpeaaFixC
import Derived.Test.YtimkhidniolpeaaVmO
namespace Go.Proofs.Ytimkhidniolpeaa
set_option linter.unusedSimpArgs false
set_option linter.unusedVariables false
set_option maxRecDepth 100000
set_option maxHeartbeats 0
open Go.RowKit

set_option maxHeartbeats 2000000 in
theorem axes_o (a b : V3) (f : FuncId) (cap : Array Value) (gx gy gz : Int) {B : Nat} {w0 w : World} (S0 S1 S2 S3 F : List Ent) (hR : Own B w0 w (S0 ++ F)) {fn : Func} (hf : Try.prog.funcs[f]? = some fn) (hok : (fn.name == "runtime.NumGoroutine" || fn.body.isNone) = false)
    (hx : ∀ w' E, Own B w0 w' (S0 ++ E) → Calls Try.prog f (#[I a.x, I b.x] ++ cap) w' (RetO B w0 (S1 ++ E) (I gx))) (hy : ∀ w' E, Own B w0 w' (S1 ++ E) → Calls Try.prog f (#[I a.y, I b.y] ++ cap) w' (RetO B w0 (S2 ++ E) (I gy)))
    (hz : ∀ w' E, Own B w0 w' (S2 ++ E) → Calls Try.prog f (#[I a.z, I b.z] ++ cap) w' (RetO B w0 (S3 ++ E) (I gz))) :
    Calls Try.prog 63 #[a.v, b.v, .func (.func f) #[] cap] w (RetO B w0 (S3 ++ F) (V3.v ⟨gx, gy, gz⟩)) := by
 refine calls_hideO fun V HV => ?_
 go_enter Try.func63, Try.ntmps63
 go_wp2_with (first
  | ((with_reducible apply is_list); (first
   | ((with_reducible refine own_skip ?_ ?_); (exact rfl))
   | (refine own_box (by rfl) (by rfl) (by simp [go_sem, V3.v, Pl.v, V3.cs, Pl.cs, layAt, Value.cells, Wide, Wide.cs] <;> rfl) ?_ hR; clear hR; intro _ _ hR)
   | (refine own_alloc (by rfl) (by rfl) (by first | exact zero_all _ _ rfl) ?_ hR; clear hR; intro _ _ hR)
   | (refine own_alloc1 (by rfl) (by rfl) (by first | exact zero_all _ _ rfl) (by simp [go_sem, V3.v, Pl.v, V3.cs, Pl.cs, layAt, Value.cells, Wide, Wide.cs] <;> rfl) ?_ hR; clear hR; intro _ _ hR)
   | (refine own_load_all (by rfl) (by rfl) (by rfl) (by first | exact agg_all _ _ rfl) (by repeat (first | exact .head _ | refine .tail _ ?_)) (by rfl) ?_ hR; clear hR; intro hR)
   | (refine own_load_agg (by rfl) (by rfl) (by rfl) (by first | exact agg_all _ _ rfl) (by repeat (first | exact .head _ | refine .tail _ ?_)) (by rfl) (by simp [go_sem, V3.v, Pl.v, V3.cs, Pl.cs, layAt, Value.cells, Wide, Wide.cs] <;> rfl) ?_ hR; clear hR; intro hR)
   | (refine own_load_one (by rfl) (by rfl) (by rfl) (by first | exact one_all _ rfl) (by repeat (first | exact .head _ | refine .tail _ ?_)) (by simp [go_sem, V3.v, Pl.v, V3.cs, Pl.cs, layAt, Value.cells, Wide, Wide.cs] <;> rfl) ?_ hR; clear hR; intro hR)
   | (refine own_store_all (by rfl) (by rfl) (by rfl) (by first | exact (agg_all _ _ rfl).size | exact (one_all _ rfl).size) (by rfl) (by rfl) (by rfl) (by repeat (first | exact .head _ | refine .tail _ ?_)) (by rfl) (by simp [go_sem, V3.v, Pl.v, V3.cs, Pl.cs, layAt, Value.cells, Wide, Wide.cs] <;> rfl) (by repeat (first | exact .here | apply Upd.there)) ?_ hR; clear hR; intro _ hR)
   | (refine own_store (by rfl) (by rfl) (by rfl) (by first | exact (agg_all _ _ rfl).size | exact (one_all _ rfl).size) (by rfl) (by rfl) (by rfl) (by repeat (first | exact .head _ | refine .tail _ ?_)) (by rfl) (by simp [go_sem, V3.v, Pl.v, V3.cs, Pl.cs, layAt, Value.cells, Wide, Wide.cs] <;> rfl) (by repeat (first | exact .here | apply Upd.there)) ?_ hR; clear hR; intro _ hR)
   | (refine own_max (by rfl) (by rfl) (by rfl) (by rfl) ?_)
   | (refine own_min (by rfl) (by rfl) (by rfl) (by rfl) ?_)); simp only [Act.put, List.setIfInBounds_toArray, List.set_cons_succ, List.set_cons_zero])
  )
 rename_i b3 w3 b4 w4 b6 w6 K HK
 refine re_startE (L := [⟨b6, #[I 0, I 0, I 0], 27⟩, ⟨b4, #[I b.x, I b.y, I b.z], 27⟩, ⟨b3, #[I a.x, I a.y, I a.z], 27⟩]) [0, 1, 2, 3, 4, 6, 7, 8, 9, 10, 12, 13, 14, 15, 16] [5, 11, 17, 18, 19] 19 (fun _ h => Own.front (T := [⟨b6, #[I 0, I 0, I 0], 27⟩, ⟨b4, #[I b.x, I b.y, I b.z], 27⟩, ⟨b3, #[I a.x, I a.y, I a.z], 27⟩]) h) (by kernel_rfl) (by kernel_rfl) (by rfl) (by rfl) rfl (by rfl) (by kernel_rfl) (fun _ _ _ _ _ h => h) ?_ hR
 repeat (first
  | (refine re_skip (by rfl) ?_; simp only [Act.put, List.setIfInBounds_toArray, List.set_cons_succ, List.set_cons_zero])
  | (refine re_move (by rfl) (by rfl) (by simp only [Act.eval, Array.getD_eq_getD_getElem?, List.getElem?_toArray, List.getElem?_cons_zero, List.getElem?_cons_succ, Option.getD_some] <;> rfl) ?_; simp only [Act.put, List.setIfInBounds_toArray, List.set_cons_succ, List.set_cons_zero])
  | (refine re_assign (by rfl) (by rfl) (by simp only [Act.eval, Array.getD_eq_getD_getElem?, List.getElem?_toArray, List.getElem?_cons_zero, List.getElem?_cons_succ, Option.getD_some] <;> rfl) ?_; simp only [Act.put, List.setIfInBounds_toArray, List.set_cons_succ, List.set_cons_zero])
  | (refine re_load_all (by rfl) (by rfl) (by rfl) (by first | exact agg_all _ _ rfl) (by repeat (first | exact .head _ | refine .tail _ ?_)) (by rfl) ?_; simp only [Act.put, List.setIfInBounds_toArray, List.set_cons_succ, List.set_cons_zero])
  | (refine re_load_agg (by rfl) (by rfl) (by rfl) (by first | exact agg_all _ _ rfl) (by repeat (first | exact .head _ | refine .tail _ ?_)) (by rfl) (by simp [go_sem, V3.v, Pl.v, V3.cs, Pl.cs, layAt, Value.cells, Wide, Wide.cs] <;> rfl) ?_; simp only [Act.put, List.setIfInBounds_toArray, List.set_cons_succ, List.set_cons_zero])
  | (refine re_load_one (by rfl) (by rfl) (by rfl) (by first | exact one_all _ rfl) (by repeat (first | exact .head _ | refine .tail _ ?_)) (by simp [go_sem, V3.v, Pl.v, V3.cs, Pl.cs, layAt, Value.cells, Wide, Wide.cs] <;> rfl) ?_; simp only [Act.put, List.setIfInBounds_toArray, List.set_cons_succ, List.set_cons_zero])
  | (refine re_max (by rfl) (by rfl) (by rfl) (by rfl) ?_; simp only [Act.put, List.setIfInBounds_toArray, List.set_cons_succ, List.set_cons_zero])
  | (refine re_min (by rfl) (by rfl) (by rfl) (by rfl) ?_; simp only [Act.put, List.setIfInBounds_toArray, List.set_cons_succ, List.set_cons_zero])
  | (refine re_eql (by rfl) (by rfl) (by simp [go_sem, V3.v, Pl.v, V3.cs, Pl.cs, layAt, Value.cells, Wide, Wide.cs] <;> rfl) (by simp [go_sem, V3.v, Pl.v, V3.cs, Pl.cs, layAt, Value.cells, Wide, Wide.cs] <;> rfl) (by first | exact guard_vec | exact guard_pl | exact guard_b3) (by intro w; first | exact eqr_vec 9998 w _ _ _ | exact eqr_pl 9996 w _ _ _ _ _ _ _ _ _ _ _ _ _ _ _ | exact eqr_b3 9998 w _ _ _ | exact eqb_vec 9998 w _ _ _ _ _ _ | exact eqb_pl 9996 w _ _ _ _ _ _ _ _ _ _ _ _ _ _ _ _ _ _ _ _ _ _ _ _ _ _ _ _ _ _ | exact eqb_b3 9998 w _ _ _ _ _ _) ?_; simp only [Act.put, List.setIfInBounds_toArray, List.set_cons_succ, List.set_cons_zero])
  | (refine re_neq (by rfl) (by rfl) (by simp [go_sem, V3.v, Pl.v, V3.cs, Pl.cs, layAt, Value.cells, Wide, Wide.cs] <;> rfl) (by simp [go_sem, V3.v, Pl.v, V3.cs, Pl.cs, layAt, Value.cells, Wide, Wide.cs] <;> rfl) (by first | exact guard_vec | exact guard_pl | exact guard_b3) (by intro w; first | exact eqr_vec 9998 w _ _ _ | exact eqr_pl 9996 w _ _ _ _ _ _ _ _ _ _ _ _ _ _ _ | exact eqr_b3 9998 w _ _ _ | exact eqb_vec 9998 w _ _ _ _ _ _ | exact eqb_pl 9996 w _ _ _ _ _ _ _ _ _ _ _ _ _ _ _ _ _ _ _ _ _ _ _ _ _ _ _ _ _ _ | exact eqb_b3 9998 w _ _ _ _ _ _) ?_; simp only [Act.put, List.setIfInBounds_toArray, List.set_cons_succ, List.set_cons_zero])

    | (refine re_pure (by rfl) (by intro w; simp [go_sem, V3.v, Pl.v, V3.cs, Pl.cs, layAt, Value.cells, Wide, Wide.cs] <;> rfl) ?_; simp only [Act.put, List.setIfInBounds_toArray, List.set_cons_succ, List.set_cons_zero]))
 refine rt_callv (by rfl) (by rfl) (by rfl) (by rfl) (fun w hw => RetO.around [⟨b6, #[I 0, I 0, I 0], 27⟩, ⟨b4, #[I b.x, I b.y, I b.z], 27⟩, ⟨b3, #[I a.x, I a.y, I a.z], 27⟩] hx hw) hf hok (fun _ h => Own.front (T := [⟨b6, #[I 0, I 0, I 0], 27⟩, ⟨b4, #[I b.x, I b.y, I b.z], 27⟩, ⟨b3, #[I a.x, I a.y, I a.z], 27⟩]) h) ?_; simp only [Act.put, List.setIfInBounds_toArray, List.set_cons_succ, List.set_cons_zero]
 refine rt_callv (by rfl) (by rfl) (by rfl) (by rfl) (fun w hw => RetO.around [⟨b6, #[I 0, I 0, I 0], 27⟩, ⟨b4, #[I b.x, I b.y, I b.z], 27⟩, ⟨b3, #[I a.x, I a.y, I a.z], 27⟩] hy hw) hf hok (fun _ h => Own.front (T := [⟨b6, #[I 0, I 0, I 0], 27⟩, ⟨b4, #[I b.x, I b.y, I b.z], 27⟩, ⟨b3, #[I a.x, I a.y, I a.z], 27⟩]) h) ?_; simp only [Act.put, List.setIfInBounds_toArray, List.set_cons_succ, List.set_cons_zero]
 refine rt_callv (by rfl) (by rfl) (by rfl) (by rfl) (fun w hw => RetO.around [⟨b6, #[I 0, I 0, I 0], 27⟩, ⟨b4, #[I b.x, I b.y, I b.z], 27⟩, ⟨b3, #[I a.x, I a.y, I a.z], 27⟩] hz hw) hf hok (fun _ h => Own.front (T := [⟨b6, #[I 0, I 0, I 0], 27⟩, ⟨b4, #[I b.x, I b.y, I b.z], 27⟩, ⟨b3, #[I a.x, I a.y, I a.z], 27⟩]) h) ?_; simp only [Act.put, List.setIfInBounds_toArray, List.set_cons_succ, List.set_cons_zero]
 simp only [List.cons_append, List.nil_append]
 repeat (first
  | (refine rt_assign (by rfl) (by rfl) (by simp only [Act.eval, Array.getD_eq_getD_getElem?, List.getElem?_toArray, List.getElem?_cons_zero, List.getElem?_cons_succ, Option.getD_some] <;> rfl) (by first | exact .inr (fun _ h => h.drop34) | exact .inr (fun _ h => h.drop56) | exact .inl (by decide) | exact .inr (fun _ h => h.front1) | exact .inr (fun _ h => h.front2) | exact .inr (fun _ h => h.front3) | exact .inr (fun _ h => h.front4) | exact .inr (fun _ h => h.drop.front1) | exact .inr (fun _ h => h.drop.front2) | exact .inr (fun _ h => h.drop.front3) | exact .inr (fun _ h => h.drop.front4)) ?_; simp only [Act.put, List.setIfInBounds_toArray, List.set_cons_succ, List.set_cons_zero])
  | (refine rt_move (by rfl) (by rfl) (by simp only [Act.eval, Array.getD_eq_getD_getElem?, List.getElem?_toArray, List.getElem?_cons_zero, List.getElem?_cons_succ, Option.getD_some] <;> rfl) (by first | exact .inr (fun _ h => h.drop34) | exact .inr (fun _ h => h.drop56) | exact .inl (by decide) | exact .inr (fun _ h => h.front1) | exact .inr (fun _ h => h.front2) | exact .inr (fun _ h => h.front3) | exact .inr (fun _ h => h.front4) | exact .inr (fun _ h => h.drop.front1) | exact .inr (fun _ h => h.drop.front2) | exact .inr (fun _ h => h.drop.front3) | exact .inr (fun _ h => h.drop.front4)) ?_; simp only [Act.put, List.setIfInBounds_toArray, List.set_cons_succ, List.set_cons_zero])
  | (refine rt_alloc (by rfl) (by rfl) (by first | exact zero_all _ _ rfl) (by first | exact fun _ h => h.front1 | exact fun _ h => h.front2 | exact fun _ h => h.front3 | exact fun _ h => h.front4 | exact fun _ h => h.drop.front1 | exact fun _ h => h.drop.front2 | exact fun _ h => h.drop.front3 | exact fun _ h => h.drop.front4) ?_; intro _; simp only [Act.put, List.setIfInBounds_toArray, List.set_cons_succ, List.set_cons_zero])
  | (refine rt_box (by rfl) (by rfl) (by simp [go_sem, V3.v, Pl.v, V3.cs, Pl.cs, layAt, Value.cells, Wide, Wide.cs] <;> rfl) (by first | exact fun _ h => h.front1 | exact fun _ h => h.front2 | exact fun _ h => h.front3 | exact fun _ h => h.front4 | exact fun _ h => h.drop.front1 | exact fun _ h => h.drop.front2 | exact fun _ h => h.drop.front3 | exact fun _ h => h.drop.front4) ?_; intro _; simp only [Act.put, List.setIfInBounds_toArray, List.set_cons_succ, List.set_cons_zero])
  | (refine rt_store_all (by rfl) (by rfl) (by rfl) (by first | exact (agg_all _ _ rfl).size | exact (one_all _ rfl).size) (by rfl) (by rfl) (by rfl) (by repeat (first | exact .head _ | refine .tail _ ?_)) (by rfl) (by simp [go_sem, V3.v, Pl.v, V3.cs, Pl.cs, layAt, Value.cells, Wide, Wide.cs] <;> rfl) (by repeat (first | exact .here | apply Upd.there)) (by first | exact .inr (fun _ h => h.drop34) | exact .inr (fun _ h => h.drop56) | exact .inl (by decide) | exact .inr (fun _ h => h.front1) | exact .inr (fun _ h => h.front2) | exact .inr (fun _ h => h.front3) | exact .inr (fun _ h => h.front4) | exact .inr (fun _ h => h.drop.front1) | exact .inr (fun _ h => h.drop.front2) | exact .inr (fun _ h => h.drop.front3) | exact .inr (fun _ h => h.drop.front4)) ?_; simp only [Act.put, List.setIfInBounds_toArray, List.set_cons_succ, List.set_cons_zero])
  | (refine rt_store (by rfl) (by rfl) (by rfl) (by first | exact (agg_all _ _ rfl).size | exact (one_all _ rfl).size) (by rfl) (by rfl) (by rfl) (by repeat (first | exact .head _ | refine .tail _ ?_)) (by rfl) (by simp [go_sem, V3.v, Pl.v, V3.cs, Pl.cs, layAt, Value.cells, Wide, Wide.cs] <;> rfl) (by repeat (first | exact .here | apply Upd.there)) (by first | exact .inr (fun _ h => h.drop34) | exact .inr (fun _ h => h.drop56) | exact .inl (by decide) | exact .inr (fun _ h => h.front1) | exact .inr (fun _ h => h.front2) | exact .inr (fun _ h => h.front3) | exact .inr (fun _ h => h.front4) | exact .inr (fun _ h => h.drop.front1) | exact .inr (fun _ h => h.drop.front2) | exact .inr (fun _ h => h.drop.front3) | exact .inr (fun _ h => h.drop.front4)) ?_; simp only [Act.put, List.setIfInBounds_toArray, List.set_cons_succ, List.set_cons_zero])
  | (refine rt_pure (by rfl) (by intro w; simp [go_sem, V3.v, Pl.v, V3.cs, Pl.cs, layAt, Value.cells, Wide, Wide.cs] <;> rfl) (by first | exact .inr (fun _ h => h.drop34) | exact .inr (fun _ h => h.drop56) | exact .inl (by decide) | exact .inr (fun _ h => h.front1) | exact .inr (fun _ h => h.front2) | exact .inr (fun _ h => h.front3) | exact .inr (fun _ h => h.front4) | exact .inr (fun _ h => h.drop.front1) | exact .inr (fun _ h => h.drop.front2) | exact .inr (fun _ h => h.drop.front3) | exact .inr (fun _ h => h.drop.front4)) ?_; simp only [Act.put, List.setIfInBounds_toArray, List.set_cons_succ, List.set_cons_zero]))
 refine rt_end ?_; clear hR; intro _ hR
 go_wp2_with (first
  | ((with_reducible apply is_list); (first
   | ((with_reducible refine own_skip ?_ ?_); (exact rfl))
   | (refine own_box (by rfl) (by rfl) (by simp [go_sem, V3.v, Pl.v, V3.cs, Pl.cs, layAt, Value.cells, Wide, Wide.cs] <;> rfl) ?_ hR; clear hR; intro _ _ hR)
   | (refine own_alloc (by rfl) (by rfl) (by first | exact zero_all _ _ rfl) ?_ hR; clear hR; intro _ _ hR)
   | (refine own_alloc1 (by rfl) (by rfl) (by first | exact zero_all _ _ rfl) (by simp [go_sem, V3.v, Pl.v, V3.cs, Pl.cs, layAt, Value.cells, Wide, Wide.cs] <;> rfl) ?_ hR; clear hR; intro _ _ hR)
   | (refine own_load_all (by rfl) (by rfl) (by rfl) (by first | exact agg_all _ _ rfl) (by repeat (first | exact .head _ | refine .tail _ ?_)) (by rfl) ?_ hR; clear hR; intro hR)
   | (refine own_load_agg (by rfl) (by rfl) (by rfl) (by first | exact agg_all _ _ rfl) (by repeat (first | exact .head _ | refine .tail _ ?_)) (by rfl) (by simp [go_sem, V3.v, Pl.v, V3.cs, Pl.cs, layAt, Value.cells, Wide, Wide.cs] <;> rfl) ?_ hR; clear hR; intro hR)
   | (refine own_load_one (by rfl) (by rfl) (by rfl) (by first | exact one_all _ rfl) (by repeat (first | exact .head _ | refine .tail _ ?_)) (by simp [go_sem, V3.v, Pl.v, V3.cs, Pl.cs, layAt, Value.cells, Wide, Wide.cs] <;> rfl) ?_ hR; clear hR; intro hR)
   | (refine own_store_all (by rfl) (by rfl) (by rfl) (by first | exact (agg_all _ _ rfl).size | exact (one_all _ rfl).size) (by rfl) (by rfl) (by rfl) (by repeat (first | exact .head _ | refine .tail _ ?_)) (by rfl) (by simp [go_sem, V3.v, Pl.v, V3.cs, Pl.cs, layAt, Value.cells, Wide, Wide.cs] <;> rfl) (by repeat (first | exact .here | apply Upd.there)) ?_ hR; clear hR; intro _ hR)
   | (refine own_store (by rfl) (by rfl) (by rfl) (by first | exact (agg_all _ _ rfl).size | exact (one_all _ rfl).size) (by rfl) (by rfl) (by rfl) (by repeat (first | exact .head _ | refine .tail _ ?_)) (by rfl) (by simp [go_sem, V3.v, Pl.v, V3.cs, Pl.cs, layAt, Value.cells, Wide, Wide.cs] <;> rfl) (by repeat (first | exact .here | apply Upd.there)) ?_ hR; clear hR; intro _ hR)
   | (refine own_max (by rfl) (by rfl) (by rfl) (by rfl) ?_)
   | (refine own_min (by rfl) (by rfl) (by rfl) (by rfl) ?_)); simp only [Act.put, List.setIfInBounds_toArray, List.set_cons_succ, List.set_cons_zero])
  )
 refine own_ret1 Try.results63 rfl (.all (by rfl) (by first | exact agg_all _ _ rfl) (by repeat (first | exact .head _ | refine .tail _ ?_)) (by rfl)) (fun hR => Own.retO hR.drop.drop.drop ?_) hR
 rw [HV.out]
 rfl

def UD (bu bd : Nat) (u d : Nat) : List Ent := [⟨bd, Wide.cs d, 120⟩, ⟨bu, Wide.cs u, 120⟩]

set_option maxHeartbeats 2000000 in
theorem products1_up (a c : Int) (bu bd u d : Nat) {B : Nat} {w0 w : World} (E : List Ent) (ha : In64 a) (hc : In64 c) (hs : decide (a < 0) = decide (c < 0)) (hu : u + a.natAbs * c.natAbs < 340282366920938463463374607431768211456) (hR : Own B w0 w (UD bu bd u d ++ E)) :
    Calls Try.prog 82 #[I a, I c, .pointer (some ⟨bu, 0, none⟩), .pointer (some ⟨bd, 0, none⟩)] w (RetO B w0 (UD bu bd (u + a.natAbs * c.natAbs) d ++ E) (I 0)) := by
 have ha' := ha
 have hc' := hc
 unfold In64 at ha' hc'
 simp only [UD, List.cons_append, List.nil_append] at hR ⊢
 refine calls_hideO fun V HV => ?_
 go_enter Try.func82, Try.ntmps82
 go_wp2_with (first
  | ((with_reducible apply is_list); (first
   | ((with_reducible refine own_skip ?_ ?_); (exact rfl))
   | (refine own_box (by rfl) (by rfl) (by simp [go_sem, V3.v, Pl.v, V3.cs, Pl.cs, layAt, Value.cells, Wide, Wide.cs] <;> rfl) ?_ hR; clear hR; intro _ _ hR)
   | (refine own_alloc (by rfl) (by rfl) (by first | exact zero_all _ _ rfl) ?_ hR; clear hR; intro _ _ hR)
   | (refine own_alloc1 (by rfl) (by rfl) (by first | exact zero_all _ _ rfl) (by simp [go_sem, V3.v, Pl.v, V3.cs, Pl.cs, layAt, Value.cells, Wide, Wide.cs] <;> rfl) ?_ hR; clear hR; intro _ _ hR)
   | (refine own_load_all (by rfl) (by rfl) (by rfl) (by first | exact agg_all _ _ rfl) (by repeat (first | exact .head _ | refine .tail _ ?_)) (by rfl) ?_ hR; clear hR; intro hR)
   | (refine own_load_agg (by rfl) (by rfl) (by rfl) (by first | exact agg_all _ _ rfl) (by repeat (first | exact .head _ | refine .tail _ ?_)) (by rfl) (by simp [go_sem, V3.v, Pl.v, V3.cs, Pl.cs, layAt, Value.cells, Wide, Wide.cs] <;> rfl) ?_ hR; clear hR; intro hR)
   | (refine own_load_one (by rfl) (by rfl) (by rfl) (by first | exact one_all _ rfl) (by repeat (first | exact .head _ | refine .tail _ ?_)) (by simp [go_sem, V3.v, Pl.v, V3.cs, Pl.cs, layAt, Value.cells, Wide, Wide.cs] <;> rfl) ?_ hR; clear hR; intro hR)
   | (refine own_store_all (by rfl) (by rfl) (by rfl) (by first | exact (agg_all _ _ rfl).size | exact (one_all _ rfl).size) (by rfl) (by rfl) (by rfl) (by repeat (first | exact .head _ | refine .tail _ ?_)) (by rfl) (by simp [go_sem, V3.v, Pl.v, V3.cs, Pl.cs, layAt, Value.cells, Wide, Wide.cs] <;> rfl) (by repeat (first | exact .here | apply Upd.there)) ?_ hR; clear hR; intro _ hR)
   | (refine own_store (by rfl) (by rfl) (by rfl) (by first | exact (agg_all _ _ rfl).size | exact (one_all _ rfl).size) (by rfl) (by rfl) (by rfl) (by repeat (first | exact .head _ | refine .tail _ ?_)) (by rfl) (by simp [go_sem, V3.v, Pl.v, V3.cs, Pl.cs, layAt, Value.cells, Wide, Wide.cs] <;> rfl) (by repeat (first | exact .here | apply Upd.there)) ?_ hR; clear hR; intro _ hR)
   | (refine own_max (by rfl) (by rfl) (by rfl) (by rfl) ?_)
   | (refine own_min (by rfl) (by rfl) (by rfl) (by rfl) ?_)); simp only [Act.put, List.setIfInBounds_toArray, List.set_cons_succ, List.set_cons_zero])
  )
 refine own_call (size_any a _ ha) ?_ hR; clear hR; intro _ hR
 go_wp2_with (first
  | ((with_reducible apply is_list); (first
   | ((with_reducible refine own_skip ?_ ?_); (exact rfl))
   | (refine own_box (by rfl) (by rfl) (by simp [go_sem, V3.v, Pl.v, V3.cs, Pl.cs, layAt, Value.cells, Wide, Wide.cs] <;> rfl) ?_ hR; clear hR; intro _ _ hR)
   | (refine own_alloc (by rfl) (by rfl) (by first | exact zero_all _ _ rfl) ?_ hR; clear hR; intro _ _ hR)
   | (refine own_alloc1 (by rfl) (by rfl) (by first | exact zero_all _ _ rfl) (by simp [go_sem, V3.v, Pl.v, V3.cs, Pl.cs, layAt, Value.cells, Wide, Wide.cs] <;> rfl) ?_ hR; clear hR; intro _ _ hR)
   | (refine own_load_all (by rfl) (by rfl) (by rfl) (by first | exact agg_all _ _ rfl) (by repeat (first | exact .head _ | refine .tail _ ?_)) (by rfl) ?_ hR; clear hR; intro hR)
   | (refine own_load_agg (by rfl) (by rfl) (by rfl) (by first | exact agg_all _ _ rfl) (by repeat (first | exact .head _ | refine .tail _ ?_)) (by rfl) (by simp [go_sem, V3.v, Pl.v, V3.cs, Pl.cs, layAt, Value.cells, Wide, Wide.cs] <;> rfl) ?_ hR; clear hR; intro hR)
   | (refine own_load_one (by rfl) (by rfl) (by rfl) (by first | exact one_all _ rfl) (by repeat (first | exact .head _ | refine .tail _ ?_)) (by simp [go_sem, V3.v, Pl.v, V3.cs, Pl.cs, layAt, Value.cells, Wide, Wide.cs] <;> rfl) ?_ hR; clear hR; intro hR)
   | (refine own_store_all (by rfl) (by rfl) (by rfl) (by first | exact (agg_all _ _ rfl).size | exact (one_all _ rfl).size) (by rfl) (by rfl) (by rfl) (by repeat (first | exact .head _ | refine .tail _ ?_)) (by rfl) (by simp [go_sem, V3.v, Pl.v, V3.cs, Pl.cs, layAt, Value.cells, Wide, Wide.cs] <;> rfl) (by repeat (first | exact .here | apply Upd.there)) ?_ hR; clear hR; intro _ hR)
   | (refine own_store (by rfl) (by rfl) (by rfl) (by first | exact (agg_all _ _ rfl).size | exact (one_all _ rfl).size) (by rfl) (by rfl) (by rfl) (by repeat (first | exact .head _ | refine .tail _ ?_)) (by rfl) (by simp [go_sem, V3.v, Pl.v, V3.cs, Pl.cs, layAt, Value.cells, Wide, Wide.cs] <;> rfl) (by repeat (first | exact .here | apply Upd.there)) ?_ hR; clear hR; intro _ hR)
   | (refine own_max (by rfl) (by rfl) (by rfl) (by rfl) ?_)
   | (refine own_min (by rfl) (by rfl) (by rfl) (by rfl) ?_)); simp only [Act.put, List.setIfInBounds_toArray, List.set_cons_succ, List.set_cons_zero])
  )
 refine own_call (size_any c _ hc) ?_ hR; clear hR; intro _ hR
 go_wp2_with (first
  | ((with_reducible apply is_list); (first
   | ((with_reducible refine own_skip ?_ ?_); (exact rfl))
   | (refine own_box (by rfl) (by rfl) (by simp [go_sem, V3.v, Pl.v, V3.cs, Pl.cs, layAt, Value.cells, Wide, Wide.cs] <;> rfl) ?_ hR; clear hR; intro _ _ hR)
   | (refine own_alloc (by rfl) (by rfl) (by first | exact zero_all _ _ rfl) ?_ hR; clear hR; intro _ _ hR)
   | (refine own_alloc1 (by rfl) (by rfl) (by first | exact zero_all _ _ rfl) (by simp [go_sem, V3.v, Pl.v, V3.cs, Pl.cs, layAt, Value.cells, Wide, Wide.cs] <;> rfl) ?_ hR; clear hR; intro _ _ hR)
   | (refine own_load_all (by rfl) (by rfl) (by rfl) (by first | exact agg_all _ _ rfl) (by repeat (first | exact .head _ | refine .tail _ ?_)) (by rfl) ?_ hR; clear hR; intro hR)
   | (refine own_load_agg (by rfl) (by rfl) (by rfl) (by first | exact agg_all _ _ rfl) (by repeat (first | exact .head _ | refine .tail _ ?_)) (by rfl) (by simp [go_sem, V3.v, Pl.v, V3.cs, Pl.cs, layAt, Value.cells, Wide, Wide.cs] <;> rfl) ?_ hR; clear hR; intro hR)
   | (refine own_load_one (by rfl) (by rfl) (by rfl) (by first | exact one_all _ rfl) (by repeat (first | exact .head _ | refine .tail _ ?_)) (by simp [go_sem, V3.v, Pl.v, V3.cs, Pl.cs, layAt, Value.cells, Wide, Wide.cs] <;> rfl) ?_ hR; clear hR; intro hR)
   | (refine own_store_all (by rfl) (by rfl) (by rfl) (by first | exact (agg_all _ _ rfl).size | exact (one_all _ rfl).size) (by rfl) (by rfl) (by rfl) (by repeat (first | exact .head _ | refine .tail _ ?_)) (by rfl) (by simp [go_sem, V3.v, Pl.v, V3.cs, Pl.cs, layAt, Value.cells, Wide, Wide.cs] <;> rfl) (by repeat (first | exact .here | apply Upd.there)) ?_ hR; clear hR; intro _ hR)
   | (refine own_store (by rfl) (by rfl) (by rfl) (by first | exact (agg_all _ _ rfl).size | exact (one_all _ rfl).size) (by rfl) (by rfl) (by rfl) (by repeat (first | exact .head _ | refine .tail _ ?_)) (by rfl) (by simp [go_sem, V3.v, Pl.v, V3.cs, Pl.cs, layAt, Value.cells, Wide, Wide.cs] <;> rfl) (by repeat (first | exact .here | apply Upd.there)) ?_ hR; clear hR; intro _ hR)
   | (refine own_max (by rfl) (by rfl) (by rfl) (by rfl) ?_)
   | (refine own_min (by rfl) (by rfl) (by rfl) (by rfl) ?_)); simp only [Act.put, List.setIfInBounds_toArray, List.set_cons_succ, List.set_cons_zero])
  )
 refine own_call (product_any a.natAbs c.natAbs _ (by omega) (by omega)) ?_ hR; clear hR; intro _ hR
 go_wp2_with (first
  | ((with_reducible apply is_list); (first
   | ((with_reducible refine own_skip ?_ ?_); (exact rfl))
   | (refine own_box (by rfl) (by rfl) (by simp [go_sem, V3.v, Pl.v, V3.cs, Pl.cs, layAt, Value.cells, Wide, Wide.cs] <;> rfl) ?_ hR; clear hR; intro _ _ hR)
   | (refine own_alloc (by rfl) (by rfl) (by first | exact zero_all _ _ rfl) ?_ hR; clear hR; intro _ _ hR)
   | (refine own_alloc1 (by rfl) (by rfl) (by first | exact zero_all _ _ rfl) (by simp [go_sem, V3.v, Pl.v, V3.cs, Pl.cs, layAt, Value.cells, Wide, Wide.cs] <;> rfl) ?_ hR; clear hR; intro _ _ hR)
   | (refine own_load_all (by rfl) (by rfl) (by rfl) (by first | exact agg_all _ _ rfl) (by repeat (first | exact .head _ | refine .tail _ ?_)) (by rfl) ?_ hR; clear hR; intro hR)
   | (refine own_load_agg (by rfl) (by rfl) (by rfl) (by first | exact agg_all _ _ rfl) (by repeat (first | exact .head _ | refine .tail _ ?_)) (by rfl) (by simp [go_sem, V3.v, Pl.v, V3.cs, Pl.cs, layAt, Value.cells, Wide, Wide.cs] <;> rfl) ?_ hR; clear hR; intro hR)
   | (refine own_load_one (by rfl) (by rfl) (by rfl) (by first | exact one_all _ rfl) (by repeat (first | exact .head _ | refine .tail _ ?_)) (by simp [go_sem, V3.v, Pl.v, V3.cs, Pl.cs, layAt, Value.cells, Wide, Wide.cs] <;> rfl) ?_ hR; clear hR; intro hR)
   | (refine own_store_all (by rfl) (by rfl) (by rfl) (by first | exact (agg_all _ _ rfl).size | exact (one_all _ rfl).size) (by rfl) (by rfl) (by rfl) (by repeat (first | exact .head _ | refine .tail _ ?_)) (by rfl) (by simp [go_sem, V3.v, Pl.v, V3.cs, Pl.cs, layAt, Value.cells, Wide, Wide.cs] <;> rfl) (by repeat (first | exact .here | apply Upd.there)) ?_ hR; clear hR; intro _ hR)
   | (refine own_store (by rfl) (by rfl) (by rfl) (by first | exact (agg_all _ _ rfl).size | exact (one_all _ rfl).size) (by rfl) (by rfl) (by rfl) (by repeat (first | exact .head _ | refine .tail _ ?_)) (by rfl) (by simp [go_sem, V3.v, Pl.v, V3.cs, Pl.cs, layAt, Value.cells, Wide, Wide.cs] <;> rfl) (by repeat (first | exact .here | apply Upd.there)) ?_ hR; clear hR; intro _ hR)
   | (refine own_max (by rfl) (by rfl) (by rfl) (by rfl) ?_)
   | (refine own_min (by rfl) (by rfl) (by rfl) (by rfl) ?_)); simp only [Act.put, List.setIfInBounds_toArray, List.set_cons_succ, List.set_cons_zero])
  )
 refine own_call (plus_any u (a.natAbs * c.natAbs) _ hu) ?_ hR; clear hR; intro _ hR
 go_wp2_with (first
  | ((with_reducible apply is_list); (first
   | ((with_reducible refine own_skip ?_ ?_); (exact rfl))
   | (refine own_box (by rfl) (by rfl) (by simp [go_sem, V3.v, Pl.v, V3.cs, Pl.cs, layAt, Value.cells, Wide, Wide.cs] <;> rfl) ?_ hR; clear hR; intro _ _ hR)
   | (refine own_alloc (by rfl) (by rfl) (by first | exact zero_all _ _ rfl) ?_ hR; clear hR; intro _ _ hR)
   | (refine own_alloc1 (by rfl) (by rfl) (by first | exact zero_all _ _ rfl) (by simp [go_sem, V3.v, Pl.v, V3.cs, Pl.cs, layAt, Value.cells, Wide, Wide.cs] <;> rfl) ?_ hR; clear hR; intro _ _ hR)
   | (refine own_load_all (by rfl) (by rfl) (by rfl) (by first | exact agg_all _ _ rfl) (by repeat (first | exact .head _ | refine .tail _ ?_)) (by rfl) ?_ hR; clear hR; intro hR)
   | (refine own_load_agg (by rfl) (by rfl) (by rfl) (by first | exact agg_all _ _ rfl) (by repeat (first | exact .head _ | refine .tail _ ?_)) (by rfl) (by simp [go_sem, V3.v, Pl.v, V3.cs, Pl.cs, layAt, Value.cells, Wide, Wide.cs] <;> rfl) ?_ hR; clear hR; intro hR)
   | (refine own_load_one (by rfl) (by rfl) (by rfl) (by first | exact one_all _ rfl) (by repeat (first | exact .head _ | refine .tail _ ?_)) (by simp [go_sem, V3.v, Pl.v, V3.cs, Pl.cs, layAt, Value.cells, Wide, Wide.cs] <;> rfl) ?_ hR; clear hR; intro hR)
   | (refine own_store_all (by rfl) (by rfl) (by rfl) (by first | exact (agg_all _ _ rfl).size | exact (one_all _ rfl).size) (by rfl) (by rfl) (by rfl) (by repeat (first | exact .head _ | refine .tail _ ?_)) (by rfl) (by simp [go_sem, V3.v, Pl.v, V3.cs, Pl.cs, layAt, Value.cells, Wide, Wide.cs] <;> rfl) (by repeat (first | exact .here | apply Upd.there)) ?_ hR; clear hR; intro _ hR)
   | (refine own_store (by rfl) (by rfl) (by rfl) (by first | exact (agg_all _ _ rfl).size | exact (one_all _ rfl).size) (by rfl) (by rfl) (by rfl) (by repeat (first | exact .head _ | refine .tail _ ?_)) (by rfl) (by simp [go_sem, V3.v, Pl.v, V3.cs, Pl.cs, layAt, Value.cells, Wide, Wide.cs] <;> rfl) (by repeat (first | exact .here | apply Upd.there)) ?_ hR; clear hR; intro _ hR)
   | (refine own_max (by rfl) (by rfl) (by rfl) (by rfl) ?_)
   | (refine own_min (by rfl) (by rfl) (by rfl) (by rfl) ?_)); simp only [Act.put, List.setIfInBounds_toArray, List.set_cons_succ, List.set_cons_zero])
  )
 refine own_ret1 Try.results82 rfl (.tmp rfl) (fun hR => Own.retO hR.drop ?_) hR
 rw [HV.out]
 rfl

set_option maxHeartbeats 2000000 in
theorem products1_down (a c : Int) (bu bd u d : Nat) {B : Nat} {w0 w : World} (E : List Ent) (ha : In64 a) (hc : In64 c) (hs : (decide (a < 0) == decide (c < 0)) = false) (hu : d + a.natAbs * c.natAbs < 340282366920938463463374607431768211456) (hR : Own B w0 w (UD bu bd u d ++ E)) :
    Calls Try.prog 82 #[I a, I c, .pointer (some ⟨bu, 0, none⟩), .pointer (some ⟨bd, 0, none⟩)] w (RetO B w0 (UD bu bd u (d + a.natAbs * c.natAbs) ++ E) (I 0)) := by
 have ha' := ha
 have hc' := hc
 unfold In64 at ha' hc'
 have k := Lib.hid hs
 clear hs
 simp only [UD, List.cons_append, List.nil_append] at hR ⊢
 refine calls_hideO fun V HV => ?_
 go_enter Try.func82, Try.ntmps82
 go_wp2_with (first
  | ((with_reducible apply is_list); (first
   | ((with_reducible refine own_skip ?_ ?_); (exact rfl))
   | (refine own_box (by rfl) (by rfl) (by simp [go_sem, V3.v, Pl.v, V3.cs, Pl.cs, layAt, Value.cells, Wide, Wide.cs] <;> rfl) ?_ hR; clear hR; intro _ _ hR)
   | (refine own_alloc (by rfl) (by rfl) (by first | exact zero_all _ _ rfl) ?_ hR; clear hR; intro _ _ hR)
   | (refine own_alloc1 (by rfl) (by rfl) (by first | exact zero_all _ _ rfl) (by simp [go_sem, V3.v, Pl.v, V3.cs, Pl.cs, layAt, Value.cells, Wide, Wide.cs] <;> rfl) ?_ hR; clear hR; intro _ _ hR)
   | (refine own_load_all (by rfl) (by rfl) (by rfl) (by first | exact agg_all _ _ rfl) (by repeat (first | exact .head _ | refine .tail _ ?_)) (by rfl) ?_ hR; clear hR; intro hR)
   | (refine own_load_agg (by rfl) (by rfl) (by rfl) (by first | exact agg_all _ _ rfl) (by repeat (first | exact .head _ | refine .tail _ ?_)) (by rfl) (by simp [go_sem, V3.v, Pl.v, V3.cs, Pl.cs, layAt, Value.cells, Wide, Wide.cs] <;> rfl) ?_ hR; clear hR; intro hR)
   | (refine own_load_one (by rfl) (by rfl) (by rfl) (by first | exact one_all _ rfl) (by repeat (first | exact .head _ | refine .tail _ ?_)) (by simp [go_sem, V3.v, Pl.v, V3.cs, Pl.cs, layAt, Value.cells, Wide, Wide.cs] <;> rfl) ?_ hR; clear hR; intro hR)
   | (refine own_store_all (by rfl) (by rfl) (by rfl) (by first | exact (agg_all _ _ rfl).size | exact (one_all _ rfl).size) (by rfl) (by rfl) (by rfl) (by repeat (first | exact .head _ | refine .tail _ ?_)) (by rfl) (by simp [go_sem, V3.v, Pl.v, V3.cs, Pl.cs, layAt, Value.cells, Wide, Wide.cs] <;> rfl) (by repeat (first | exact .here | apply Upd.there)) ?_ hR; clear hR; intro _ hR)
   | (refine own_store (by rfl) (by rfl) (by rfl) (by first | exact (agg_all _ _ rfl).size | exact (one_all _ rfl).size) (by rfl) (by rfl) (by rfl) (by repeat (first | exact .head _ | refine .tail _ ?_)) (by rfl) (by simp [go_sem, V3.v, Pl.v, V3.cs, Pl.cs, layAt, Value.cells, Wide, Wide.cs] <;> rfl) (by repeat (first | exact .here | apply Upd.there)) ?_ hR; clear hR; intro _ hR)
   | (refine own_max (by rfl) (by rfl) (by rfl) (by rfl) ?_)
   | (refine own_min (by rfl) (by rfl) (by rfl) (by rfl) ?_)); simp only [Act.put, List.setIfInBounds_toArray, List.set_cons_succ, List.set_cons_zero])
  )
 refine own_call (size_any a _ ha) ?_ hR; clear hR; intro _ hR
 go_wp2_with (first
  | ((with_reducible apply is_list); (first
   | ((with_reducible refine own_skip ?_ ?_); (exact rfl))
   | (refine own_box (by rfl) (by rfl) (by simp [go_sem, V3.v, Pl.v, V3.cs, Pl.cs, layAt, Value.cells, Wide, Wide.cs] <;> rfl) ?_ hR; clear hR; intro _ _ hR)
   | (refine own_alloc (by rfl) (by rfl) (by first | exact zero_all _ _ rfl) ?_ hR; clear hR; intro _ _ hR)
   | (refine own_alloc1 (by rfl) (by rfl) (by first | exact zero_all _ _ rfl) (by simp [go_sem, V3.v, Pl.v, V3.cs, Pl.cs, layAt, Value.cells, Wide, Wide.cs] <;> rfl) ?_ hR; clear hR; intro _ _ hR)
   | (refine own_load_all (by rfl) (by rfl) (by rfl) (by first | exact agg_all _ _ rfl) (by repeat (first | exact .head _ | refine .tail _ ?_)) (by rfl) ?_ hR; clear hR; intro hR)
   | (refine own_load_agg (by rfl) (by rfl) (by rfl) (by first | exact agg_all _ _ rfl) (by repeat (first | exact .head _ | refine .tail _ ?_)) (by rfl) (by simp [go_sem, V3.v, Pl.v, V3.cs, Pl.cs, layAt, Value.cells, Wide, Wide.cs] <;> rfl) ?_ hR; clear hR; intro hR)
   | (refine own_load_one (by rfl) (by rfl) (by rfl) (by first | exact one_all _ rfl) (by repeat (first | exact .head _ | refine .tail _ ?_)) (by simp [go_sem, V3.v, Pl.v, V3.cs, Pl.cs, layAt, Value.cells, Wide, Wide.cs] <;> rfl) ?_ hR; clear hR; intro hR)
   | (refine own_store_all (by rfl) (by rfl) (by rfl) (by first | exact (agg_all _ _ rfl).size | exact (one_all _ rfl).size) (by rfl) (by rfl) (by rfl) (by repeat (first | exact .head _ | refine .tail _ ?_)) (by rfl) (by simp [go_sem, V3.v, Pl.v, V3.cs, Pl.cs, layAt, Value.cells, Wide, Wide.cs] <;> rfl) (by repeat (first | exact .here | apply Upd.there)) ?_ hR; clear hR; intro _ hR)
   | (refine own_store (by rfl) (by rfl) (by rfl) (by first | exact (agg_all _ _ rfl).size | exact (one_all _ rfl).size) (by rfl) (by rfl) (by rfl) (by repeat (first | exact .head _ | refine .tail _ ?_)) (by rfl) (by simp [go_sem, V3.v, Pl.v, V3.cs, Pl.cs, layAt, Value.cells, Wide, Wide.cs] <;> rfl) (by repeat (first | exact .here | apply Upd.there)) ?_ hR; clear hR; intro _ hR)
   | (refine own_max (by rfl) (by rfl) (by rfl) (by rfl) ?_)
   | (refine own_min (by rfl) (by rfl) (by rfl) (by rfl) ?_)); simp only [Act.put, List.setIfInBounds_toArray, List.set_cons_succ, List.set_cons_zero])
  )
 refine own_call (size_any c _ hc) ?_ hR; clear hR; intro _ hR
 go_wp2_with (first
  | ((with_reducible apply is_list); (first
   | ((with_reducible refine own_skip ?_ ?_); (exact rfl))
   | (refine own_box (by rfl) (by rfl) (by simp [go_sem, V3.v, Pl.v, V3.cs, Pl.cs, layAt, Value.cells, Wide, Wide.cs] <;> rfl) ?_ hR; clear hR; intro _ _ hR)
   | (refine own_alloc (by rfl) (by rfl) (by first | exact zero_all _ _ rfl) ?_ hR; clear hR; intro _ _ hR)
   | (refine own_alloc1 (by rfl) (by rfl) (by first | exact zero_all _ _ rfl) (by simp [go_sem, V3.v, Pl.v, V3.cs, Pl.cs, layAt, Value.cells, Wide, Wide.cs] <;> rfl) ?_ hR; clear hR; intro _ _ hR)
   | (refine own_load_all (by rfl) (by rfl) (by rfl) (by first | exact agg_all _ _ rfl) (by repeat (first | exact .head _ | refine .tail _ ?_)) (by rfl) ?_ hR; clear hR; intro hR)
   | (refine own_load_agg (by rfl) (by rfl) (by rfl) (by first | exact agg_all _ _ rfl) (by repeat (first | exact .head _ | refine .tail _ ?_)) (by rfl) (by simp [go_sem, V3.v, Pl.v, V3.cs, Pl.cs, layAt, Value.cells, Wide, Wide.cs] <;> rfl) ?_ hR; clear hR; intro hR)
   | (refine own_load_one (by rfl) (by rfl) (by rfl) (by first | exact one_all _ rfl) (by repeat (first | exact .head _ | refine .tail _ ?_)) (by simp [go_sem, V3.v, Pl.v, V3.cs, Pl.cs, layAt, Value.cells, Wide, Wide.cs] <;> rfl) ?_ hR; clear hR; intro hR)
   | (refine own_store_all (by rfl) (by rfl) (by rfl) (by first | exact (agg_all _ _ rfl).size | exact (one_all _ rfl).size) (by rfl) (by rfl) (by rfl) (by repeat (first | exact .head _ | refine .tail _ ?_)) (by rfl) (by simp [go_sem, V3.v, Pl.v, V3.cs, Pl.cs, layAt, Value.cells, Wide, Wide.cs] <;> rfl) (by repeat (first | exact .here | apply Upd.there)) ?_ hR; clear hR; intro _ hR)
   | (refine own_store (by rfl) (by rfl) (by rfl) (by first | exact (agg_all _ _ rfl).size | exact (one_all _ rfl).size) (by rfl) (by rfl) (by rfl) (by repeat (first | exact .head _ | refine .tail _ ?_)) (by rfl) (by simp [go_sem, V3.v, Pl.v, V3.cs, Pl.cs, layAt, Value.cells, Wide, Wide.cs] <;> rfl) (by repeat (first | exact .here | apply Upd.there)) ?_ hR; clear hR; intro _ hR)
   | (refine own_max (by rfl) (by rfl) (by rfl) (by rfl) ?_)
   | (refine own_min (by rfl) (by rfl) (by rfl) (by rfl) ?_)); simp only [Act.put, List.setIfInBounds_toArray, List.set_cons_succ, List.set_cons_zero])
  )
 refine own_call (product_any a.natAbs c.natAbs _ (by omega) (by omega)) ?_ hR; clear hR; intro _ hR
 go_wp2_with (first
  | ((with_reducible apply is_list); repeat1' (first | rw [k.out] | ((first
   | ((with_reducible refine own_skip ?_ ?_); (exact rfl))
   | (refine own_move (by rfl) (by rfl) (by simp only [Act.eval, Array.getD_eq_getD_getElem?, List.getElem?_toArray, List.getElem?_cons_zero, List.getElem?_cons_succ, Option.getD_some] <;> rfl) ?_)
   | (refine own_assign (by rfl) (by rfl) (by simp only [Act.eval, Array.getD_eq_getD_getElem?, List.getElem?_toArray, List.getElem?_cons_zero, List.getElem?_cons_succ, Option.getD_some] <;> rfl) ?_)
   | (refine own_box (by rfl) (by rfl) (by simp [go_sem, V3.v, Pl.v, V3.cs, Pl.cs, layAt, Value.cells, Wide, Wide.cs] <;> rfl) ?_ hR; clear hR; intro _ _ hR)
   | (refine own_alloc (by rfl) (by rfl) (by first | exact zero_all _ _ rfl) ?_ hR; clear hR; intro _ _ hR)
   | (refine own_alloc1 (by rfl) (by rfl) (by first | exact zero_all _ _ rfl) (by simp [go_sem, V3.v, Pl.v, V3.cs, Pl.cs, layAt, Value.cells, Wide, Wide.cs] <;> rfl) ?_ hR; clear hR; intro _ _ hR)
   | (refine own_load_all (by rfl) (by rfl) (by rfl) (by first | exact agg_all _ _ rfl) (by repeat (first | exact .head _ | refine .tail _ ?_)) (by rfl) ?_ hR; clear hR; intro hR)
   | (refine own_load_agg (by rfl) (by rfl) (by rfl) (by first | exact agg_all _ _ rfl) (by repeat (first | exact .head _ | refine .tail _ ?_)) (by rfl) (by simp [go_sem, V3.v, Pl.v, V3.cs, Pl.cs, layAt, Value.cells, Wide, Wide.cs] <;> rfl) ?_ hR; clear hR; intro hR)
   | (refine own_load_one (by rfl) (by rfl) (by rfl) (by first | exact one_all _ rfl) (by repeat (first | exact .head _ | refine .tail _ ?_)) (by simp [go_sem, V3.v, Pl.v, V3.cs, Pl.cs, layAt, Value.cells, Wide, Wide.cs] <;> rfl) ?_ hR; clear hR; intro hR)
   | (refine own_store_all (by rfl) (by rfl) (by rfl) (by first | exact (agg_all _ _ rfl).size | exact (one_all _ rfl).size) (by rfl) (by rfl) (by rfl) (by repeat (first | exact .head _ | refine .tail _ ?_)) (by rfl) (by simp [go_sem, V3.v, Pl.v, V3.cs, Pl.cs, layAt, Value.cells, Wide, Wide.cs] <;> rfl) (by repeat (first | exact .here | apply Upd.there)) ?_ hR; clear hR; intro _ hR)
   | (refine own_store (by rfl) (by rfl) (by rfl) (by first | exact (agg_all _ _ rfl).size | exact (one_all _ rfl).size) (by rfl) (by rfl) (by rfl) (by repeat (first | exact .head _ | refine .tail _ ?_)) (by rfl) (by simp [go_sem, V3.v, Pl.v, V3.cs, Pl.cs, layAt, Value.cells, Wide, Wide.cs] <;> rfl) (by repeat (first | exact .here | apply Upd.there)) ?_ hR; clear hR; intro _ hR)
   | (refine own_max (by rfl) (by rfl) (by rfl) (by rfl) ?_)
   | (refine own_min (by rfl) (by rfl) (by rfl) (by rfl) ?_)
   | (refine own_pure (by rfl) (by intro w; simp [go_sem, V3.v, Pl.v, V3.cs, Pl.cs, layAt, Value.cells, Wide, Wide.cs] <;> rfl) ?_)); simp only [Act.put, List.setIfInBounds_toArray, List.set_cons_succ, List.set_cons_zero]))))
 refine own_call (plus_any d (a.natAbs * c.natAbs) _ hu) ?_ hR; clear hR; intro _ hR
 go_wp2_with (first
  | ((with_reducible apply is_list); repeat1' (first | rw [k.out] | ((first
   | ((with_reducible refine own_skip ?_ ?_); (exact rfl))
   | (refine own_move (by rfl) (by rfl) (by simp only [Act.eval, Array.getD_eq_getD_getElem?, List.getElem?_toArray, List.getElem?_cons_zero, List.getElem?_cons_succ, Option.getD_some] <;> rfl) ?_)
   | (refine own_assign (by rfl) (by rfl) (by simp only [Act.eval, Array.getD_eq_getD_getElem?, List.getElem?_toArray, List.getElem?_cons_zero, List.getElem?_cons_succ, Option.getD_some] <;> rfl) ?_)
   | (refine own_box (by rfl) (by rfl) (by simp [go_sem, V3.v, Pl.v, V3.cs, Pl.cs, layAt, Value.cells, Wide, Wide.cs] <;> rfl) ?_ hR; clear hR; intro _ _ hR)
   | (refine own_alloc (by rfl) (by rfl) (by first | exact zero_all _ _ rfl) ?_ hR; clear hR; intro _ _ hR)
   | (refine own_alloc1 (by rfl) (by rfl) (by first | exact zero_all _ _ rfl) (by simp [go_sem, V3.v, Pl.v, V3.cs, Pl.cs, layAt, Value.cells, Wide, Wide.cs] <;> rfl) ?_ hR; clear hR; intro _ _ hR)
   | (refine own_load_all (by rfl) (by rfl) (by rfl) (by first | exact agg_all _ _ rfl) (by repeat (first | exact .head _ | refine .tail _ ?_)) (by rfl) ?_ hR; clear hR; intro hR)
   | (refine own_load_agg (by rfl) (by rfl) (by rfl) (by first | exact agg_all _ _ rfl) (by repeat (first | exact .head _ | refine .tail _ ?_)) (by rfl) (by simp [go_sem, V3.v, Pl.v, V3.cs, Pl.cs, layAt, Value.cells, Wide, Wide.cs] <;> rfl) ?_ hR; clear hR; intro hR)
   | (refine own_load_one (by rfl) (by rfl) (by rfl) (by first | exact one_all _ rfl) (by repeat (first | exact .head _ | refine .tail _ ?_)) (by simp [go_sem, V3.v, Pl.v, V3.cs, Pl.cs, layAt, Value.cells, Wide, Wide.cs] <;> rfl) ?_ hR; clear hR; intro hR)
   | (refine own_store_all (by rfl) (by rfl) (by rfl) (by first | exact (agg_all _ _ rfl).size | exact (one_all _ rfl).size) (by rfl) (by rfl) (by rfl) (by repeat (first | exact .head _ | refine .tail _ ?_)) (by rfl) (by simp [go_sem, V3.v, Pl.v, V3.cs, Pl.cs, layAt, Value.cells, Wide, Wide.cs] <;> rfl) (by repeat (first | exact .here | apply Upd.there)) ?_ hR; clear hR; intro _ hR)
   | (refine own_store (by rfl) (by rfl) (by rfl) (by first | exact (agg_all _ _ rfl).size | exact (one_all _ rfl).size) (by rfl) (by rfl) (by rfl) (by repeat (first | exact .head _ | refine .tail _ ?_)) (by rfl) (by simp [go_sem, V3.v, Pl.v, V3.cs, Pl.cs, layAt, Value.cells, Wide, Wide.cs] <;> rfl) (by repeat (first | exact .here | apply Upd.there)) ?_ hR; clear hR; intro _ hR)
   | (refine own_max (by rfl) (by rfl) (by rfl) (by rfl) ?_)
   | (refine own_min (by rfl) (by rfl) (by rfl) (by rfl) ?_)
   | (refine own_pure (by rfl) (by intro w; simp [go_sem, V3.v, Pl.v, V3.cs, Pl.cs, layAt, Value.cells, Wide, Wide.cs] <;> rfl) ?_)); simp only [Act.put, List.setIfInBounds_toArray, List.set_cons_succ, List.set_cons_zero]))))
 refine own_ret1 Try.results82 rfl (.tmp rfl) (fun hR => Own.retO hR.drop ?_) hR
 rw [HV.out]
 rfl

def upN (a c : Int) : Nat := if decide (a < 0) = decide (c < 0) then a.natAbs * c.natAbs else 0
def downN (a c : Int) : Nat := if decide (a < 0) = decide (c < 0) then 0 else a.natAbs * c.natAbs

theorem abs_mul_le {a c : Int} (ha : In64 a) (hc : In64 c) : a.natAbs * c.natAbs ≤ 85070591730234615865843651857942052864 := by
 unfold In64 at ha hc
 have h1 : a.natAbs ≤ 9223372036854775808 := by omega
 have h2 : c.natAbs ≤ 9223372036854775808 := by omega
 exact Nat.mul_le_mul h1 h2
theorem upN_le {a c : Int} (ha : In64 a) (hc : In64 c) : upN a c ≤ 85070591730234615865843651857942052864 := by
 have := abs_mul_le ha hc
 unfold upN; split <;> omega
theorem downN_le {a c : Int} (ha : In64 a) (hc : In64 c) : downN a c ≤ 85070591730234615865843651857942052864 := by
 have := abs_mul_le ha hc
 unfold downN; split <;> omega

theorem products1_any (a c : Int) (bu bd u d : Nat) {B : Nat} {w0 w : World} (E : List Ent) (ha : In64 a) (hc : In64 c) (hu : u + upN a c < 340282366920938463463374607431768211456) (hd : d + downN a c < 340282366920938463463374607431768211456) (hR : Own B w0 w (UD bu bd u d ++ E)) :
    Calls Try.prog 82 #[I a, I c, .pointer (some ⟨bu, 0, none⟩), .pointer (some ⟨bd, 0, none⟩)] w (RetO B w0 (UD bu bd (u + upN a c) (d + downN a c) ++ E) (I 0)) := by
 unfold upN downN at *
 by_cases hs : decide (a < 0) = decide (c < 0)
 · simp only [if_pos hs] at *
   exact products1_up a c bu bd u d E ha hc hs hu hR
 · simp only [if_neg hs] at *
   exact products1_down a c bu bd u d E ha hc (by simpa using hs) hd hR

end Go.Proofs.Ytimkhidniolpeaa

namespace Go.Proofs.Ytimkhidniolpeaa
set_option linter.unusedSimpArgs false
set_option linter.unusedVariables false
set_option maxRecDepth 100000
set_option maxHeartbeats 0
open Go.RowKit

def upV (a b : V3) : Nat := upN a.x b.x + upN a.y b.y + upN a.z b.z
def downV (a b : V3) : Nat := downN a.x b.x + downN a.y b.y + downN a.z b.z

theorem Wide_cs_zero : Wide.cs 0 = #[.int .u64 0, .int .u64 0] := by simp only [Wide.cs, nI_eq]; rfl

set_option maxHeartbeats 2000000 in
theorem products_any (a b : V3) (w : World) (ha : a.fits) (hb : b.fits) : Calls Try.prog 68 #[a.v, b.v] w (Ret w (.tuple #[Wide (upV a b), Wide (downV a b)])) := by
 have u1 := upN_le ha.1 hb.1
 have u2 := upN_le ha.2.1 hb.2.1
 have u3 := upN_le ha.2.2 hb.2.2
 have d1 := downN_le ha.1 hb.1
 have d2 := downN_le ha.2.1 hb.2.1
 have d3 := downN_le ha.2.2 hb.2.2
 refine calls_hide fun V HV => ?_
 have hR := Own.start w
 go_enter Try.func68, Try.ntmps68
 go_wp2_with (first
  | ((with_reducible apply is_list); (first
   | ((with_reducible refine own_skip ?_ ?_); (exact rfl))
   | (refine own_box (by rfl) (by rfl) (by simp [go_sem, V3.v, Pl.v, V3.cs, Pl.cs, layAt, Value.cells, Wide, Wide.cs] <;> rfl) ?_ hR; clear hR; intro _ _ hR)
   | (refine own_alloc (by rfl) (by rfl) (by first | exact zero_all _ _ rfl) ?_ hR; clear hR; intro _ _ hR)
   | (refine own_alloc1 (by rfl) (by rfl) (by first | exact zero_all _ _ rfl) (by simp [go_sem, V3.v, Pl.v, V3.cs, Pl.cs, layAt, Value.cells, Wide, Wide.cs] <;> rfl) ?_ hR; clear hR; intro _ _ hR)
   | (refine own_load_all (by rfl) (by rfl) (by rfl) (by first | exact agg_all _ _ rfl) (by repeat (first | exact .head _ | refine .tail _ ?_)) (by rfl) ?_ hR; clear hR; intro hR)
   | (refine own_load_agg (by rfl) (by rfl) (by rfl) (by first | exact agg_all _ _ rfl) (by repeat (first | exact .head _ | refine .tail _ ?_)) (by rfl) (by simp [go_sem, V3.v, Pl.v, V3.cs, Pl.cs, layAt, Value.cells, Wide, Wide.cs] <;> rfl) ?_ hR; clear hR; intro hR)
   | (refine own_load_one (by rfl) (by rfl) (by rfl) (by first | exact one_all _ rfl) (by repeat (first | exact .head _ | refine .tail _ ?_)) (by simp [go_sem, V3.v, Pl.v, V3.cs, Pl.cs, layAt, Value.cells, Wide, Wide.cs] <;> rfl) ?_ hR; clear hR; intro hR)
   | (refine own_store_all (by rfl) (by rfl) (by rfl) (by first | exact (agg_all _ _ rfl).size | exact (one_all _ rfl).size) (by rfl) (by rfl) (by rfl) (by repeat (first | exact .head _ | refine .tail _ ?_)) (by rfl) (by simp [go_sem, V3.v, Pl.v, V3.cs, Pl.cs, layAt, Value.cells, Wide, Wide.cs] <;> rfl) (by repeat (first | exact .here | apply Upd.there)) ?_ hR; clear hR; intro _ hR)
   | (refine own_store (by rfl) (by rfl) (by rfl) (by first | exact (agg_all _ _ rfl).size | exact (one_all _ rfl).size) (by rfl) (by rfl) (by rfl) (by repeat (first | exact .head _ | refine .tail _ ?_)) (by rfl) (by simp [go_sem, V3.v, Pl.v, V3.cs, Pl.cs, layAt, Value.cells, Wide, Wide.cs] <;> rfl) (by repeat (first | exact .here | apply Upd.there)) ?_ hR; clear hR; intro _ hR)
   | (refine own_max (by rfl) (by rfl) (by rfl) (by rfl) ?_)
   | (refine own_min (by rfl) (by rfl) (by rfl) (by rfl) ?_)); simp only [Act.put, List.setIfInBounds_toArray, List.set_cons_succ, List.set_cons_zero])
  )
 rename_i b2 _ b3 _ b4 _ b5 w5 _ _ _ _
 simp only [show (#[Value.int IntKind.u64 0, Value.int IntKind.u64 0] : Array Value) = Wide.cs 0 from Wide_cs_zero.symm] at hR
 refine own_callO (axes_o a b 82 #[.pointer (some ⟨b4, 0, none⟩), .pointer (some ⟨b5, 0, none⟩)] 0 0 0 (UD b4 b5 0 0) (UD b4 b5 (0 + upN a.x b.x) (0 + downN a.x b.x)) (UD b4 b5 (0 + upN a.x b.x + upN a.y b.y) (0 + downN a.x b.x + downN a.y b.y)) (UD b4 b5 (0 + upN a.x b.x + upN a.y b.y + upN a.z b.z) (0 + downN a.x b.x + downN a.y b.y + downN a.z b.z)) _ hR Try.func82 (by kernel_rfl)
  (fun w' E h => products1_any a.x b.x b4 b5 _ _ E ha.1 hb.1 (by omega) (by omega) h) (fun w' E h => products1_any a.y b.y b4 b5 _ _ E ha.2.1 hb.2.1 (by omega) (by omega) h) (fun w' E h => products1_any a.z b.z b4 b5 _ _ E ha.2.2 hb.2.2 (by omega) (by omega) h)) ?_
 clear hR; intro _ hR
 simp only [UD, List.cons_append, List.nil_append, Nat.zero_add] at hR
 go_wp2_with (first
  | ((with_reducible apply is_list); (first
   | ((with_reducible refine own_skip ?_ ?_); (exact rfl))
   | (refine own_box (by rfl) (by rfl) (by simp [go_sem, V3.v, Pl.v, V3.cs, Pl.cs, layAt, Value.cells, Wide, Wide.cs] <;> rfl) ?_ hR; clear hR; intro _ _ hR)
   | (refine own_alloc (by rfl) (by rfl) (by first | exact zero_all _ _ rfl) ?_ hR; clear hR; intro _ _ hR)
   | (refine own_alloc1 (by rfl) (by rfl) (by first | exact zero_all _ _ rfl) (by simp [go_sem, V3.v, Pl.v, V3.cs, Pl.cs, layAt, Value.cells, Wide, Wide.cs] <;> rfl) ?_ hR; clear hR; intro _ _ hR)
   | (refine own_load_all (by rfl) (by rfl) (by rfl) (by first | exact agg_all _ _ rfl) (by repeat (first | exact .head _ | refine .tail _ ?_)) (by rfl) ?_ hR; clear hR; intro hR)
   | (refine own_load_agg (by rfl) (by rfl) (by rfl) (by first | exact agg_all _ _ rfl) (by repeat (first | exact .head _ | refine .tail _ ?_)) (by rfl) (by simp [go_sem, V3.v, Pl.v, V3.cs, Pl.cs, layAt, Value.cells, Wide, Wide.cs] <;> rfl) ?_ hR; clear hR; intro hR)
   | (refine own_load_one (by rfl) (by rfl) (by rfl) (by first | exact one_all _ rfl) (by repeat (first | exact .head _ | refine .tail _ ?_)) (by simp [go_sem, V3.v, Pl.v, V3.cs, Pl.cs, layAt, Value.cells, Wide, Wide.cs] <;> rfl) ?_ hR; clear hR; intro hR)
   | (refine own_store_all (by rfl) (by rfl) (by rfl) (by first | exact (agg_all _ _ rfl).size | exact (one_all _ rfl).size) (by rfl) (by rfl) (by rfl) (by repeat (first | exact .head _ | refine .tail _ ?_)) (by rfl) (by simp [go_sem, V3.v, Pl.v, V3.cs, Pl.cs, layAt, Value.cells, Wide, Wide.cs] <;> rfl) (by repeat (first | exact .here | apply Upd.there)) ?_ hR; clear hR; intro _ hR)
   | (refine own_store (by rfl) (by rfl) (by rfl) (by first | exact (agg_all _ _ rfl).size | exact (one_all _ rfl).size) (by rfl) (by rfl) (by rfl) (by repeat (first | exact .head _ | refine .tail _ ?_)) (by rfl) (by simp [go_sem, V3.v, Pl.v, V3.cs, Pl.cs, layAt, Value.cells, Wide, Wide.cs] <;> rfl) (by repeat (first | exact .here | apply Upd.there)) ?_ hR; clear hR; intro _ hR)
   | (refine own_max (by rfl) (by rfl) (by rfl) (by rfl) ?_)
   | (refine own_min (by rfl) (by rfl) (by rfl) (by rfl) ?_)); simp only [Act.put, List.setIfInBounds_toArray, List.set_cons_succ, List.set_cons_zero])
  )
 refine re_start [0, 1, 2, 3] [] 4 (by kernel_rfl) (by kernel_rfl) (by rfl) (by rfl) rfl (by rfl) (by kernel_rfl) (fun _ _ _ _ _ h => h) ?_ hR
 repeat (first
  | (refine re_skip (by rfl) ?_; simp only [Act.put, List.setIfInBounds_toArray, List.set_cons_succ, List.set_cons_zero])
  | (refine re_move (by rfl) (by rfl) (by simp only [Act.eval, Array.getD_eq_getD_getElem?, List.getElem?_toArray, List.getElem?_cons_zero, List.getElem?_cons_succ, Option.getD_some] <;> rfl) ?_; simp only [Act.put, List.setIfInBounds_toArray, List.set_cons_succ, List.set_cons_zero])
  | (refine re_assign (by rfl) (by rfl) (by simp only [Act.eval, Array.getD_eq_getD_getElem?, List.getElem?_toArray, List.getElem?_cons_zero, List.getElem?_cons_succ, Option.getD_some] <;> rfl) ?_; simp only [Act.put, List.setIfInBounds_toArray, List.set_cons_succ, List.set_cons_zero])
  | (refine re_load_all (by rfl) (by rfl) (by rfl) (by first | exact agg_all _ _ rfl) (by repeat (first | exact .head _ | refine .tail _ ?_)) (by rfl) ?_; simp only [Act.put, List.setIfInBounds_toArray, List.set_cons_succ, List.set_cons_zero])
  | (refine re_load_agg (by rfl) (by rfl) (by rfl) (by first | exact agg_all _ _ rfl) (by repeat (first | exact .head _ | refine .tail _ ?_)) (by rfl) (by simp [go_sem, V3.v, Pl.v, V3.cs, Pl.cs, layAt, Value.cells, Wide, Wide.cs] <;> rfl) ?_; simp only [Act.put, List.setIfInBounds_toArray, List.set_cons_succ, List.set_cons_zero])
  | (refine re_load_one (by rfl) (by rfl) (by rfl) (by first | exact one_all _ rfl) (by repeat (first | exact .head _ | refine .tail _ ?_)) (by simp [go_sem, V3.v, Pl.v, V3.cs, Pl.cs, layAt, Value.cells, Wide, Wide.cs] <;> rfl) ?_; simp only [Act.put, List.setIfInBounds_toArray, List.set_cons_succ, List.set_cons_zero])
  | (refine re_max (by rfl) (by rfl) (by rfl) (by rfl) ?_; simp only [Act.put, List.setIfInBounds_toArray, List.set_cons_succ, List.set_cons_zero])
  | (refine re_min (by rfl) (by rfl) (by rfl) (by rfl) ?_; simp only [Act.put, List.setIfInBounds_toArray, List.set_cons_succ, List.set_cons_zero])
  | (refine re_eql (by rfl) (by rfl) (by simp [go_sem, V3.v, Pl.v, V3.cs, Pl.cs, layAt, Value.cells, Wide, Wide.cs] <;> rfl) (by simp [go_sem, V3.v, Pl.v, V3.cs, Pl.cs, layAt, Value.cells, Wide, Wide.cs] <;> rfl) (by first | exact guard_vec | exact guard_pl | exact guard_b3) (by intro w; first | exact eqr_vec 9998 w _ _ _ | exact eqr_pl 9996 w _ _ _ _ _ _ _ _ _ _ _ _ _ _ _ | exact eqr_b3 9998 w _ _ _ | exact eqb_vec 9998 w _ _ _ _ _ _ | exact eqb_pl 9996 w _ _ _ _ _ _ _ _ _ _ _ _ _ _ _ _ _ _ _ _ _ _ _ _ _ _ _ _ _ _ | exact eqb_b3 9998 w _ _ _ _ _ _) ?_; simp only [Act.put, List.setIfInBounds_toArray, List.set_cons_succ, List.set_cons_zero])
  | (refine re_neq (by rfl) (by rfl) (by simp [go_sem, V3.v, Pl.v, V3.cs, Pl.cs, layAt, Value.cells, Wide, Wide.cs] <;> rfl) (by simp [go_sem, V3.v, Pl.v, V3.cs, Pl.cs, layAt, Value.cells, Wide, Wide.cs] <;> rfl) (by first | exact guard_vec | exact guard_pl | exact guard_b3) (by intro w; first | exact eqr_vec 9998 w _ _ _ | exact eqr_pl 9996 w _ _ _ _ _ _ _ _ _ _ _ _ _ _ _ | exact eqr_b3 9998 w _ _ _ | exact eqb_vec 9998 w _ _ _ _ _ _ | exact eqb_pl 9996 w _ _ _ _ _ _ _ _ _ _ _ _ _ _ _ _ _ _ _ _ _ _ _ _ _ _ _ _ _ _ | exact eqb_b3 9998 w _ _ _ _ _ _) ?_; simp only [Act.put, List.setIfInBounds_toArray, List.set_cons_succ, List.set_cons_zero])
  | (refine re_store_same (by rfl) (by rfl) (by rfl) (by first | exact (agg_all _ _ rfl).size | exact (one_all _ rfl).size) (by rfl) (by rfl) (by rfl) (by repeat (first | exact .head _ | refine .tail _ ?_)) (by rfl) (by rfl) ?_; simp only [Act.put, List.setIfInBounds_toArray, List.set_cons_succ, List.set_cons_zero])
  | (refine re_pure (by rfl) (by intro w; simp [go_sem, V3.v, Pl.v, V3.cs, Pl.cs, layAt, Value.cells, Wide, Wide.cs] <;> rfl) ?_; simp only [Act.put, List.setIfInBounds_toArray, List.set_cons_succ, List.set_cons_zero]))
 refine rt_end ?_; clear hR; intro _ hR
 go_wp2_with (first
  | ((with_reducible apply is_list); (first
   | ((with_reducible refine own_skip ?_ ?_); (exact rfl))
   | (refine own_box (by rfl) (by rfl) (by simp [go_sem, V3.v, Pl.v, V3.cs, Pl.cs, layAt, Value.cells, Wide, Wide.cs] <;> rfl) ?_ hR; clear hR; intro _ _ hR)
   | (refine own_alloc (by rfl) (by rfl) (by first | exact zero_all _ _ rfl) ?_ hR; clear hR; intro _ _ hR)
   | (refine own_alloc1 (by rfl) (by rfl) (by first | exact zero_all _ _ rfl) (by simp [go_sem, V3.v, Pl.v, V3.cs, Pl.cs, layAt, Value.cells, Wide, Wide.cs] <;> rfl) ?_ hR; clear hR; intro _ _ hR)
   | (refine own_load_all (by rfl) (by rfl) (by rfl) (by first | exact agg_all _ _ rfl) (by repeat (first | exact .head _ | refine .tail _ ?_)) (by rfl) ?_ hR; clear hR; intro hR)
   | (refine own_load_agg (by rfl) (by rfl) (by rfl) (by first | exact agg_all _ _ rfl) (by repeat (first | exact .head _ | refine .tail _ ?_)) (by rfl) (by simp [go_sem, V3.v, Pl.v, V3.cs, Pl.cs, layAt, Value.cells, Wide, Wide.cs] <;> rfl) ?_ hR; clear hR; intro hR)
   | (refine own_load_one (by rfl) (by rfl) (by rfl) (by first | exact one_all _ rfl) (by repeat (first | exact .head _ | refine .tail _ ?_)) (by simp [go_sem, V3.v, Pl.v, V3.cs, Pl.cs, layAt, Value.cells, Wide, Wide.cs] <;> rfl) ?_ hR; clear hR; intro hR)
   | (refine own_store_all (by rfl) (by rfl) (by rfl) (by first | exact (agg_all _ _ rfl).size | exact (one_all _ rfl).size) (by rfl) (by rfl) (by rfl) (by repeat (first | exact .head _ | refine .tail _ ?_)) (by rfl) (by simp [go_sem, V3.v, Pl.v, V3.cs, Pl.cs, layAt, Value.cells, Wide, Wide.cs] <;> rfl) (by repeat (first | exact .here | apply Upd.there)) ?_ hR; clear hR; intro _ hR)
   | (refine own_store (by rfl) (by rfl) (by rfl) (by first | exact (agg_all _ _ rfl).size | exact (one_all _ rfl).size) (by rfl) (by rfl) (by rfl) (by repeat (first | exact .head _ | refine .tail _ ?_)) (by rfl) (by simp [go_sem, V3.v, Pl.v, V3.cs, Pl.cs, layAt, Value.cells, Wide, Wide.cs] <;> rfl) (by repeat (first | exact .here | apply Upd.there)) ?_ hR; clear hR; intro _ hR)
   | (refine own_max (by rfl) (by rfl) (by rfl) (by rfl) ?_)
   | (refine own_min (by rfl) (by rfl) (by rfl) (by rfl) ?_)); simp only [Act.put, List.setIfInBounds_toArray, List.set_cons_succ, List.set_cons_zero])
  )
 refine own_ret2 Try.results68 rfl (.all (by rfl) (by first | exact agg_all _ _ rfl) (by repeat (first | exact .head _ | refine .tail _ ?_)) (by rfl)) (.all (by rfl) (by first | exact agg_all _ _ rfl) (by repeat (first | exact .head _ | refine .tail _ ?_)) (by rfl)) (fun hR => hR.ret ?_) hR
 rw [HV.out]
 rfl

set_option maxHeartbeats 2000000 in
theorem long_any (a : V3) (w : World) (ha : a.fits) : Calls Try.prog 52 #[a.v] w (Ret w (I (signedN (rootN (upV a a)) false))) := by
 have u1 := upN_le ha.1 ha.1
 have u2 := upN_le ha.2.1 ha.2.1
 have u3 := upN_le ha.2.2 ha.2.2
 have hw : upV a a < 340282366920938463463374607431768211456 := by unfold upV; omega
 have hr := rootN_lt (W := upV a a) (b := 18446744073709551616) (by omega)
 refine calls_hide fun V HV => ?_
 have hR := Own.start w
 go_enter Try.func52, Try.ntmps52
 go_wp2_with (first
  | ((with_reducible apply is_list); (first
   | ((with_reducible refine own_skip ?_ ?_); (exact rfl))
   | (refine own_box (by rfl) (by rfl) (by simp [go_sem, V3.v, Pl.v, V3.cs, Pl.cs, layAt, Value.cells, Wide, Wide.cs] <;> rfl) ?_ hR; clear hR; intro _ _ hR)
   | (refine own_alloc (by rfl) (by rfl) (by first | exact zero_all _ _ rfl) ?_ hR; clear hR; intro _ _ hR)
   | (refine own_alloc1 (by rfl) (by rfl) (by first | exact zero_all _ _ rfl) (by simp [go_sem, V3.v, Pl.v, V3.cs, Pl.cs, layAt, Value.cells, Wide, Wide.cs] <;> rfl) ?_ hR; clear hR; intro _ _ hR)
   | (refine own_load_all (by rfl) (by rfl) (by rfl) (by first | exact agg_all _ _ rfl) (by repeat (first | exact .head _ | refine .tail _ ?_)) (by rfl) ?_ hR; clear hR; intro hR)
   | (refine own_load_agg (by rfl) (by rfl) (by rfl) (by first | exact agg_all _ _ rfl) (by repeat (first | exact .head _ | refine .tail _ ?_)) (by rfl) (by simp [go_sem, V3.v, Pl.v, V3.cs, Pl.cs, layAt, Value.cells, Wide, Wide.cs] <;> rfl) ?_ hR; clear hR; intro hR)
   | (refine own_load_one (by rfl) (by rfl) (by rfl) (by first | exact one_all _ rfl) (by repeat (first | exact .head _ | refine .tail _ ?_)) (by simp [go_sem, V3.v, Pl.v, V3.cs, Pl.cs, layAt, Value.cells, Wide, Wide.cs] <;> rfl) ?_ hR; clear hR; intro hR)
   | (refine own_store_all (by rfl) (by rfl) (by rfl) (by first | exact (agg_all _ _ rfl).size | exact (one_all _ rfl).size) (by rfl) (by rfl) (by rfl) (by repeat (first | exact .head _ | refine .tail _ ?_)) (by rfl) (by simp [go_sem, V3.v, Pl.v, V3.cs, Pl.cs, layAt, Value.cells, Wide, Wide.cs] <;> rfl) (by repeat (first | exact .here | apply Upd.there)) ?_ hR; clear hR; intro _ hR)
   | (refine own_store (by rfl) (by rfl) (by rfl) (by first | exact (agg_all _ _ rfl).size | exact (one_all _ rfl).size) (by rfl) (by rfl) (by rfl) (by repeat (first | exact .head _ | refine .tail _ ?_)) (by rfl) (by simp [go_sem, V3.v, Pl.v, V3.cs, Pl.cs, layAt, Value.cells, Wide, Wide.cs] <;> rfl) (by repeat (first | exact .here | apply Upd.there)) ?_ hR; clear hR; intro _ hR)
   | (refine own_max (by rfl) (by rfl) (by rfl) (by rfl) ?_)
   | (refine own_min (by rfl) (by rfl) (by rfl) (by rfl) ?_)); simp only [Act.put, List.setIfInBounds_toArray, List.set_cons_succ, List.set_cons_zero])
  )
 refine own_call (products_any a a _ ha ha) ?_ hR; clear hR; intro _ hR
 go_wp2_with (first
  | ((with_reducible apply is_list); (first
   | ((with_reducible refine own_skip ?_ ?_); (exact rfl))
   | (refine own_box (by rfl) (by rfl) (by simp [go_sem, V3.v, Pl.v, V3.cs, Pl.cs, layAt, Value.cells, Wide, Wide.cs] <;> rfl) ?_ hR; clear hR; intro _ _ hR)
   | (refine own_alloc (by rfl) (by rfl) (by first | exact zero_all _ _ rfl) ?_ hR; clear hR; intro _ _ hR)
   | (refine own_alloc1 (by rfl) (by rfl) (by first | exact zero_all _ _ rfl) (by simp [go_sem, V3.v, Pl.v, V3.cs, Pl.cs, layAt, Value.cells, Wide, Wide.cs] <;> rfl) ?_ hR; clear hR; intro _ _ hR)
   | (refine own_load_all (by rfl) (by rfl) (by rfl) (by first | exact agg_all _ _ rfl) (by repeat (first | exact .head _ | refine .tail _ ?_)) (by rfl) ?_ hR; clear hR; intro hR)
   | (refine own_load_agg (by rfl) (by rfl) (by rfl) (by first | exact agg_all _ _ rfl) (by repeat (first | exact .head _ | refine .tail _ ?_)) (by rfl) (by simp [go_sem, V3.v, Pl.v, V3.cs, Pl.cs, layAt, Value.cells, Wide, Wide.cs] <;> rfl) ?_ hR; clear hR; intro hR)
   | (refine own_load_one (by rfl) (by rfl) (by rfl) (by first | exact one_all _ rfl) (by repeat (first | exact .head _ | refine .tail _ ?_)) (by simp [go_sem, V3.v, Pl.v, V3.cs, Pl.cs, layAt, Value.cells, Wide, Wide.cs] <;> rfl) ?_ hR; clear hR; intro hR)
   | (refine own_store_all (by rfl) (by rfl) (by rfl) (by first | exact (agg_all _ _ rfl).size | exact (one_all _ rfl).size) (by rfl) (by rfl) (by rfl) (by repeat (first | exact .head _ | refine .tail _ ?_)) (by rfl) (by simp [go_sem, V3.v, Pl.v, V3.cs, Pl.cs, layAt, Value.cells, Wide, Wide.cs] <;> rfl) (by repeat (first | exact .here | apply Upd.there)) ?_ hR; clear hR; intro _ hR)
   | (refine own_store (by rfl) (by rfl) (by rfl) (by first | exact (agg_all _ _ rfl).size | exact (one_all _ rfl).size) (by rfl) (by rfl) (by rfl) (by repeat (first | exact .head _ | refine .tail _ ?_)) (by rfl) (by simp [go_sem, V3.v, Pl.v, V3.cs, Pl.cs, layAt, Value.cells, Wide, Wide.cs] <;> rfl) (by repeat (first | exact .here | apply Upd.there)) ?_ hR; clear hR; intro _ hR)
   | (refine own_max (by rfl) (by rfl) (by rfl) (by rfl) ?_)
   | (refine own_min (by rfl) (by rfl) (by rfl) (by rfl) ?_)); simp only [Act.put, List.setIfInBounds_toArray, List.set_cons_succ, List.set_cons_zero])
  )
 refine own_call (root_any (upV a a) _ hw) ?_ hR; clear hR; intro _ hR
 go_wp2_with (first
  | ((with_reducible apply is_list); (first
   | ((with_reducible refine own_skip ?_ ?_); (exact rfl))
   | (refine own_box (by rfl) (by rfl) (by simp [go_sem, V3.v, Pl.v, V3.cs, Pl.cs, layAt, Value.cells, Wide, Wide.cs] <;> rfl) ?_ hR; clear hR; intro _ _ hR)
   | (refine own_alloc (by rfl) (by rfl) (by first | exact zero_all _ _ rfl) ?_ hR; clear hR; intro _ _ hR)
   | (refine own_alloc1 (by rfl) (by rfl) (by first | exact zero_all _ _ rfl) (by simp [go_sem, V3.v, Pl.v, V3.cs, Pl.cs, layAt, Value.cells, Wide, Wide.cs] <;> rfl) ?_ hR; clear hR; intro _ _ hR)
   | (refine own_load_all (by rfl) (by rfl) (by rfl) (by first | exact agg_all _ _ rfl) (by repeat (first | exact .head _ | refine .tail _ ?_)) (by rfl) ?_ hR; clear hR; intro hR)
   | (refine own_load_agg (by rfl) (by rfl) (by rfl) (by first | exact agg_all _ _ rfl) (by repeat (first | exact .head _ | refine .tail _ ?_)) (by rfl) (by simp [go_sem, V3.v, Pl.v, V3.cs, Pl.cs, layAt, Value.cells, Wide, Wide.cs] <;> rfl) ?_ hR; clear hR; intro hR)
   | (refine own_load_one (by rfl) (by rfl) (by rfl) (by first | exact one_all _ rfl) (by repeat (first | exact .head _ | refine .tail _ ?_)) (by simp [go_sem, V3.v, Pl.v, V3.cs, Pl.cs, layAt, Value.cells, Wide, Wide.cs] <;> rfl) ?_ hR; clear hR; intro hR)
   | (refine own_store_all (by rfl) (by rfl) (by rfl) (by first | exact (agg_all _ _ rfl).size | exact (one_all _ rfl).size) (by rfl) (by rfl) (by rfl) (by repeat (first | exact .head _ | refine .tail _ ?_)) (by rfl) (by simp [go_sem, V3.v, Pl.v, V3.cs, Pl.cs, layAt, Value.cells, Wide, Wide.cs] <;> rfl) (by repeat (first | exact .here | apply Upd.there)) ?_ hR; clear hR; intro _ hR)
   | (refine own_store (by rfl) (by rfl) (by rfl) (by first | exact (agg_all _ _ rfl).size | exact (one_all _ rfl).size) (by rfl) (by rfl) (by rfl) (by repeat (first | exact .head _ | refine .tail _ ?_)) (by rfl) (by simp [go_sem, V3.v, Pl.v, V3.cs, Pl.cs, layAt, Value.cells, Wide, Wide.cs] <;> rfl) (by repeat (first | exact .here | apply Upd.there)) ?_ hR; clear hR; intro _ hR)
   | (refine own_max (by rfl) (by rfl) (by rfl) (by rfl) ?_)
   | (refine own_min (by rfl) (by rfl) (by rfl) (by rfl) ?_)); simp only [Act.put, List.setIfInBounds_toArray, List.set_cons_succ, List.set_cons_zero])
  )
 refine own_call (signed_word (rootN (upV a a)) false _ hr) ?_ hR; clear hR; intro _ hR
 go_wp2_with (first
  | ((with_reducible apply is_list); (first
   | ((with_reducible refine own_skip ?_ ?_); (exact rfl))
   | (refine own_box (by rfl) (by rfl) (by simp [go_sem, V3.v, Pl.v, V3.cs, Pl.cs, layAt, Value.cells, Wide, Wide.cs] <;> rfl) ?_ hR; clear hR; intro _ _ hR)
   | (refine own_alloc (by rfl) (by rfl) (by first | exact zero_all _ _ rfl) ?_ hR; clear hR; intro _ _ hR)
   | (refine own_alloc1 (by rfl) (by rfl) (by first | exact zero_all _ _ rfl) (by simp [go_sem, V3.v, Pl.v, V3.cs, Pl.cs, layAt, Value.cells, Wide, Wide.cs] <;> rfl) ?_ hR; clear hR; intro _ _ hR)
   | (refine own_load_all (by rfl) (by rfl) (by rfl) (by first | exact agg_all _ _ rfl) (by repeat (first | exact .head _ | refine .tail _ ?_)) (by rfl) ?_ hR; clear hR; intro hR)
   | (refine own_load_agg (by rfl) (by rfl) (by rfl) (by first | exact agg_all _ _ rfl) (by repeat (first | exact .head _ | refine .tail _ ?_)) (by rfl) (by simp [go_sem, V3.v, Pl.v, V3.cs, Pl.cs, layAt, Value.cells, Wide, Wide.cs] <;> rfl) ?_ hR; clear hR; intro hR)
   | (refine own_load_one (by rfl) (by rfl) (by rfl) (by first | exact one_all _ rfl) (by repeat (first | exact .head _ | refine .tail _ ?_)) (by simp [go_sem, V3.v, Pl.v, V3.cs, Pl.cs, layAt, Value.cells, Wide, Wide.cs] <;> rfl) ?_ hR; clear hR; intro hR)
   | (refine own_store_all (by rfl) (by rfl) (by rfl) (by first | exact (agg_all _ _ rfl).size | exact (one_all _ rfl).size) (by rfl) (by rfl) (by rfl) (by repeat (first | exact .head _ | refine .tail _ ?_)) (by rfl) (by simp [go_sem, V3.v, Pl.v, V3.cs, Pl.cs, layAt, Value.cells, Wide, Wide.cs] <;> rfl) (by repeat (first | exact .here | apply Upd.there)) ?_ hR; clear hR; intro _ hR)
   | (refine own_store (by rfl) (by rfl) (by rfl) (by first | exact (agg_all _ _ rfl).size | exact (one_all _ rfl).size) (by rfl) (by rfl) (by rfl) (by repeat (first | exact .head _ | refine .tail _ ?_)) (by rfl) (by simp [go_sem, V3.v, Pl.v, V3.cs, Pl.cs, layAt, Value.cells, Wide, Wide.cs] <;> rfl) (by repeat (first | exact .here | apply Upd.there)) ?_ hR; clear hR; intro _ hR)
   | (refine own_max (by rfl) (by rfl) (by rfl) (by rfl) ?_)
   | (refine own_min (by rfl) (by rfl) (by rfl) (by rfl) ?_)); simp only [Act.put, List.setIfInBounds_toArray, List.set_cons_succ, List.set_cons_zero])
  )
 refine own_ret1 Try.results52 rfl (.tmp rfl) (fun hR => hR.ret ?_) hR
 rw [HV.out]
 rfl

def dotN (a b : V3) : Int := if upV a b < downV a b then signedN ((downV a b - upV a b) / 65536) true else signedN ((upV a b - downV a b) / 65536) false

end Go.Proofs.Ytimkhidniolpeaa

namespace Go.Proofs.Ytimkhidniolpeaa
set_option linter.unusedSimpArgs false
set_option linter.unusedVariables false
set_option maxRecDepth 100000
set_option maxHeartbeats 0
open Go.RowKit

def rootGo (W : Nat) : Nat → Nat → Nat
 | 0, n => n
 | k + 1, n => bif Nat.ble ((n + 2 ^ k) * (n + 2 ^ k)) W then rootGo W k (n + 2 ^ k) else rootGo W k n
theorem rootGo_spec {W : Nat} : ∀ (k n : Nat), n * n ≤ W → W < (n + 2 ^ k) * (n + 2 ^ k) → IsRoot W (rootGo W k n)
 | 0, n, h1, h2 => ⟨h1, by simpa [rootGo] using h2⟩
 | k + 1, n, h1, h2 => by
  rw [rootGo]
  cases hb : Nat.ble ((n + 2 ^ k) * (n + 2 ^ k)) W with
  | true =>
   refine rootGo_spec k (n + 2 ^ k) (Nat.le_of_ble_eq_true hb) ?_
   rw [show n + 2 ^ k + 2 ^ k = n + 2 ^ (k + 1) by rw [Nat.pow_succ]; omega]
   exact h2
  | false =>
   refine rootGo_spec k n h1 ?_
   rcases Nat.lt_or_ge W ((n + 2 ^ k) * (n + 2 ^ k)) with h | h
   · exact h
   · rw [Nat.ble_eq_true_of_le h] at hb; cases hb
def rootC (W : Nat) : Nat := rootGo W 64 0
theorem rootC_eq {W : Nat} (h : W < 340282366920938463463374607431768211456) : rootN W = rootC W := root_unique (rootN_spec W) (rootGo_spec 64 0 (Nat.zero_le _) (by
 have : (0 + 2 ^ 64) * (0 + 2 ^ 64) = 340282366920938463463374607431768211456 := by decide
 omega))

def V3.long (a : V3) : Int := signedN (rootC (upV a a)) false
def oLong : List SV → Option Eff
 | [.agg [.int .i64 x, .int .i64 y, .int .i64 z]] => some { ok := fitsB ⟨x, y, z⟩, val := .int .i64 (V3.long ⟨x, y, z⟩) }
 | _ => none
theorem upV_lt {a : V3} (h : a.fits) : upV a a < 340282366920938463463374607431768211456 := by
 have h1 := upN_le h.1 h.1
 have h2 := upN_le h.2.1 h.2.1
 have h3 := upN_le h.2.2 h.2.2
 unfold upV
 omega
theorem oLong_ok {m : Nat → Option Row} {n : Nat} {args : List SV} {e : Eff} (h : oLong args = some e) (hok : e.ok = true) : FnOk Try.prog 52 args m n e := by
 unfold oLong at h
 split at h
 · rename_i x y z
   cases h
   simp only [fitsB_iff] at hok
   refine fnOk_data (vargs := [(⟨x, y, z⟩ : V3).v]) (rv := I (V3.long ⟨x, y, z⟩)) (fun ρ us h => ?_) (fun ρ => by simp only [Rel]) (fun w => ?_)
   · rw [relL_one] at h
     obtain ⟨u, rfl, h⟩ := h
     rw [rel_vec.1 h]
   · have := long_any ⟨x, y, z⟩ w hok
     rw [rootC_eq (upV_lt hok)] at this
     exact this
 · cases h
noncomputable def orcLong : Orc := ⟨52, fun args _ => oLong args, fun _ _ _ h hok => oLong_ok h hok, bodied Try.func52 (by kernel_rfl)⟩

end Go.Proofs.Ytimkhidniolpeaa

namespace Go.Proofs.Ytimkhidniolpeaa
set_option linter.unusedSimpArgs false
set_option linter.unusedVariables false
set_option maxRecDepth 100000
set_option maxHeartbeats 0
open Go.RowKit

theorem upN_self (a : Int) : upN a a = a.natAbs * a.natAbs := by unfold upN; simp
theorem sq_lt {x y : Int} (hy : 0 ≤ y) (h : x * x < y * y) : x < y := by
 rcases Int.lt_or_le x y with h1 | h1
 · exact h1
 · have := Int.mul_le_mul h1 h1 hy (by omega)
   omega
def V3.sq (a : V3) : Int := a.x * a.x + a.y * a.y + a.z * a.z
theorem upV_sq (a : V3) : ((upV a a : Nat) : Int) = a.sq := by
 unfold upV V3.sq
 rw [upN_self, upN_self, upN_self, Int.natCast_add, Int.natCast_add, Int.natAbs_mul_self, Int.natAbs_mul_self, Int.natAbs_mul_self]
theorem sq_bound {x : Int} {b : Int} (h1 : -b ≤ x) (h2 : x ≤ b) : x * x ≤ b * b := by
 have h3 : 0 ≤ b := by omega
 rcases Int.le_total 0 x with h | h
 · exact Int.mul_le_mul h2 h2 h h3
 · have := Int.mul_le_mul (a := -x) (b := -x) (c := b) (d := b) (by omega) (by omega) (by omega) (by omega)
   grind
theorem sq_pos {x : Int} (h : x ≠ 0) : 0 < x * x := by
 rcases Int.lt_trichotomy x 0 with h1 | h1 | h1
 · exact Int.mul_pos_of_neg_of_neg h1 h1
 · exact absurd h1 h
 · exact Int.mul_pos h1 h1
theorem sq_nonneg (x : Int) : 0 ≤ x * x := by
 by_cases h : x = 0
 · subst h; omega
 · exact Int.le_of_lt (sq_pos h)
def V3.within (a : V3) (b : Int) : Prop := (-b ≤ a.x ∧ a.x ≤ b) ∧ (-b ≤ a.y ∧ a.y ≤ b) ∧ (-b ≤ a.z ∧ a.z ≤ b)
theorem sq_within {a : V3} (h : a.within 2147483648) : a.sq ≤ 13835058055282163712 := by
 have h1 := sq_bound h.1.1 h.1.2
 have h2 := sq_bound h.2.1.1 h.2.1.2
 have h3 := sq_bound h.2.2.1 h.2.2.2
 unfold V3.sq
 omega
theorem within_fits {a : V3} (h : a.within 2147483648) : a.fits := by
 unfold V3.within at h
 refine ⟨?_, ?_, ?_⟩ <;> (unfold In64; omega)
theorem long_spec {a : V3} (h : a.within 2147483648) : 0 ≤ a.long ∧ a.long < 4294967296 ∧ a.long * a.long ≤ a.sq ∧ a.sq < (a.long + 1) * (a.long + 1) := by
 have hr : IsRoot (upV a a) (rootC (upV a a)) := by rw [← rootC_eq (upV_lt (within_fits h))]; exact rootN_spec _
 have h1 := Int.ofNat_le.2 hr.1
 have h2 := Int.ofNat_lt.2 hr.2
 have h3 := sq_within h
 rw [Int.natCast_mul, upV_sq] at h1
 rw [Int.natCast_mul, Int.natCast_add, upV_sq] at h2
 have hlt : ((rootC (upV a a) : Nat) : Int) < 4294967296 := sq_lt (by omega) (by omega)
 have e : a.long = ((rootC (upV a a) : Nat) : Int) := by
  unfold V3.long signedN
  rw [if_neg (by decide)]
  omega
 rw [e]
 exact ⟨Int.natCast_nonneg _, hlt, h1, by simpa using h2⟩
theorem axis_le_long {a : V3} (h : a.within 2147483648) {x : Int} (hx : x * x ≤ a.sq) : x ≤ a.long ∧ -x ≤ a.long := by
 obtain ⟨h0, _, _, h2⟩ := long_spec h
 have e : (-x) * (-x) = x * x := by grind
 have h3 := sq_lt (x := x) (y := a.long + 1) (by omega) (by omega)
 have h4 := sq_lt (x := -x) (y := a.long + 1) (by omega) (by omega)
 omega
theorem axes_sq (a : V3) : a.x * a.x ≤ a.sq ∧ a.y * a.y ≤ a.sq ∧ a.z * a.z ≤ a.sq := by
 have h1 := sq_nonneg a.x
 have h2 := sq_nonneg a.y
 have h3 := sq_nonneg a.z
 unfold V3.sq
 omega
theorem long_pos {a : V3} (h : a.within 2147483648) (h0 : ¬ (a.x = 0 ∧ a.y = 0 ∧ a.z = 0)) : 0 < a.long := by
 have hs := axes_sq a
 have h1 := axis_le_long h hs.1
 have h2 := axis_le_long h hs.2.1
 have h3 := axis_le_long h hs.2.2
 omega
theorem long_neg (a b : V3) (h : a.sq = b.sq) : a.long = b.long := by
 unfold V3.long
 have : upV a a = upV b b := by
  have h1 := upV_sq a
  have h2 := upV_sq b
  omega
 rw [this]

end Go.Proofs.Ytimkhidniolpeaa
