/- Package fix's root: contract. (Under way.) Package fix's Sqrt: contract. (Under way.) Package fix's 'axes' over a function value that changes rows of one's own; products; Dot; Long. Package fix's products, Dot, Long: contracts. -/
import Derived.Test.YtboljdeeodeeeaaFixF
import Derived.Test.YtboljdeeodeeeaaRoot
import Derived.Test.YtboljdeeodeeeaaQuiet
import Derived.Test.YtboljdeeodeeeaaFixC
-- EVDEFS: Wide, Wide.cs
namespace Go.Proofs.Ytboljdeeodeeeaa
set_option linter.unusedSimpArgs false
set_option linter.unusedVariables false
set_option maxRecDepth 100000
open Go.RowKit

def RootRel (B : Nat) (w0 : World) (b1 : Nat) (W : Nat) (n bit : Value) (wr : World) : Prop :=
  ∃ N t : Nat, n = U N ∧ bit = U t ∧ ((t = 0 ∧ RootAt W N 1) ∨ (∃ k, k < 64 ∧ t = 2 ^ k ∧ RootAt W N (2 * t))) ∧ Own B w0 wr [⟨b1, Wide.cs W, 65⟩]

set_option maxRecDepth 100000 in
set_option maxHeartbeats 1000000 in
theorem root_any (W : Nat) (w : World) (hW : W < 340282366920938463463374607431768211456) : Calls Try.prog 42 #[Wide W] w (Ret w (U (rootN W))) := by
  refine calls_hide fun V HV => ?_
  have hR := Own.start w
  go_enter Try.func42, Try.ntmps42
  go_wp2_with (first
    | ((with_reducible apply is_list); (first
      | ((with_reducible refine own_skip ?_ ?_); (exact rfl))
      | (refine own_box (by rfl) (by rfl) (by simp [go_sem, V3.v, Pl.v, V3.cs, Pl.cs, layAt, Value.cells, Wide, Wide.cs] <;> rfl) ?_ hR; clear hR; intro _ _ hR)
      | (refine own_alloc (by rfl) (by rfl) (by first | exact zero_all _ _ rfl) ?_ hR; clear hR; intro _ _ hR)
      | (refine own_alloc1 (by rfl) (by rfl) (by first | exact zero_all _ _ rfl) (by simp [go_sem, V3.v, Pl.v, V3.cs, Pl.cs, layAt, Value.cells, Wide, Wide.cs] <;> rfl) ?_ hR; clear hR; intro _ _ hR)
      | (refine own_load_all (by rfl) (by rfl) (by rfl) (by first | exact agg_all _ _ rfl) (by repeat (first | exact .head _ | refine .tail _ ?_)) (by rfl) ?_ hR; clear hR; intro hR)
      | (refine own_load_agg (by rfl) (by rfl) (by rfl) (by first | exact agg_all _ _ rfl) (by repeat (first | exact .head _ | refine .tail _ ?_)) (by rfl) (by simp [go_sem, V3.v, Pl.v, V3.cs, Pl.cs, layAt, Value.cells, Wide, Wide.cs] <;> rfl) ?_ hR; clear hR; intro hR)
      | (refine own_load_one (by rfl) (by rfl) (by rfl) (by first | exact one_all _ rfl) (by repeat (first | exact .head _ | refine .tail _ ?_)) (by simp [go_sem, V3.v, Pl.v, V3.cs, Pl.cs, layAt, Value.cells, Wide, Wide.cs] <;> rfl) ?_ hR; clear hR; intro hR)
      | (refine own_store_all (by rfl) (by rfl) (by rfl) (by first | exact (agg_all _ _ rfl).size | exact (one_all _ rfl).size) (by rfl) (by rfl) (by rfl) (by repeat (first | exact .head _ | refine .tail _ ?_)) (by rfl) (by simp [go_sem, V3.v, Pl.v, V3.cs, Pl.cs, layAt, Value.cells, Wide, Wide.cs] <;> rfl) (by repeat (first | exact .here | apply Upd.there)) ?_ hR; clear hR; intro _ hR)
      | (refine own_store (by rfl) (by rfl) (by rfl) (by first | exact (agg_all _ _ rfl).size | exact (one_all _ rfl).size) (by rfl) (by rfl) (by rfl) (by repeat (first | exact .head _ | refine .tail _ ?_)) (by rfl) (by simp [go_sem, V3.v, Pl.v, V3.cs, Pl.cs, layAt, Value.cells, Wide, Wide.cs] <;> rfl) (by repeat (first | exact .here | apply Upd.there)) ?_ hR; clear hR; intro _ hR)
      | (refine own_max (by rfl) (by rfl) (by rfl) (by rfl) ?_)
      | (refine own_min (by rfl) (by rfl) (by rfl) (by rfl) ?_)); simp only [Act.put, List.setIfInBounds_toArray, List.set_cons_succ, List.set_cons_zero])
    )
  rename_i b1 w1 _ _
  have hR0 : Own w.heap.size w w1 [⟨b1, Wide.cs W, 65⟩] := hR
  clear hR
  go_loopw [2, 3] (fun n bit wr => RootRel w.heap.size w b1 W n bit wr) (fun _ bit _ => match bit with | .int _ z => z.toNat | _ => 0)
  case atStart => exact ⟨0, 9223372036854775808, U_zero.symm, by rw [U, nI_eq]; rfl, .inr ⟨63, by omega, by decide, ⟨Nat.dvd_zero _, Nat.zero_le _, by omega⟩⟩, hR0⟩
  case round =>
    obtain ⟨N, t, rfl, rfl, hNt, hR⟩ := hrel
    clear hR0
    rcases hNt with ⟨rfl, h⟩ | ⟨k, hk, ht, h⟩
    · have d0 : Hid (decide (0 < nI 0) = false) := Lib.hid (by rw [nI_eq]; rfl)
      have e : rootN W = N := root_unique (rootN_spec W) ⟨h.2.1, h.2.2⟩
      rw [e] at HV
      go_wp2_with (first
        | ((with_reducible apply is_list); repeat1' (first | rw [d0.out] | ((first
          | ((with_reducible refine own_skip ?_ ?_); (exact rfl))
          | (refine own_move (by rfl) (by rfl) (by simp only [Act.eval, Array.getD_eq_getD_getElem?, List.getElem?_toArray, List.getElem?_cons_zero, List.getElem?_cons_succ, Option.getD_some] <;> rfl) ?_)
          | (refine own_assign (by rfl) (by rfl) (by simp only [Act.eval, Array.getD_eq_getD_getElem?, List.getElem?_toArray, List.getElem?_cons_zero, List.getElem?_cons_succ, Option.getD_some] <;> rfl) ?_)
          | (refine own_box (by rfl) (by rfl) (by simp [go_sem, V3.v, Pl.v, V3.cs, Pl.cs, layAt, Value.cells, Wide, Wide.cs] <;> rfl) ?_ hR; clear hR; intro _ _ hR)
          | (refine own_alloc (by rfl) (by rfl) (by first | exact zero_all _ _ rfl) ?_ hR; clear hR; intro _ _ hR)
          | (refine own_alloc1 (by rfl) (by rfl) (by first | exact zero_all _ _ rfl) (by simp [go_sem, V3.v, Pl.v, V3.cs, Pl.cs, layAt, Value.cells, Wide, Wide.cs] <;> rfl) ?_ hR; clear hR; intro _ _ hR)
          | (refine own_load_all (by rfl) (by rfl) (by rfl) (by first | exact agg_all _ _ rfl) (by repeat (first | exact .head _ | refine .tail _ ?_)) (by rfl) ?_ hR; clear hR; intro hR)
          | (refine own_load_agg (by rfl) (by rfl) (by rfl) (by first | exact agg_all _ _ rfl) (by repeat (first | exact .head _ | refine .tail _ ?_)) (by rfl) (by simp [go_sem, V3.v, Pl.v, V3.cs, Pl.cs, layAt, Value.cells, Wide, Wide.cs] <;> rfl) ?_ hR; clear hR; intro hR)
          | (refine own_load_one (by rfl) (by rfl) (by rfl) (by first | exact one_all _ rfl) (by repeat (first | exact .head _ | refine .tail _ ?_)) (by simp [go_sem, V3.v, Pl.v, V3.cs, Pl.cs, layAt, Value.cells, Wide, Wide.cs] <;> rfl) ?_ hR; clear hR; intro hR)
          | (refine own_store_all (by rfl) (by rfl) (by rfl) (by first | exact (agg_all _ _ rfl).size | exact (one_all _ rfl).size) (by rfl) (by rfl) (by rfl) (by repeat (first | exact .head _ | refine .tail _ ?_)) (by rfl) (by simp [go_sem, V3.v, Pl.v, V3.cs, Pl.cs, layAt, Value.cells, Wide, Wide.cs] <;> rfl) (by repeat (first | exact .here | apply Upd.there)) ?_ hR; clear hR; intro _ hR)
          | (refine own_store (by rfl) (by rfl) (by rfl) (by first | exact (agg_all _ _ rfl).size | exact (one_all _ rfl).size) (by rfl) (by rfl) (by rfl) (by repeat (first | exact .head _ | refine .tail _ ?_)) (by rfl) (by simp [go_sem, V3.v, Pl.v, V3.cs, Pl.cs, layAt, Value.cells, Wide, Wide.cs] <;> rfl) (by repeat (first | exact .here | apply Upd.there)) ?_ hR; clear hR; intro _ hR)
          | (refine own_max (by rfl) (by rfl) (by rfl) (by rfl) ?_)
          | (refine own_min (by rfl) (by rfl) (by rfl) (by rfl) ?_)
          | (refine own_pure (by rfl) (by intro w; simp [go_sem, V3.v, Pl.v, V3.cs, Pl.cs, layAt, Value.cells, Wide, Wide.cs] <;> rfl) ?_)); simp only [Act.put, List.setIfInBounds_toArray, List.set_cons_succ, List.set_cons_zero]))))
      refine own_ret1 Try.results42 rfl (.tmp rfl) (fun hR => hR.ret ?_) hR
      rw [HV.out]
      rfl
    · have htp : 0 < t := by rw [ht]; exact Nat.two_pow_pos k
      have d0 : Hid (decide (0 < nI t) = true) := Lib.hid (by rw [nI_eq]; exact decide_eq_true (by omega))
      have hlt : N + t < 18446744073709551616 := root_lt hW hk ht h
      have hor : Hid (bits .or .u64 (nI N) (nI t) = nI (N + t)) := Lib.hid (by rw [nI_eq, nI_eq, nI_eq, bits_or_u64_nat N t (by omega) (by omega), root_or ht h])
      have es : nI t / 2 = nI (t / 2) := by rw [nI_eq, nI_eq]; omega
      have hm : (nI t / 2).toNat < (nI t).toNat := by rw [nI_eq]; omega
      generalize hcc : decide (W < (N + t) * (N + t)) = c
      have HC := Lib.hid hcc
      clear hcc
      go_wp2_with (first
        | ((with_reducible apply is_list); repeat1' (first | rw [d0.out] | ((first
          | ((with_reducible refine own_skip ?_ ?_); (exact rfl))
          | (refine own_move (by rfl) (by rfl) (by simp only [Act.eval, Array.getD_eq_getD_getElem?, List.getElem?_toArray, List.getElem?_cons_zero, List.getElem?_cons_succ, Option.getD_some] <;> rfl) ?_)
          | (refine own_assign (by rfl) (by rfl) (by simp only [Act.eval, Array.getD_eq_getD_getElem?, List.getElem?_toArray, List.getElem?_cons_zero, List.getElem?_cons_succ, Option.getD_some] <;> rfl) ?_)
          | (refine own_box (by rfl) (by rfl) (by simp [go_sem, V3.v, Pl.v, V3.cs, Pl.cs, layAt, Value.cells, Wide, Wide.cs] <;> rfl) ?_ hR; clear hR; intro _ _ hR)
          | (refine own_alloc (by rfl) (by rfl) (by first | exact zero_all _ _ rfl) ?_ hR; clear hR; intro _ _ hR)
          | (refine own_alloc1 (by rfl) (by rfl) (by first | exact zero_all _ _ rfl) (by simp [go_sem, V3.v, Pl.v, V3.cs, Pl.cs, layAt, Value.cells, Wide, Wide.cs] <;> rfl) ?_ hR; clear hR; intro _ _ hR)
          | (refine own_load_all (by rfl) (by rfl) (by rfl) (by first | exact agg_all _ _ rfl) (by repeat (first | exact .head _ | refine .tail _ ?_)) (by rfl) ?_ hR; clear hR; intro hR)
          | (refine own_load_agg (by rfl) (by rfl) (by rfl) (by first | exact agg_all _ _ rfl) (by repeat (first | exact .head _ | refine .tail _ ?_)) (by rfl) (by simp [go_sem, V3.v, Pl.v, V3.cs, Pl.cs, layAt, Value.cells, Wide, Wide.cs] <;> rfl) ?_ hR; clear hR; intro hR)
          | (refine own_load_one (by rfl) (by rfl) (by rfl) (by first | exact one_all _ rfl) (by repeat (first | exact .head _ | refine .tail _ ?_)) (by simp [go_sem, V3.v, Pl.v, V3.cs, Pl.cs, layAt, Value.cells, Wide, Wide.cs] <;> rfl) ?_ hR; clear hR; intro hR)
          | (refine own_store_all (by rfl) (by rfl) (by rfl) (by first | exact (agg_all _ _ rfl).size | exact (one_all _ rfl).size) (by rfl) (by rfl) (by rfl) (by repeat (first | exact .head _ | refine .tail _ ?_)) (by rfl) (by simp [go_sem, V3.v, Pl.v, V3.cs, Pl.cs, layAt, Value.cells, Wide, Wide.cs] <;> rfl) (by repeat (first | exact .here | apply Upd.there)) ?_ hR; clear hR; intro _ hR)
          | (refine own_store (by rfl) (by rfl) (by rfl) (by first | exact (agg_all _ _ rfl).size | exact (one_all _ rfl).size) (by rfl) (by rfl) (by rfl) (by repeat (first | exact .head _ | refine .tail _ ?_)) (by rfl) (by simp [go_sem, V3.v, Pl.v, V3.cs, Pl.cs, layAt, Value.cells, Wide, Wide.cs] <;> rfl) (by repeat (first | exact .here | apply Upd.there)) ?_ hR; clear hR; intro _ hR)
          | (refine own_max (by rfl) (by rfl) (by rfl) (by rfl) ?_)
          | (refine own_min (by rfl) (by rfl) (by rfl) (by rfl) ?_)
          | (refine own_pure (by rfl) (by intro w; simp [go_sem, V3.v, Pl.v, V3.cs, Pl.cs, layAt, Value.cells, Wide, Wide.cs] <;> rfl) ?_)); simp only [Act.put, List.setIfInBounds_toArray, List.set_cons_succ, List.set_cons_zero]))))
      refine oq_start (by kernel_rfl) (by kernel_rfl) ?_ hR
      repeat (first | rw [hor.out] | (first
        | (refine oq_skip (by rfl) ?_; simp only [Act.put, List.setIfInBounds_toArray, List.set_cons_succ, List.set_cons_zero])
        | (refine oq_move (by rfl) (by rfl) (by simp only [Act.eval, Array.getD_eq_getD_getElem?, List.getElem?_toArray, List.getElem?_cons_zero, List.getElem?_cons_succ, Option.getD_some] <;> rfl) ?_; simp only [Act.put, List.setIfInBounds_toArray, List.set_cons_succ, List.set_cons_zero])
        | (refine oq_assign (by rfl) (by rfl) (by simp only [Act.eval, Array.getD_eq_getD_getElem?, List.getElem?_toArray, List.getElem?_cons_zero, List.getElem?_cons_succ, Option.getD_some] <;> rfl) ?_; simp only [Act.put, List.setIfInBounds_toArray, List.set_cons_succ, List.set_cons_zero])
        | (refine oq_load_all (by rfl) (by rfl) (by rfl) (by first | exact agg_all _ _ rfl) (by repeat (first | exact .head _ | refine .tail _ ?_)) (by rfl) ?_; simp only [Act.put, List.setIfInBounds_toArray, List.set_cons_succ, List.set_cons_zero])
        | (refine oq_load_agg (by rfl) (by rfl) (by rfl) (by first | exact agg_all _ _ rfl) (by repeat (first | exact .head _ | refine .tail _ ?_)) (by rfl) (by simp [go_sem, V3.v, Pl.v, V3.cs, Pl.cs, layAt, Value.cells, Wide, Wide.cs] <;> rfl) ?_; simp only [Act.put, List.setIfInBounds_toArray, List.set_cons_succ, List.set_cons_zero])
        | (refine oq_load_one (by rfl) (by rfl) (by rfl) (by first | exact one_all _ rfl) (by repeat (first | exact .head _ | refine .tail _ ?_)) (by simp [go_sem, V3.v, Pl.v, V3.cs, Pl.cs, layAt, Value.cells, Wide, Wide.cs] <;> rfl) ?_; simp only [Act.put, List.setIfInBounds_toArray, List.set_cons_succ, List.set_cons_zero])
        | (refine oq_max (by rfl) (by rfl) (by rfl) (by rfl) ?_; simp only [Act.put, List.setIfInBounds_toArray, List.set_cons_succ, List.set_cons_zero])
        | (refine oq_min (by rfl) (by rfl) (by rfl) (by rfl) ?_; simp only [Act.put, List.setIfInBounds_toArray, List.set_cons_succ, List.set_cons_zero])
        | (refine oq_eql (by rfl) (by rfl) (by simp [go_sem, V3.v, Pl.v, V3.cs, Pl.cs, layAt, Value.cells, Wide, Wide.cs] <;> rfl) (by simp [go_sem, V3.v, Pl.v, V3.cs, Pl.cs, layAt, Value.cells, Wide, Wide.cs] <;> rfl) (by first | exact guard_vec | exact guard_pl) (by intro w; first | exact eqr_vec 9998 w _ _ _ | exact eqr_pl 9996 w _ _ _ _ _ _ _ _ _ _ _ _ _ _ _ | exact eqb_vec 9998 w _ _ _ _ _ _ | exact eqb_pl 9996 w _ _ _ _ _ _ _ _ _ _ _ _ _ _ _ _ _ _ _ _ _ _ _ _ _ _ _ _ _ _) ?_; simp only [Act.put, List.setIfInBounds_toArray, List.set_cons_succ, List.set_cons_zero])
        | (refine oq_neq (by rfl) (by rfl) (by simp [go_sem, V3.v, Pl.v, V3.cs, Pl.cs, layAt, Value.cells, Wide, Wide.cs] <;> rfl) (by simp [go_sem, V3.v, Pl.v, V3.cs, Pl.cs, layAt, Value.cells, Wide, Wide.cs] <;> rfl) (by first | exact guard_vec | exact guard_pl) (by intro w; first | exact eqr_vec 9998 w _ _ _ | exact eqr_pl 9996 w _ _ _ _ _ _ _ _ _ _ _ _ _ _ _ | exact eqb_vec 9998 w _ _ _ _ _ _ | exact eqb_pl 9996 w _ _ _ _ _ _ _ _ _ _ _ _ _ _ _ _ _ _ _ _ _ _ _ _ _ _ _ _ _ _) ?_; simp only [Act.put, List.setIfInBounds_toArray, List.set_cons_succ, List.set_cons_zero])
        | (refine oq_pure (by rfl) (by intro w; simp [go_sem, V3.v, Pl.v, V3.cs, Pl.cs, layAt, Value.cells, Wide, Wide.cs] <;> rfl) ?_; simp only [Act.put, List.setIfInBounds_toArray, List.set_cons_succ, List.set_cons_zero])))
      refine oq_call (by rfl) (by rfl) (fun w _ => product_any (N + t) (N + t) w hlt hlt) (by rfl) Try.func60 (by kernel_rfl) ?_; simp only [Act.put, List.setIfInBounds_toArray, List.set_cons_succ, List.set_cons_zero]
      repeat (first | rw [hor.out] | (first
        | (refine oq_skip (by rfl) ?_; simp only [Act.put, List.setIfInBounds_toArray, List.set_cons_succ, List.set_cons_zero])
        | (refine oq_move (by rfl) (by rfl) (by simp only [Act.eval, Array.getD_eq_getD_getElem?, List.getElem?_toArray, List.getElem?_cons_zero, List.getElem?_cons_succ, Option.getD_some] <;> rfl) ?_; simp only [Act.put, List.setIfInBounds_toArray, List.set_cons_succ, List.set_cons_zero])
        | (refine oq_assign (by rfl) (by rfl) (by simp only [Act.eval, Array.getD_eq_getD_getElem?, List.getElem?_toArray, List.getElem?_cons_zero, List.getElem?_cons_succ, Option.getD_some] <;> rfl) ?_; simp only [Act.put, List.setIfInBounds_toArray, List.set_cons_succ, List.set_cons_zero])
        | (refine oq_load_all (by rfl) (by rfl) (by rfl) (by first | exact agg_all _ _ rfl) (by repeat (first | exact .head _ | refine .tail _ ?_)) (by rfl) ?_; simp only [Act.put, List.setIfInBounds_toArray, List.set_cons_succ, List.set_cons_zero])
        | (refine oq_load_agg (by rfl) (by rfl) (by rfl) (by first | exact agg_all _ _ rfl) (by repeat (first | exact .head _ | refine .tail _ ?_)) (by rfl) (by simp [go_sem, V3.v, Pl.v, V3.cs, Pl.cs, layAt, Value.cells, Wide, Wide.cs] <;> rfl) ?_; simp only [Act.put, List.setIfInBounds_toArray, List.set_cons_succ, List.set_cons_zero])
        | (refine oq_load_one (by rfl) (by rfl) (by rfl) (by first | exact one_all _ rfl) (by repeat (first | exact .head _ | refine .tail _ ?_)) (by simp [go_sem, V3.v, Pl.v, V3.cs, Pl.cs, layAt, Value.cells, Wide, Wide.cs] <;> rfl) ?_; simp only [Act.put, List.setIfInBounds_toArray, List.set_cons_succ, List.set_cons_zero])
        | (refine oq_max (by rfl) (by rfl) (by rfl) (by rfl) ?_; simp only [Act.put, List.setIfInBounds_toArray, List.set_cons_succ, List.set_cons_zero])
        | (refine oq_min (by rfl) (by rfl) (by rfl) (by rfl) ?_; simp only [Act.put, List.setIfInBounds_toArray, List.set_cons_succ, List.set_cons_zero])
        | (refine oq_eql (by rfl) (by rfl) (by simp [go_sem, V3.v, Pl.v, V3.cs, Pl.cs, layAt, Value.cells, Wide, Wide.cs] <;> rfl) (by simp [go_sem, V3.v, Pl.v, V3.cs, Pl.cs, layAt, Value.cells, Wide, Wide.cs] <;> rfl) (by first | exact guard_vec | exact guard_pl) (by intro w; first | exact eqr_vec 9998 w _ _ _ | exact eqr_pl 9996 w _ _ _ _ _ _ _ _ _ _ _ _ _ _ _ | exact eqb_vec 9998 w _ _ _ _ _ _ | exact eqb_pl 9996 w _ _ _ _ _ _ _ _ _ _ _ _ _ _ _ _ _ _ _ _ _ _ _ _ _ _ _ _ _ _) ?_; simp only [Act.put, List.setIfInBounds_toArray, List.set_cons_succ, List.set_cons_zero])
        | (refine oq_neq (by rfl) (by rfl) (by simp [go_sem, V3.v, Pl.v, V3.cs, Pl.cs, layAt, Value.cells, Wide, Wide.cs] <;> rfl) (by simp [go_sem, V3.v, Pl.v, V3.cs, Pl.cs, layAt, Value.cells, Wide, Wide.cs] <;> rfl) (by first | exact guard_vec | exact guard_pl) (by intro w; first | exact eqr_vec 9998 w _ _ _ | exact eqr_pl 9996 w _ _ _ _ _ _ _ _ _ _ _ _ _ _ _ | exact eqb_vec 9998 w _ _ _ _ _ _ | exact eqb_pl 9996 w _ _ _ _ _ _ _ _ _ _ _ _ _ _ _ _ _ _ _ _ _ _ _ _ _ _ _ _ _ _) ?_; simp only [Act.put, List.setIfInBounds_toArray, List.set_cons_succ, List.set_cons_zero])
        | (refine oq_pure (by rfl) (by intro w; simp [go_sem, V3.v, Pl.v, V3.cs, Pl.cs, layAt, Value.cells, Wide, Wide.cs] <;> rfl) ?_; simp only [Act.put, List.setIfInBounds_toArray, List.set_cons_succ, List.set_cons_zero])))
      refine oq_call (by rfl) (by rfl) (fun w _ => above_any ((N + t) * (N + t)) W w) (by rfl) Try.func63 (by kernel_rfl) ?_; simp only [Act.put, List.setIfInBounds_toArray, List.set_cons_succ, List.set_cons_zero]
      rw [HC.out]
      repeat (first | rw [hor.out] | (first
        | (refine oq_skip (by rfl) ?_; simp only [Act.put, List.setIfInBounds_toArray, List.set_cons_succ, List.set_cons_zero])
        | (refine oq_move (by rfl) (by rfl) (by simp only [Act.eval, Array.getD_eq_getD_getElem?, List.getElem?_toArray, List.getElem?_cons_zero, List.getElem?_cons_succ, Option.getD_some] <;> rfl) ?_; simp only [Act.put, List.setIfInBounds_toArray, List.set_cons_succ, List.set_cons_zero])
        | (refine oq_assign (by rfl) (by rfl) (by simp only [Act.eval, Array.getD_eq_getD_getElem?, List.getElem?_toArray, List.getElem?_cons_zero, List.getElem?_cons_succ, Option.getD_some] <;> rfl) ?_; simp only [Act.put, List.setIfInBounds_toArray, List.set_cons_succ, List.set_cons_zero])
        | (refine oq_load_all (by rfl) (by rfl) (by rfl) (by first | exact agg_all _ _ rfl) (by repeat (first | exact .head _ | refine .tail _ ?_)) (by rfl) ?_; simp only [Act.put, List.setIfInBounds_toArray, List.set_cons_succ, List.set_cons_zero])
        | (refine oq_load_agg (by rfl) (by rfl) (by rfl) (by first | exact agg_all _ _ rfl) (by repeat (first | exact .head _ | refine .tail _ ?_)) (by rfl) (by simp [go_sem, V3.v, Pl.v, V3.cs, Pl.cs, layAt, Value.cells, Wide, Wide.cs] <;> rfl) ?_; simp only [Act.put, List.setIfInBounds_toArray, List.set_cons_succ, List.set_cons_zero])
        | (refine oq_load_one (by rfl) (by rfl) (by rfl) (by first | exact one_all _ rfl) (by repeat (first | exact .head _ | refine .tail _ ?_)) (by simp [go_sem, V3.v, Pl.v, V3.cs, Pl.cs, layAt, Value.cells, Wide, Wide.cs] <;> rfl) ?_; simp only [Act.put, List.setIfInBounds_toArray, List.set_cons_succ, List.set_cons_zero])
        | (refine oq_max (by rfl) (by rfl) (by rfl) (by rfl) ?_; simp only [Act.put, List.setIfInBounds_toArray, List.set_cons_succ, List.set_cons_zero])
        | (refine oq_min (by rfl) (by rfl) (by rfl) (by rfl) ?_; simp only [Act.put, List.setIfInBounds_toArray, List.set_cons_succ, List.set_cons_zero])
        | (refine oq_eql (by rfl) (by rfl) (by simp [go_sem, V3.v, Pl.v, V3.cs, Pl.cs, layAt, Value.cells, Wide, Wide.cs] <;> rfl) (by simp [go_sem, V3.v, Pl.v, V3.cs, Pl.cs, layAt, Value.cells, Wide, Wide.cs] <;> rfl) (by first | exact guard_vec | exact guard_pl) (by intro w; first | exact eqr_vec 9998 w _ _ _ | exact eqr_pl 9996 w _ _ _ _ _ _ _ _ _ _ _ _ _ _ _ | exact eqb_vec 9998 w _ _ _ _ _ _ | exact eqb_pl 9996 w _ _ _ _ _ _ _ _ _ _ _ _ _ _ _ _ _ _ _ _ _ _ _ _ _ _ _ _ _ _) ?_; simp only [Act.put, List.setIfInBounds_toArray, List.set_cons_succ, List.set_cons_zero])
        | (refine oq_neq (by rfl) (by rfl) (by simp [go_sem, V3.v, Pl.v, V3.cs, Pl.cs, layAt, Value.cells, Wide, Wide.cs] <;> rfl) (by simp [go_sem, V3.v, Pl.v, V3.cs, Pl.cs, layAt, Value.cells, Wide, Wide.cs] <;> rfl) (by first | exact guard_vec | exact guard_pl) (by intro w; first | exact eqr_vec 9998 w _ _ _ | exact eqr_pl 9996 w _ _ _ _ _ _ _ _ _ _ _ _ _ _ _ | exact eqb_vec 9998 w _ _ _ _ _ _ | exact eqb_pl 9996 w _ _ _ _ _ _ _ _ _ _ _ _ _ _ _ _ _ _ _ _ _ _ _ _ _ _ _ _ _ _) ?_; simp only [Act.put, List.setIfInBounds_toArray, List.set_cons_succ, List.set_cons_zero])
        | (refine oq_pure (by rfl) (by intro w; simp [go_sem, V3.v, Pl.v, V3.cs, Pl.cs, layAt, Value.cells, Wide, Wide.cs] <;> rfl) ?_; simp only [Act.put, List.setIfInBounds_toArray, List.set_cons_succ, List.set_cons_zero])))
      refine oq_end ?_; clear hR; intro _ hR
      cases c
      ·
        go_wp2_with (first
          | ((with_reducible apply is_list); repeat1' (first | rw [hor.out] | ((first
            | ((with_reducible refine own_skip ?_ ?_); (exact rfl))
            | (refine own_move (by rfl) (by rfl) (by simp only [Act.eval, Array.getD_eq_getD_getElem?, List.getElem?_toArray, List.getElem?_cons_zero, List.getElem?_cons_succ, Option.getD_some] <;> rfl) ?_)
            | (refine own_assign (by rfl) (by rfl) (by simp only [Act.eval, Array.getD_eq_getD_getElem?, List.getElem?_toArray, List.getElem?_cons_zero, List.getElem?_cons_succ, Option.getD_some] <;> rfl) ?_)
            | (refine own_box (by rfl) (by rfl) (by simp [go_sem, V3.v, Pl.v, V3.cs, Pl.cs, layAt, Value.cells, Wide, Wide.cs] <;> rfl) ?_ hR; clear hR; intro _ _ hR)
            | (refine own_alloc (by rfl) (by rfl) (by first | exact zero_all _ _ rfl) ?_ hR; clear hR; intro _ _ hR)
            | (refine own_alloc1 (by rfl) (by rfl) (by first | exact zero_all _ _ rfl) (by simp [go_sem, V3.v, Pl.v, V3.cs, Pl.cs, layAt, Value.cells, Wide, Wide.cs] <;> rfl) ?_ hR; clear hR; intro _ _ hR)
            | (refine own_load_all (by rfl) (by rfl) (by rfl) (by first | exact agg_all _ _ rfl) (by repeat (first | exact .head _ | refine .tail _ ?_)) (by rfl) ?_ hR; clear hR; intro hR)
            | (refine own_load_agg (by rfl) (by rfl) (by rfl) (by first | exact agg_all _ _ rfl) (by repeat (first | exact .head _ | refine .tail _ ?_)) (by rfl) (by simp [go_sem, V3.v, Pl.v, V3.cs, Pl.cs, layAt, Value.cells, Wide, Wide.cs] <;> rfl) ?_ hR; clear hR; intro hR)
            | (refine own_load_one (by rfl) (by rfl) (by rfl) (by first | exact one_all _ rfl) (by repeat (first | exact .head _ | refine .tail _ ?_)) (by simp [go_sem, V3.v, Pl.v, V3.cs, Pl.cs, layAt, Value.cells, Wide, Wide.cs] <;> rfl) ?_ hR; clear hR; intro hR)
            | (refine own_store_all (by rfl) (by rfl) (by rfl) (by first | exact (agg_all _ _ rfl).size | exact (one_all _ rfl).size) (by rfl) (by rfl) (by rfl) (by repeat (first | exact .head _ | refine .tail _ ?_)) (by rfl) (by simp [go_sem, V3.v, Pl.v, V3.cs, Pl.cs, layAt, Value.cells, Wide, Wide.cs] <;> rfl) (by repeat (first | exact .here | apply Upd.there)) ?_ hR; clear hR; intro _ hR)
            | (refine own_store (by rfl) (by rfl) (by rfl) (by first | exact (agg_all _ _ rfl).size | exact (one_all _ rfl).size) (by rfl) (by rfl) (by rfl) (by repeat (first | exact .head _ | refine .tail _ ?_)) (by rfl) (by simp [go_sem, V3.v, Pl.v, V3.cs, Pl.cs, layAt, Value.cells, Wide, Wide.cs] <;> rfl) (by repeat (first | exact .here | apply Upd.there)) ?_ hR; clear hR; intro _ hR)
            | (refine own_max (by rfl) (by rfl) (by rfl) (by rfl) ?_)
            | (refine own_min (by rfl) (by rfl) (by rfl) (by rfl) ?_)
            | (refine own_pure (by rfl) (by intro w; simp [go_sem, V3.v, Pl.v, V3.cs, Pl.cs, layAt, Value.cells, Wide, Wide.cs] <;> rfl) ?_)); simp only [Act.put, List.setIfInBounds_toArray, List.set_cons_succ, List.set_cons_zero]))))
        go_roundw
        case rel => exact ⟨N + t, t / 2, rfl, by rw [es], root_next hk ht (h.take (Nat.le_of_not_lt (of_decide_eq_false HC.out))), hR⟩
        case measure => exact hm
      ·
        go_wp2_with (first
          | ((with_reducible apply is_list); repeat1' (first | rw [hor.out] | ((first
            | ((with_reducible refine own_skip ?_ ?_); (exact rfl))
            | (refine own_move (by rfl) (by rfl) (by simp only [Act.eval, Array.getD_eq_getD_getElem?, List.getElem?_toArray, List.getElem?_cons_zero, List.getElem?_cons_succ, Option.getD_some] <;> rfl) ?_)
            | (refine own_assign (by rfl) (by rfl) (by simp only [Act.eval, Array.getD_eq_getD_getElem?, List.getElem?_toArray, List.getElem?_cons_zero, List.getElem?_cons_succ, Option.getD_some] <;> rfl) ?_)
            | (refine own_box (by rfl) (by rfl) (by simp [go_sem, V3.v, Pl.v, V3.cs, Pl.cs, layAt, Value.cells, Wide, Wide.cs] <;> rfl) ?_ hR; clear hR; intro _ _ hR)
            | (refine own_alloc (by rfl) (by rfl) (by first | exact zero_all _ _ rfl) ?_ hR; clear hR; intro _ _ hR)
            | (refine own_alloc1 (by rfl) (by rfl) (by first | exact zero_all _ _ rfl) (by simp [go_sem, V3.v, Pl.v, V3.cs, Pl.cs, layAt, Value.cells, Wide, Wide.cs] <;> rfl) ?_ hR; clear hR; intro _ _ hR)
            | (refine own_load_all (by rfl) (by rfl) (by rfl) (by first | exact agg_all _ _ rfl) (by repeat (first | exact .head _ | refine .tail _ ?_)) (by rfl) ?_ hR; clear hR; intro hR)
            | (refine own_load_agg (by rfl) (by rfl) (by rfl) (by first | exact agg_all _ _ rfl) (by repeat (first | exact .head _ | refine .tail _ ?_)) (by rfl) (by simp [go_sem, V3.v, Pl.v, V3.cs, Pl.cs, layAt, Value.cells, Wide, Wide.cs] <;> rfl) ?_ hR; clear hR; intro hR)
            | (refine own_load_one (by rfl) (by rfl) (by rfl) (by first | exact one_all _ rfl) (by repeat (first | exact .head _ | refine .tail _ ?_)) (by simp [go_sem, V3.v, Pl.v, V3.cs, Pl.cs, layAt, Value.cells, Wide, Wide.cs] <;> rfl) ?_ hR; clear hR; intro hR)
            | (refine own_store_all (by rfl) (by rfl) (by rfl) (by first | exact (agg_all _ _ rfl).size | exact (one_all _ rfl).size) (by rfl) (by rfl) (by rfl) (by repeat (first | exact .head _ | refine .tail _ ?_)) (by rfl) (by simp [go_sem, V3.v, Pl.v, V3.cs, Pl.cs, layAt, Value.cells, Wide, Wide.cs] <;> rfl) (by repeat (first | exact .here | apply Upd.there)) ?_ hR; clear hR; intro _ hR)
            | (refine own_store (by rfl) (by rfl) (by rfl) (by first | exact (agg_all _ _ rfl).size | exact (one_all _ rfl).size) (by rfl) (by rfl) (by rfl) (by repeat (first | exact .head _ | refine .tail _ ?_)) (by rfl) (by simp [go_sem, V3.v, Pl.v, V3.cs, Pl.cs, layAt, Value.cells, Wide, Wide.cs] <;> rfl) (by repeat (first | exact .here | apply Upd.there)) ?_ hR; clear hR; intro _ hR)
            | (refine own_max (by rfl) (by rfl) (by rfl) (by rfl) ?_)
            | (refine own_min (by rfl) (by rfl) (by rfl) (by rfl) ?_)
            | (refine own_pure (by rfl) (by intro w; simp [go_sem, V3.v, Pl.v, V3.cs, Pl.cs, layAt, Value.cells, Wide, Wide.cs] <;> rfl) ?_)); simp only [Act.put, List.setIfInBounds_toArray, List.set_cons_succ, List.set_cons_zero]))))
        go_roundw
        case rel => exact ⟨N, t / 2, rfl, by rw [es], root_next hk ht (h.leave (of_decide_eq_true HC.out)), hR⟩
        case measure => exact hm

end Go.Proofs.Ytboljdeeodeeeaa

-- EVDEFS: Wide, Wide.cs
namespace Go.Proofs.Ytboljdeeodeeeaa
set_option linter.unusedSimpArgs false
set_option linter.unusedVariables false
set_option maxRecDepth 100000
open Go.RowKit

theorem U_one16 : U 65536 = .int .u64 65536 := by rw [U, nI_eq]; rfl

theorem product_one (m : Nat) (w : World) (hm : m < 18446744073709551616) : Calls Try.prog 60 #[U m, .int .u64 65536] w (Ret w (Wide (m * 65536))) := by
  rw [← U_one16]
  exact product_any m 65536 w hm (by omega)

theorem rootN_lt {W b : Nat} (h : W < b * b) : rootN W < b := by
  have h1 := (rootN_spec W).1
  by_cases hh : rootN W < b
  · exact hh
  · have := Nat.mul_le_mul (Nat.le_of_not_lt hh) (Nat.le_of_not_lt hh)
    omega

end Go.Proofs.Ytboljdeeodeeeaa

-- EVDEFS: Wide, Wide.cs
namespace Go.Proofs.Ytboljdeeodeeeaa
set_option linter.unusedSimpArgs false
set_option linter.unusedVariables false
set_option maxRecDepth 100000
open Go.RowKit

set_option maxRecDepth 100000 in
set_option maxHeartbeats 2000000 in
theorem axes_o (a b : V3) (f : FuncId) (cap : Array Value) (gx gy gz : Int) {B : Nat} {w0 w : World} (S0 S1 S2 S3 F : List Ent) (hR : Own B w0 w (S0 ++ F)) {fn : Func} (hf : Try.prog.funcs[f]? = some fn) (hok : (fn.name == "runtime.NumGoroutine" || fn.body.isNone) = false)
    (hx : ∀ w' E, Own B w0 w' (S0 ++ E) → Calls Try.prog f (#[I a.x, I b.x] ++ cap) w' (RetO B w0 (S1 ++ E) (I gx))) (hy : ∀ w' E, Own B w0 w' (S1 ++ E) → Calls Try.prog f (#[I a.y, I b.y] ++ cap) w' (RetO B w0 (S2 ++ E) (I gy)))
    (hz : ∀ w' E, Own B w0 w' (S2 ++ E) → Calls Try.prog f (#[I a.z, I b.z] ++ cap) w' (RetO B w0 (S3 ++ E) (I gz))) :
    Calls Try.prog 43 #[a.v, b.v, .func (.func f) #[] cap] w (RetO B w0 (S3 ++ F) (V3.v ⟨gx, gy, gz⟩)) := by
  refine calls_hideO fun V HV => ?_
  go_enter Try.func43, Try.ntmps43
  go_wp2_with (first
    | ((with_reducible apply is_list); (first
      | ((with_reducible refine own_skip ?_ ?_); (exact rfl))
      | (refine own_box (by rfl) (by rfl) (by simp [go_sem, V3.v, Pl.v, V3.cs, Pl.cs, layAt, Value.cells, Wide, Wide.cs] <;> rfl) ?_ hR; clear hR; intro _ _ hR)
      | (refine own_alloc (by rfl) (by rfl) (by first | exact zero_all _ _ rfl) ?_ hR; clear hR; intro _ _ hR)
      | (refine own_alloc1 (by rfl) (by rfl) (by first | exact zero_all _ _ rfl) (by simp [go_sem, V3.v, Pl.v, V3.cs, Pl.cs, layAt, Value.cells, Wide, Wide.cs] <;> rfl) ?_ hR; clear hR; intro _ _ hR)
      | (refine own_load_all (by rfl) (by rfl) (by rfl) (by first | exact agg_all _ _ rfl) (by repeat (first | exact .head _ | refine .tail _ ?_)) (by rfl) ?_ hR; clear hR; intro hR)
      | (refine own_load_agg (by rfl) (by rfl) (by rfl) (by first | exact agg_all _ _ rfl) (by repeat (first | exact .head _ | refine .tail _ ?_)) (by rfl) (by simp [go_sem, V3.v, Pl.v, V3.cs, Pl.cs, layAt, Value.cells, Wide, Wide.cs] <;> rfl) ?_ hR; clear hR; intro hR)
      | (refine own_load_one (by rfl) (by rfl) (by rfl) (by first | exact one_all _ rfl) (by repeat (first | exact .head _ | refine .tail _ ?_)) (by simp [go_sem, V3.v, Pl.v, V3.cs, Pl.cs, layAt, Value.cells, Wide, Wide.cs] <;> rfl) ?_ hR; clear hR; intro hR)
      | (refine own_store_all (by rfl) (by rfl) (by rfl) (by first | exact (agg_all _ _ rfl).size | exact (one_all _ rfl).size) (by rfl) (by rfl) (by rfl) (by repeat (first | exact .head _ | refine .tail _ ?_)) (by rfl) (by simp [go_sem, V3.v, Pl.v, V3.cs, Pl.cs, layAt, Value.cells, Wide, Wide.cs] <;> rfl) (by repeat (first | exact .here | apply Upd.there)) ?_ hR; clear hR; intro _ hR)
      | (refine own_store (by rfl) (by rfl) (by rfl) (by first | exact (agg_all _ _ rfl).size | exact (one_all _ rfl).size) (by rfl) (by rfl) (by rfl) (by repeat (first | exact .head _ | refine .tail _ ?_)) (by rfl) (by simp [go_sem, V3.v, Pl.v, V3.cs, Pl.cs, layAt, Value.cells, Wide, Wide.cs] <;> rfl) (by repeat (first | exact .here | apply Upd.there)) ?_ hR; clear hR; intro _ hR)
      | (refine own_max (by rfl) (by rfl) (by rfl) (by rfl) ?_)
      | (refine own_min (by rfl) (by rfl) (by rfl) (by rfl) ?_)); simp only [Act.put, List.setIfInBounds_toArray, List.set_cons_succ, List.set_cons_zero])
    )
  rename_i b3 w3 b4 w4 b6 w6 K HK
  refine re_startE (L := [⟨b6, #[I 0, I 0, I 0], 23⟩, ⟨b4, #[I b.x, I b.y, I b.z], 23⟩, ⟨b3, #[I a.x, I a.y, I a.z], 23⟩]) [0, 1, 2, 3, 4, 6, 7, 8, 9, 10, 12, 13, 14, 15, 16] [5, 11, 17, 18, 19] 19 (fun _ h => Own.front (T := [⟨b6, #[I 0, I 0, I 0], 23⟩, ⟨b4, #[I b.x, I b.y, I b.z], 23⟩, ⟨b3, #[I a.x, I a.y, I a.z], 23⟩]) h) (by kernel_rfl) (by kernel_rfl) (by rfl) (by rfl) rfl (by rfl) (by kernel_rfl) (fun _ _ _ _ _ h => h) ?_ hR
  repeat (first
    | (refine re_skip (by rfl) ?_; simp only [Act.put, List.setIfInBounds_toArray, List.set_cons_succ, List.set_cons_zero])
    | (refine re_move (by rfl) (by rfl) (by simp only [Act.eval, Array.getD_eq_getD_getElem?, List.getElem?_toArray, List.getElem?_cons_zero, List.getElem?_cons_succ, Option.getD_some] <;> rfl) ?_; simp only [Act.put, List.setIfInBounds_toArray, List.set_cons_succ, List.set_cons_zero])
    | (refine re_assign (by rfl) (by rfl) (by simp only [Act.eval, Array.getD_eq_getD_getElem?, List.getElem?_toArray, List.getElem?_cons_zero, List.getElem?_cons_succ, Option.getD_some] <;> rfl) ?_; simp only [Act.put, List.setIfInBounds_toArray, List.set_cons_succ, List.set_cons_zero])
    | (refine re_load_all (by rfl) (by rfl) (by rfl) (by first | exact agg_all _ _ rfl) (by repeat (first | exact .head _ | refine .tail _ ?_)) (by rfl) ?_; simp only [Act.put, List.setIfInBounds_toArray, List.set_cons_succ, List.set_cons_zero])
    | (refine re_load_agg (by rfl) (by rfl) (by rfl) (by first | exact agg_all _ _ rfl) (by repeat (first | exact .head _ | refine .tail _ ?_)) (by rfl) (by simp [go_sem, V3.v, Pl.v, V3.cs, Pl.cs, layAt, Value.cells, Wide, Wide.cs] <;> rfl) ?_; simp only [Act.put, List.setIfInBounds_toArray, List.set_cons_succ, List.set_cons_zero])
    | (refine re_load_one (by rfl) (by rfl) (by rfl) (by first | exact one_all _ rfl) (by repeat (first | exact .head _ | refine .tail _ ?_)) (by simp [go_sem, V3.v, Pl.v, V3.cs, Pl.cs, layAt, Value.cells, Wide, Wide.cs] <;> rfl) ?_; simp only [Act.put, List.setIfInBounds_toArray, List.set_cons_succ, List.set_cons_zero])
    | (refine re_max (by rfl) (by rfl) (by rfl) (by rfl) ?_; simp only [Act.put, List.setIfInBounds_toArray, List.set_cons_succ, List.set_cons_zero])
    | (refine re_min (by rfl) (by rfl) (by rfl) (by rfl) ?_; simp only [Act.put, List.setIfInBounds_toArray, List.set_cons_succ, List.set_cons_zero])
    | (refine re_eql (by rfl) (by rfl) (by simp [go_sem, V3.v, Pl.v, V3.cs, Pl.cs, layAt, Value.cells, Wide, Wide.cs] <;> rfl) (by simp [go_sem, V3.v, Pl.v, V3.cs, Pl.cs, layAt, Value.cells, Wide, Wide.cs] <;> rfl) (by first | exact guard_vec | exact guard_pl) (by intro w; first | exact eqr_vec 9998 w _ _ _ | exact eqr_pl 9996 w _ _ _ _ _ _ _ _ _ _ _ _ _ _ _ | exact eqb_vec 9998 w _ _ _ _ _ _ | exact eqb_pl 9996 w _ _ _ _ _ _ _ _ _ _ _ _ _ _ _ _ _ _ _ _ _ _ _ _ _ _ _ _ _ _) ?_; simp only [Act.put, List.setIfInBounds_toArray, List.set_cons_succ, List.set_cons_zero])
    | (refine re_neq (by rfl) (by rfl) (by simp [go_sem, V3.v, Pl.v, V3.cs, Pl.cs, layAt, Value.cells, Wide, Wide.cs] <;> rfl) (by simp [go_sem, V3.v, Pl.v, V3.cs, Pl.cs, layAt, Value.cells, Wide, Wide.cs] <;> rfl) (by first | exact guard_vec | exact guard_pl) (by intro w; first | exact eqr_vec 9998 w _ _ _ | exact eqr_pl 9996 w _ _ _ _ _ _ _ _ _ _ _ _ _ _ _ | exact eqb_vec 9998 w _ _ _ _ _ _ | exact eqb_pl 9996 w _ _ _ _ _ _ _ _ _ _ _ _ _ _ _ _ _ _ _ _ _ _ _ _ _ _ _ _ _ _) ?_; simp only [Act.put, List.setIfInBounds_toArray, List.set_cons_succ, List.set_cons_zero])
    
    | (refine re_pure (by rfl) (by intro w; simp [go_sem, V3.v, Pl.v, V3.cs, Pl.cs, layAt, Value.cells, Wide, Wide.cs] <;> rfl) ?_; simp only [Act.put, List.setIfInBounds_toArray, List.set_cons_succ, List.set_cons_zero]))
  refine rt_callv (by rfl) (by rfl) (by rfl) (by rfl) (fun w hw => RetO.around [⟨b6, #[I 0, I 0, I 0], 23⟩, ⟨b4, #[I b.x, I b.y, I b.z], 23⟩, ⟨b3, #[I a.x, I a.y, I a.z], 23⟩] hx hw) hf hok (fun _ h => Own.front (T := [⟨b6, #[I 0, I 0, I 0], 23⟩, ⟨b4, #[I b.x, I b.y, I b.z], 23⟩, ⟨b3, #[I a.x, I a.y, I a.z], 23⟩]) h) ?_; simp only [Act.put, List.setIfInBounds_toArray, List.set_cons_succ, List.set_cons_zero]
  refine rt_callv (by rfl) (by rfl) (by rfl) (by rfl) (fun w hw => RetO.around [⟨b6, #[I 0, I 0, I 0], 23⟩, ⟨b4, #[I b.x, I b.y, I b.z], 23⟩, ⟨b3, #[I a.x, I a.y, I a.z], 23⟩] hy hw) hf hok (fun _ h => Own.front (T := [⟨b6, #[I 0, I 0, I 0], 23⟩, ⟨b4, #[I b.x, I b.y, I b.z], 23⟩, ⟨b3, #[I a.x, I a.y, I a.z], 23⟩]) h) ?_; simp only [Act.put, List.setIfInBounds_toArray, List.set_cons_succ, List.set_cons_zero]
  refine rt_callv (by rfl) (by rfl) (by rfl) (by rfl) (fun w hw => RetO.around [⟨b6, #[I 0, I 0, I 0], 23⟩, ⟨b4, #[I b.x, I b.y, I b.z], 23⟩, ⟨b3, #[I a.x, I a.y, I a.z], 23⟩] hz hw) hf hok (fun _ h => Own.front (T := [⟨b6, #[I 0, I 0, I 0], 23⟩, ⟨b4, #[I b.x, I b.y, I b.z], 23⟩, ⟨b3, #[I a.x, I a.y, I a.z], 23⟩]) h) ?_; simp only [Act.put, List.setIfInBounds_toArray, List.set_cons_succ, List.set_cons_zero]
  simp only [List.cons_append, List.nil_append]
  repeat (first
    | (refine rt_assign (by rfl) (by rfl) (by simp only [Act.eval, Array.getD_eq_getD_getElem?, List.getElem?_toArray, List.getElem?_cons_zero, List.getElem?_cons_succ, Option.getD_some] <;> rfl) (by first | exact .inr (fun _ h => h.drop34) | exact .inr (fun _ h => h.drop56) | exact .inl (by decide) | exact .inr (fun _ h => h.front1) | exact .inr (fun _ h => h.front2) | exact .inr (fun _ h => h.front3) | exact .inr (fun _ h => h.front4) | exact .inr (fun _ h => h.drop.front1) | exact .inr (fun _ h => h.drop.front2) | exact .inr (fun _ h => h.drop.front3) | exact .inr (fun _ h => h.drop.front4)) ?_; simp only [Act.put, List.setIfInBounds_toArray, List.set_cons_succ, List.set_cons_zero])
    | (refine rt_move (by rfl) (by rfl) (by simp only [Act.eval, Array.getD_eq_getD_getElem?, List.getElem?_toArray, List.getElem?_cons_zero, List.getElem?_cons_succ, Option.getD_some] <;> rfl) (by first | exact .inr (fun _ h => h.drop34) | exact .inr (fun _ h => h.drop56) | exact .inl (by decide) | exact .inr (fun _ h => h.front1) | exact .inr (fun _ h => h.front2) | exact .inr (fun _ h => h.front3) | exact .inr (fun _ h => h.front4) | exact .inr (fun _ h => h.drop.front1) | exact .inr (fun _ h => h.drop.front2) | exact .inr (fun _ h => h.drop.front3) | exact .inr (fun _ h => h.drop.front4)) ?_; simp only [Act.put, List.setIfInBounds_toArray, List.set_cons_succ, List.set_cons_zero])
    | (refine rt_alloc (by rfl) (by rfl) (by first | exact zero_all _ _ rfl) (by first | exact fun _ h => h.front1 | exact fun _ h => h.front2 | exact fun _ h => h.front3 | exact fun _ h => h.front4 | exact fun _ h => h.drop.front1 | exact fun _ h => h.drop.front2 | exact fun _ h => h.drop.front3 | exact fun _ h => h.drop.front4) ?_; intro _; simp only [Act.put, List.setIfInBounds_toArray, List.set_cons_succ, List.set_cons_zero])
    | (refine rt_box (by rfl) (by rfl) (by simp [go_sem, V3.v, Pl.v, V3.cs, Pl.cs, layAt, Value.cells, Wide, Wide.cs] <;> rfl) (by first | exact fun _ h => h.front1 | exact fun _ h => h.front2 | exact fun _ h => h.front3 | exact fun _ h => h.front4 | exact fun _ h => h.drop.front1 | exact fun _ h => h.drop.front2 | exact fun _ h => h.drop.front3 | exact fun _ h => h.drop.front4) ?_; intro _; simp only [Act.put, List.setIfInBounds_toArray, List.set_cons_succ, List.set_cons_zero])
    | (refine rt_store_all (by rfl) (by rfl) (by rfl) (by first | exact (agg_all _ _ rfl).size | exact (one_all _ rfl).size) (by rfl) (by rfl) (by rfl) (by repeat (first | exact .head _ | refine .tail _ ?_)) (by rfl) (by simp [go_sem, V3.v, Pl.v, V3.cs, Pl.cs, layAt, Value.cells, Wide, Wide.cs] <;> rfl) (by repeat (first | exact .here | apply Upd.there)) (by first | exact .inr (fun _ h => h.drop34) | exact .inr (fun _ h => h.drop56) | exact .inl (by decide) | exact .inr (fun _ h => h.front1) | exact .inr (fun _ h => h.front2) | exact .inr (fun _ h => h.front3) | exact .inr (fun _ h => h.front4) | exact .inr (fun _ h => h.drop.front1) | exact .inr (fun _ h => h.drop.front2) | exact .inr (fun _ h => h.drop.front3) | exact .inr (fun _ h => h.drop.front4)) ?_; simp only [Act.put, List.setIfInBounds_toArray, List.set_cons_succ, List.set_cons_zero])
    | (refine rt_store (by rfl) (by rfl) (by rfl) (by first | exact (agg_all _ _ rfl).size | exact (one_all _ rfl).size) (by rfl) (by rfl) (by rfl) (by repeat (first | exact .head _ | refine .tail _ ?_)) (by rfl) (by simp [go_sem, V3.v, Pl.v, V3.cs, Pl.cs, layAt, Value.cells, Wide, Wide.cs] <;> rfl) (by repeat (first | exact .here | apply Upd.there)) (by first | exact .inr (fun _ h => h.drop34) | exact .inr (fun _ h => h.drop56) | exact .inl (by decide) | exact .inr (fun _ h => h.front1) | exact .inr (fun _ h => h.front2) | exact .inr (fun _ h => h.front3) | exact .inr (fun _ h => h.front4) | exact .inr (fun _ h => h.drop.front1) | exact .inr (fun _ h => h.drop.front2) | exact .inr (fun _ h => h.drop.front3) | exact .inr (fun _ h => h.drop.front4)) ?_; simp only [Act.put, List.setIfInBounds_toArray, List.set_cons_succ, List.set_cons_zero])
    | (refine rt_pure (by rfl) (by intro w; simp [go_sem, V3.v, Pl.v, V3.cs, Pl.cs, layAt, Value.cells, Wide, Wide.cs] <;> rfl) (by first | exact .inr (fun _ h => h.drop34) | exact .inr (fun _ h => h.drop56) | exact .inl (by decide) | exact .inr (fun _ h => h.front1) | exact .inr (fun _ h => h.front2) | exact .inr (fun _ h => h.front3) | exact .inr (fun _ h => h.front4) | exact .inr (fun _ h => h.drop.front1) | exact .inr (fun _ h => h.drop.front2) | exact .inr (fun _ h => h.drop.front3) | exact .inr (fun _ h => h.drop.front4)) ?_; simp only [Act.put, List.setIfInBounds_toArray, List.set_cons_succ, List.set_cons_zero]))
  refine rt_end ?_; clear hR; intro _ hR
  go_wp2_with (first
    | ((with_reducible apply is_list); (first
      | ((with_reducible refine own_skip ?_ ?_); (exact rfl))
      | (refine own_box (by rfl) (by rfl) (by simp [go_sem, V3.v, Pl.v, V3.cs, Pl.cs, layAt, Value.cells, Wide, Wide.cs] <;> rfl) ?_ hR; clear hR; intro _ _ hR)
      | (refine own_alloc (by rfl) (by rfl) (by first | exact zero_all _ _ rfl) ?_ hR; clear hR; intro _ _ hR)
      | (refine own_alloc1 (by rfl) (by rfl) (by first | exact zero_all _ _ rfl) (by simp [go_sem, V3.v, Pl.v, V3.cs, Pl.cs, layAt, Value.cells, Wide, Wide.cs] <;> rfl) ?_ hR; clear hR; intro _ _ hR)
      | (refine own_load_all (by rfl) (by rfl) (by rfl) (by first | exact agg_all _ _ rfl) (by repeat (first | exact .head _ | refine .tail _ ?_)) (by rfl) ?_ hR; clear hR; intro hR)
      | (refine own_load_agg (by rfl) (by rfl) (by rfl) (by first | exact agg_all _ _ rfl) (by repeat (first | exact .head _ | refine .tail _ ?_)) (by rfl) (by simp [go_sem, V3.v, Pl.v, V3.cs, Pl.cs, layAt, Value.cells, Wide, Wide.cs] <;> rfl) ?_ hR; clear hR; intro hR)
      | (refine own_load_one (by rfl) (by rfl) (by rfl) (by first | exact one_all _ rfl) (by repeat (first | exact .head _ | refine .tail _ ?_)) (by simp [go_sem, V3.v, Pl.v, V3.cs, Pl.cs, layAt, Value.cells, Wide, Wide.cs] <;> rfl) ?_ hR; clear hR; intro hR)
      | (refine own_store_all (by rfl) (by rfl) (by rfl) (by first | exact (agg_all _ _ rfl).size | exact (one_all _ rfl).size) (by rfl) (by rfl) (by rfl) (by repeat (first | exact .head _ | refine .tail _ ?_)) (by rfl) (by simp [go_sem, V3.v, Pl.v, V3.cs, Pl.cs, layAt, Value.cells, Wide, Wide.cs] <;> rfl) (by repeat (first | exact .here | apply Upd.there)) ?_ hR; clear hR; intro _ hR)
      | (refine own_store (by rfl) (by rfl) (by rfl) (by first | exact (agg_all _ _ rfl).size | exact (one_all _ rfl).size) (by rfl) (by rfl) (by rfl) (by repeat (first | exact .head _ | refine .tail _ ?_)) (by rfl) (by simp [go_sem, V3.v, Pl.v, V3.cs, Pl.cs, layAt, Value.cells, Wide, Wide.cs] <;> rfl) (by repeat (first | exact .here | apply Upd.there)) ?_ hR; clear hR; intro _ hR)
      | (refine own_max (by rfl) (by rfl) (by rfl) (by rfl) ?_)
      | (refine own_min (by rfl) (by rfl) (by rfl) (by rfl) ?_)); simp only [Act.put, List.setIfInBounds_toArray, List.set_cons_succ, List.set_cons_zero])
    )
  refine own_ret1 Try.results43 rfl (.all (by rfl) (by first | exact agg_all _ _ rfl) (by repeat (first | exact .head _ | refine .tail _ ?_)) (by rfl)) (fun hR => Own.retO hR.drop.drop.drop ?_) hR
  rw [HV.out]
  rfl

/-- The two rows of products' closure. -/
def UD (bu bd : Nat) (u d : Nat) : List Ent := [⟨bd, Wide.cs d, 65⟩, ⟨bu, Wide.cs u, 65⟩]

set_option maxHeartbeats 2000000 in
theorem products1_up (a c : Int) (bu bd u d : Nat) {B : Nat} {w0 w : World} (E : List Ent) (ha : In64 a) (hc : In64 c) (hs : decide (a < 0) = decide (c < 0)) (hu : u + a.natAbs * c.natAbs < 340282366920938463463374607431768211456) (hR : Own B w0 w (UD bu bd u d ++ E)) :
    Calls Try.prog 59 #[I a, I c, .pointer (some ⟨bu, 0, none⟩), .pointer (some ⟨bd, 0, none⟩)] w (RetO B w0 (UD bu bd (u + a.natAbs * c.natAbs) d ++ E) (I 0)) := by
  have ha' := ha
  have hc' := hc
  unfold In64 at ha' hc'
  simp only [UD, List.cons_append, List.nil_append] at hR ⊢
  refine calls_hideO fun V HV => ?_
  go_enter Try.func59, Try.ntmps59
  go_wp2_with (first
    | ((with_reducible apply is_list); (first
      | ((with_reducible refine own_skip ?_ ?_); (exact rfl))
      | (refine own_box (by rfl) (by rfl) (by simp [go_sem, V3.v, Pl.v, V3.cs, Pl.cs, layAt, Value.cells, Wide, Wide.cs] <;> rfl) ?_ hR; clear hR; intro _ _ hR)
      | (refine own_alloc (by rfl) (by rfl) (by first | exact zero_all _ _ rfl) ?_ hR; clear hR; intro _ _ hR)
      | (refine own_alloc1 (by rfl) (by rfl) (by first | exact zero_all _ _ rfl) (by simp [go_sem, V3.v, Pl.v, V3.cs, Pl.cs, layAt, Value.cells, Wide, Wide.cs] <;> rfl) ?_ hR; clear hR; intro _ _ hR)
      | (refine own_load_all (by rfl) (by rfl) (by rfl) (by first | exact agg_all _ _ rfl) (by repeat (first | exact .head _ | refine .tail _ ?_)) (by rfl) ?_ hR; clear hR; intro hR)
      | (refine own_load_agg (by rfl) (by rfl) (by rfl) (by first | exact agg_all _ _ rfl) (by repeat (first | exact .head _ | refine .tail _ ?_)) (by rfl) (by simp [go_sem, V3.v, Pl.v, V3.cs, Pl.cs, layAt, Value.cells, Wide, Wide.cs] <;> rfl) ?_ hR; clear hR; intro hR)
      | (refine own_load_one (by rfl) (by rfl) (by rfl) (by first | exact one_all _ rfl) (by repeat (first | exact .head _ | refine .tail _ ?_)) (by simp [go_sem, V3.v, Pl.v, V3.cs, Pl.cs, layAt, Value.cells, Wide, Wide.cs] <;> rfl) ?_ hR; clear hR; intro hR)
      | (refine own_store_all (by rfl) (by rfl) (by rfl) (by first | exact (agg_all _ _ rfl).size | exact (one_all _ rfl).size) (by rfl) (by rfl) (by rfl) (by repeat (first | exact .head _ | refine .tail _ ?_)) (by rfl) (by simp [go_sem, V3.v, Pl.v, V3.cs, Pl.cs, layAt, Value.cells, Wide, Wide.cs] <;> rfl) (by repeat (first | exact .here | apply Upd.there)) ?_ hR; clear hR; intro _ hR)
      | (refine own_store (by rfl) (by rfl) (by rfl) (by first | exact (agg_all _ _ rfl).size | exact (one_all _ rfl).size) (by rfl) (by rfl) (by rfl) (by repeat (first | exact .head _ | refine .tail _ ?_)) (by rfl) (by simp [go_sem, V3.v, Pl.v, V3.cs, Pl.cs, layAt, Value.cells, Wide, Wide.cs] <;> rfl) (by repeat (first | exact .here | apply Upd.there)) ?_ hR; clear hR; intro _ hR)
      | (refine own_max (by rfl) (by rfl) (by rfl) (by rfl) ?_)
      | (refine own_min (by rfl) (by rfl) (by rfl) (by rfl) ?_)); simp only [Act.put, List.setIfInBounds_toArray, List.set_cons_succ, List.set_cons_zero])
    )
  refine own_call (size_any a _ ha) ?_ hR; clear hR; intro _ hR
  go_wp2_with (first
    | ((with_reducible apply is_list); (first
      | ((with_reducible refine own_skip ?_ ?_); (exact rfl))
      | (refine own_box (by rfl) (by rfl) (by simp [go_sem, V3.v, Pl.v, V3.cs, Pl.cs, layAt, Value.cells, Wide, Wide.cs] <;> rfl) ?_ hR; clear hR; intro _ _ hR)
      | (refine own_alloc (by rfl) (by rfl) (by first | exact zero_all _ _ rfl) ?_ hR; clear hR; intro _ _ hR)
      | (refine own_alloc1 (by rfl) (by rfl) (by first | exact zero_all _ _ rfl) (by simp [go_sem, V3.v, Pl.v, V3.cs, Pl.cs, layAt, Value.cells, Wide, Wide.cs] <;> rfl) ?_ hR; clear hR; intro _ _ hR)
      | (refine own_load_all (by rfl) (by rfl) (by rfl) (by first | exact agg_all _ _ rfl) (by repeat (first | exact .head _ | refine .tail _ ?_)) (by rfl) ?_ hR; clear hR; intro hR)
      | (refine own_load_agg (by rfl) (by rfl) (by rfl) (by first | exact agg_all _ _ rfl) (by repeat (first | exact .head _ | refine .tail _ ?_)) (by rfl) (by simp [go_sem, V3.v, Pl.v, V3.cs, Pl.cs, layAt, Value.cells, Wide, Wide.cs] <;> rfl) ?_ hR; clear hR; intro hR)
      | (refine own_load_one (by rfl) (by rfl) (by rfl) (by first | exact one_all _ rfl) (by repeat (first | exact .head _ | refine .tail _ ?_)) (by simp [go_sem, V3.v, Pl.v, V3.cs, Pl.cs, layAt, Value.cells, Wide, Wide.cs] <;> rfl) ?_ hR; clear hR; intro hR)
      | (refine own_store_all (by rfl) (by rfl) (by rfl) (by first | exact (agg_all _ _ rfl).size | exact (one_all _ rfl).size) (by rfl) (by rfl) (by rfl) (by repeat (first | exact .head _ | refine .tail _ ?_)) (by rfl) (by simp [go_sem, V3.v, Pl.v, V3.cs, Pl.cs, layAt, Value.cells, Wide, Wide.cs] <;> rfl) (by repeat (first | exact .here | apply Upd.there)) ?_ hR; clear hR; intro _ hR)
      | (refine own_store (by rfl) (by rfl) (by rfl) (by first | exact (agg_all _ _ rfl).size | exact (one_all _ rfl).size) (by rfl) (by rfl) (by rfl) (by repeat (first | exact .head _ | refine .tail _ ?_)) (by rfl) (by simp [go_sem, V3.v, Pl.v, V3.cs, Pl.cs, layAt, Value.cells, Wide, Wide.cs] <;> rfl) (by repeat (first | exact .here | apply Upd.there)) ?_ hR; clear hR; intro _ hR)
      | (refine own_max (by rfl) (by rfl) (by rfl) (by rfl) ?_)
      | (refine own_min (by rfl) (by rfl) (by rfl) (by rfl) ?_)); simp only [Act.put, List.setIfInBounds_toArray, List.set_cons_succ, List.set_cons_zero])
    )
  refine own_call (size_any c _ hc) ?_ hR; clear hR; intro _ hR
  go_wp2_with (first
    | ((with_reducible apply is_list); (first
      | ((with_reducible refine own_skip ?_ ?_); (exact rfl))
      | (refine own_box (by rfl) (by rfl) (by simp [go_sem, V3.v, Pl.v, V3.cs, Pl.cs, layAt, Value.cells, Wide, Wide.cs] <;> rfl) ?_ hR; clear hR; intro _ _ hR)
      | (refine own_alloc (by rfl) (by rfl) (by first | exact zero_all _ _ rfl) ?_ hR; clear hR; intro _ _ hR)
      | (refine own_alloc1 (by rfl) (by rfl) (by first | exact zero_all _ _ rfl) (by simp [go_sem, V3.v, Pl.v, V3.cs, Pl.cs, layAt, Value.cells, Wide, Wide.cs] <;> rfl) ?_ hR; clear hR; intro _ _ hR)
      | (refine own_load_all (by rfl) (by rfl) (by rfl) (by first | exact agg_all _ _ rfl) (by repeat (first | exact .head _ | refine .tail _ ?_)) (by rfl) ?_ hR; clear hR; intro hR)
      | (refine own_load_agg (by rfl) (by rfl) (by rfl) (by first | exact agg_all _ _ rfl) (by repeat (first | exact .head _ | refine .tail _ ?_)) (by rfl) (by simp [go_sem, V3.v, Pl.v, V3.cs, Pl.cs, layAt, Value.cells, Wide, Wide.cs] <;> rfl) ?_ hR; clear hR; intro hR)
      | (refine own_load_one (by rfl) (by rfl) (by rfl) (by first | exact one_all _ rfl) (by repeat (first | exact .head _ | refine .tail _ ?_)) (by simp [go_sem, V3.v, Pl.v, V3.cs, Pl.cs, layAt, Value.cells, Wide, Wide.cs] <;> rfl) ?_ hR; clear hR; intro hR)
      | (refine own_store_all (by rfl) (by rfl) (by rfl) (by first | exact (agg_all _ _ rfl).size | exact (one_all _ rfl).size) (by rfl) (by rfl) (by rfl) (by repeat (first | exact .head _ | refine .tail _ ?_)) (by rfl) (by simp [go_sem, V3.v, Pl.v, V3.cs, Pl.cs, layAt, Value.cells, Wide, Wide.cs] <;> rfl) (by repeat (first | exact .here | apply Upd.there)) ?_ hR; clear hR; intro _ hR)
      | (refine own_store (by rfl) (by rfl) (by rfl) (by first | exact (agg_all _ _ rfl).size | exact (one_all _ rfl).size) (by rfl) (by rfl) (by rfl) (by repeat (first | exact .head _ | refine .tail _ ?_)) (by rfl) (by simp [go_sem, V3.v, Pl.v, V3.cs, Pl.cs, layAt, Value.cells, Wide, Wide.cs] <;> rfl) (by repeat (first | exact .here | apply Upd.there)) ?_ hR; clear hR; intro _ hR)
      | (refine own_max (by rfl) (by rfl) (by rfl) (by rfl) ?_)
      | (refine own_min (by rfl) (by rfl) (by rfl) (by rfl) ?_)); simp only [Act.put, List.setIfInBounds_toArray, List.set_cons_succ, List.set_cons_zero])
    )
  refine own_call (product_any a.natAbs c.natAbs _ (by omega) (by omega)) ?_ hR; clear hR; intro _ hR
  go_wp2_with (first
    | ((with_reducible apply is_list); (first
      | ((with_reducible refine own_skip ?_ ?_); (exact rfl))
      | (refine own_box (by rfl) (by rfl) (by simp [go_sem, V3.v, Pl.v, V3.cs, Pl.cs, layAt, Value.cells, Wide, Wide.cs] <;> rfl) ?_ hR; clear hR; intro _ _ hR)
      | (refine own_alloc (by rfl) (by rfl) (by first | exact zero_all _ _ rfl) ?_ hR; clear hR; intro _ _ hR)
      | (refine own_alloc1 (by rfl) (by rfl) (by first | exact zero_all _ _ rfl) (by simp [go_sem, V3.v, Pl.v, V3.cs, Pl.cs, layAt, Value.cells, Wide, Wide.cs] <;> rfl) ?_ hR; clear hR; intro _ _ hR)
      | (refine own_load_all (by rfl) (by rfl) (by rfl) (by first | exact agg_all _ _ rfl) (by repeat (first | exact .head _ | refine .tail _ ?_)) (by rfl) ?_ hR; clear hR; intro hR)
      | (refine own_load_agg (by rfl) (by rfl) (by rfl) (by first | exact agg_all _ _ rfl) (by repeat (first | exact .head _ | refine .tail _ ?_)) (by rfl) (by simp [go_sem, V3.v, Pl.v, V3.cs, Pl.cs, layAt, Value.cells, Wide, Wide.cs] <;> rfl) ?_ hR; clear hR; intro hR)
      | (refine own_load_one (by rfl) (by rfl) (by rfl) (by first | exact one_all _ rfl) (by repeat (first | exact .head _ | refine .tail _ ?_)) (by simp [go_sem, V3.v, Pl.v, V3.cs, Pl.cs, layAt, Value.cells, Wide, Wide.cs] <;> rfl) ?_ hR; clear hR; intro hR)
      | (refine own_store_all (by rfl) (by rfl) (by rfl) (by first | exact (agg_all _ _ rfl).size | exact (one_all _ rfl).size) (by rfl) (by rfl) (by rfl) (by repeat (first | exact .head _ | refine .tail _ ?_)) (by rfl) (by simp [go_sem, V3.v, Pl.v, V3.cs, Pl.cs, layAt, Value.cells, Wide, Wide.cs] <;> rfl) (by repeat (first | exact .here | apply Upd.there)) ?_ hR; clear hR; intro _ hR)
      | (refine own_store (by rfl) (by rfl) (by rfl) (by first | exact (agg_all _ _ rfl).size | exact (one_all _ rfl).size) (by rfl) (by rfl) (by rfl) (by repeat (first | exact .head _ | refine .tail _ ?_)) (by rfl) (by simp [go_sem, V3.v, Pl.v, V3.cs, Pl.cs, layAt, Value.cells, Wide, Wide.cs] <;> rfl) (by repeat (first | exact .here | apply Upd.there)) ?_ hR; clear hR; intro _ hR)
      | (refine own_max (by rfl) (by rfl) (by rfl) (by rfl) ?_)
      | (refine own_min (by rfl) (by rfl) (by rfl) (by rfl) ?_)); simp only [Act.put, List.setIfInBounds_toArray, List.set_cons_succ, List.set_cons_zero])
    )
  refine own_call (plus_any u (a.natAbs * c.natAbs) _ hu) ?_ hR; clear hR; intro _ hR
  go_wp2_with (first
    | ((with_reducible apply is_list); (first
      | ((with_reducible refine own_skip ?_ ?_); (exact rfl))
      | (refine own_box (by rfl) (by rfl) (by simp [go_sem, V3.v, Pl.v, V3.cs, Pl.cs, layAt, Value.cells, Wide, Wide.cs] <;> rfl) ?_ hR; clear hR; intro _ _ hR)
      | (refine own_alloc (by rfl) (by rfl) (by first | exact zero_all _ _ rfl) ?_ hR; clear hR; intro _ _ hR)
      | (refine own_alloc1 (by rfl) (by rfl) (by first | exact zero_all _ _ rfl) (by simp [go_sem, V3.v, Pl.v, V3.cs, Pl.cs, layAt, Value.cells, Wide, Wide.cs] <;> rfl) ?_ hR; clear hR; intro _ _ hR)
      | (refine own_load_all (by rfl) (by rfl) (by rfl) (by first | exact agg_all _ _ rfl) (by repeat (first | exact .head _ | refine .tail _ ?_)) (by rfl) ?_ hR; clear hR; intro hR)
      | (refine own_load_agg (by rfl) (by rfl) (by rfl) (by first | exact agg_all _ _ rfl) (by repeat (first | exact .head _ | refine .tail _ ?_)) (by rfl) (by simp [go_sem, V3.v, Pl.v, V3.cs, Pl.cs, layAt, Value.cells, Wide, Wide.cs] <;> rfl) ?_ hR; clear hR; intro hR)
      | (refine own_load_one (by rfl) (by rfl) (by rfl) (by first | exact one_all _ rfl) (by repeat (first | exact .head _ | refine .tail _ ?_)) (by simp [go_sem, V3.v, Pl.v, V3.cs, Pl.cs, layAt, Value.cells, Wide, Wide.cs] <;> rfl) ?_ hR; clear hR; intro hR)
      | (refine own_store_all (by rfl) (by rfl) (by rfl) (by first | exact (agg_all _ _ rfl).size | exact (one_all _ rfl).size) (by rfl) (by rfl) (by rfl) (by repeat (first | exact .head _ | refine .tail _ ?_)) (by rfl) (by simp [go_sem, V3.v, Pl.v, V3.cs, Pl.cs, layAt, Value.cells, Wide, Wide.cs] <;> rfl) (by repeat (first | exact .here | apply Upd.there)) ?_ hR; clear hR; intro _ hR)
      | (refine own_store (by rfl) (by rfl) (by rfl) (by first | exact (agg_all _ _ rfl).size | exact (one_all _ rfl).size) (by rfl) (by rfl) (by rfl) (by repeat (first | exact .head _ | refine .tail _ ?_)) (by rfl) (by simp [go_sem, V3.v, Pl.v, V3.cs, Pl.cs, layAt, Value.cells, Wide, Wide.cs] <;> rfl) (by repeat (first | exact .here | apply Upd.there)) ?_ hR; clear hR; intro _ hR)
      | (refine own_max (by rfl) (by rfl) (by rfl) (by rfl) ?_)
      | (refine own_min (by rfl) (by rfl) (by rfl) (by rfl) ?_)); simp only [Act.put, List.setIfInBounds_toArray, List.set_cons_succ, List.set_cons_zero])
    )
  refine own_ret1 Try.results59 rfl (.tmp rfl) (fun hR => Own.retO hR.drop ?_) hR
  rw [HV.out]
  rfl

set_option maxHeartbeats 2000000 in
theorem products1_down (a c : Int) (bu bd u d : Nat) {B : Nat} {w0 w : World} (E : List Ent) (ha : In64 a) (hc : In64 c) (hs : (decide (a < 0) == decide (c < 0)) = false) (hu : d + a.natAbs * c.natAbs < 340282366920938463463374607431768211456) (hR : Own B w0 w (UD bu bd u d ++ E)) :
    Calls Try.prog 59 #[I a, I c, .pointer (some ⟨bu, 0, none⟩), .pointer (some ⟨bd, 0, none⟩)] w (RetO B w0 (UD bu bd u (d + a.natAbs * c.natAbs) ++ E) (I 0)) := by
  have ha' := ha
  have hc' := hc
  unfold In64 at ha' hc'
  have k := Lib.hid hs
  clear hs
  simp only [UD, List.cons_append, List.nil_append] at hR ⊢
  refine calls_hideO fun V HV => ?_
  go_enter Try.func59, Try.ntmps59
  go_wp2_with (first
    | ((with_reducible apply is_list); (first
      | ((with_reducible refine own_skip ?_ ?_); (exact rfl))
      | (refine own_box (by rfl) (by rfl) (by simp [go_sem, V3.v, Pl.v, V3.cs, Pl.cs, layAt, Value.cells, Wide, Wide.cs] <;> rfl) ?_ hR; clear hR; intro _ _ hR)
      | (refine own_alloc (by rfl) (by rfl) (by first | exact zero_all _ _ rfl) ?_ hR; clear hR; intro _ _ hR)
      | (refine own_alloc1 (by rfl) (by rfl) (by first | exact zero_all _ _ rfl) (by simp [go_sem, V3.v, Pl.v, V3.cs, Pl.cs, layAt, Value.cells, Wide, Wide.cs] <;> rfl) ?_ hR; clear hR; intro _ _ hR)
      | (refine own_load_all (by rfl) (by rfl) (by rfl) (by first | exact agg_all _ _ rfl) (by repeat (first | exact .head _ | refine .tail _ ?_)) (by rfl) ?_ hR; clear hR; intro hR)
      | (refine own_load_agg (by rfl) (by rfl) (by rfl) (by first | exact agg_all _ _ rfl) (by repeat (first | exact .head _ | refine .tail _ ?_)) (by rfl) (by simp [go_sem, V3.v, Pl.v, V3.cs, Pl.cs, layAt, Value.cells, Wide, Wide.cs] <;> rfl) ?_ hR; clear hR; intro hR)
      | (refine own_load_one (by rfl) (by rfl) (by rfl) (by first | exact one_all _ rfl) (by repeat (first | exact .head _ | refine .tail _ ?_)) (by simp [go_sem, V3.v, Pl.v, V3.cs, Pl.cs, layAt, Value.cells, Wide, Wide.cs] <;> rfl) ?_ hR; clear hR; intro hR)
      | (refine own_store_all (by rfl) (by rfl) (by rfl) (by first | exact (agg_all _ _ rfl).size | exact (one_all _ rfl).size) (by rfl) (by rfl) (by rfl) (by repeat (first | exact .head _ | refine .tail _ ?_)) (by rfl) (by simp [go_sem, V3.v, Pl.v, V3.cs, Pl.cs, layAt, Value.cells, Wide, Wide.cs] <;> rfl) (by repeat (first | exact .here | apply Upd.there)) ?_ hR; clear hR; intro _ hR)
      | (refine own_store (by rfl) (by rfl) (by rfl) (by first | exact (agg_all _ _ rfl).size | exact (one_all _ rfl).size) (by rfl) (by rfl) (by rfl) (by repeat (first | exact .head _ | refine .tail _ ?_)) (by rfl) (by simp [go_sem, V3.v, Pl.v, V3.cs, Pl.cs, layAt, Value.cells, Wide, Wide.cs] <;> rfl) (by repeat (first | exact .here | apply Upd.there)) ?_ hR; clear hR; intro _ hR)
      | (refine own_max (by rfl) (by rfl) (by rfl) (by rfl) ?_)
      | (refine own_min (by rfl) (by rfl) (by rfl) (by rfl) ?_)); simp only [Act.put, List.setIfInBounds_toArray, List.set_cons_succ, List.set_cons_zero])
    )
  refine own_call (size_any a _ ha) ?_ hR; clear hR; intro _ hR
  go_wp2_with (first
    | ((with_reducible apply is_list); (first
      | ((with_reducible refine own_skip ?_ ?_); (exact rfl))
      | (refine own_box (by rfl) (by rfl) (by simp [go_sem, V3.v, Pl.v, V3.cs, Pl.cs, layAt, Value.cells, Wide, Wide.cs] <;> rfl) ?_ hR; clear hR; intro _ _ hR)
      | (refine own_alloc (by rfl) (by rfl) (by first | exact zero_all _ _ rfl) ?_ hR; clear hR; intro _ _ hR)
      | (refine own_alloc1 (by rfl) (by rfl) (by first | exact zero_all _ _ rfl) (by simp [go_sem, V3.v, Pl.v, V3.cs, Pl.cs, layAt, Value.cells, Wide, Wide.cs] <;> rfl) ?_ hR; clear hR; intro _ _ hR)
      | (refine own_load_all (by rfl) (by rfl) (by rfl) (by first | exact agg_all _ _ rfl) (by repeat (first | exact .head _ | refine .tail _ ?_)) (by rfl) ?_ hR; clear hR; intro hR)
      | (refine own_load_agg (by rfl) (by rfl) (by rfl) (by first | exact agg_all _ _ rfl) (by repeat (first | exact .head _ | refine .tail _ ?_)) (by rfl) (by simp [go_sem, V3.v, Pl.v, V3.cs, Pl.cs, layAt, Value.cells, Wide, Wide.cs] <;> rfl) ?_ hR; clear hR; intro hR)
      | (refine own_load_one (by rfl) (by rfl) (by rfl) (by first | exact one_all _ rfl) (by repeat (first | exact .head _ | refine .tail _ ?_)) (by simp [go_sem, V3.v, Pl.v, V3.cs, Pl.cs, layAt, Value.cells, Wide, Wide.cs] <;> rfl) ?_ hR; clear hR; intro hR)
      | (refine own_store_all (by rfl) (by rfl) (by rfl) (by first | exact (agg_all _ _ rfl).size | exact (one_all _ rfl).size) (by rfl) (by rfl) (by rfl) (by repeat (first | exact .head _ | refine .tail _ ?_)) (by rfl) (by simp [go_sem, V3.v, Pl.v, V3.cs, Pl.cs, layAt, Value.cells, Wide, Wide.cs] <;> rfl) (by repeat (first | exact .here | apply Upd.there)) ?_ hR; clear hR; intro _ hR)
      | (refine own_store (by rfl) (by rfl) (by rfl) (by first | exact (agg_all _ _ rfl).size | exact (one_all _ rfl).size) (by rfl) (by rfl) (by rfl) (by repeat (first | exact .head _ | refine .tail _ ?_)) (by rfl) (by simp [go_sem, V3.v, Pl.v, V3.cs, Pl.cs, layAt, Value.cells, Wide, Wide.cs] <;> rfl) (by repeat (first | exact .here | apply Upd.there)) ?_ hR; clear hR; intro _ hR)
      | (refine own_max (by rfl) (by rfl) (by rfl) (by rfl) ?_)
      | (refine own_min (by rfl) (by rfl) (by rfl) (by rfl) ?_)); simp only [Act.put, List.setIfInBounds_toArray, List.set_cons_succ, List.set_cons_zero])
    )
  refine own_call (size_any c _ hc) ?_ hR; clear hR; intro _ hR
  go_wp2_with (first
    | ((with_reducible apply is_list); (first
      | ((with_reducible refine own_skip ?_ ?_); (exact rfl))
      | (refine own_box (by rfl) (by rfl) (by simp [go_sem, V3.v, Pl.v, V3.cs, Pl.cs, layAt, Value.cells, Wide, Wide.cs] <;> rfl) ?_ hR; clear hR; intro _ _ hR)
      | (refine own_alloc (by rfl) (by rfl) (by first | exact zero_all _ _ rfl) ?_ hR; clear hR; intro _ _ hR)
      | (refine own_alloc1 (by rfl) (by rfl) (by first | exact zero_all _ _ rfl) (by simp [go_sem, V3.v, Pl.v, V3.cs, Pl.cs, layAt, Value.cells, Wide, Wide.cs] <;> rfl) ?_ hR; clear hR; intro _ _ hR)
      | (refine own_load_all (by rfl) (by rfl) (by rfl) (by first | exact agg_all _ _ rfl) (by repeat (first | exact .head _ | refine .tail _ ?_)) (by rfl) ?_ hR; clear hR; intro hR)
      | (refine own_load_agg (by rfl) (by rfl) (by rfl) (by first | exact agg_all _ _ rfl) (by repeat (first | exact .head _ | refine .tail _ ?_)) (by rfl) (by simp [go_sem, V3.v, Pl.v, V3.cs, Pl.cs, layAt, Value.cells, Wide, Wide.cs] <;> rfl) ?_ hR; clear hR; intro hR)
      | (refine own_load_one (by rfl) (by rfl) (by rfl) (by first | exact one_all _ rfl) (by repeat (first | exact .head _ | refine .tail _ ?_)) (by simp [go_sem, V3.v, Pl.v, V3.cs, Pl.cs, layAt, Value.cells, Wide, Wide.cs] <;> rfl) ?_ hR; clear hR; intro hR)
      | (refine own_store_all (by rfl) (by rfl) (by rfl) (by first | exact (agg_all _ _ rfl).size | exact (one_all _ rfl).size) (by rfl) (by rfl) (by rfl) (by repeat (first | exact .head _ | refine .tail _ ?_)) (by rfl) (by simp [go_sem, V3.v, Pl.v, V3.cs, Pl.cs, layAt, Value.cells, Wide, Wide.cs] <;> rfl) (by repeat (first | exact .here | apply Upd.there)) ?_ hR; clear hR; intro _ hR)
      | (refine own_store (by rfl) (by rfl) (by rfl) (by first | exact (agg_all _ _ rfl).size | exact (one_all _ rfl).size) (by rfl) (by rfl) (by rfl) (by repeat (first | exact .head _ | refine .tail _ ?_)) (by rfl) (by simp [go_sem, V3.v, Pl.v, V3.cs, Pl.cs, layAt, Value.cells, Wide, Wide.cs] <;> rfl) (by repeat (first | exact .here | apply Upd.there)) ?_ hR; clear hR; intro _ hR)
      | (refine own_max (by rfl) (by rfl) (by rfl) (by rfl) ?_)
      | (refine own_min (by rfl) (by rfl) (by rfl) (by rfl) ?_)); simp only [Act.put, List.setIfInBounds_toArray, List.set_cons_succ, List.set_cons_zero])
    )
  refine own_call (product_any a.natAbs c.natAbs _ (by omega) (by omega)) ?_ hR; clear hR; intro _ hR
  go_wp2_with (first
    | ((with_reducible apply is_list); repeat1' (first | rw [k.out] | ((first
      | ((with_reducible refine own_skip ?_ ?_); (exact rfl))
      | (refine own_move (by rfl) (by rfl) (by simp only [Act.eval, Array.getD_eq_getD_getElem?, List.getElem?_toArray, List.getElem?_cons_zero, List.getElem?_cons_succ, Option.getD_some] <;> rfl) ?_)
      | (refine own_assign (by rfl) (by rfl) (by simp only [Act.eval, Array.getD_eq_getD_getElem?, List.getElem?_toArray, List.getElem?_cons_zero, List.getElem?_cons_succ, Option.getD_some] <;> rfl) ?_)
      | (refine own_box (by rfl) (by rfl) (by simp [go_sem, V3.v, Pl.v, V3.cs, Pl.cs, layAt, Value.cells, Wide, Wide.cs] <;> rfl) ?_ hR; clear hR; intro _ _ hR)
      | (refine own_alloc (by rfl) (by rfl) (by first | exact zero_all _ _ rfl) ?_ hR; clear hR; intro _ _ hR)
      | (refine own_alloc1 (by rfl) (by rfl) (by first | exact zero_all _ _ rfl) (by simp [go_sem, V3.v, Pl.v, V3.cs, Pl.cs, layAt, Value.cells, Wide, Wide.cs] <;> rfl) ?_ hR; clear hR; intro _ _ hR)
      | (refine own_load_all (by rfl) (by rfl) (by rfl) (by first | exact agg_all _ _ rfl) (by repeat (first | exact .head _ | refine .tail _ ?_)) (by rfl) ?_ hR; clear hR; intro hR)
      | (refine own_load_agg (by rfl) (by rfl) (by rfl) (by first | exact agg_all _ _ rfl) (by repeat (first | exact .head _ | refine .tail _ ?_)) (by rfl) (by simp [go_sem, V3.v, Pl.v, V3.cs, Pl.cs, layAt, Value.cells, Wide, Wide.cs] <;> rfl) ?_ hR; clear hR; intro hR)
      | (refine own_load_one (by rfl) (by rfl) (by rfl) (by first | exact one_all _ rfl) (by repeat (first | exact .head _ | refine .tail _ ?_)) (by simp [go_sem, V3.v, Pl.v, V3.cs, Pl.cs, layAt, Value.cells, Wide, Wide.cs] <;> rfl) ?_ hR; clear hR; intro hR)
      | (refine own_store_all (by rfl) (by rfl) (by rfl) (by first | exact (agg_all _ _ rfl).size | exact (one_all _ rfl).size) (by rfl) (by rfl) (by rfl) (by repeat (first | exact .head _ | refine .tail _ ?_)) (by rfl) (by simp [go_sem, V3.v, Pl.v, V3.cs, Pl.cs, layAt, Value.cells, Wide, Wide.cs] <;> rfl) (by repeat (first | exact .here | apply Upd.there)) ?_ hR; clear hR; intro _ hR)
      | (refine own_store (by rfl) (by rfl) (by rfl) (by first | exact (agg_all _ _ rfl).size | exact (one_all _ rfl).size) (by rfl) (by rfl) (by rfl) (by repeat (first | exact .head _ | refine .tail _ ?_)) (by rfl) (by simp [go_sem, V3.v, Pl.v, V3.cs, Pl.cs, layAt, Value.cells, Wide, Wide.cs] <;> rfl) (by repeat (first | exact .here | apply Upd.there)) ?_ hR; clear hR; intro _ hR)
      | (refine own_max (by rfl) (by rfl) (by rfl) (by rfl) ?_)
      | (refine own_min (by rfl) (by rfl) (by rfl) (by rfl) ?_)
      | (refine own_pure (by rfl) (by intro w; simp [go_sem, V3.v, Pl.v, V3.cs, Pl.cs, layAt, Value.cells, Wide, Wide.cs] <;> rfl) ?_)); simp only [Act.put, List.setIfInBounds_toArray, List.set_cons_succ, List.set_cons_zero]))))
  refine own_call (plus_any d (a.natAbs * c.natAbs) _ hu) ?_ hR; clear hR; intro _ hR
  go_wp2_with (first
    | ((with_reducible apply is_list); repeat1' (first | rw [k.out] | ((first
      | ((with_reducible refine own_skip ?_ ?_); (exact rfl))
      | (refine own_move (by rfl) (by rfl) (by simp only [Act.eval, Array.getD_eq_getD_getElem?, List.getElem?_toArray, List.getElem?_cons_zero, List.getElem?_cons_succ, Option.getD_some] <;> rfl) ?_)
      | (refine own_assign (by rfl) (by rfl) (by simp only [Act.eval, Array.getD_eq_getD_getElem?, List.getElem?_toArray, List.getElem?_cons_zero, List.getElem?_cons_succ, Option.getD_some] <;> rfl) ?_)
      | (refine own_box (by rfl) (by rfl) (by simp [go_sem, V3.v, Pl.v, V3.cs, Pl.cs, layAt, Value.cells, Wide, Wide.cs] <;> rfl) ?_ hR; clear hR; intro _ _ hR)
      | (refine own_alloc (by rfl) (by rfl) (by first | exact zero_all _ _ rfl) ?_ hR; clear hR; intro _ _ hR)
      | (refine own_alloc1 (by rfl) (by rfl) (by first | exact zero_all _ _ rfl) (by simp [go_sem, V3.v, Pl.v, V3.cs, Pl.cs, layAt, Value.cells, Wide, Wide.cs] <;> rfl) ?_ hR; clear hR; intro _ _ hR)
      | (refine own_load_all (by rfl) (by rfl) (by rfl) (by first | exact agg_all _ _ rfl) (by repeat (first | exact .head _ | refine .tail _ ?_)) (by rfl) ?_ hR; clear hR; intro hR)
      | (refine own_load_agg (by rfl) (by rfl) (by rfl) (by first | exact agg_all _ _ rfl) (by repeat (first | exact .head _ | refine .tail _ ?_)) (by rfl) (by simp [go_sem, V3.v, Pl.v, V3.cs, Pl.cs, layAt, Value.cells, Wide, Wide.cs] <;> rfl) ?_ hR; clear hR; intro hR)
      | (refine own_load_one (by rfl) (by rfl) (by rfl) (by first | exact one_all _ rfl) (by repeat (first | exact .head _ | refine .tail _ ?_)) (by simp [go_sem, V3.v, Pl.v, V3.cs, Pl.cs, layAt, Value.cells, Wide, Wide.cs] <;> rfl) ?_ hR; clear hR; intro hR)
      | (refine own_store_all (by rfl) (by rfl) (by rfl) (by first | exact (agg_all _ _ rfl).size | exact (one_all _ rfl).size) (by rfl) (by rfl) (by rfl) (by repeat (first | exact .head _ | refine .tail _ ?_)) (by rfl) (by simp [go_sem, V3.v, Pl.v, V3.cs, Pl.cs, layAt, Value.cells, Wide, Wide.cs] <;> rfl) (by repeat (first | exact .here | apply Upd.there)) ?_ hR; clear hR; intro _ hR)
      | (refine own_store (by rfl) (by rfl) (by rfl) (by first | exact (agg_all _ _ rfl).size | exact (one_all _ rfl).size) (by rfl) (by rfl) (by rfl) (by repeat (first | exact .head _ | refine .tail _ ?_)) (by rfl) (by simp [go_sem, V3.v, Pl.v, V3.cs, Pl.cs, layAt, Value.cells, Wide, Wide.cs] <;> rfl) (by repeat (first | exact .here | apply Upd.there)) ?_ hR; clear hR; intro _ hR)
      | (refine own_max (by rfl) (by rfl) (by rfl) (by rfl) ?_)
      | (refine own_min (by rfl) (by rfl) (by rfl) (by rfl) ?_)
      | (refine own_pure (by rfl) (by intro w; simp [go_sem, V3.v, Pl.v, V3.cs, Pl.cs, layAt, Value.cells, Wide, Wide.cs] <;> rfl) ?_)); simp only [Act.put, List.setIfInBounds_toArray, List.set_cons_succ, List.set_cons_zero]))))
  refine own_ret1 Try.results59 rfl (.tmp rfl) (fun hR => Own.retO hR.drop ?_) hR
  rw [HV.out]
  rfl

def upN (a c : Int) : Nat := if decide (a < 0) = decide (c < 0) then a.natAbs * c.natAbs else 0
def downN (a c : Int) : Nat := if decide (a < 0) = decide (c < 0) then 0 else a.natAbs * c.natAbs

theorem abs_mul_le {a c : Int} (ha : In64 a) (hc : In64 c) : a.natAbs * c.natAbs ≤ 85070591730234615865843651857942052864 := by
  unfold In64 at ha hc
  have h1 : a.natAbs ≤ 9223372036854775808 := by omega
  have h2 : c.natAbs ≤ 9223372036854775808 := by omega
  exact Nat.mul_le_mul h1 h2
theorem upN_le {a c : Int} (ha : In64 a) (hc : In64 c) : upN a c ≤ 85070591730234615865843651857942052864 := by
  have := abs_mul_le ha hc
  unfold upN; split <;> omega
theorem downN_le {a c : Int} (ha : In64 a) (hc : In64 c) : downN a c ≤ 85070591730234615865843651857942052864 := by
  have := abs_mul_le ha hc
  unfold downN; split <;> omega

theorem products1_any (a c : Int) (bu bd u d : Nat) {B : Nat} {w0 w : World} (E : List Ent) (ha : In64 a) (hc : In64 c) (hu : u + upN a c < 340282366920938463463374607431768211456) (hd : d + downN a c < 340282366920938463463374607431768211456) (hR : Own B w0 w (UD bu bd u d ++ E)) :
    Calls Try.prog 59 #[I a, I c, .pointer (some ⟨bu, 0, none⟩), .pointer (some ⟨bd, 0, none⟩)] w (RetO B w0 (UD bu bd (u + upN a c) (d + downN a c) ++ E) (I 0)) := by
  unfold upN downN at *
  by_cases hs : decide (a < 0) = decide (c < 0)
  · simp only [if_pos hs] at *
    exact products1_up a c bu bd u d E ha hc hs hu hR
  · simp only [if_neg hs] at *
    exact products1_down a c bu bd u d E ha hc (by simpa using hs) hd hR

end Go.Proofs.Ytboljdeeodeeeaa

-- EVDEFS: Wide, Wide.cs
namespace Go.Proofs.Ytboljdeeodeeeaa
set_option linter.unusedSimpArgs false
set_option linter.unusedVariables false
set_option maxRecDepth 100000
open Go.RowKit

def upV (a b : V3) : Nat := upN a.x b.x + upN a.y b.y + upN a.z b.z
def downV (a b : V3) : Nat := downN a.x b.x + downN a.y b.y + downN a.z b.z

theorem Wide_cs_zero : Wide.cs 0 = #[.int .u64 0, .int .u64 0] := by simp only [Wide.cs, nI_eq]; rfl

set_option maxHeartbeats 2000000 in
theorem products_any (a b : V3) (w : World) (ha : a.fits) (hb : b.fits) : Calls Try.prog 40 #[a.v, b.v] w (Ret w (.tuple #[Wide (upV a b), Wide (downV a b)])) := by
  have u1 := upN_le ha.1 hb.1
  have u2 := upN_le ha.2.1 hb.2.1
  have u3 := upN_le ha.2.2 hb.2.2
  have d1 := downN_le ha.1 hb.1
  have d2 := downN_le ha.2.1 hb.2.1
  have d3 := downN_le ha.2.2 hb.2.2
  refine calls_hide fun V HV => ?_
  have hR := Own.start w
  go_enter Try.func40, Try.ntmps40
  go_wp2_with (first
    | ((with_reducible apply is_list); (first
      | ((with_reducible refine own_skip ?_ ?_); (exact rfl))
      | (refine own_box (by rfl) (by rfl) (by simp [go_sem, V3.v, Pl.v, V3.cs, Pl.cs, layAt, Value.cells, Wide, Wide.cs] <;> rfl) ?_ hR; clear hR; intro _ _ hR)
      | (refine own_alloc (by rfl) (by rfl) (by first | exact zero_all _ _ rfl) ?_ hR; clear hR; intro _ _ hR)
      | (refine own_alloc1 (by rfl) (by rfl) (by first | exact zero_all _ _ rfl) (by simp [go_sem, V3.v, Pl.v, V3.cs, Pl.cs, layAt, Value.cells, Wide, Wide.cs] <;> rfl) ?_ hR; clear hR; intro _ _ hR)
      | (refine own_load_all (by rfl) (by rfl) (by rfl) (by first | exact agg_all _ _ rfl) (by repeat (first | exact .head _ | refine .tail _ ?_)) (by rfl) ?_ hR; clear hR; intro hR)
      | (refine own_load_agg (by rfl) (by rfl) (by rfl) (by first | exact agg_all _ _ rfl) (by repeat (first | exact .head _ | refine .tail _ ?_)) (by rfl) (by simp [go_sem, V3.v, Pl.v, V3.cs, Pl.cs, layAt, Value.cells, Wide, Wide.cs] <;> rfl) ?_ hR; clear hR; intro hR)
      | (refine own_load_one (by rfl) (by rfl) (by rfl) (by first | exact one_all _ rfl) (by repeat (first | exact .head _ | refine .tail _ ?_)) (by simp [go_sem, V3.v, Pl.v, V3.cs, Pl.cs, layAt, Value.cells, Wide, Wide.cs] <;> rfl) ?_ hR; clear hR; intro hR)
      | (refine own_store_all (by rfl) (by rfl) (by rfl) (by first | exact (agg_all _ _ rfl).size | exact (one_all _ rfl).size) (by rfl) (by rfl) (by rfl) (by repeat (first | exact .head _ | refine .tail _ ?_)) (by rfl) (by simp [go_sem, V3.v, Pl.v, V3.cs, Pl.cs, layAt, Value.cells, Wide, Wide.cs] <;> rfl) (by repeat (first | exact .here | apply Upd.there)) ?_ hR; clear hR; intro _ hR)
      | (refine own_store (by rfl) (by rfl) (by rfl) (by first | exact (agg_all _ _ rfl).size | exact (one_all _ rfl).size) (by rfl) (by rfl) (by rfl) (by repeat (first | exact .head _ | refine .tail _ ?_)) (by rfl) (by simp [go_sem, V3.v, Pl.v, V3.cs, Pl.cs, layAt, Value.cells, Wide, Wide.cs] <;> rfl) (by repeat (first | exact .here | apply Upd.there)) ?_ hR; clear hR; intro _ hR)
      | (refine own_max (by rfl) (by rfl) (by rfl) (by rfl) ?_)
      | (refine own_min (by rfl) (by rfl) (by rfl) (by rfl) ?_)); simp only [Act.put, List.setIfInBounds_toArray, List.set_cons_succ, List.set_cons_zero])
    )
  rename_i b2 _ b3 _ b4 _ b5 w5 _ _ _ _
  simp only [show (#[Value.int IntKind.u64 0, Value.int IntKind.u64 0] : Array Value) = Wide.cs 0 from Wide_cs_zero.symm] at hR
  refine own_callO (axes_o a b 59 #[.pointer (some ⟨b4, 0, none⟩), .pointer (some ⟨b5, 0, none⟩)] 0 0 0 (UD b4 b5 0 0) (UD b4 b5 (0 + upN a.x b.x) (0 + downN a.x b.x)) (UD b4 b5 (0 + upN a.x b.x + upN a.y b.y) (0 + downN a.x b.x + downN a.y b.y)) (UD b4 b5 (0 + upN a.x b.x + upN a.y b.y + upN a.z b.z) (0 + downN a.x b.x + downN a.y b.y + downN a.z b.z)) _ hR Try.func59 (by kernel_rfl)
    (fun w' E h => products1_any a.x b.x b4 b5 _ _ E ha.1 hb.1 (by omega) (by omega) h) (fun w' E h => products1_any a.y b.y b4 b5 _ _ E ha.2.1 hb.2.1 (by omega) (by omega) h) (fun w' E h => products1_any a.z b.z b4 b5 _ _ E ha.2.2 hb.2.2 (by omega) (by omega) h)) ?_
  clear hR; intro _ hR
  simp only [UD, List.cons_append, List.nil_append, Nat.zero_add] at hR
  go_wp2_with (first
    | ((with_reducible apply is_list); (first
      | ((with_reducible refine own_skip ?_ ?_); (exact rfl))
      | (refine own_box (by rfl) (by rfl) (by simp [go_sem, V3.v, Pl.v, V3.cs, Pl.cs, layAt, Value.cells, Wide, Wide.cs] <;> rfl) ?_ hR; clear hR; intro _ _ hR)
      | (refine own_alloc (by rfl) (by rfl) (by first | exact zero_all _ _ rfl) ?_ hR; clear hR; intro _ _ hR)
      | (refine own_alloc1 (by rfl) (by rfl) (by first | exact zero_all _ _ rfl) (by simp [go_sem, V3.v, Pl.v, V3.cs, Pl.cs, layAt, Value.cells, Wide, Wide.cs] <;> rfl) ?_ hR; clear hR; intro _ _ hR)
      | (refine own_load_all (by rfl) (by rfl) (by rfl) (by first | exact agg_all _ _ rfl) (by repeat (first | exact .head _ | refine .tail _ ?_)) (by rfl) ?_ hR; clear hR; intro hR)
      | (refine own_load_agg (by rfl) (by rfl) (by rfl) (by first | exact agg_all _ _ rfl) (by repeat (first | exact .head _ | refine .tail _ ?_)) (by rfl) (by simp [go_sem, V3.v, Pl.v, V3.cs, Pl.cs, layAt, Value.cells, Wide, Wide.cs] <;> rfl) ?_ hR; clear hR; intro hR)
      | (refine own_load_one (by rfl) (by rfl) (by rfl) (by first | exact one_all _ rfl) (by repeat (first | exact .head _ | refine .tail _ ?_)) (by simp [go_sem, V3.v, Pl.v, V3.cs, Pl.cs, layAt, Value.cells, Wide, Wide.cs] <;> rfl) ?_ hR; clear hR; intro hR)
      | (refine own_store_all (by rfl) (by rfl) (by rfl) (by first | exact (agg_all _ _ rfl).size | exact (one_all _ rfl).size) (by rfl) (by rfl) (by rfl) (by repeat (first | exact .head _ | refine .tail _ ?_)) (by rfl) (by simp [go_sem, V3.v, Pl.v, V3.cs, Pl.cs, layAt, Value.cells, Wide, Wide.cs] <;> rfl) (by repeat (first | exact .here | apply Upd.there)) ?_ hR; clear hR; intro _ hR)
      | (refine own_store (by rfl) (by rfl) (by rfl) (by first | exact (agg_all _ _ rfl).size | exact (one_all _ rfl).size) (by rfl) (by rfl) (by rfl) (by repeat (first | exact .head _ | refine .tail _ ?_)) (by rfl) (by simp [go_sem, V3.v, Pl.v, V3.cs, Pl.cs, layAt, Value.cells, Wide, Wide.cs] <;> rfl) (by repeat (first | exact .here | apply Upd.there)) ?_ hR; clear hR; intro _ hR)
      | (refine own_max (by rfl) (by rfl) (by rfl) (by rfl) ?_)
      | (refine own_min (by rfl) (by rfl) (by rfl) (by rfl) ?_)); simp only [Act.put, List.setIfInBounds_toArray, List.set_cons_succ, List.set_cons_zero])
    )
  refine re_start [0, 1, 2, 3] [] 4 (by kernel_rfl) (by kernel_rfl) (by rfl) (by rfl) rfl (by rfl) (by kernel_rfl) (fun _ _ _ _ _ h => h) ?_ hR
  repeat (first
    | (refine re_skip (by rfl) ?_; simp only [Act.put, List.setIfInBounds_toArray, List.set_cons_succ, List.set_cons_zero])
    | (refine re_move (by rfl) (by rfl) (by simp only [Act.eval, Array.getD_eq_getD_getElem?, List.getElem?_toArray, List.getElem?_cons_zero, List.getElem?_cons_succ, Option.getD_some] <;> rfl) ?_; simp only [Act.put, List.setIfInBounds_toArray, List.set_cons_succ, List.set_cons_zero])
    | (refine re_assign (by rfl) (by rfl) (by simp only [Act.eval, Array.getD_eq_getD_getElem?, List.getElem?_toArray, List.getElem?_cons_zero, List.getElem?_cons_succ, Option.getD_some] <;> rfl) ?_; simp only [Act.put, List.setIfInBounds_toArray, List.set_cons_succ, List.set_cons_zero])
    | (refine re_load_all (by rfl) (by rfl) (by rfl) (by first | exact agg_all _ _ rfl) (by repeat (first | exact .head _ | refine .tail _ ?_)) (by rfl) ?_; simp only [Act.put, List.setIfInBounds_toArray, List.set_cons_succ, List.set_cons_zero])
    | (refine re_load_agg (by rfl) (by rfl) (by rfl) (by first | exact agg_all _ _ rfl) (by repeat (first | exact .head _ | refine .tail _ ?_)) (by rfl) (by simp [go_sem, V3.v, Pl.v, V3.cs, Pl.cs, layAt, Value.cells, Wide, Wide.cs] <;> rfl) ?_; simp only [Act.put, List.setIfInBounds_toArray, List.set_cons_succ, List.set_cons_zero])
    | (refine re_load_one (by rfl) (by rfl) (by rfl) (by first | exact one_all _ rfl) (by repeat (first | exact .head _ | refine .tail _ ?_)) (by simp [go_sem, V3.v, Pl.v, V3.cs, Pl.cs, layAt, Value.cells, Wide, Wide.cs] <;> rfl) ?_; simp only [Act.put, List.setIfInBounds_toArray, List.set_cons_succ, List.set_cons_zero])
    | (refine re_max (by rfl) (by rfl) (by rfl) (by rfl) ?_; simp only [Act.put, List.setIfInBounds_toArray, List.set_cons_succ, List.set_cons_zero])
    | (refine re_min (by rfl) (by rfl) (by rfl) (by rfl) ?_; simp only [Act.put, List.setIfInBounds_toArray, List.set_cons_succ, List.set_cons_zero])
    | (refine re_eql (by rfl) (by rfl) (by simp [go_sem, V3.v, Pl.v, V3.cs, Pl.cs, layAt, Value.cells, Wide, Wide.cs] <;> rfl) (by simp [go_sem, V3.v, Pl.v, V3.cs, Pl.cs, layAt, Value.cells, Wide, Wide.cs] <;> rfl) (by first | exact guard_vec | exact guard_pl) (by intro w; first | exact eqr_vec 9998 w _ _ _ | exact eqr_pl 9996 w _ _ _ _ _ _ _ _ _ _ _ _ _ _ _ | exact eqb_vec 9998 w _ _ _ _ _ _ | exact eqb_pl 9996 w _ _ _ _ _ _ _ _ _ _ _ _ _ _ _ _ _ _ _ _ _ _ _ _ _ _ _ _ _ _) ?_; simp only [Act.put, List.setIfInBounds_toArray, List.set_cons_succ, List.set_cons_zero])
    | (refine re_neq (by rfl) (by rfl) (by simp [go_sem, V3.v, Pl.v, V3.cs, Pl.cs, layAt, Value.cells, Wide, Wide.cs] <;> rfl) (by simp [go_sem, V3.v, Pl.v, V3.cs, Pl.cs, layAt, Value.cells, Wide, Wide.cs] <;> rfl) (by first | exact guard_vec | exact guard_pl) (by intro w; first | exact eqr_vec 9998 w _ _ _ | exact eqr_pl 9996 w _ _ _ _ _ _ _ _ _ _ _ _ _ _ _ | exact eqb_vec 9998 w _ _ _ _ _ _ | exact eqb_pl 9996 w _ _ _ _ _ _ _ _ _ _ _ _ _ _ _ _ _ _ _ _ _ _ _ _ _ _ _ _ _ _) ?_; simp only [Act.put, List.setIfInBounds_toArray, List.set_cons_succ, List.set_cons_zero])
    | (refine re_store_same (by rfl) (by rfl) (by rfl) (by first | exact (agg_all _ _ rfl).size | exact (one_all _ rfl).size) (by rfl) (by rfl) (by rfl) (by repeat (first | exact .head _ | refine .tail _ ?_)) (by rfl) (by rfl) ?_; simp only [Act.put, List.setIfInBounds_toArray, List.set_cons_succ, List.set_cons_zero])
    | (refine re_pure (by rfl) (by intro w; simp [go_sem, V3.v, Pl.v, V3.cs, Pl.cs, layAt, Value.cells, Wide, Wide.cs] <;> rfl) ?_; simp only [Act.put, List.setIfInBounds_toArray, List.set_cons_succ, List.set_cons_zero]))
  refine rt_end ?_; clear hR; intro _ hR
  go_wp2_with (first
    | ((with_reducible apply is_list); (first
      | ((with_reducible refine own_skip ?_ ?_); (exact rfl))
      | (refine own_box (by rfl) (by rfl) (by simp [go_sem, V3.v, Pl.v, V3.cs, Pl.cs, layAt, Value.cells, Wide, Wide.cs] <;> rfl) ?_ hR; clear hR; intro _ _ hR)
      | (refine own_alloc (by rfl) (by rfl) (by first | exact zero_all _ _ rfl) ?_ hR; clear hR; intro _ _ hR)
      | (refine own_alloc1 (by rfl) (by rfl) (by first | exact zero_all _ _ rfl) (by simp [go_sem, V3.v, Pl.v, V3.cs, Pl.cs, layAt, Value.cells, Wide, Wide.cs] <;> rfl) ?_ hR; clear hR; intro _ _ hR)
      | (refine own_load_all (by rfl) (by rfl) (by rfl) (by first | exact agg_all _ _ rfl) (by repeat (first | exact .head _ | refine .tail _ ?_)) (by rfl) ?_ hR; clear hR; intro hR)
      | (refine own_load_agg (by rfl) (by rfl) (by rfl) (by first | exact agg_all _ _ rfl) (by repeat (first | exact .head _ | refine .tail _ ?_)) (by rfl) (by simp [go_sem, V3.v, Pl.v, V3.cs, Pl.cs, layAt, Value.cells, Wide, Wide.cs] <;> rfl) ?_ hR; clear hR; intro hR)
      | (refine own_load_one (by rfl) (by rfl) (by rfl) (by first | exact one_all _ rfl) (by repeat (first | exact .head _ | refine .tail _ ?_)) (by simp [go_sem, V3.v, Pl.v, V3.cs, Pl.cs, layAt, Value.cells, Wide, Wide.cs] <;> rfl) ?_ hR; clear hR; intro hR)
      | (refine own_store_all (by rfl) (by rfl) (by rfl) (by first | exact (agg_all _ _ rfl).size | exact (one_all _ rfl).size) (by rfl) (by rfl) (by rfl) (by repeat (first | exact .head _ | refine .tail _ ?_)) (by rfl) (by simp [go_sem, V3.v, Pl.v, V3.cs, Pl.cs, layAt, Value.cells, Wide, Wide.cs] <;> rfl) (by repeat (first | exact .here | apply Upd.there)) ?_ hR; clear hR; intro _ hR)
      | (refine own_store (by rfl) (by rfl) (by rfl) (by first | exact (agg_all _ _ rfl).size | exact (one_all _ rfl).size) (by rfl) (by rfl) (by rfl) (by repeat (first | exact .head _ | refine .tail _ ?_)) (by rfl) (by simp [go_sem, V3.v, Pl.v, V3.cs, Pl.cs, layAt, Value.cells, Wide, Wide.cs] <;> rfl) (by repeat (first | exact .here | apply Upd.there)) ?_ hR; clear hR; intro _ hR)
      | (refine own_max (by rfl) (by rfl) (by rfl) (by rfl) ?_)
      | (refine own_min (by rfl) (by rfl) (by rfl) (by rfl) ?_)); simp only [Act.put, List.setIfInBounds_toArray, List.set_cons_succ, List.set_cons_zero])
    )
  refine own_ret2 Try.results40 rfl (.all (by rfl) (by first | exact agg_all _ _ rfl) (by repeat (first | exact .head _ | refine .tail _ ?_)) (by rfl)) (.all (by rfl) (by first | exact agg_all _ _ rfl) (by repeat (first | exact .head _ | refine .tail _ ?_)) (by rfl)) (fun hR => hR.ret ?_) hR
  rw [HV.out]
  rfl

set_option maxHeartbeats 2000000 in
theorem long_any (a : V3) (w : World) (ha : a.fits) : Calls Try.prog 22 #[a.v] w (Ret w (I (signedN (rootN (upV a a)) false))) := by
  have u1 := upN_le ha.1 ha.1
  have u2 := upN_le ha.2.1 ha.2.1
  have u3 := upN_le ha.2.2 ha.2.2
  have hw : upV a a < 340282366920938463463374607431768211456 := by unfold upV; omega
  have hr := rootN_lt (W := upV a a) (b := 18446744073709551616) (by omega)
  refine calls_hide fun V HV => ?_
  have hR := Own.start w
  go_enter Try.func22, Try.ntmps22
  go_wp2_with (first
    | ((with_reducible apply is_list); (first
      | ((with_reducible refine own_skip ?_ ?_); (exact rfl))
      | (refine own_box (by rfl) (by rfl) (by simp [go_sem, V3.v, Pl.v, V3.cs, Pl.cs, layAt, Value.cells, Wide, Wide.cs] <;> rfl) ?_ hR; clear hR; intro _ _ hR)
      | (refine own_alloc (by rfl) (by rfl) (by first | exact zero_all _ _ rfl) ?_ hR; clear hR; intro _ _ hR)
      | (refine own_alloc1 (by rfl) (by rfl) (by first | exact zero_all _ _ rfl) (by simp [go_sem, V3.v, Pl.v, V3.cs, Pl.cs, layAt, Value.cells, Wide, Wide.cs] <;> rfl) ?_ hR; clear hR; intro _ _ hR)
      | (refine own_load_all (by rfl) (by rfl) (by rfl) (by first | exact agg_all _ _ rfl) (by repeat (first | exact .head _ | refine .tail _ ?_)) (by rfl) ?_ hR; clear hR; intro hR)
      | (refine own_load_agg (by rfl) (by rfl) (by rfl) (by first | exact agg_all _ _ rfl) (by repeat (first | exact .head _ | refine .tail _ ?_)) (by rfl) (by simp [go_sem, V3.v, Pl.v, V3.cs, Pl.cs, layAt, Value.cells, Wide, Wide.cs] <;> rfl) ?_ hR; clear hR; intro hR)
      | (refine own_load_one (by rfl) (by rfl) (by rfl) (by first | exact one_all _ rfl) (by repeat (first | exact .head _ | refine .tail _ ?_)) (by simp [go_sem, V3.v, Pl.v, V3.cs, Pl.cs, layAt, Value.cells, Wide, Wide.cs] <;> rfl) ?_ hR; clear hR; intro hR)
      | (refine own_store_all (by rfl) (by rfl) (by rfl) (by first | exact (agg_all _ _ rfl).size | exact (one_all _ rfl).size) (by rfl) (by rfl) (by rfl) (by repeat (first | exact .head _ | refine .tail _ ?_)) (by rfl) (by simp [go_sem, V3.v, Pl.v, V3.cs, Pl.cs, layAt, Value.cells, Wide, Wide.cs] <;> rfl) (by repeat (first | exact .here | apply Upd.there)) ?_ hR; clear hR; intro _ hR)
      | (refine own_store (by rfl) (by rfl) (by rfl) (by first | exact (agg_all _ _ rfl).size | exact (one_all _ rfl).size) (by rfl) (by rfl) (by rfl) (by repeat (first | exact .head _ | refine .tail _ ?_)) (by rfl) (by simp [go_sem, V3.v, Pl.v, V3.cs, Pl.cs, layAt, Value.cells, Wide, Wide.cs] <;> rfl) (by repeat (first | exact .here | apply Upd.there)) ?_ hR; clear hR; intro _ hR)
      | (refine own_max (by rfl) (by rfl) (by rfl) (by rfl) ?_)
      | (refine own_min (by rfl) (by rfl) (by rfl) (by rfl) ?_)); simp only [Act.put, List.setIfInBounds_toArray, List.set_cons_succ, List.set_cons_zero])
    )
  refine own_call (products_any a a _ ha ha) ?_ hR; clear hR; intro _ hR
  go_wp2_with (first
    | ((with_reducible apply is_list); (first
      | ((with_reducible refine own_skip ?_ ?_); (exact rfl))
      | (refine own_box (by rfl) (by rfl) (by simp [go_sem, V3.v, Pl.v, V3.cs, Pl.cs, layAt, Value.cells, Wide, Wide.cs] <;> rfl) ?_ hR; clear hR; intro _ _ hR)
      | (refine own_alloc (by rfl) (by rfl) (by first | exact zero_all _ _ rfl) ?_ hR; clear hR; intro _ _ hR)
      | (refine own_alloc1 (by rfl) (by rfl) (by first | exact zero_all _ _ rfl) (by simp [go_sem, V3.v, Pl.v, V3.cs, Pl.cs, layAt, Value.cells, Wide, Wide.cs] <;> rfl) ?_ hR; clear hR; intro _ _ hR)
      | (refine own_load_all (by rfl) (by rfl) (by rfl) (by first | exact agg_all _ _ rfl) (by repeat (first | exact .head _ | refine .tail _ ?_)) (by rfl) ?_ hR; clear hR; intro hR)
      | (refine own_load_agg (by rfl) (by rfl) (by rfl) (by first | exact agg_all _ _ rfl) (by repeat (first | exact .head _ | refine .tail _ ?_)) (by rfl) (by simp [go_sem, V3.v, Pl.v, V3.cs, Pl.cs, layAt, Value.cells, Wide, Wide.cs] <;> rfl) ?_ hR; clear hR; intro hR)
      | (refine own_load_one (by rfl) (by rfl) (by rfl) (by first | exact one_all _ rfl) (by repeat (first | exact .head _ | refine .tail _ ?_)) (by simp [go_sem, V3.v, Pl.v, V3.cs, Pl.cs, layAt, Value.cells, Wide, Wide.cs] <;> rfl) ?_ hR; clear hR; intro hR)
      | (refine own_store_all (by rfl) (by rfl) (by rfl) (by first | exact (agg_all _ _ rfl).size | exact (one_all _ rfl).size) (by rfl) (by rfl) (by rfl) (by repeat (first | exact .head _ | refine .tail _ ?_)) (by rfl) (by simp [go_sem, V3.v, Pl.v, V3.cs, Pl.cs, layAt, Value.cells, Wide, Wide.cs] <;> rfl) (by repeat (first | exact .here | apply Upd.there)) ?_ hR; clear hR; intro _ hR)
      | (refine own_store (by rfl) (by rfl) (by rfl) (by first | exact (agg_all _ _ rfl).size | exact (one_all _ rfl).size) (by rfl) (by rfl) (by rfl) (by repeat (first | exact .head _ | refine .tail _ ?_)) (by rfl) (by simp [go_sem, V3.v, Pl.v, V3.cs, Pl.cs, layAt, Value.cells, Wide, Wide.cs] <;> rfl) (by repeat (first | exact .here | apply Upd.there)) ?_ hR; clear hR; intro _ hR)
      | (refine own_max (by rfl) (by rfl) (by rfl) (by rfl) ?_)
      | (refine own_min (by rfl) (by rfl) (by rfl) (by rfl) ?_)); simp only [Act.put, List.setIfInBounds_toArray, List.set_cons_succ, List.set_cons_zero])
    )
  refine own_call (root_any (upV a a) _ hw) ?_ hR; clear hR; intro _ hR
  go_wp2_with (first
    | ((with_reducible apply is_list); (first
      | ((with_reducible refine own_skip ?_ ?_); (exact rfl))
      | (refine own_box (by rfl) (by rfl) (by simp [go_sem, V3.v, Pl.v, V3.cs, Pl.cs, layAt, Value.cells, Wide, Wide.cs] <;> rfl) ?_ hR; clear hR; intro _ _ hR)
      | (refine own_alloc (by rfl) (by rfl) (by first | exact zero_all _ _ rfl) ?_ hR; clear hR; intro _ _ hR)
      | (refine own_alloc1 (by rfl) (by rfl) (by first | exact zero_all _ _ rfl) (by simp [go_sem, V3.v, Pl.v, V3.cs, Pl.cs, layAt, Value.cells, Wide, Wide.cs] <;> rfl) ?_ hR; clear hR; intro _ _ hR)
      | (refine own_load_all (by rfl) (by rfl) (by rfl) (by first | exact agg_all _ _ rfl) (by repeat (first | exact .head _ | refine .tail _ ?_)) (by rfl) ?_ hR; clear hR; intro hR)
      | (refine own_load_agg (by rfl) (by rfl) (by rfl) (by first | exact agg_all _ _ rfl) (by repeat (first | exact .head _ | refine .tail _ ?_)) (by rfl) (by simp [go_sem, V3.v, Pl.v, V3.cs, Pl.cs, layAt, Value.cells, Wide, Wide.cs] <;> rfl) ?_ hR; clear hR; intro hR)
      | (refine own_load_one (by rfl) (by rfl) (by rfl) (by first | exact one_all _ rfl) (by repeat (first | exact .head _ | refine .tail _ ?_)) (by simp [go_sem, V3.v, Pl.v, V3.cs, Pl.cs, layAt, Value.cells, Wide, Wide.cs] <;> rfl) ?_ hR; clear hR; intro hR)
      | (refine own_store_all (by rfl) (by rfl) (by rfl) (by first | exact (agg_all _ _ rfl).size | exact (one_all _ rfl).size) (by rfl) (by rfl) (by rfl) (by repeat (first | exact .head _ | refine .tail _ ?_)) (by rfl) (by simp [go_sem, V3.v, Pl.v, V3.cs, Pl.cs, layAt, Value.cells, Wide, Wide.cs] <;> rfl) (by repeat (first | exact .here | apply Upd.there)) ?_ hR; clear hR; intro _ hR)
      | (refine own_store (by rfl) (by rfl) (by rfl) (by first | exact (agg_all _ _ rfl).size | exact (one_all _ rfl).size) (by rfl) (by rfl) (by rfl) (by repeat (first | exact .head _ | refine .tail _ ?_)) (by rfl) (by simp [go_sem, V3.v, Pl.v, V3.cs, Pl.cs, layAt, Value.cells, Wide, Wide.cs] <;> rfl) (by repeat (first | exact .here | apply Upd.there)) ?_ hR; clear hR; intro _ hR)
      | (refine own_max (by rfl) (by rfl) (by rfl) (by rfl) ?_)
      | (refine own_min (by rfl) (by rfl) (by rfl) (by rfl) ?_)); simp only [Act.put, List.setIfInBounds_toArray, List.set_cons_succ, List.set_cons_zero])
    )
  refine own_call (signed_word (rootN (upV a a)) false _ hr) ?_ hR; clear hR; intro _ hR
  go_wp2_with (first
    | ((with_reducible apply is_list); (first
      | ((with_reducible refine own_skip ?_ ?_); (exact rfl))
      | (refine own_box (by rfl) (by rfl) (by simp [go_sem, V3.v, Pl.v, V3.cs, Pl.cs, layAt, Value.cells, Wide, Wide.cs] <;> rfl) ?_ hR; clear hR; intro _ _ hR)
      | (refine own_alloc (by rfl) (by rfl) (by first | exact zero_all _ _ rfl) ?_ hR; clear hR; intro _ _ hR)
      | (refine own_alloc1 (by rfl) (by rfl) (by first | exact zero_all _ _ rfl) (by simp [go_sem, V3.v, Pl.v, V3.cs, Pl.cs, layAt, Value.cells, Wide, Wide.cs] <;> rfl) ?_ hR; clear hR; intro _ _ hR)
      | (refine own_load_all (by rfl) (by rfl) (by rfl) (by first | exact agg_all _ _ rfl) (by repeat (first | exact .head _ | refine .tail _ ?_)) (by rfl) ?_ hR; clear hR; intro hR)
      | (refine own_load_agg (by rfl) (by rfl) (by rfl) (by first | exact agg_all _ _ rfl) (by repeat (first | exact .head _ | refine .tail _ ?_)) (by rfl) (by simp [go_sem, V3.v, Pl.v, V3.cs, Pl.cs, layAt, Value.cells, Wide, Wide.cs] <;> rfl) ?_ hR; clear hR; intro hR)
      | (refine own_load_one (by rfl) (by rfl) (by rfl) (by first | exact one_all _ rfl) (by repeat (first | exact .head _ | refine .tail _ ?_)) (by simp [go_sem, V3.v, Pl.v, V3.cs, Pl.cs, layAt, Value.cells, Wide, Wide.cs] <;> rfl) ?_ hR; clear hR; intro hR)
      | (refine own_store_all (by rfl) (by rfl) (by rfl) (by first | exact (agg_all _ _ rfl).size | exact (one_all _ rfl).size) (by rfl) (by rfl) (by rfl) (by repeat (first | exact .head _ | refine .tail _ ?_)) (by rfl) (by simp [go_sem, V3.v, Pl.v, V3.cs, Pl.cs, layAt, Value.cells, Wide, Wide.cs] <;> rfl) (by repeat (first | exact .here | apply Upd.there)) ?_ hR; clear hR; intro _ hR)
      | (refine own_store (by rfl) (by rfl) (by rfl) (by first | exact (agg_all _ _ rfl).size | exact (one_all _ rfl).size) (by rfl) (by rfl) (by rfl) (by repeat (first | exact .head _ | refine .tail _ ?_)) (by rfl) (by simp [go_sem, V3.v, Pl.v, V3.cs, Pl.cs, layAt, Value.cells, Wide, Wide.cs] <;> rfl) (by repeat (first | exact .here | apply Upd.there)) ?_ hR; clear hR; intro _ hR)
      | (refine own_max (by rfl) (by rfl) (by rfl) (by rfl) ?_)
      | (refine own_min (by rfl) (by rfl) (by rfl) (by rfl) ?_)); simp only [Act.put, List.setIfInBounds_toArray, List.set_cons_succ, List.set_cons_zero])
    )
  refine own_ret1 Try.results22 rfl (.tmp rfl) (fun hR => hR.ret ?_) hR
  rw [HV.out]
  rfl

def dotN (a b : V3) : Int := if upV a b < downV a b then signedN ((downV a b - upV a b) / 65536) true else signedN ((upV a b - downV a b) / 65536) false

end Go.Proofs.Ytboljdeeodeeeaa
