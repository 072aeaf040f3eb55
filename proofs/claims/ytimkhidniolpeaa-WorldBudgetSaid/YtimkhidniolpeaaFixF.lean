/- Package fix's Times: contract. The plain law of a root, bit by bit: no program in sight. Package fix's root: contract. (Under way.) Package fix's Sqrt: contract. (Under way.) -/
import Derived.Test.YtimkhidniolpeaaFixC
import Derived.Test.YtimkhidniolpeaaFixA
import Derived.Test.YtimkhidniolpeaaQuiet
namespace Go.Proofs.Ytimkhidniolpeaa
set_option linter.unusedSimpArgs false
set_option linter.unusedVariables false
set_option maxRecDepth 100000
set_option maxHeartbeats 0
open Go.RowKit

def V3.times (a : V3) (n : Int) : V3 := ⟨mul16 a.x n, mul16 a.y n, mul16 a.z n⟩

end Go.Proofs.Ytimkhidniolpeaa

namespace Go.Proofs.Ytimkhidniolpeaa
set_option linter.unusedSimpArgs false
set_option linter.unusedVariables false
set_option maxRecDepth 100000
set_option maxHeartbeats 0

def IsRoot (W r : Nat) : Prop := r * r ≤ W ∧ W < (r + 1) * (r + 1)

theorem root_exists (W : Nat) : ∃ r, IsRoot W r := by
 induction W with
 | zero => exact ⟨0, by decide, by decide⟩
 | succ W ih =>
  obtain ⟨r, h1, h2⟩ := ih
  by_cases h : W + 1 < (r + 1) * (r + 1)
  · exact ⟨r, Nat.le_succ_of_le h1, h⟩
  · have h3 : (r + 1) * (r + 1) < (r + 1 + 1) * (r + 1 + 1) := Nat.mul_lt_mul_of_lt_of_lt (Nat.lt_succ_self _) (Nat.lt_succ_self _)
    exact ⟨r + 1, by omega, by omega⟩

theorem root_unique {W r s : Nat} (hr : IsRoot W r) (hs : IsRoot W s) : r = s := by
 rcases Nat.lt_trichotomy r s with h | h | h
 · have : (r + 1) * (r + 1) ≤ s * s := Nat.mul_le_mul h h
   have h1 := hr.2; have h2 := hs.1; omega
 · exact h
 · have : (s + 1) * (s + 1) ≤ r * r := Nat.mul_le_mul h h
   have h1 := hs.2; have h2 := hr.1; omega

noncomputable def rootN (W : Nat) : Nat := Classical.choose (root_exists W)
theorem rootN_spec (W : Nat) : IsRoot W (rootN W) := Classical.choose_spec (root_exists W)

def RootAt (W n t : Nat) : Prop := t ∣ n ∧ n * n ≤ W ∧ W < (n + t) * (n + t)

theorem RootAt.take {W n t : Nat} (h : RootAt W n (2 * t)) (hle : (n + t) * (n + t) ≤ W) : RootAt W (n + t) t := by
 obtain ⟨⟨c, hc⟩, h1, h2⟩ := h
 refine ⟨⟨2 * c + 1, ?_⟩, hle, ?_⟩
 · rw [hc, Nat.mul_add, Nat.mul_one, Nat.mul_comm 2 t, Nat.mul_assoc]
 · rw [Nat.add_assoc, ← Nat.two_mul]; exact h2

theorem RootAt.leave {W n t : Nat} (h : RootAt W n (2 * t)) (hgt : W < (n + t) * (n + t)) : RootAt W n t := by
 obtain ⟨⟨c, hc⟩, h1, h2⟩ := h
 exact ⟨⟨2 * c, by rw [hc, Nat.mul_comm 2 t, Nat.mul_assoc]⟩, h1, hgt⟩

theorem root_next {W n t k : Nat} (hk : k < 64) (ht : t = 2 ^ k) (h : RootAt W n t) : (t / 2 = 0 ∧ RootAt W n 1) ∨ ∃ j, j < 64 ∧ t / 2 = 2 ^ j ∧ RootAt W n (2 * (t / 2)) := by
 cases k with
 | zero => exact .inl ⟨by simp [ht], by rw [ht] at h; exact h⟩
 | succ j =>
  have e : t / 2 = 2 ^ j := by rw [ht, Nat.pow_succ]; omega
  have e2 : 2 * (t / 2) = t := by rw [e, ht, Nat.pow_succ]; omega
  exact .inr ⟨j, by omega, e, by rw [e2]; exact h⟩

theorem root_lt {W n t k : Nat} (hW : W < 340282366920938463463374607431768211456) (hk : k < 64) (ht : t = 2 ^ k) (h : RootAt W n (2 * t)) : n + t < 18446744073709551616 := by
 obtain ⟨⟨c, hc⟩, h1, _⟩ := h
 have hn : n < 18446744073709551616 := by
  by_cases hh : n < 18446744073709551616
  · exact hh
  · have := Nat.mul_le_mul (Nat.le_of_not_lt hh) (Nat.le_of_not_lt hh)
    omega
 have hd : 2 * t * 2 ^ (63 - k) = 18446744073709551616 := by
  rw [ht, Nat.mul_assoc, ← Nat.pow_add, show k + (63 - k) = 63 by omega]
 have htp : 0 < t := by rw [ht]; exact Nat.two_pow_pos k
 have hcd : c < 2 ^ (63 - k) := by
  by_cases hh : c < 2 ^ (63 - k)
  · exact hh
  · have := Nat.mul_le_mul_left (2 * t) (Nat.le_of_not_lt hh)
    omega
 have := Nat.mul_le_mul_left (2 * t) hcd
 rw [Nat.mul_succ] at this
 omega

theorem root_or {W n t k : Nat} (ht : t = 2 ^ k) (h : RootAt W n (2 * t)) : n ||| t = n + t := by
 obtain ⟨⟨c, hc⟩, _, _⟩ := h
 have e : n = 2 ^ (k + 1) * c := by rw [hc, ht, Nat.pow_succ, Nat.mul_comm 2]
 rw [e]
 exact (Nat.two_pow_add_eq_or_of_lt (by rw [ht, Nat.pow_succ]; have := Nat.two_pow_pos k; omega) c).symm

end Go.Proofs.Ytimkhidniolpeaa

namespace Go.Proofs.Ytimkhidniolpeaa
set_option linter.unusedSimpArgs false
set_option linter.unusedVariables false
set_option maxRecDepth 100000
set_option maxHeartbeats 0
open Go.RowKit

def RootRel (B : Nat) (w0 : World) (b1 : Nat) (W : Nat) (n bit : Value) (wr : World) : Prop :=
 ∃ N t : Nat, n = U N ∧ bit = U t ∧ ((t = 0 ∧ RootAt W N 1) ∨ (∃ k, k < 64 ∧ t = 2 ^ k ∧ RootAt W N (2 * t))) ∧ Own B w0 wr [⟨b1, Wide.cs W, 120⟩]

set_option maxHeartbeats 1000000 in
theorem root_any (W : Nat) (w : World) (hW : W < 340282366920938463463374607431768211456) : Calls Try.prog 70 #[Wide W] w (Ret w (U (rootN W))) := by
 refine calls_hide fun V HV => ?_
 have hR := Own.start w
 go_enter Try.func70, Try.ntmps70
 go_wp2_with (first
  | ((with_reducible apply is_list); (first
   | ((with_reducible refine own_skip ?_ ?_); (exact rfl))
   | (refine own_box (by rfl) (by rfl) (by simp [go_sem, V3.v, Pl.v, V3.cs, Pl.cs, layAt, Value.cells, Wide, Wide.cs] <;> rfl) ?_ hR; clear hR; intro _ _ hR)
   | (refine own_alloc (by rfl) (by rfl) (by first | exact zero_all _ _ rfl) ?_ hR; clear hR; intro _ _ hR)
   | (refine own_alloc1 (by rfl) (by rfl) (by first | exact zero_all _ _ rfl) (by simp [go_sem, V3.v, Pl.v, V3.cs, Pl.cs, layAt, Value.cells, Wide, Wide.cs] <;> rfl) ?_ hR; clear hR; intro _ _ hR)
   | (refine own_load_all (by rfl) (by rfl) (by rfl) (by first | exact agg_all _ _ rfl) (by repeat (first | exact .head _ | refine .tail _ ?_)) (by rfl) ?_ hR; clear hR; intro hR)
   | (refine own_load_agg (by rfl) (by rfl) (by rfl) (by first | exact agg_all _ _ rfl) (by repeat (first | exact .head _ | refine .tail _ ?_)) (by rfl) (by simp [go_sem, V3.v, Pl.v, V3.cs, Pl.cs, layAt, Value.cells, Wide, Wide.cs] <;> rfl) ?_ hR; clear hR; intro hR)
   | (refine own_load_one (by rfl) (by rfl) (by rfl) (by first | exact one_all _ rfl) (by repeat (first | exact .head _ | refine .tail _ ?_)) (by simp [go_sem, V3.v, Pl.v, V3.cs, Pl.cs, layAt, Value.cells, Wide, Wide.cs] <;> rfl) ?_ hR; clear hR; intro hR)
   | (refine own_store_all (by rfl) (by rfl) (by rfl) (by first | exact (agg_all _ _ rfl).size | exact (one_all _ rfl).size) (by rfl) (by rfl) (by rfl) (by repeat (first | exact .head _ | refine .tail _ ?_)) (by rfl) (by simp [go_sem, V3.v, Pl.v, V3.cs, Pl.cs, layAt, Value.cells, Wide, Wide.cs] <;> rfl) (by repeat (first | exact .here | apply Upd.there)) ?_ hR; clear hR; intro _ hR)
   | (refine own_store (by rfl) (by rfl) (by rfl) (by first | exact (agg_all _ _ rfl).size | exact (one_all _ rfl).size) (by rfl) (by rfl) (by rfl) (by repeat (first | exact .head _ | refine .tail _ ?_)) (by rfl) (by simp [go_sem, V3.v, Pl.v, V3.cs, Pl.cs, layAt, Value.cells, Wide, Wide.cs] <;> rfl) (by repeat (first | exact .here | apply Upd.there)) ?_ hR; clear hR; intro _ hR)
   | (refine own_max (by rfl) (by rfl) (by rfl) (by rfl) ?_)
   | (refine own_min (by rfl) (by rfl) (by rfl) (by rfl) ?_)); simp only [Act.put, List.setIfInBounds_toArray, List.set_cons_succ, List.set_cons_zero])
  )
 rename_i b1 w1 _ _
 have hR0 : Own w.heap.size w w1 [⟨b1, Wide.cs W, 120⟩] := hR
 clear hR
 go_loopw [2, 3] (fun n bit wr => RootRel w.heap.size w b1 W n bit wr) (fun _ bit _ => match bit with | .int _ z => z.toNat | _ => 0)
 case atStart => exact ⟨0, 9223372036854775808, U_zero.symm, by rw [U, nI_eq]; rfl, .inr ⟨63, by omega, by decide, ⟨Nat.dvd_zero _, Nat.zero_le _, by omega⟩⟩, hR0⟩
 case round =>
  obtain ⟨N, t, rfl, rfl, hNt, hR⟩ := hrel
  clear hR0
  rcases hNt with ⟨rfl, h⟩ | ⟨k, hk, ht, h⟩
  · have d0 : Hid (decide (0 < nI 0) = false) := Lib.hid (by rw [nI_eq]; rfl)
    have e : rootN W = N := root_unique (rootN_spec W) ⟨h.2.1, h.2.2⟩
    rw [e] at HV
    go_wp2_with (first
     | ((with_reducible apply is_list); repeat1' (first | rw [d0.out] | ((first
      | ((with_reducible refine own_skip ?_ ?_); (exact rfl))
      | (refine own_move (by rfl) (by rfl) (by simp only [Act.eval, Array.getD_eq_getD_getElem?, List.getElem?_toArray, List.getElem?_cons_zero, List.getElem?_cons_succ, Option.getD_some] <;> rfl) ?_)
      | (refine own_assign (by rfl) (by rfl) (by simp only [Act.eval, Array.getD_eq_getD_getElem?, List.getElem?_toArray, List.getElem?_cons_zero, List.getElem?_cons_succ, Option.getD_some] <;> rfl) ?_)
      | (refine own_box (by rfl) (by rfl) (by simp [go_sem, V3.v, Pl.v, V3.cs, Pl.cs, layAt, Value.cells, Wide, Wide.cs] <;> rfl) ?_ hR; clear hR; intro _ _ hR)
      | (refine own_alloc (by rfl) (by rfl) (by first | exact zero_all _ _ rfl) ?_ hR; clear hR; intro _ _ hR)
      | (refine own_alloc1 (by rfl) (by rfl) (by first | exact zero_all _ _ rfl) (by simp [go_sem, V3.v, Pl.v, V3.cs, Pl.cs, layAt, Value.cells, Wide, Wide.cs] <;> rfl) ?_ hR; clear hR; intro _ _ hR)
      | (refine own_load_all (by rfl) (by rfl) (by rfl) (by first | exact agg_all _ _ rfl) (by repeat (first | exact .head _ | refine .tail _ ?_)) (by rfl) ?_ hR; clear hR; intro hR)
      | (refine own_load_agg (by rfl) (by rfl) (by rfl) (by first | exact agg_all _ _ rfl) (by repeat (first | exact .head _ | refine .tail _ ?_)) (by rfl) (by simp [go_sem, V3.v, Pl.v, V3.cs, Pl.cs, layAt, Value.cells, Wide, Wide.cs] <;> rfl) ?_ hR; clear hR; intro hR)
      | (refine own_load_one (by rfl) (by rfl) (by rfl) (by first | exact one_all _ rfl) (by repeat (first | exact .head _ | refine .tail _ ?_)) (by simp [go_sem, V3.v, Pl.v, V3.cs, Pl.cs, layAt, Value.cells, Wide, Wide.cs] <;> rfl) ?_ hR; clear hR; intro hR)
      | (refine own_store_all (by rfl) (by rfl) (by rfl) (by first | exact (agg_all _ _ rfl).size | exact (one_all _ rfl).size) (by rfl) (by rfl) (by rfl) (by repeat (first | exact .head _ | refine .tail _ ?_)) (by rfl) (by simp [go_sem, V3.v, Pl.v, V3.cs, Pl.cs, layAt, Value.cells, Wide, Wide.cs] <;> rfl) (by repeat (first | exact .here | apply Upd.there)) ?_ hR; clear hR; intro _ hR)
      | (refine own_store (by rfl) (by rfl) (by rfl) (by first | exact (agg_all _ _ rfl).size | exact (one_all _ rfl).size) (by rfl) (by rfl) (by rfl) (by repeat (first | exact .head _ | refine .tail _ ?_)) (by rfl) (by simp [go_sem, V3.v, Pl.v, V3.cs, Pl.cs, layAt, Value.cells, Wide, Wide.cs] <;> rfl) (by repeat (first | exact .here | apply Upd.there)) ?_ hR; clear hR; intro _ hR)
      | (refine own_max (by rfl) (by rfl) (by rfl) (by rfl) ?_)
      | (refine own_min (by rfl) (by rfl) (by rfl) (by rfl) ?_)
      | (refine own_pure (by rfl) (by intro w; simp [go_sem, V3.v, Pl.v, V3.cs, Pl.cs, layAt, Value.cells, Wide, Wide.cs] <;> rfl) ?_)); simp only [Act.put, List.setIfInBounds_toArray, List.set_cons_succ, List.set_cons_zero]))))
    refine own_ret1 Try.results70 rfl (.tmp rfl) (fun hR => hR.ret ?_) hR
    rw [HV.out]
    rfl
  · have htp : 0 < t := by rw [ht]; exact Nat.two_pow_pos k
    have d0 : Hid (decide (0 < nI t) = true) := Lib.hid (by rw [nI_eq]; exact decide_eq_true (by omega))
    have hlt : N + t < 18446744073709551616 := root_lt hW hk ht h
    have hor : Hid (bits .or .u64 (nI N) (nI t) = nI (N + t)) := Lib.hid (by rw [nI_eq, nI_eq, nI_eq, bits_or_u64_nat N t (by omega) (by omega), root_or ht h])
    have es : nI t / 2 = nI (t / 2) := by rw [nI_eq, nI_eq]; omega
    have hm : (nI t / 2).toNat < (nI t).toNat := by rw [nI_eq]; omega
    generalize hcc : decide (W < (N + t) * (N + t)) = c
    have HC := Lib.hid hcc
    clear hcc
    go_wp2_with (first
     | ((with_reducible apply is_list); repeat1' (first | rw [d0.out] | ((first
      | ((with_reducible refine own_skip ?_ ?_); (exact rfl))
      | (refine own_move (by rfl) (by rfl) (by simp only [Act.eval, Array.getD_eq_getD_getElem?, List.getElem?_toArray, List.getElem?_cons_zero, List.getElem?_cons_succ, Option.getD_some] <;> rfl) ?_)
      | (refine own_assign (by rfl) (by rfl) (by simp only [Act.eval, Array.getD_eq_getD_getElem?, List.getElem?_toArray, List.getElem?_cons_zero, List.getElem?_cons_succ, Option.getD_some] <;> rfl) ?_)
      | (refine own_box (by rfl) (by rfl) (by simp [go_sem, V3.v, Pl.v, V3.cs, Pl.cs, layAt, Value.cells, Wide, Wide.cs] <;> rfl) ?_ hR; clear hR; intro _ _ hR)
      | (refine own_alloc (by rfl) (by rfl) (by first | exact zero_all _ _ rfl) ?_ hR; clear hR; intro _ _ hR)
      | (refine own_alloc1 (by rfl) (by rfl) (by first | exact zero_all _ _ rfl) (by simp [go_sem, V3.v, Pl.v, V3.cs, Pl.cs, layAt, Value.cells, Wide, Wide.cs] <;> rfl) ?_ hR; clear hR; intro _ _ hR)
      | (refine own_load_all (by rfl) (by rfl) (by rfl) (by first | exact agg_all _ _ rfl) (by repeat (first | exact .head _ | refine .tail _ ?_)) (by rfl) ?_ hR; clear hR; intro hR)
      | (refine own_load_agg (by rfl) (by rfl) (by rfl) (by first | exact agg_all _ _ rfl) (by repeat (first | exact .head _ | refine .tail _ ?_)) (by rfl) (by simp [go_sem, V3.v, Pl.v, V3.cs, Pl.cs, layAt, Value.cells, Wide, Wide.cs] <;> rfl) ?_ hR; clear hR; intro hR)
      | (refine own_load_one (by rfl) (by rfl) (by rfl) (by first | exact one_all _ rfl) (by repeat (first | exact .head _ | refine .tail _ ?_)) (by simp [go_sem, V3.v, Pl.v, V3.cs, Pl.cs, layAt, Value.cells, Wide, Wide.cs] <;> rfl) ?_ hR; clear hR; intro hR)
      | (refine own_store_all (by rfl) (by rfl) (by rfl) (by first | exact (agg_all _ _ rfl).size | exact (one_all _ rfl).size) (by rfl) (by rfl) (by rfl) (by repeat (first | exact .head _ | refine .tail _ ?_)) (by rfl) (by simp [go_sem, V3.v, Pl.v, V3.cs, Pl.cs, layAt, Value.cells, Wide, Wide.cs] <;> rfl) (by repeat (first | exact .here | apply Upd.there)) ?_ hR; clear hR; intro _ hR)
      | (refine own_store (by rfl) (by rfl) (by rfl) (by first | exact (agg_all _ _ rfl).size | exact (one_all _ rfl).size) (by rfl) (by rfl) (by rfl) (by repeat (first | exact .head _ | refine .tail _ ?_)) (by rfl) (by simp [go_sem, V3.v, Pl.v, V3.cs, Pl.cs, layAt, Value.cells, Wide, Wide.cs] <;> rfl) (by repeat (first | exact .here | apply Upd.there)) ?_ hR; clear hR; intro _ hR)
      | (refine own_max (by rfl) (by rfl) (by rfl) (by rfl) ?_)
      | (refine own_min (by rfl) (by rfl) (by rfl) (by rfl) ?_)
      | (refine own_pure (by rfl) (by intro w; simp [go_sem, V3.v, Pl.v, V3.cs, Pl.cs, layAt, Value.cells, Wide, Wide.cs] <;> rfl) ?_)); simp only [Act.put, List.setIfInBounds_toArray, List.set_cons_succ, List.set_cons_zero]))))
    refine oq_start (by kernel_rfl) (by kernel_rfl) ?_ hR
    repeat (first | rw [hor.out] | (first
     | (refine oq_skip (by rfl) ?_; simp only [Act.put, List.setIfInBounds_toArray, List.set_cons_succ, List.set_cons_zero])
     | (refine oq_move (by rfl) (by rfl) (by simp only [Act.eval, Array.getD_eq_getD_getElem?, List.getElem?_toArray, List.getElem?_cons_zero, List.getElem?_cons_succ, Option.getD_some] <;> rfl) ?_; simp only [Act.put, List.setIfInBounds_toArray, List.set_cons_succ, List.set_cons_zero])
     | (refine oq_assign (by rfl) (by rfl) (by simp only [Act.eval, Array.getD_eq_getD_getElem?, List.getElem?_toArray, List.getElem?_cons_zero, List.getElem?_cons_succ, Option.getD_some] <;> rfl) ?_; simp only [Act.put, List.setIfInBounds_toArray, List.set_cons_succ, List.set_cons_zero])
     | (refine oq_load_all (by rfl) (by rfl) (by rfl) (by first | exact agg_all _ _ rfl) (by repeat (first | exact .head _ | refine .tail _ ?_)) (by rfl) ?_; simp only [Act.put, List.setIfInBounds_toArray, List.set_cons_succ, List.set_cons_zero])
     | (refine oq_load_agg (by rfl) (by rfl) (by rfl) (by first | exact agg_all _ _ rfl) (by repeat (first | exact .head _ | refine .tail _ ?_)) (by rfl) (by simp [go_sem, V3.v, Pl.v, V3.cs, Pl.cs, layAt, Value.cells, Wide, Wide.cs] <;> rfl) ?_; simp only [Act.put, List.setIfInBounds_toArray, List.set_cons_succ, List.set_cons_zero])
     | (refine oq_load_one (by rfl) (by rfl) (by rfl) (by first | exact one_all _ rfl) (by repeat (first | exact .head _ | refine .tail _ ?_)) (by simp [go_sem, V3.v, Pl.v, V3.cs, Pl.cs, layAt, Value.cells, Wide, Wide.cs] <;> rfl) ?_; simp only [Act.put, List.setIfInBounds_toArray, List.set_cons_succ, List.set_cons_zero])
     | (refine oq_max (by rfl) (by rfl) (by rfl) (by rfl) ?_; simp only [Act.put, List.setIfInBounds_toArray, List.set_cons_succ, List.set_cons_zero])
     | (refine oq_min (by rfl) (by rfl) (by rfl) (by rfl) ?_; simp only [Act.put, List.setIfInBounds_toArray, List.set_cons_succ, List.set_cons_zero])
     | (refine oq_eql (by rfl) (by rfl) (by simp [go_sem, V3.v, Pl.v, V3.cs, Pl.cs, layAt, Value.cells, Wide, Wide.cs] <;> rfl) (by simp [go_sem, V3.v, Pl.v, V3.cs, Pl.cs, layAt, Value.cells, Wide, Wide.cs] <;> rfl) (by first | exact guard_vec | exact guard_pl | exact guard_b3) (by intro w; first | exact eqr_vec 9998 w _ _ _ | exact eqr_pl 9996 w _ _ _ _ _ _ _ _ _ _ _ _ _ _ _ | exact eqr_b3 9998 w _ _ _ | exact eqb_vec 9998 w _ _ _ _ _ _ | exact eqb_pl 9996 w _ _ _ _ _ _ _ _ _ _ _ _ _ _ _ _ _ _ _ _ _ _ _ _ _ _ _ _ _ _ | exact eqb_b3 9998 w _ _ _ _ _ _) ?_; simp only [Act.put, List.setIfInBounds_toArray, List.set_cons_succ, List.set_cons_zero])
     | (refine oq_neq (by rfl) (by rfl) (by simp [go_sem, V3.v, Pl.v, V3.cs, Pl.cs, layAt, Value.cells, Wide, Wide.cs] <;> rfl) (by simp [go_sem, V3.v, Pl.v, V3.cs, Pl.cs, layAt, Value.cells, Wide, Wide.cs] <;> rfl) (by first | exact guard_vec | exact guard_pl | exact guard_b3) (by intro w; first | exact eqr_vec 9998 w _ _ _ | exact eqr_pl 9996 w _ _ _ _ _ _ _ _ _ _ _ _ _ _ _ | exact eqr_b3 9998 w _ _ _ | exact eqb_vec 9998 w _ _ _ _ _ _ | exact eqb_pl 9996 w _ _ _ _ _ _ _ _ _ _ _ _ _ _ _ _ _ _ _ _ _ _ _ _ _ _ _ _ _ _ | exact eqb_b3 9998 w _ _ _ _ _ _) ?_; simp only [Act.put, List.setIfInBounds_toArray, List.set_cons_succ, List.set_cons_zero])
     | (refine oq_pure (by rfl) (by intro w; simp [go_sem, V3.v, Pl.v, V3.cs, Pl.cs, layAt, Value.cells, Wide, Wide.cs] <;> rfl) ?_; simp only [Act.put, List.setIfInBounds_toArray, List.set_cons_succ, List.set_cons_zero])))
    refine oq_call (by rfl) (by rfl) (fun w _ => product_any (N + t) (N + t) w hlt hlt) (by rfl) Try.func83 (by kernel_rfl) ?_; simp only [Act.put, List.setIfInBounds_toArray, List.set_cons_succ, List.set_cons_zero]
    repeat (first | rw [hor.out] | (first
     | (refine oq_skip (by rfl) ?_; simp only [Act.put, List.setIfInBounds_toArray, List.set_cons_succ, List.set_cons_zero])
     | (refine oq_move (by rfl) (by rfl) (by simp only [Act.eval, Array.getD_eq_getD_getElem?, List.getElem?_toArray, List.getElem?_cons_zero, List.getElem?_cons_succ, Option.getD_some] <;> rfl) ?_; simp only [Act.put, List.setIfInBounds_toArray, List.set_cons_succ, List.set_cons_zero])
     | (refine oq_assign (by rfl) (by rfl) (by simp only [Act.eval, Array.getD_eq_getD_getElem?, List.getElem?_toArray, List.getElem?_cons_zero, List.getElem?_cons_succ, Option.getD_some] <;> rfl) ?_; simp only [Act.put, List.setIfInBounds_toArray, List.set_cons_succ, List.set_cons_zero])
     | (refine oq_load_all (by rfl) (by rfl) (by rfl) (by first | exact agg_all _ _ rfl) (by repeat (first | exact .head _ | refine .tail _ ?_)) (by rfl) ?_; simp only [Act.put, List.setIfInBounds_toArray, List.set_cons_succ, List.set_cons_zero])
     | (refine oq_load_agg (by rfl) (by rfl) (by rfl) (by first | exact agg_all _ _ rfl) (by repeat (first | exact .head _ | refine .tail _ ?_)) (by rfl) (by simp [go_sem, V3.v, Pl.v, V3.cs, Pl.cs, layAt, Value.cells, Wide, Wide.cs] <;> rfl) ?_; simp only [Act.put, List.setIfInBounds_toArray, List.set_cons_succ, List.set_cons_zero])
     | (refine oq_load_one (by rfl) (by rfl) (by rfl) (by first | exact one_all _ rfl) (by repeat (first | exact .head _ | refine .tail _ ?_)) (by simp [go_sem, V3.v, Pl.v, V3.cs, Pl.cs, layAt, Value.cells, Wide, Wide.cs] <;> rfl) ?_; simp only [Act.put, List.setIfInBounds_toArray, List.set_cons_succ, List.set_cons_zero])
     | (refine oq_max (by rfl) (by rfl) (by rfl) (by rfl) ?_; simp only [Act.put, List.setIfInBounds_toArray, List.set_cons_succ, List.set_cons_zero])
     | (refine oq_min (by rfl) (by rfl) (by rfl) (by rfl) ?_; simp only [Act.put, List.setIfInBounds_toArray, List.set_cons_succ, List.set_cons_zero])
     | (refine oq_eql (by rfl) (by rfl) (by simp [go_sem, V3.v, Pl.v, V3.cs, Pl.cs, layAt, Value.cells, Wide, Wide.cs] <;> rfl) (by simp [go_sem, V3.v, Pl.v, V3.cs, Pl.cs, layAt, Value.cells, Wide, Wide.cs] <;> rfl) (by first | exact guard_vec | exact guard_pl | exact guard_b3) (by intro w; first | exact eqr_vec 9998 w _ _ _ | exact eqr_pl 9996 w _ _ _ _ _ _ _ _ _ _ _ _ _ _ _ | exact eqr_b3 9998 w _ _ _ | exact eqb_vec 9998 w _ _ _ _ _ _ | exact eqb_pl 9996 w _ _ _ _ _ _ _ _ _ _ _ _ _ _ _ _ _ _ _ _ _ _ _ _ _ _ _ _ _ _ | exact eqb_b3 9998 w _ _ _ _ _ _) ?_; simp only [Act.put, List.setIfInBounds_toArray, List.set_cons_succ, List.set_cons_zero])
     | (refine oq_neq (by rfl) (by rfl) (by simp [go_sem, V3.v, Pl.v, V3.cs, Pl.cs, layAt, Value.cells, Wide, Wide.cs] <;> rfl) (by simp [go_sem, V3.v, Pl.v, V3.cs, Pl.cs, layAt, Value.cells, Wide, Wide.cs] <;> rfl) (by first | exact guard_vec | exact guard_pl | exact guard_b3) (by intro w; first | exact eqr_vec 9998 w _ _ _ | exact eqr_pl 9996 w _ _ _ _ _ _ _ _ _ _ _ _ _ _ _ | exact eqr_b3 9998 w _ _ _ | exact eqb_vec 9998 w _ _ _ _ _ _ | exact eqb_pl 9996 w _ _ _ _ _ _ _ _ _ _ _ _ _ _ _ _ _ _ _ _ _ _ _ _ _ _ _ _ _ _ | exact eqb_b3 9998 w _ _ _ _ _ _) ?_; simp only [Act.put, List.setIfInBounds_toArray, List.set_cons_succ, List.set_cons_zero])
     | (refine oq_pure (by rfl) (by intro w; simp [go_sem, V3.v, Pl.v, V3.cs, Pl.cs, layAt, Value.cells, Wide, Wide.cs] <;> rfl) ?_; simp only [Act.put, List.setIfInBounds_toArray, List.set_cons_succ, List.set_cons_zero])))
    refine oq_call (by rfl) (by rfl) (fun w _ => above_any ((N + t) * (N + t)) W w) (by rfl) Try.func84 (by kernel_rfl) ?_; simp only [Act.put, List.setIfInBounds_toArray, List.set_cons_succ, List.set_cons_zero]
    rw [HC.out]
    repeat (first | rw [hor.out] | (first
     | (refine oq_skip (by rfl) ?_; simp only [Act.put, List.setIfInBounds_toArray, List.set_cons_succ, List.set_cons_zero])
     | (refine oq_move (by rfl) (by rfl) (by simp only [Act.eval, Array.getD_eq_getD_getElem?, List.getElem?_toArray, List.getElem?_cons_zero, List.getElem?_cons_succ, Option.getD_some] <;> rfl) ?_; simp only [Act.put, List.setIfInBounds_toArray, List.set_cons_succ, List.set_cons_zero])
     | (refine oq_assign (by rfl) (by rfl) (by simp only [Act.eval, Array.getD_eq_getD_getElem?, List.getElem?_toArray, List.getElem?_cons_zero, List.getElem?_cons_succ, Option.getD_some] <;> rfl) ?_; simp only [Act.put, List.setIfInBounds_toArray, List.set_cons_succ, List.set_cons_zero])
     | (refine oq_load_all (by rfl) (by rfl) (by rfl) (by first | exact agg_all _ _ rfl) (by repeat (first | exact .head _ | refine .tail _ ?_)) (by rfl) ?_; simp only [Act.put, List.setIfInBounds_toArray, List.set_cons_succ, List.set_cons_zero])
     | (refine oq_load_agg (by rfl) (by rfl) (by rfl) (by first | exact agg_all _ _ rfl) (by repeat (first | exact .head _ | refine .tail _ ?_)) (by rfl) (by simp [go_sem, V3.v, Pl.v, V3.cs, Pl.cs, layAt, Value.cells, Wide, Wide.cs] <;> rfl) ?_; simp only [Act.put, List.setIfInBounds_toArray, List.set_cons_succ, List.set_cons_zero])
     | (refine oq_load_one (by rfl) (by rfl) (by rfl) (by first | exact one_all _ rfl) (by repeat (first | exact .head _ | refine .tail _ ?_)) (by simp [go_sem, V3.v, Pl.v, V3.cs, Pl.cs, layAt, Value.cells, Wide, Wide.cs] <;> rfl) ?_; simp only [Act.put, List.setIfInBounds_toArray, List.set_cons_succ, List.set_cons_zero])
     | (refine oq_max (by rfl) (by rfl) (by rfl) (by rfl) ?_; simp only [Act.put, List.setIfInBounds_toArray, List.set_cons_succ, List.set_cons_zero])
     | (refine oq_min (by rfl) (by rfl) (by rfl) (by rfl) ?_; simp only [Act.put, List.setIfInBounds_toArray, List.set_cons_succ, List.set_cons_zero])
     | (refine oq_eql (by rfl) (by rfl) (by simp [go_sem, V3.v, Pl.v, V3.cs, Pl.cs, layAt, Value.cells, Wide, Wide.cs] <;> rfl) (by simp [go_sem, V3.v, Pl.v, V3.cs, Pl.cs, layAt, Value.cells, Wide, Wide.cs] <;> rfl) (by first | exact guard_vec | exact guard_pl | exact guard_b3) (by intro w; first | exact eqr_vec 9998 w _ _ _ | exact eqr_pl 9996 w _ _ _ _ _ _ _ _ _ _ _ _ _ _ _ | exact eqr_b3 9998 w _ _ _ | exact eqb_vec 9998 w _ _ _ _ _ _ | exact eqb_pl 9996 w _ _ _ _ _ _ _ _ _ _ _ _ _ _ _ _ _ _ _ _ _ _ _ _ _ _ _ _ _ _ | exact eqb_b3 9998 w _ _ _ _ _ _) ?_; simp only [Act.put, List.setIfInBounds_toArray, List.set_cons_succ, List.set_cons_zero])
     | (refine oq_neq (by rfl) (by rfl) (by simp [go_sem, V3.v, Pl.v, V3.cs, Pl.cs, layAt, Value.cells, Wide, Wide.cs] <;> rfl) (by simp [go_sem, V3.v, Pl.v, V3.cs, Pl.cs, layAt, Value.cells, Wide, Wide.cs] <;> rfl) (by first | exact guard_vec | exact guard_pl | exact guard_b3) (by intro w; first | exact eqr_vec 9998 w _ _ _ | exact eqr_pl 9996 w _ _ _ _ _ _ _ _ _ _ _ _ _ _ _ | exact eqr_b3 9998 w _ _ _ | exact eqb_vec 9998 w _ _ _ _ _ _ | exact eqb_pl 9996 w _ _ _ _ _ _ _ _ _ _ _ _ _ _ _ _ _ _ _ _ _ _ _ _ _ _ _ _ _ _ | exact eqb_b3 9998 w _ _ _ _ _ _) ?_; simp only [Act.put, List.setIfInBounds_toArray, List.set_cons_succ, List.set_cons_zero])
     | (refine oq_pure (by rfl) (by intro w; simp [go_sem, V3.v, Pl.v, V3.cs, Pl.cs, layAt, Value.cells, Wide, Wide.cs] <;> rfl) ?_; simp only [Act.put, List.setIfInBounds_toArray, List.set_cons_succ, List.set_cons_zero])))
    refine oq_end ?_; clear hR; intro _ hR
    cases c
    ·
     go_wp2_with (first
      | ((with_reducible apply is_list); repeat1' (first | rw [hor.out] | ((first
       | ((with_reducible refine own_skip ?_ ?_); (exact rfl))
       | (refine own_move (by rfl) (by rfl) (by simp only [Act.eval, Array.getD_eq_getD_getElem?, List.getElem?_toArray, List.getElem?_cons_zero, List.getElem?_cons_succ, Option.getD_some] <;> rfl) ?_)
       | (refine own_assign (by rfl) (by rfl) (by simp only [Act.eval, Array.getD_eq_getD_getElem?, List.getElem?_toArray, List.getElem?_cons_zero, List.getElem?_cons_succ, Option.getD_some] <;> rfl) ?_)
       | (refine own_box (by rfl) (by rfl) (by simp [go_sem, V3.v, Pl.v, V3.cs, Pl.cs, layAt, Value.cells, Wide, Wide.cs] <;> rfl) ?_ hR; clear hR; intro _ _ hR)
       | (refine own_alloc (by rfl) (by rfl) (by first | exact zero_all _ _ rfl) ?_ hR; clear hR; intro _ _ hR)
       | (refine own_alloc1 (by rfl) (by rfl) (by first | exact zero_all _ _ rfl) (by simp [go_sem, V3.v, Pl.v, V3.cs, Pl.cs, layAt, Value.cells, Wide, Wide.cs] <;> rfl) ?_ hR; clear hR; intro _ _ hR)
       | (refine own_load_all (by rfl) (by rfl) (by rfl) (by first | exact agg_all _ _ rfl) (by repeat (first | exact .head _ | refine .tail _ ?_)) (by rfl) ?_ hR; clear hR; intro hR)
       | (refine own_load_agg (by rfl) (by rfl) (by rfl) (by first | exact agg_all _ _ rfl) (by repeat (first | exact .head _ | refine .tail _ ?_)) (by rfl) (by simp [go_sem, V3.v, Pl.v, V3.cs, Pl.cs, layAt, Value.cells, Wide, Wide.cs] <;> rfl) ?_ hR; clear hR; intro hR)
       | (refine own_load_one (by rfl) (by rfl) (by rfl) (by first | exact one_all _ rfl) (by repeat (first | exact .head _ | refine .tail _ ?_)) (by simp [go_sem, V3.v, Pl.v, V3.cs, Pl.cs, layAt, Value.cells, Wide, Wide.cs] <;> rfl) ?_ hR; clear hR; intro hR)
       | (refine own_store_all (by rfl) (by rfl) (by rfl) (by first | exact (agg_all _ _ rfl).size | exact (one_all _ rfl).size) (by rfl) (by rfl) (by rfl) (by repeat (first | exact .head _ | refine .tail _ ?_)) (by rfl) (by simp [go_sem, V3.v, Pl.v, V3.cs, Pl.cs, layAt, Value.cells, Wide, Wide.cs] <;> rfl) (by repeat (first | exact .here | apply Upd.there)) ?_ hR; clear hR; intro _ hR)
       | (refine own_store (by rfl) (by rfl) (by rfl) (by first | exact (agg_all _ _ rfl).size | exact (one_all _ rfl).size) (by rfl) (by rfl) (by rfl) (by repeat (first | exact .head _ | refine .tail _ ?_)) (by rfl) (by simp [go_sem, V3.v, Pl.v, V3.cs, Pl.cs, layAt, Value.cells, Wide, Wide.cs] <;> rfl) (by repeat (first | exact .here | apply Upd.there)) ?_ hR; clear hR; intro _ hR)
       | (refine own_max (by rfl) (by rfl) (by rfl) (by rfl) ?_)
       | (refine own_min (by rfl) (by rfl) (by rfl) (by rfl) ?_)
       | (refine own_pure (by rfl) (by intro w; simp [go_sem, V3.v, Pl.v, V3.cs, Pl.cs, layAt, Value.cells, Wide, Wide.cs] <;> rfl) ?_)); simp only [Act.put, List.setIfInBounds_toArray, List.set_cons_succ, List.set_cons_zero]))))
     go_roundw
     case rel => exact ⟨N + t, t / 2, rfl, by rw [es], root_next hk ht (h.take (Nat.le_of_not_lt (of_decide_eq_false HC.out))), hR⟩
     case measure => exact hm
    ·
     go_wp2_with (first
      | ((with_reducible apply is_list); repeat1' (first | rw [hor.out] | ((first
       | ((with_reducible refine own_skip ?_ ?_); (exact rfl))
       | (refine own_move (by rfl) (by rfl) (by simp only [Act.eval, Array.getD_eq_getD_getElem?, List.getElem?_toArray, List.getElem?_cons_zero, List.getElem?_cons_succ, Option.getD_some] <;> rfl) ?_)
       | (refine own_assign (by rfl) (by rfl) (by simp only [Act.eval, Array.getD_eq_getD_getElem?, List.getElem?_toArray, List.getElem?_cons_zero, List.getElem?_cons_succ, Option.getD_some] <;> rfl) ?_)
       | (refine own_box (by rfl) (by rfl) (by simp [go_sem, V3.v, Pl.v, V3.cs, Pl.cs, layAt, Value.cells, Wide, Wide.cs] <;> rfl) ?_ hR; clear hR; intro _ _ hR)
       | (refine own_alloc (by rfl) (by rfl) (by first | exact zero_all _ _ rfl) ?_ hR; clear hR; intro _ _ hR)
       | (refine own_alloc1 (by rfl) (by rfl) (by first | exact zero_all _ _ rfl) (by simp [go_sem, V3.v, Pl.v, V3.cs, Pl.cs, layAt, Value.cells, Wide, Wide.cs] <;> rfl) ?_ hR; clear hR; intro _ _ hR)
       | (refine own_load_all (by rfl) (by rfl) (by rfl) (by first | exact agg_all _ _ rfl) (by repeat (first | exact .head _ | refine .tail _ ?_)) (by rfl) ?_ hR; clear hR; intro hR)
       | (refine own_load_agg (by rfl) (by rfl) (by rfl) (by first | exact agg_all _ _ rfl) (by repeat (first | exact .head _ | refine .tail _ ?_)) (by rfl) (by simp [go_sem, V3.v, Pl.v, V3.cs, Pl.cs, layAt, Value.cells, Wide, Wide.cs] <;> rfl) ?_ hR; clear hR; intro hR)
       | (refine own_load_one (by rfl) (by rfl) (by rfl) (by first | exact one_all _ rfl) (by repeat (first | exact .head _ | refine .tail _ ?_)) (by simp [go_sem, V3.v, Pl.v, V3.cs, Pl.cs, layAt, Value.cells, Wide, Wide.cs] <;> rfl) ?_ hR; clear hR; intro hR)
       | (refine own_store_all (by rfl) (by rfl) (by rfl) (by first | exact (agg_all _ _ rfl).size | exact (one_all _ rfl).size) (by rfl) (by rfl) (by rfl) (by repeat (first | exact .head _ | refine .tail _ ?_)) (by rfl) (by simp [go_sem, V3.v, Pl.v, V3.cs, Pl.cs, layAt, Value.cells, Wide, Wide.cs] <;> rfl) (by repeat (first | exact .here | apply Upd.there)) ?_ hR; clear hR; intro _ hR)
       | (refine own_store (by rfl) (by rfl) (by rfl) (by first | exact (agg_all _ _ rfl).size | exact (one_all _ rfl).size) (by rfl) (by rfl) (by rfl) (by repeat (first | exact .head _ | refine .tail _ ?_)) (by rfl) (by simp [go_sem, V3.v, Pl.v, V3.cs, Pl.cs, layAt, Value.cells, Wide, Wide.cs] <;> rfl) (by repeat (first | exact .here | apply Upd.there)) ?_ hR; clear hR; intro _ hR)
       | (refine own_max (by rfl) (by rfl) (by rfl) (by rfl) ?_)
       | (refine own_min (by rfl) (by rfl) (by rfl) (by rfl) ?_)
       | (refine own_pure (by rfl) (by intro w; simp [go_sem, V3.v, Pl.v, V3.cs, Pl.cs, layAt, Value.cells, Wide, Wide.cs] <;> rfl) ?_)); simp only [Act.put, List.setIfInBounds_toArray, List.set_cons_succ, List.set_cons_zero]))))
     go_roundw
     case rel => exact ⟨N, t / 2, rfl, by rw [es], root_next hk ht (h.leave (of_decide_eq_true HC.out)), hR⟩
     case measure => exact hm

end Go.Proofs.Ytimkhidniolpeaa

namespace Go.Proofs.Ytimkhidniolpeaa
set_option linter.unusedSimpArgs false
set_option linter.unusedVariables false
set_option maxRecDepth 100000
set_option maxHeartbeats 0
open Go.RowKit

theorem U_one16 : U 65536 = .int .u64 65536 := by rw [U, nI_eq]; rfl

theorem product_one (m : Nat) (w : World) (hm : m < 18446744073709551616) : Calls Try.prog 83 #[U m, .int .u64 65536] w (Ret w (Wide (m * 65536))) := by
 rw [← U_one16]
 exact product_any m 65536 w hm (by omega)

theorem rootN_lt {W b : Nat} (h : W < b * b) : rootN W < b := by
 have h1 := (rootN_spec W).1
 by_cases hh : rootN W < b
 · exact hh
 · have := Nat.mul_le_mul (Nat.le_of_not_lt hh) (Nat.le_of_not_lt hh)
   omega

end Go.Proofs.Ytimkhidniolpeaa
