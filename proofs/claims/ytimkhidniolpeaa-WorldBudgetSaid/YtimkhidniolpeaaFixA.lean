/- Package fix's numbers of 128 bits: contracts. A number is a Nat; its two words are 'hi', 'lo'. -/
import Derived.Test.YtimkhidniolpeaaOwn2
import Derived.Test.YtimkhidniolpeaaTypes
import Derived.Test.YtimkhidniolpeaaOpen
import Derived.Shelf.Spec.BitsCarry
import Derived.Lib.Mul64
import Derived.Laws.Bits64b
namespace Go.Proofs.Ytimkhidniolpeaa
set_option linter.unusedSimpArgs false
set_option linter.unusedVariables false
set_option maxRecDepth 100000
set_option maxHeartbeats 0
open Go.RowKit

def nI (n : Nat) : Int := (n : Int)
theorem nI_eq (n : Nat) : nI n = (n : Int) := rfl
theorem nI_nonneg (n : Nat) : 0 ≤ nI n := Int.natCast_nonneg n
theorem nI_lt {n m : Nat} (h : n < m) : nI n < (m : Int) := Int.ofNat_lt.2 h
attribute [irreducible] nI
abbrev U (n : Nat) : Value := .int .u64 (nI n)
theorem U_zero : U 0 = .int .u64 0 := by rw [U, nI_eq]; rfl
def Wide.cs (n : Nat) : Array Value := #[.int .u64 (nI (n / 18446744073709551616)), .int .u64 (nI (n % 18446744073709551616))]
def Wide (n : Nat) : Value := .agg (Wide.cs n)

theorem Wide_of {n a b : Nat} (ha : a = n / 18446744073709551616) (hb : b = n % 18446744073709551616) : (Value.agg #[.int .u64 (nI a), .int .u64 (nI b)]) = Wide n := by
 subst ha hb; rfl

theorem add64_n (x y c : Nat) (hc : c ≤ 1) (w : World) : (callFunc 89 #[U x, U y, U c]).run Try.prog w =
    .ok (.value (.tuple #[U ((x + y + c) % 18446744073709551616), U ((x + y + c) / 18446744073709551616)])) w := by
 simp only [U, nI_eq]
 rw [run_callFunc_extern Try.func89 (by kernel_rfl) (by kernel_rfl) (by kernel_rfl) (e := add64Entry) (by kernel_rfl), run_add64 x y c (by omega) (by omega) (by omega) (by omega)]
 simp only [Result.andThen]
 congr 5 <;> omega

theorem add64_0 (x y : Nat) (w : World) : (callFunc 89 #[U x, U y, .int .u64 0]).run Try.prog w =
    .ok (.value (.tuple #[U ((x + y) % 18446744073709551616), U ((x + y) / 18446744073709551616)])) w := by
 have h := add64_n x y 0 (by omega) w
 rw [U_zero] at h
 exact h

namespace Mul64
theorem maskN (a : Nat) (ha : a < 18446744073709551616) : bits .and .u64 (a : Int) 4294967295 = ((a % 4294967296 : Nat) : Int) := by
 have h := bits_and_u64_nat a 4294967295 ha (by omega)
 have e : a &&& 4294967295 = a % 4294967296 := Nat.and_two_pow_sub_one_eq_mod a 32
 rw [e] at h
 exact h
theorem divN (a : Nat) : (a : Int) / 4294967296 = ((a / 4294967296 : Nat) : Int) := by omega
theorem mulN (a b : Nat) : (a : Int) * (b : Int) = ((a * b : Nat) : Int) := (Int.natCast_mul a b).symm
theorem addN (a b : Nat) : (a : Int) + (b : Int) = ((a + b : Nat) : Int) := (Int.natCast_add a b).symm
theorem wrapN (a : Nat) (ha : a < 18446744073709551616) : IntKind.u64.wrap (a : Int) = (a : Int) := by rw [IntKind.wrap_u64]; omega
theorem wrapM (a : Nat) : IntKind.u64.wrap (a : Int) = ((a % 18446744073709551616 : Nat) : Int) := by rw [IntKind.wrap_u64]; omega
end Mul64

set_option maxHeartbeats 1000000 in
theorem mul64_n (x y : Nat) (hx : x < 18446744073709551616) (hy : y < 18446744073709551616) (w : World) :
    Calls Try.prog 90 #[U x, U y] w (Ret w (.tuple #[U (x * y / 18446744073709551616), U (x * y % 18446744073709551616)])) := by
 simp only [U, nI_eq]
 obtain ⟨bd, bt, bw, hhi⟩ := Lib.mul64_hi x y hx hy
 have ba := Lib.half_mul_le (a := x / 4294967296) (b := y / 4294967296) (by omega) (by omega)
 have bb := Lib.half_mul_le (a := x / 4294967296) (b := y % 4294967296) (by omega) (by omega)
 have bc := Lib.half_mul_le (a := x % 4294967296) (b := y / 4294967296) (by omega) (by omega)
 have ba' : x / 4294967296 * (y / 4294967296) < 18446744073709551616 := by omega
 have bb' : x / 4294967296 * (y % 4294967296) < 18446744073709551616 := by omega
 have bc' : x % 4294967296 * (y / 4294967296) < 18446744073709551616 := by omega
 have bh1 : x / 4294967296 * (y / 4294967296) + (x / 4294967296 * (y % 4294967296) + x % 4294967296 * (y % 4294967296) / 4294967296) / 4294967296 < 18446744073709551616 := by omega
 have bh : x / 4294967296 * (y / 4294967296) + (x / 4294967296 * (y % 4294967296) + x % 4294967296 * (y % 4294967296) / 4294967296) / 4294967296 + ((x / 4294967296 * (y % 4294967296) + x % 4294967296 * (y % 4294967296) / 4294967296) % 4294967296 + x % 4294967296 * (y / 4294967296)) / 4294967296 < 18446744073709551616 := by omega
 go_enter Try.func90, Try.ntmps90
 go_wp2
 simp only [Mul64.maskN x hx, Mul64.maskN y hy, Mul64.divN, Mul64.mulN, Mul64.addN, Mul64.wrapN _ bd, Mul64.wrapN _ bb', Mul64.wrapN _ bt, Mul64.maskN _ bt, Mul64.wrapN _ bc', Mul64.wrapN _ bw, Mul64.wrapN _ ba', Mul64.wrapN _ bh1, Mul64.wrapN _ bh, Mul64.wrapM (x * y)]
 rw [hhi]
 go_ret2
 exact ⟨rfl, Below.refl _ _⟩

set_option maxHeartbeats 1000000 in
theorem size_any (a : Int) (w : World) (h : In64 a) : Calls Try.prog 80 #[I a] w (Ret w (U a.natAbs)) := by
 unfold In64 at h
 refine calls_hide fun V HV => ?_
 have hR := Own.start w
 go_enter Try.func80, Try.ntmps80
 go_wp2_with (first
  | ((with_reducible apply is_list); (first
   | (refine own_box (by rfl) (by rfl) (by simp [go_sem, V3.v, Pl.v, V3.cs, Pl.cs, layAt, Value.cells, Wide, Wide.cs] <;> rfl) ?_ hR; clear hR; intro _ _ hR)
   | (refine own_alloc (by rfl) (by rfl) (by first | exact zero_all _ _ rfl) ?_ hR; clear hR; intro _ _ hR)
   | (refine own_alloc1 (by rfl) (by rfl) (by first | exact zero_all _ _ rfl) (by simp [go_sem, V3.v, Pl.v, V3.cs, Pl.cs, layAt, Value.cells, Wide, Wide.cs] <;> rfl) ?_ hR; clear hR; intro _ _ hR)
   | (refine own_load_all (by rfl) (by rfl) (by rfl) (by first | exact agg_all _ _ rfl) (by repeat (first | exact .head _ | refine .tail _ ?_)) (by rfl) ?_ hR; clear hR; intro hR)
   | (refine own_load_agg (by rfl) (by rfl) (by rfl) (by first | exact agg_all _ _ rfl) (by repeat (first | exact .head _ | refine .tail _ ?_)) (by rfl) (by simp [go_sem, V3.v, Pl.v, V3.cs, Pl.cs, layAt, Value.cells, Wide, Wide.cs] <;> rfl) ?_ hR; clear hR; intro hR)
   | (refine own_load_one (by rfl) (by rfl) (by rfl) (by first | exact one_all _ rfl) (by repeat (first | exact .head _ | refine .tail _ ?_)) (by simp [go_sem, V3.v, Pl.v, V3.cs, Pl.cs, layAt, Value.cells, Wide, Wide.cs] <;> rfl) ?_ hR; clear hR; intro hR)
   | (refine own_store_all (by rfl) (by rfl) (by rfl) (by first | exact (agg_all _ _ rfl).size | exact (one_all _ rfl).size) (by rfl) (by rfl) (by rfl) (by repeat (first | exact .head _ | refine .tail _ ?_)) (by rfl) (by simp [go_sem, V3.v, Pl.v, V3.cs, Pl.cs, layAt, Value.cells, Wide, Wide.cs] <;> rfl) (by repeat (first | exact .here | apply Upd.there)) ?_ hR; clear hR; intro _ hR)
   | (refine own_store (by rfl) (by rfl) (by rfl) (by first | exact (agg_all _ _ rfl).size | exact (one_all _ rfl).size) (by rfl) (by rfl) (by rfl) (by repeat (first | exact .head _ | refine .tail _ ?_)) (by rfl) (by simp [go_sem, V3.v, Pl.v, V3.cs, Pl.cs, layAt, Value.cells, Wide, Wide.cs] <;> rfl) (by repeat (first | exact .here | apply Upd.there)) ?_ hR; clear hR; intro _ hR)
   | (refine own_max (by rfl) (by rfl) (by rfl) (by rfl) ?_)
   | (refine own_min (by rfl) (by rfl) (by rfl) (by rfl) ?_)
   | (refine own_eql (by rfl) (by rfl) (by simp [go_sem, V3.v, Pl.v, V3.cs, Pl.cs, layAt, Value.cells, Wide, Wide.cs] <;> rfl) (by simp [go_sem, V3.v, Pl.v, V3.cs, Pl.cs, layAt, Value.cells, Wide, Wide.cs] <;> rfl) (by first | exact guard_vec | exact guard_pl | exact guard_b3) (by intro w; first | exact eqr_vec 9998 w _ _ _ | exact eqr_pl 9996 w _ _ _ _ _ _ _ _ _ _ _ _ _ _ _ | exact eqr_b3 9998 w _ _ _ | exact eqb_vec 9998 w _ _ _ _ _ _ | exact eqb_pl 9996 w _ _ _ _ _ _ _ _ _ _ _ _ _ _ _ _ _ _ _ _ _ _ _ _ _ _ _ _ _ _ | exact eqb_b3 9998 w _ _ _ _ _ _) ?_)
   | (refine own_neq (by rfl) (by rfl) (by simp [go_sem, V3.v, Pl.v, V3.cs, Pl.cs, layAt, Value.cells, Wide, Wide.cs] <;> rfl) (by simp [go_sem, V3.v, Pl.v, V3.cs, Pl.cs, layAt, Value.cells, Wide, Wide.cs] <;> rfl) (by first | exact guard_vec | exact guard_pl | exact guard_b3) (by intro w; first | exact eqr_vec 9998 w _ _ _ | exact eqr_pl 9996 w _ _ _ _ _ _ _ _ _ _ _ _ _ _ _ | exact eqr_b3 9998 w _ _ _ | exact eqb_vec 9998 w _ _ _ _ _ _ | exact eqb_pl 9996 w _ _ _ _ _ _ _ _ _ _ _ _ _ _ _ _ _ _ _ _ _ _ _ _ _ _ _ _ _ _ | exact eqb_b3 9998 w _ _ _ _ _ _) ?_)); simp only [Act.put, List.setIfInBounds_toArray, List.set_cons_succ, List.set_cons_zero])
  )
 ·
  refine own_ret1 Try.results80 rfl (.tmp rfl) (fun hR => hR.ret ?_) hR
  rw [HV.out]
  show Ending.returned (Value.int .u64 (IntKind.u64.wrap (-IntKind.u64.wrap a))) = Ending.returned (U a.natAbs)
  have e : IntKind.u64.wrap (-IntKind.u64.wrap a) = nI a.natAbs := by rw [nI_eq, IntKind.wrap_u64, IntKind.wrap_u64]; omega
  rw [e]
 ·
  refine own_ret1 Try.results80 rfl (.tmp rfl) (fun hR => hR.ret ?_) hR
  rw [HV.out]
  show Ending.returned (Value.int .u64 a) = Ending.returned (U a.natAbs)
  have e : a = nI a.natAbs := by rw [nI_eq]; omega
  exact congrArg (fun z => Ending.returned (Value.int .u64 z)) e

set_option maxHeartbeats 1000000 in
theorem product_any (x y : Nat) (w : World) (hx : x < 18446744073709551616) (hy : y < 18446744073709551616) : Calls Try.prog 83 #[U x, U y] w (Ret w (Wide (x * y))) := by
 refine calls_hide fun V HV => ?_
 have hR := Own.start w
 go_enter Try.func83, Try.ntmps83
 go_wp2_with (first
  | ((with_reducible apply is_list); (first
   | (refine own_box (by rfl) (by rfl) (by simp [go_sem, V3.v, Pl.v, V3.cs, Pl.cs, layAt, Value.cells, Wide, Wide.cs] <;> rfl) ?_ hR; clear hR; intro _ _ hR)
   | (refine own_alloc (by rfl) (by rfl) (by first | exact zero_all _ _ rfl) ?_ hR; clear hR; intro _ _ hR)
   | (refine own_alloc1 (by rfl) (by rfl) (by first | exact zero_all _ _ rfl) (by simp [go_sem, V3.v, Pl.v, V3.cs, Pl.cs, layAt, Value.cells, Wide, Wide.cs] <;> rfl) ?_ hR; clear hR; intro _ _ hR)
   | (refine own_load_all (by rfl) (by rfl) (by rfl) (by first | exact agg_all _ _ rfl) (by repeat (first | exact .head _ | refine .tail _ ?_)) (by rfl) ?_ hR; clear hR; intro hR)
   | (refine own_load_agg (by rfl) (by rfl) (by rfl) (by first | exact agg_all _ _ rfl) (by repeat (first | exact .head _ | refine .tail _ ?_)) (by rfl) (by simp [go_sem, V3.v, Pl.v, V3.cs, Pl.cs, layAt, Value.cells, Wide, Wide.cs] <;> rfl) ?_ hR; clear hR; intro hR)
   | (refine own_load_one (by rfl) (by rfl) (by rfl) (by first | exact one_all _ rfl) (by repeat (first | exact .head _ | refine .tail _ ?_)) (by simp [go_sem, V3.v, Pl.v, V3.cs, Pl.cs, layAt, Value.cells, Wide, Wide.cs] <;> rfl) ?_ hR; clear hR; intro hR)
   | (refine own_store_all (by rfl) (by rfl) (by rfl) (by first | exact (agg_all _ _ rfl).size | exact (one_all _ rfl).size) (by rfl) (by rfl) (by rfl) (by repeat (first | exact .head _ | refine .tail _ ?_)) (by rfl) (by simp [go_sem, V3.v, Pl.v, V3.cs, Pl.cs, layAt, Value.cells, Wide, Wide.cs] <;> rfl) (by repeat (first | exact .here | apply Upd.there)) ?_ hR; clear hR; intro _ hR)
   | (refine own_store (by rfl) (by rfl) (by rfl) (by first | exact (agg_all _ _ rfl).size | exact (one_all _ rfl).size) (by rfl) (by rfl) (by rfl) (by repeat (first | exact .head _ | refine .tail _ ?_)) (by rfl) (by simp [go_sem, V3.v, Pl.v, V3.cs, Pl.cs, layAt, Value.cells, Wide, Wide.cs] <;> rfl) (by repeat (first | exact .here | apply Upd.there)) ?_ hR; clear hR; intro _ hR)
   | (refine own_max (by rfl) (by rfl) (by rfl) (by rfl) ?_)
   | (refine own_min (by rfl) (by rfl) (by rfl) (by rfl) ?_)
   | (refine own_eql (by rfl) (by rfl) (by simp [go_sem, V3.v, Pl.v, V3.cs, Pl.cs, layAt, Value.cells, Wide, Wide.cs] <;> rfl) (by simp [go_sem, V3.v, Pl.v, V3.cs, Pl.cs, layAt, Value.cells, Wide, Wide.cs] <;> rfl) (by first | exact guard_vec | exact guard_pl | exact guard_b3) (by intro w; first | exact eqr_vec 9998 w _ _ _ | exact eqr_pl 9996 w _ _ _ _ _ _ _ _ _ _ _ _ _ _ _ | exact eqr_b3 9998 w _ _ _ | exact eqb_vec 9998 w _ _ _ _ _ _ | exact eqb_pl 9996 w _ _ _ _ _ _ _ _ _ _ _ _ _ _ _ _ _ _ _ _ _ _ _ _ _ _ _ _ _ _ | exact eqb_b3 9998 w _ _ _ _ _ _) ?_)
   | (refine own_neq (by rfl) (by rfl) (by simp [go_sem, V3.v, Pl.v, V3.cs, Pl.cs, layAt, Value.cells, Wide, Wide.cs] <;> rfl) (by simp [go_sem, V3.v, Pl.v, V3.cs, Pl.cs, layAt, Value.cells, Wide, Wide.cs] <;> rfl) (by first | exact guard_vec | exact guard_pl | exact guard_b3) (by intro w; first | exact eqr_vec 9998 w _ _ _ | exact eqr_pl 9996 w _ _ _ _ _ _ _ _ _ _ _ _ _ _ _ | exact eqr_b3 9998 w _ _ _ | exact eqb_vec 9998 w _ _ _ _ _ _ | exact eqb_pl 9996 w _ _ _ _ _ _ _ _ _ _ _ _ _ _ _ _ _ _ _ _ _ _ _ _ _ _ _ _ _ _ | exact eqb_b3 9998 w _ _ _ _ _ _) ?_)); simp only [Act.put, List.setIfInBounds_toArray, List.set_cons_succ, List.set_cons_zero])
  )
 refine own_call (mul64_n x y hx hy _) ?_ hR; clear hR; intro _ hR
 go_wp2_with (first
  | ((with_reducible apply is_list); (first
   | (refine own_box (by rfl) (by rfl) (by simp [go_sem, V3.v, Pl.v, V3.cs, Pl.cs, layAt, Value.cells, Wide, Wide.cs] <;> rfl) ?_ hR; clear hR; intro _ _ hR)
   | (refine own_alloc (by rfl) (by rfl) (by first | exact zero_all _ _ rfl) ?_ hR; clear hR; intro _ _ hR)
   | (refine own_alloc1 (by rfl) (by rfl) (by first | exact zero_all _ _ rfl) (by simp [go_sem, V3.v, Pl.v, V3.cs, Pl.cs, layAt, Value.cells, Wide, Wide.cs] <;> rfl) ?_ hR; clear hR; intro _ _ hR)
   | (refine own_load_all (by rfl) (by rfl) (by rfl) (by first | exact agg_all _ _ rfl) (by repeat (first | exact .head _ | refine .tail _ ?_)) (by rfl) ?_ hR; clear hR; intro hR)
   | (refine own_load_agg (by rfl) (by rfl) (by rfl) (by first | exact agg_all _ _ rfl) (by repeat (first | exact .head _ | refine .tail _ ?_)) (by rfl) (by simp [go_sem, V3.v, Pl.v, V3.cs, Pl.cs, layAt, Value.cells, Wide, Wide.cs] <;> rfl) ?_ hR; clear hR; intro hR)
   | (refine own_load_one (by rfl) (by rfl) (by rfl) (by first | exact one_all _ rfl) (by repeat (first | exact .head _ | refine .tail _ ?_)) (by simp [go_sem, V3.v, Pl.v, V3.cs, Pl.cs, layAt, Value.cells, Wide, Wide.cs] <;> rfl) ?_ hR; clear hR; intro hR)
   | (refine own_store_all (by rfl) (by rfl) (by rfl) (by first | exact (agg_all _ _ rfl).size | exact (one_all _ rfl).size) (by rfl) (by rfl) (by rfl) (by repeat (first | exact .head _ | refine .tail _ ?_)) (by rfl) (by simp [go_sem, V3.v, Pl.v, V3.cs, Pl.cs, layAt, Value.cells, Wide, Wide.cs] <;> rfl) (by repeat (first | exact .here | apply Upd.there)) ?_ hR; clear hR; intro _ hR)
   | (refine own_store (by rfl) (by rfl) (by rfl) (by first | exact (agg_all _ _ rfl).size | exact (one_all _ rfl).size) (by rfl) (by rfl) (by rfl) (by repeat (first | exact .head _ | refine .tail _ ?_)) (by rfl) (by simp [go_sem, V3.v, Pl.v, V3.cs, Pl.cs, layAt, Value.cells, Wide, Wide.cs] <;> rfl) (by repeat (first | exact .here | apply Upd.there)) ?_ hR; clear hR; intro _ hR)
   | (refine own_max (by rfl) (by rfl) (by rfl) (by rfl) ?_)
   | (refine own_min (by rfl) (by rfl) (by rfl) (by rfl) ?_)
   | (refine own_eql (by rfl) (by rfl) (by simp [go_sem, V3.v, Pl.v, V3.cs, Pl.cs, layAt, Value.cells, Wide, Wide.cs] <;> rfl) (by simp [go_sem, V3.v, Pl.v, V3.cs, Pl.cs, layAt, Value.cells, Wide, Wide.cs] <;> rfl) (by first | exact guard_vec | exact guard_pl | exact guard_b3) (by intro w; first | exact eqr_vec 9998 w _ _ _ | exact eqr_pl 9996 w _ _ _ _ _ _ _ _ _ _ _ _ _ _ _ | exact eqr_b3 9998 w _ _ _ | exact eqb_vec 9998 w _ _ _ _ _ _ | exact eqb_pl 9996 w _ _ _ _ _ _ _ _ _ _ _ _ _ _ _ _ _ _ _ _ _ _ _ _ _ _ _ _ _ _ | exact eqb_b3 9998 w _ _ _ _ _ _) ?_)
   | (refine own_neq (by rfl) (by rfl) (by simp [go_sem, V3.v, Pl.v, V3.cs, Pl.cs, layAt, Value.cells, Wide, Wide.cs] <;> rfl) (by simp [go_sem, V3.v, Pl.v, V3.cs, Pl.cs, layAt, Value.cells, Wide, Wide.cs] <;> rfl) (by first | exact guard_vec | exact guard_pl | exact guard_b3) (by intro w; first | exact eqr_vec 9998 w _ _ _ | exact eqr_pl 9996 w _ _ _ _ _ _ _ _ _ _ _ _ _ _ _ | exact eqr_b3 9998 w _ _ _ | exact eqb_vec 9998 w _ _ _ _ _ _ | exact eqb_pl 9996 w _ _ _ _ _ _ _ _ _ _ _ _ _ _ _ _ _ _ _ _ _ _ _ _ _ _ _ _ _ _ | exact eqb_b3 9998 w _ _ _ _ _ _) ?_)); simp only [Act.put, List.setIfInBounds_toArray, List.set_cons_succ, List.set_cons_zero])
  )
 refine own_ret1 Try.results83 rfl (.all (by rfl) (by first | exact agg_all _ _ rfl) (by repeat (first | exact .head _ | refine .tail _ ?_)) (by rfl)) (fun hR => hR.ret ?_) hR
 rw [HV.out]
 rfl

set_option maxHeartbeats 1000000 in
theorem plus_any (m n : Nat) (w : World) (h : m + n < 340282366920938463463374607431768211456) : Calls Try.prog 81 #[Wide m, Wide n] w (Ret w (Wide (m + n))) := by
 refine calls_hide fun V HV => ?_
 have hR := Own.start w
 go_enter Try.func81, Try.ntmps81
 go_wp2_with (first
  | ((with_reducible apply is_list); (first
   | (refine own_box (by rfl) (by rfl) (by simp [go_sem, V3.v, Pl.v, V3.cs, Pl.cs, layAt, Value.cells, Wide, Wide.cs] <;> rfl) ?_ hR; clear hR; intro _ _ hR)
   | (refine own_alloc (by rfl) (by rfl) (by first | exact zero_all _ _ rfl) ?_ hR; clear hR; intro _ _ hR)
   | (refine own_alloc1 (by rfl) (by rfl) (by first | exact zero_all _ _ rfl) (by simp [go_sem, V3.v, Pl.v, V3.cs, Pl.cs, layAt, Value.cells, Wide, Wide.cs] <;> rfl) ?_ hR; clear hR; intro _ _ hR)
   | (refine own_load_all (by rfl) (by rfl) (by rfl) (by first | exact agg_all _ _ rfl) (by repeat (first | exact .head _ | refine .tail _ ?_)) (by rfl) ?_ hR; clear hR; intro hR)
   | (refine own_load_agg (by rfl) (by rfl) (by rfl) (by first | exact agg_all _ _ rfl) (by repeat (first | exact .head _ | refine .tail _ ?_)) (by rfl) (by simp [go_sem, V3.v, Pl.v, V3.cs, Pl.cs, layAt, Value.cells, Wide, Wide.cs] <;> rfl) ?_ hR; clear hR; intro hR)
   | (refine own_load_one (by rfl) (by rfl) (by rfl) (by first | exact one_all _ rfl) (by repeat (first | exact .head _ | refine .tail _ ?_)) (by simp [go_sem, V3.v, Pl.v, V3.cs, Pl.cs, layAt, Value.cells, Wide, Wide.cs] <;> rfl) ?_ hR; clear hR; intro hR)
   | (refine own_store_all (by rfl) (by rfl) (by rfl) (by first | exact (agg_all _ _ rfl).size | exact (one_all _ rfl).size) (by rfl) (by rfl) (by rfl) (by repeat (first | exact .head _ | refine .tail _ ?_)) (by rfl) (by simp [go_sem, V3.v, Pl.v, V3.cs, Pl.cs, layAt, Value.cells, Wide, Wide.cs] <;> rfl) (by repeat (first | exact .here | apply Upd.there)) ?_ hR; clear hR; intro _ hR)
   | (refine own_store (by rfl) (by rfl) (by rfl) (by first | exact (agg_all _ _ rfl).size | exact (one_all _ rfl).size) (by rfl) (by rfl) (by rfl) (by repeat (first | exact .head _ | refine .tail _ ?_)) (by rfl) (by simp [go_sem, V3.v, Pl.v, V3.cs, Pl.cs, layAt, Value.cells, Wide, Wide.cs] <;> rfl) (by repeat (first | exact .here | apply Upd.there)) ?_ hR; clear hR; intro _ hR)
   | (refine own_max (by rfl) (by rfl) (by rfl) (by rfl) ?_)
   | (refine own_min (by rfl) (by rfl) (by rfl) (by rfl) ?_)
   | (refine own_eql (by rfl) (by rfl) (by simp [go_sem, V3.v, Pl.v, V3.cs, Pl.cs, layAt, Value.cells, Wide, Wide.cs] <;> rfl) (by simp [go_sem, V3.v, Pl.v, V3.cs, Pl.cs, layAt, Value.cells, Wide, Wide.cs] <;> rfl) (by first | exact guard_vec | exact guard_pl | exact guard_b3) (by intro w; first | exact eqr_vec 9998 w _ _ _ | exact eqr_pl 9996 w _ _ _ _ _ _ _ _ _ _ _ _ _ _ _ | exact eqr_b3 9998 w _ _ _ | exact eqb_vec 9998 w _ _ _ _ _ _ | exact eqb_pl 9996 w _ _ _ _ _ _ _ _ _ _ _ _ _ _ _ _ _ _ _ _ _ _ _ _ _ _ _ _ _ _ | exact eqb_b3 9998 w _ _ _ _ _ _) ?_)
   | (refine own_neq (by rfl) (by rfl) (by simp [go_sem, V3.v, Pl.v, V3.cs, Pl.cs, layAt, Value.cells, Wide, Wide.cs] <;> rfl) (by simp [go_sem, V3.v, Pl.v, V3.cs, Pl.cs, layAt, Value.cells, Wide, Wide.cs] <;> rfl) (by first | exact guard_vec | exact guard_pl | exact guard_b3) (by intro w; first | exact eqr_vec 9998 w _ _ _ | exact eqr_pl 9996 w _ _ _ _ _ _ _ _ _ _ _ _ _ _ _ | exact eqr_b3 9998 w _ _ _ | exact eqb_vec 9998 w _ _ _ _ _ _ | exact eqb_pl 9996 w _ _ _ _ _ _ _ _ _ _ _ _ _ _ _ _ _ _ _ _ _ _ _ _ _ _ _ _ _ _ | exact eqb_b3 9998 w _ _ _ _ _ _) ?_)); simp only [Act.put, List.setIfInBounds_toArray, List.set_cons_succ, List.set_cons_zero])
  | simp only [add64_0] | simp only [add64_n _ _ _ (show (m % 18446744073709551616 + n % 18446744073709551616) / 18446744073709551616 ≤ 1 by omega)])
 refine own_ret1 Try.results81 rfl (.all (by rfl) (by first | exact agg_all _ _ rfl) (by repeat (first | exact .head _ | refine .tail _ ?_)) (by rfl)) (fun hR => hR.ret ?_) hR
 rw [HV.out]
 exact congrArg Ending.returned (Wide_of (by omega) (by omega))

set_option maxHeartbeats 1000000 in
theorem above_w (mh ml nh nl : Int) (w : World) : Calls Try.prog 84 #[.agg #[.int .u64 mh, .int .u64 ml], .agg #[.int .u64 nh, .int .u64 nl]] w (Ret w (.bool (decide (nh < mh) || (mh == nh && decide (nl < ml))))) := by
 have g1 : ∀ c : Bool, decide (nh < mh) = c → Calls Try.prog 84 #[.agg #[.int .u64 mh, .int .u64 ml], .agg #[.int .u64 nh, .int .u64 nl]] w (Ret w (.bool (c || (mh == nh && decide (nl < ml))))) := by
  intro c hc
  cases c with
  | true =>
   have k1 := Lib.hid hc
   clear hc
   refine calls_hide fun V HV => ?_
   have hR := Own.start w
   go_enter Try.func84, Try.ntmps84
   go_wp2_with (first
    | ((with_reducible apply is_list); repeat1' (first | rw [k1.out] | ((first
     | ((with_reducible refine own_skip ?_ ?_); (exact rfl))
     | (refine own_move (by rfl) (by rfl) (by simp only [Act.eval, Array.getD_eq_getD_getElem?, List.getElem?_toArray, List.getElem?_cons_zero, List.getElem?_cons_succ, Option.getD_some] <;> rfl) ?_)
     | (refine own_assign (by rfl) (by rfl) (by simp only [Act.eval, Array.getD_eq_getD_getElem?, List.getElem?_toArray, List.getElem?_cons_zero, List.getElem?_cons_succ, Option.getD_some] <;> rfl) ?_)
     | (refine own_box (by rfl) (by rfl) (by simp [go_sem, V3.v, Pl.v, V3.cs, Pl.cs, layAt, Value.cells, Wide, Wide.cs] <;> rfl) ?_ hR; clear hR; intro _ _ hR)
     | (refine own_alloc (by rfl) (by rfl) (by first | exact zero_all _ _ rfl) ?_ hR; clear hR; intro _ _ hR)
     | (refine own_alloc1 (by rfl) (by rfl) (by first | exact zero_all _ _ rfl) (by simp [go_sem, V3.v, Pl.v, V3.cs, Pl.cs, layAt, Value.cells, Wide, Wide.cs] <;> rfl) ?_ hR; clear hR; intro _ _ hR)
     | (refine own_load_all (by rfl) (by rfl) (by rfl) (by first | exact agg_all _ _ rfl) (by repeat (first | exact .head _ | refine .tail _ ?_)) (by rfl) ?_ hR; clear hR; intro hR)
     | (refine own_load_agg (by rfl) (by rfl) (by rfl) (by first | exact agg_all _ _ rfl) (by repeat (first | exact .head _ | refine .tail _ ?_)) (by rfl) (by simp [go_sem, V3.v, Pl.v, V3.cs, Pl.cs, layAt, Value.cells, Wide, Wide.cs] <;> rfl) ?_ hR; clear hR; intro hR)
     | (refine own_load_one (by rfl) (by rfl) (by rfl) (by first | exact one_all _ rfl) (by repeat (first | exact .head _ | refine .tail _ ?_)) (by simp [go_sem, V3.v, Pl.v, V3.cs, Pl.cs, layAt, Value.cells, Wide, Wide.cs] <;> rfl) ?_ hR; clear hR; intro hR)
     | (refine own_store_all (by rfl) (by rfl) (by rfl) (by first | exact (agg_all _ _ rfl).size | exact (one_all _ rfl).size) (by rfl) (by rfl) (by rfl) (by repeat (first | exact .head _ | refine .tail _ ?_)) (by rfl) (by simp [go_sem, V3.v, Pl.v, V3.cs, Pl.cs, layAt, Value.cells, Wide, Wide.cs] <;> rfl) (by repeat (first | exact .here | apply Upd.there)) ?_ hR; clear hR; intro _ hR)
     | (refine own_store (by rfl) (by rfl) (by rfl) (by first | exact (agg_all _ _ rfl).size | exact (one_all _ rfl).size) (by rfl) (by rfl) (by rfl) (by repeat (first | exact .head _ | refine .tail _ ?_)) (by rfl) (by simp [go_sem, V3.v, Pl.v, V3.cs, Pl.cs, layAt, Value.cells, Wide, Wide.cs] <;> rfl) (by repeat (first | exact .here | apply Upd.there)) ?_ hR; clear hR; intro _ hR)
     | (refine own_max (by rfl) (by rfl) (by rfl) (by rfl) ?_)
     | (refine own_min (by rfl) (by rfl) (by rfl) (by rfl) ?_)
     | (refine own_pure (by rfl) (by intro w; simp [go_sem, V3.v, Pl.v, V3.cs, Pl.cs, layAt, Value.cells, Wide, Wide.cs] <;> rfl) ?_)); simp only [Act.put, List.setIfInBounds_toArray, List.set_cons_succ, List.set_cons_zero]))))
   refine own_ret1 Try.results84 rfl (.tmp rfl) (fun hR => hR.ret ?_) hR
   rw [HV.out]
   rfl
  | false =>
   have k1 := Lib.hid hc
   clear hc
   rcases h2 : (mh == nh) with _ | _
   ·
    have k2 := Lib.hid h2
    clear h2
    refine calls_hide fun V HV => ?_
    have hR := Own.start w
    go_enter Try.func84, Try.ntmps84
    go_wp2_with (first
     | ((with_reducible apply is_list); repeat1' (first | rw [k1.out] | rw [k2.out] | ((first
      | ((with_reducible refine own_skip ?_ ?_); (exact rfl))
      | (refine own_move (by rfl) (by rfl) (by simp only [Act.eval, Array.getD_eq_getD_getElem?, List.getElem?_toArray, List.getElem?_cons_zero, List.getElem?_cons_succ, Option.getD_some] <;> rfl) ?_)
      | (refine own_assign (by rfl) (by rfl) (by simp only [Act.eval, Array.getD_eq_getD_getElem?, List.getElem?_toArray, List.getElem?_cons_zero, List.getElem?_cons_succ, Option.getD_some] <;> rfl) ?_)
      | (refine own_box (by rfl) (by rfl) (by simp [go_sem, V3.v, Pl.v, V3.cs, Pl.cs, layAt, Value.cells, Wide, Wide.cs] <;> rfl) ?_ hR; clear hR; intro _ _ hR)
      | (refine own_alloc (by rfl) (by rfl) (by first | exact zero_all _ _ rfl) ?_ hR; clear hR; intro _ _ hR)
      | (refine own_alloc1 (by rfl) (by rfl) (by first | exact zero_all _ _ rfl) (by simp [go_sem, V3.v, Pl.v, V3.cs, Pl.cs, layAt, Value.cells, Wide, Wide.cs] <;> rfl) ?_ hR; clear hR; intro _ _ hR)
      | (refine own_load_all (by rfl) (by rfl) (by rfl) (by first | exact agg_all _ _ rfl) (by repeat (first | exact .head _ | refine .tail _ ?_)) (by rfl) ?_ hR; clear hR; intro hR)
      | (refine own_load_agg (by rfl) (by rfl) (by rfl) (by first | exact agg_all _ _ rfl) (by repeat (first | exact .head _ | refine .tail _ ?_)) (by rfl) (by simp [go_sem, V3.v, Pl.v, V3.cs, Pl.cs, layAt, Value.cells, Wide, Wide.cs] <;> rfl) ?_ hR; clear hR; intro hR)
      | (refine own_load_one (by rfl) (by rfl) (by rfl) (by first | exact one_all _ rfl) (by repeat (first | exact .head _ | refine .tail _ ?_)) (by simp [go_sem, V3.v, Pl.v, V3.cs, Pl.cs, layAt, Value.cells, Wide, Wide.cs] <;> rfl) ?_ hR; clear hR; intro hR)
      | (refine own_store_all (by rfl) (by rfl) (by rfl) (by first | exact (agg_all _ _ rfl).size | exact (one_all _ rfl).size) (by rfl) (by rfl) (by rfl) (by repeat (first | exact .head _ | refine .tail _ ?_)) (by rfl) (by simp [go_sem, V3.v, Pl.v, V3.cs, Pl.cs, layAt, Value.cells, Wide, Wide.cs] <;> rfl) (by repeat (first | exact .here | apply Upd.there)) ?_ hR; clear hR; intro _ hR)
      | (refine own_store (by rfl) (by rfl) (by rfl) (by first | exact (agg_all _ _ rfl).size | exact (one_all _ rfl).size) (by rfl) (by rfl) (by rfl) (by repeat (first | exact .head _ | refine .tail _ ?_)) (by rfl) (by simp [go_sem, V3.v, Pl.v, V3.cs, Pl.cs, layAt, Value.cells, Wide, Wide.cs] <;> rfl) (by repeat (first | exact .here | apply Upd.there)) ?_ hR; clear hR; intro _ hR)
      | (refine own_max (by rfl) (by rfl) (by rfl) (by rfl) ?_)
      | (refine own_min (by rfl) (by rfl) (by rfl) (by rfl) ?_)
      | (refine own_pure (by rfl) (by intro w; simp [go_sem, V3.v, Pl.v, V3.cs, Pl.cs, layAt, Value.cells, Wide, Wide.cs] <;> rfl) ?_)); simp only [Act.put, List.setIfInBounds_toArray, List.set_cons_succ, List.set_cons_zero]))))
    refine own_ret1 Try.results84 rfl (.tmp rfl) (fun hR => hR.ret ?_) hR
    rw [HV.out]
    rfl
   ·
    have k2 := Lib.hid h2
    clear h2
    generalize hd : decide (nl < ml) = d
    have k3 := Lib.hid hd
    clear hd
    refine calls_hide fun V HV => ?_
    have hR := Own.start w
    go_enter Try.func84, Try.ntmps84
    go_wp2_with (first
     | ((with_reducible apply is_list); repeat1' (first | rw [k1.out] | rw [k2.out] | rw [k3.out] | ((first
      | ((with_reducible refine own_skip ?_ ?_); (exact rfl))
      | (refine own_move (by rfl) (by rfl) (by simp only [Act.eval, Array.getD_eq_getD_getElem?, List.getElem?_toArray, List.getElem?_cons_zero, List.getElem?_cons_succ, Option.getD_some] <;> rfl) ?_)
      | (refine own_assign (by rfl) (by rfl) (by simp only [Act.eval, Array.getD_eq_getD_getElem?, List.getElem?_toArray, List.getElem?_cons_zero, List.getElem?_cons_succ, Option.getD_some] <;> rfl) ?_)
      | (refine own_box (by rfl) (by rfl) (by simp [go_sem, V3.v, Pl.v, V3.cs, Pl.cs, layAt, Value.cells, Wide, Wide.cs] <;> rfl) ?_ hR; clear hR; intro _ _ hR)
      | (refine own_alloc (by rfl) (by rfl) (by first | exact zero_all _ _ rfl) ?_ hR; clear hR; intro _ _ hR)
      | (refine own_alloc1 (by rfl) (by rfl) (by first | exact zero_all _ _ rfl) (by simp [go_sem, V3.v, Pl.v, V3.cs, Pl.cs, layAt, Value.cells, Wide, Wide.cs] <;> rfl) ?_ hR; clear hR; intro _ _ hR)
      | (refine own_load_all (by rfl) (by rfl) (by rfl) (by first | exact agg_all _ _ rfl) (by repeat (first | exact .head _ | refine .tail _ ?_)) (by rfl) ?_ hR; clear hR; intro hR)
      | (refine own_load_agg (by rfl) (by rfl) (by rfl) (by first | exact agg_all _ _ rfl) (by repeat (first | exact .head _ | refine .tail _ ?_)) (by rfl) (by simp [go_sem, V3.v, Pl.v, V3.cs, Pl.cs, layAt, Value.cells, Wide, Wide.cs] <;> rfl) ?_ hR; clear hR; intro hR)
      | (refine own_load_one (by rfl) (by rfl) (by rfl) (by first | exact one_all _ rfl) (by repeat (first | exact .head _ | refine .tail _ ?_)) (by simp [go_sem, V3.v, Pl.v, V3.cs, Pl.cs, layAt, Value.cells, Wide, Wide.cs] <;> rfl) ?_ hR; clear hR; intro hR)
      | (refine own_store_all (by rfl) (by rfl) (by rfl) (by first | exact (agg_all _ _ rfl).size | exact (one_all _ rfl).size) (by rfl) (by rfl) (by rfl) (by repeat (first | exact .head _ | refine .tail _ ?_)) (by rfl) (by simp [go_sem, V3.v, Pl.v, V3.cs, Pl.cs, layAt, Value.cells, Wide, Wide.cs] <;> rfl) (by repeat (first | exact .here | apply Upd.there)) ?_ hR; clear hR; intro _ hR)
      | (refine own_store (by rfl) (by rfl) (by rfl) (by first | exact (agg_all _ _ rfl).size | exact (one_all _ rfl).size) (by rfl) (by rfl) (by rfl) (by repeat (first | exact .head _ | refine .tail _ ?_)) (by rfl) (by simp [go_sem, V3.v, Pl.v, V3.cs, Pl.cs, layAt, Value.cells, Wide, Wide.cs] <;> rfl) (by repeat (first | exact .here | apply Upd.there)) ?_ hR; clear hR; intro _ hR)
      | (refine own_max (by rfl) (by rfl) (by rfl) (by rfl) ?_)
      | (refine own_min (by rfl) (by rfl) (by rfl) (by rfl) ?_)
      | (refine own_pure (by rfl) (by intro w; simp [go_sem, V3.v, Pl.v, V3.cs, Pl.cs, layAt, Value.cells, Wide, Wide.cs] <;> rfl) ?_)); simp only [Act.put, List.setIfInBounds_toArray, List.set_cons_succ, List.set_cons_zero]))))
    refine own_ret1 Try.results84 rfl (.tmp rfl) (fun hR => hR.ret ?_) hR
    rw [HV.out]
    rfl
 exact g1 _ rfl

theorem above_any (m n : Nat) (w : World) : Calls Try.prog 84 #[Wide m, Wide n] w (Ret w (.bool (decide (n < m)))) := by
 have h := above_w (nI (m / 18446744073709551616)) (nI (m % 18446744073709551616)) (nI (n / 18446744073709551616)) (nI (n % 18446744073709551616)) w
 have e : (decide (nI (n / 18446744073709551616) < nI (m / 18446744073709551616)) || (nI (m / 18446744073709551616) == nI (n / 18446744073709551616) && decide (nI (n % 18446744073709551616) < nI (m % 18446744073709551616)))) = decide (n < m) := by
  rw [Bool.eq_iff_iff]
  simp only [nI_eq, Bool.or_eq_true, Bool.and_eq_true, decide_eq_true_eq, beq_iff_eq, Int.ofNat_lt, Int.ofNat_inj]
  generalize hm : m / 18446744073709551616 = mh
  generalize hn : n / 18446744073709551616 = nh
  generalize hm' : m % 18446744073709551616 = ml
  generalize hn' : n % 18446744073709551616 = nl
  have em := Nat.div_add_mod m 18446744073709551616
  have en := Nat.div_add_mod n 18446744073709551616
  rw [hm, hm'] at em
  rw [hn, hn'] at en
  have bm : ml < 18446744073709551616 := by omega
  have bn : nl < 18446744073709551616 := by omega
  clear hm hn hm' hn'
  omega
 rw [e] at h
 exact h

def signedN (n : Nat) (below : Bool) : Int := if below then max (-(n : Int)) (-9223372036854775808) else min (n : Int) 9223372036854775807

set_option maxHeartbeats 1000000 in
theorem signed_w (h l : Int) (below : Bool) (w : World) (hh : 0 ≤ h) (hl : 0 ≤ l) (hl' : l < 18446744073709551616) : Calls Try.prog 69 #[.agg #[.int .u64 h, .int .u64 l], .bool below] w (Ret w (I (if below then (if h > 0 then -9223372036854775808 else max (-l) (-9223372036854775808)) else (if h > 0 then 9223372036854775807 else min l 9223372036854775807)))) := by
 by_cases h0 : h > 0
 ·
  have k1 : Hid (decide (0 < h) = true) := Lib.hid (decide_eq_true h0)
  rw [if_pos h0, if_pos h0]
  cases below
  ·
   refine calls_hide fun V HV => ?_
   have hR := Own.start w
   go_enter Try.func69, Try.ntmps69
   go_wp2_with (first
    | ((with_reducible apply is_list); repeat1' (first | rw [k1.out] | ((first
     | ((with_reducible refine own_skip ?_ ?_); (exact rfl))
     | (refine own_move (by rfl) (by rfl) (by simp only [Act.eval, Array.getD_eq_getD_getElem?, List.getElem?_toArray, List.getElem?_cons_zero, List.getElem?_cons_succ, Option.getD_some] <;> rfl) ?_)
     | (refine own_assign (by rfl) (by rfl) (by simp only [Act.eval, Array.getD_eq_getD_getElem?, List.getElem?_toArray, List.getElem?_cons_zero, List.getElem?_cons_succ, Option.getD_some] <;> rfl) ?_)
     | (refine own_box (by rfl) (by rfl) (by simp [go_sem, V3.v, Pl.v, V3.cs, Pl.cs, layAt, Value.cells, Wide, Wide.cs] <;> rfl) ?_ hR; clear hR; intro _ _ hR)
     | (refine own_alloc (by rfl) (by rfl) (by first | exact zero_all _ _ rfl) ?_ hR; clear hR; intro _ _ hR)
     | (refine own_alloc1 (by rfl) (by rfl) (by first | exact zero_all _ _ rfl) (by simp [go_sem, V3.v, Pl.v, V3.cs, Pl.cs, layAt, Value.cells, Wide, Wide.cs] <;> rfl) ?_ hR; clear hR; intro _ _ hR)
     | (refine own_load_all (by rfl) (by rfl) (by rfl) (by first | exact agg_all _ _ rfl) (by repeat (first | exact .head _ | refine .tail _ ?_)) (by rfl) ?_ hR; clear hR; intro hR)
     | (refine own_load_agg (by rfl) (by rfl) (by rfl) (by first | exact agg_all _ _ rfl) (by repeat (first | exact .head _ | refine .tail _ ?_)) (by rfl) (by simp [go_sem, V3.v, Pl.v, V3.cs, Pl.cs, layAt, Value.cells, Wide, Wide.cs] <;> rfl) ?_ hR; clear hR; intro hR)
     | (refine own_load_one (by rfl) (by rfl) (by rfl) (by first | exact one_all _ rfl) (by repeat (first | exact .head _ | refine .tail _ ?_)) (by simp [go_sem, V3.v, Pl.v, V3.cs, Pl.cs, layAt, Value.cells, Wide, Wide.cs] <;> rfl) ?_ hR; clear hR; intro hR)
     | (refine own_store_all (by rfl) (by rfl) (by rfl) (by first | exact (agg_all _ _ rfl).size | exact (one_all _ rfl).size) (by rfl) (by rfl) (by rfl) (by repeat (first | exact .head _ | refine .tail _ ?_)) (by rfl) (by simp [go_sem, V3.v, Pl.v, V3.cs, Pl.cs, layAt, Value.cells, Wide, Wide.cs] <;> rfl) (by repeat (first | exact .here | apply Upd.there)) ?_ hR; clear hR; intro _ hR)
     | (refine own_store (by rfl) (by rfl) (by rfl) (by first | exact (agg_all _ _ rfl).size | exact (one_all _ rfl).size) (by rfl) (by rfl) (by rfl) (by repeat (first | exact .head _ | refine .tail _ ?_)) (by rfl) (by simp [go_sem, V3.v, Pl.v, V3.cs, Pl.cs, layAt, Value.cells, Wide, Wide.cs] <;> rfl) (by repeat (first | exact .here | apply Upd.there)) ?_ hR; clear hR; intro _ hR)
     | (refine own_max (by rfl) (by rfl) (by rfl) (by rfl) ?_)
     | (refine own_min (by rfl) (by rfl) (by rfl) (by rfl) ?_)
     | (refine own_pure (by rfl) (by intro w; simp [go_sem, V3.v, Pl.v, V3.cs, Pl.cs, layAt, Value.cells, Wide, Wide.cs] <;> rfl) ?_)); simp only [Act.put, List.setIfInBounds_toArray, List.set_cons_succ, List.set_cons_zero]))))
   refine own_ret1 Try.results69 rfl (.tmp rfl) (fun hR => hR.ret ?_) hR
   rw [HV.out]
   rfl
  ·
   refine calls_hide fun V HV => ?_
   have hR := Own.start w
   go_enter Try.func69, Try.ntmps69
   go_wp2_with (first
    | ((with_reducible apply is_list); repeat1' (first | rw [k1.out] | ((first
     | ((with_reducible refine own_skip ?_ ?_); (exact rfl))
     | (refine own_move (by rfl) (by rfl) (by simp only [Act.eval, Array.getD_eq_getD_getElem?, List.getElem?_toArray, List.getElem?_cons_zero, List.getElem?_cons_succ, Option.getD_some] <;> rfl) ?_)
     | (refine own_assign (by rfl) (by rfl) (by simp only [Act.eval, Array.getD_eq_getD_getElem?, List.getElem?_toArray, List.getElem?_cons_zero, List.getElem?_cons_succ, Option.getD_some] <;> rfl) ?_)
     | (refine own_box (by rfl) (by rfl) (by simp [go_sem, V3.v, Pl.v, V3.cs, Pl.cs, layAt, Value.cells, Wide, Wide.cs] <;> rfl) ?_ hR; clear hR; intro _ _ hR)
     | (refine own_alloc (by rfl) (by rfl) (by first | exact zero_all _ _ rfl) ?_ hR; clear hR; intro _ _ hR)
     | (refine own_alloc1 (by rfl) (by rfl) (by first | exact zero_all _ _ rfl) (by simp [go_sem, V3.v, Pl.v, V3.cs, Pl.cs, layAt, Value.cells, Wide, Wide.cs] <;> rfl) ?_ hR; clear hR; intro _ _ hR)
     | (refine own_load_all (by rfl) (by rfl) (by rfl) (by first | exact agg_all _ _ rfl) (by repeat (first | exact .head _ | refine .tail _ ?_)) (by rfl) ?_ hR; clear hR; intro hR)
     | (refine own_load_agg (by rfl) (by rfl) (by rfl) (by first | exact agg_all _ _ rfl) (by repeat (first | exact .head _ | refine .tail _ ?_)) (by rfl) (by simp [go_sem, V3.v, Pl.v, V3.cs, Pl.cs, layAt, Value.cells, Wide, Wide.cs] <;> rfl) ?_ hR; clear hR; intro hR)
     | (refine own_load_one (by rfl) (by rfl) (by rfl) (by first | exact one_all _ rfl) (by repeat (first | exact .head _ | refine .tail _ ?_)) (by simp [go_sem, V3.v, Pl.v, V3.cs, Pl.cs, layAt, Value.cells, Wide, Wide.cs] <;> rfl) ?_ hR; clear hR; intro hR)
     | (refine own_store_all (by rfl) (by rfl) (by rfl) (by first | exact (agg_all _ _ rfl).size | exact (one_all _ rfl).size) (by rfl) (by rfl) (by rfl) (by repeat (first | exact .head _ | refine .tail _ ?_)) (by rfl) (by simp [go_sem, V3.v, Pl.v, V3.cs, Pl.cs, layAt, Value.cells, Wide, Wide.cs] <;> rfl) (by repeat (first | exact .here | apply Upd.there)) ?_ hR; clear hR; intro _ hR)
     | (refine own_store (by rfl) (by rfl) (by rfl) (by first | exact (agg_all _ _ rfl).size | exact (one_all _ rfl).size) (by rfl) (by rfl) (by rfl) (by repeat (first | exact .head _ | refine .tail _ ?_)) (by rfl) (by simp [go_sem, V3.v, Pl.v, V3.cs, Pl.cs, layAt, Value.cells, Wide, Wide.cs] <;> rfl) (by repeat (first | exact .here | apply Upd.there)) ?_ hR; clear hR; intro _ hR)
     | (refine own_max (by rfl) (by rfl) (by rfl) (by rfl) ?_)
     | (refine own_min (by rfl) (by rfl) (by rfl) (by rfl) ?_)
     | (refine own_pure (by rfl) (by intro w; simp [go_sem, V3.v, Pl.v, V3.cs, Pl.cs, layAt, Value.cells, Wide, Wide.cs] <;> rfl) ?_)); simp only [Act.put, List.setIfInBounds_toArray, List.set_cons_succ, List.set_cons_zero]))))
   refine own_ret1 Try.results69 rfl (.tmp rfl) (fun hR => hR.ret ?_) hR
   rw [HV.out]
   rfl
 ·
  have k1 : Hid (decide (0 < h) = false) := Lib.hid (decide_eq_false h0)
  rw [if_neg h0, if_neg h0]
  cases below
  ·
   by_cases h1 : 9223372036854775807 < l
   ·
    have k2 : Hid (decide (9223372036854775807 < l) = true) := Lib.hid (decide_eq_true h1)
    have e : min l 9223372036854775807 = 9223372036854775807 := by omega
    rw [e]
    refine calls_hide fun V HV => ?_
    have hR := Own.start w
    go_enter Try.func69, Try.ntmps69
    go_wp2_with (first
     | ((with_reducible apply is_list); repeat1' (first | rw [k1.out] | rw [k2.out] | ((first
      | ((with_reducible refine own_skip ?_ ?_); (exact rfl))
      | (refine own_move (by rfl) (by rfl) (by simp only [Act.eval, Array.getD_eq_getD_getElem?, List.getElem?_toArray, List.getElem?_cons_zero, List.getElem?_cons_succ, Option.getD_some] <;> rfl) ?_)
      | (refine own_assign (by rfl) (by rfl) (by simp only [Act.eval, Array.getD_eq_getD_getElem?, List.getElem?_toArray, List.getElem?_cons_zero, List.getElem?_cons_succ, Option.getD_some] <;> rfl) ?_)
      | (refine own_box (by rfl) (by rfl) (by simp [go_sem, V3.v, Pl.v, V3.cs, Pl.cs, layAt, Value.cells, Wide, Wide.cs] <;> rfl) ?_ hR; clear hR; intro _ _ hR)
      | (refine own_alloc (by rfl) (by rfl) (by first | exact zero_all _ _ rfl) ?_ hR; clear hR; intro _ _ hR)
      | (refine own_alloc1 (by rfl) (by rfl) (by first | exact zero_all _ _ rfl) (by simp [go_sem, V3.v, Pl.v, V3.cs, Pl.cs, layAt, Value.cells, Wide, Wide.cs] <;> rfl) ?_ hR; clear hR; intro _ _ hR)
      | (refine own_load_all (by rfl) (by rfl) (by rfl) (by first | exact agg_all _ _ rfl) (by repeat (first | exact .head _ | refine .tail _ ?_)) (by rfl) ?_ hR; clear hR; intro hR)
      | (refine own_load_agg (by rfl) (by rfl) (by rfl) (by first | exact agg_all _ _ rfl) (by repeat (first | exact .head _ | refine .tail _ ?_)) (by rfl) (by simp [go_sem, V3.v, Pl.v, V3.cs, Pl.cs, layAt, Value.cells, Wide, Wide.cs] <;> rfl) ?_ hR; clear hR; intro hR)
      | (refine own_load_one (by rfl) (by rfl) (by rfl) (by first | exact one_all _ rfl) (by repeat (first | exact .head _ | refine .tail _ ?_)) (by simp [go_sem, V3.v, Pl.v, V3.cs, Pl.cs, layAt, Value.cells, Wide, Wide.cs] <;> rfl) ?_ hR; clear hR; intro hR)
      | (refine own_store_all (by rfl) (by rfl) (by rfl) (by first | exact (agg_all _ _ rfl).size | exact (one_all _ rfl).size) (by rfl) (by rfl) (by rfl) (by repeat (first | exact .head _ | refine .tail _ ?_)) (by rfl) (by simp [go_sem, V3.v, Pl.v, V3.cs, Pl.cs, layAt, Value.cells, Wide, Wide.cs] <;> rfl) (by repeat (first | exact .here | apply Upd.there)) ?_ hR; clear hR; intro _ hR)
      | (refine own_store (by rfl) (by rfl) (by rfl) (by first | exact (agg_all _ _ rfl).size | exact (one_all _ rfl).size) (by rfl) (by rfl) (by rfl) (by repeat (first | exact .head _ | refine .tail _ ?_)) (by rfl) (by simp [go_sem, V3.v, Pl.v, V3.cs, Pl.cs, layAt, Value.cells, Wide, Wide.cs] <;> rfl) (by repeat (first | exact .here | apply Upd.there)) ?_ hR; clear hR; intro _ hR)
      | (refine own_max (by rfl) (by rfl) (by rfl) (by rfl) ?_)
      | (refine own_min (by rfl) (by rfl) (by rfl) (by rfl) ?_)
      | (refine own_pure (by rfl) (by intro w; simp [go_sem, V3.v, Pl.v, V3.cs, Pl.cs, layAt, Value.cells, Wide, Wide.cs] <;> rfl) ?_)); simp only [Act.put, List.setIfInBounds_toArray, List.set_cons_succ, List.set_cons_zero]))))
    refine own_ret1 Try.results69 rfl (.tmp rfl) (fun hR => hR.ret ?_) hR
    rw [HV.out]
    rfl
   ·
    have k2 : Hid (decide (9223372036854775807 < l) = false) := Lib.hid (decide_eq_false h1)
    have e : min l 9223372036854775807 = IntKind.i64.wrap l := by rw [IntWalk.i64_in _ (by omega)]; omega
    rw [e]
    refine calls_hide fun V HV => ?_
    have hR := Own.start w
    go_enter Try.func69, Try.ntmps69
    go_wp2_with (first
     | ((with_reducible apply is_list); repeat1' (first | rw [k1.out] | rw [k2.out] | ((first
      | ((with_reducible refine own_skip ?_ ?_); (exact rfl))
      | (refine own_move (by rfl) (by rfl) (by simp only [Act.eval, Array.getD_eq_getD_getElem?, List.getElem?_toArray, List.getElem?_cons_zero, List.getElem?_cons_succ, Option.getD_some] <;> rfl) ?_)
      | (refine own_assign (by rfl) (by rfl) (by simp only [Act.eval, Array.getD_eq_getD_getElem?, List.getElem?_toArray, List.getElem?_cons_zero, List.getElem?_cons_succ, Option.getD_some] <;> rfl) ?_)
      | (refine own_box (by rfl) (by rfl) (by simp [go_sem, V3.v, Pl.v, V3.cs, Pl.cs, layAt, Value.cells, Wide, Wide.cs] <;> rfl) ?_ hR; clear hR; intro _ _ hR)
      | (refine own_alloc (by rfl) (by rfl) (by first | exact zero_all _ _ rfl) ?_ hR; clear hR; intro _ _ hR)
      | (refine own_alloc1 (by rfl) (by rfl) (by first | exact zero_all _ _ rfl) (by simp [go_sem, V3.v, Pl.v, V3.cs, Pl.cs, layAt, Value.cells, Wide, Wide.cs] <;> rfl) ?_ hR; clear hR; intro _ _ hR)
      | (refine own_load_all (by rfl) (by rfl) (by rfl) (by first | exact agg_all _ _ rfl) (by repeat (first | exact .head _ | refine .tail _ ?_)) (by rfl) ?_ hR; clear hR; intro hR)
      | (refine own_load_agg (by rfl) (by rfl) (by rfl) (by first | exact agg_all _ _ rfl) (by repeat (first | exact .head _ | refine .tail _ ?_)) (by rfl) (by simp [go_sem, V3.v, Pl.v, V3.cs, Pl.cs, layAt, Value.cells, Wide, Wide.cs] <;> rfl) ?_ hR; clear hR; intro hR)
      | (refine own_load_one (by rfl) (by rfl) (by rfl) (by first | exact one_all _ rfl) (by repeat (first | exact .head _ | refine .tail _ ?_)) (by simp [go_sem, V3.v, Pl.v, V3.cs, Pl.cs, layAt, Value.cells, Wide, Wide.cs] <;> rfl) ?_ hR; clear hR; intro hR)
      | (refine own_store_all (by rfl) (by rfl) (by rfl) (by first | exact (agg_all _ _ rfl).size | exact (one_all _ rfl).size) (by rfl) (by rfl) (by rfl) (by repeat (first | exact .head _ | refine .tail _ ?_)) (by rfl) (by simp [go_sem, V3.v, Pl.v, V3.cs, Pl.cs, layAt, Value.cells, Wide, Wide.cs] <;> rfl) (by repeat (first | exact .here | apply Upd.there)) ?_ hR; clear hR; intro _ hR)
      | (refine own_store (by rfl) (by rfl) (by rfl) (by first | exact (agg_all _ _ rfl).size | exact (one_all _ rfl).size) (by rfl) (by rfl) (by rfl) (by repeat (first | exact .head _ | refine .tail _ ?_)) (by rfl) (by simp [go_sem, V3.v, Pl.v, V3.cs, Pl.cs, layAt, Value.cells, Wide, Wide.cs] <;> rfl) (by repeat (first | exact .here | apply Upd.there)) ?_ hR; clear hR; intro _ hR)
      | (refine own_max (by rfl) (by rfl) (by rfl) (by rfl) ?_)
      | (refine own_min (by rfl) (by rfl) (by rfl) (by rfl) ?_)
      | (refine own_pure (by rfl) (by intro w; simp [go_sem, V3.v, Pl.v, V3.cs, Pl.cs, layAt, Value.cells, Wide, Wide.cs] <;> rfl) ?_)); simp only [Act.put, List.setIfInBounds_toArray, List.set_cons_succ, List.set_cons_zero]))))
    refine own_ret1 Try.results69 rfl (.tmp rfl) (fun hR => hR.ret ?_) hR
    rw [HV.out]
    rfl
  ·
   by_cases h1 : 9223372036854775808 < l
   ·
    have k2 : Hid (decide (9223372036854775808 < l) = true) := Lib.hid (decide_eq_true h1)
    have e : max (-l) (-9223372036854775808) = -9223372036854775808 := by omega
    rw [if_pos rfl, e]
    refine calls_hide fun V HV => ?_
    have hR := Own.start w
    go_enter Try.func69, Try.ntmps69
    go_wp2_with (first
     | ((with_reducible apply is_list); repeat1' (first | rw [k1.out] | rw [k2.out] | ((first
      | ((with_reducible refine own_skip ?_ ?_); (exact rfl))
      | (refine own_move (by rfl) (by rfl) (by simp only [Act.eval, Array.getD_eq_getD_getElem?, List.getElem?_toArray, List.getElem?_cons_zero, List.getElem?_cons_succ, Option.getD_some] <;> rfl) ?_)
      | (refine own_assign (by rfl) (by rfl) (by simp only [Act.eval, Array.getD_eq_getD_getElem?, List.getElem?_toArray, List.getElem?_cons_zero, List.getElem?_cons_succ, Option.getD_some] <;> rfl) ?_)
      | (refine own_box (by rfl) (by rfl) (by simp [go_sem, V3.v, Pl.v, V3.cs, Pl.cs, layAt, Value.cells, Wide, Wide.cs] <;> rfl) ?_ hR; clear hR; intro _ _ hR)
      | (refine own_alloc (by rfl) (by rfl) (by first | exact zero_all _ _ rfl) ?_ hR; clear hR; intro _ _ hR)
      | (refine own_alloc1 (by rfl) (by rfl) (by first | exact zero_all _ _ rfl) (by simp [go_sem, V3.v, Pl.v, V3.cs, Pl.cs, layAt, Value.cells, Wide, Wide.cs] <;> rfl) ?_ hR; clear hR; intro _ _ hR)
      | (refine own_load_all (by rfl) (by rfl) (by rfl) (by first | exact agg_all _ _ rfl) (by repeat (first | exact .head _ | refine .tail _ ?_)) (by rfl) ?_ hR; clear hR; intro hR)
      | (refine own_load_agg (by rfl) (by rfl) (by rfl) (by first | exact agg_all _ _ rfl) (by repeat (first | exact .head _ | refine .tail _ ?_)) (by rfl) (by simp [go_sem, V3.v, Pl.v, V3.cs, Pl.cs, layAt, Value.cells, Wide, Wide.cs] <;> rfl) ?_ hR; clear hR; intro hR)
      | (refine own_load_one (by rfl) (by rfl) (by rfl) (by first | exact one_all _ rfl) (by repeat (first | exact .head _ | refine .tail _ ?_)) (by simp [go_sem, V3.v, Pl.v, V3.cs, Pl.cs, layAt, Value.cells, Wide, Wide.cs] <;> rfl) ?_ hR; clear hR; intro hR)
      | (refine own_store_all (by rfl) (by rfl) (by rfl) (by first | exact (agg_all _ _ rfl).size | exact (one_all _ rfl).size) (by rfl) (by rfl) (by rfl) (by repeat (first | exact .head _ | refine .tail _ ?_)) (by rfl) (by simp [go_sem, V3.v, Pl.v, V3.cs, Pl.cs, layAt, Value.cells, Wide, Wide.cs] <;> rfl) (by repeat (first | exact .here | apply Upd.there)) ?_ hR; clear hR; intro _ hR)
      | (refine own_store (by rfl) (by rfl) (by rfl) (by first | exact (agg_all _ _ rfl).size | exact (one_all _ rfl).size) (by rfl) (by rfl) (by rfl) (by repeat (first | exact .head _ | refine .tail _ ?_)) (by rfl) (by simp [go_sem, V3.v, Pl.v, V3.cs, Pl.cs, layAt, Value.cells, Wide, Wide.cs] <;> rfl) (by repeat (first | exact .here | apply Upd.there)) ?_ hR; clear hR; intro _ hR)
      | (refine own_max (by rfl) (by rfl) (by rfl) (by rfl) ?_)
      | (refine own_min (by rfl) (by rfl) (by rfl) (by rfl) ?_)
      | (refine own_pure (by rfl) (by intro w; simp [go_sem, V3.v, Pl.v, V3.cs, Pl.cs, layAt, Value.cells, Wide, Wide.cs] <;> rfl) ?_)); simp only [Act.put, List.setIfInBounds_toArray, List.set_cons_succ, List.set_cons_zero]))))
    refine own_ret1 Try.results69 rfl (.tmp rfl) (fun hR => hR.ret ?_) hR
    rw [HV.out]
    rfl
   ·
    have k2 : Hid (decide (9223372036854775808 < l) = false) := Lib.hid (decide_eq_false h1)
    have e : max (-l) (-9223372036854775808) = IntKind.i64.wrap (IntKind.u64.wrap (-l)) := by rw [IntKind.wrap_u64, IntKind.wrap_i64]; omega
    rw [if_pos rfl, e]
    refine calls_hide fun V HV => ?_
    have hR := Own.start w
    go_enter Try.func69, Try.ntmps69
    go_wp2_with (first
     | ((with_reducible apply is_list); repeat1' (first | rw [k1.out] | rw [k2.out] | ((first
      | ((with_reducible refine own_skip ?_ ?_); (exact rfl))
      | (refine own_move (by rfl) (by rfl) (by simp only [Act.eval, Array.getD_eq_getD_getElem?, List.getElem?_toArray, List.getElem?_cons_zero, List.getElem?_cons_succ, Option.getD_some] <;> rfl) ?_)
      | (refine own_assign (by rfl) (by rfl) (by simp only [Act.eval, Array.getD_eq_getD_getElem?, List.getElem?_toArray, List.getElem?_cons_zero, List.getElem?_cons_succ, Option.getD_some] <;> rfl) ?_)
      | (refine own_box (by rfl) (by rfl) (by simp [go_sem, V3.v, Pl.v, V3.cs, Pl.cs, layAt, Value.cells, Wide, Wide.cs] <;> rfl) ?_ hR; clear hR; intro _ _ hR)
      | (refine own_alloc (by rfl) (by rfl) (by first | exact zero_all _ _ rfl) ?_ hR; clear hR; intro _ _ hR)
      | (refine own_alloc1 (by rfl) (by rfl) (by first | exact zero_all _ _ rfl) (by simp [go_sem, V3.v, Pl.v, V3.cs, Pl.cs, layAt, Value.cells, Wide, Wide.cs] <;> rfl) ?_ hR; clear hR; intro _ _ hR)
      | (refine own_load_all (by rfl) (by rfl) (by rfl) (by first | exact agg_all _ _ rfl) (by repeat (first | exact .head _ | refine .tail _ ?_)) (by rfl) ?_ hR; clear hR; intro hR)
      | (refine own_load_agg (by rfl) (by rfl) (by rfl) (by first | exact agg_all _ _ rfl) (by repeat (first | exact .head _ | refine .tail _ ?_)) (by rfl) (by simp [go_sem, V3.v, Pl.v, V3.cs, Pl.cs, layAt, Value.cells, Wide, Wide.cs] <;> rfl) ?_ hR; clear hR; intro hR)
      | (refine own_load_one (by rfl) (by rfl) (by rfl) (by first | exact one_all _ rfl) (by repeat (first | exact .head _ | refine .tail _ ?_)) (by simp [go_sem, V3.v, Pl.v, V3.cs, Pl.cs, layAt, Value.cells, Wide, Wide.cs] <;> rfl) ?_ hR; clear hR; intro hR)
      | (refine own_store_all (by rfl) (by rfl) (by rfl) (by first | exact (agg_all _ _ rfl).size | exact (one_all _ rfl).size) (by rfl) (by rfl) (by rfl) (by repeat (first | exact .head _ | refine .tail _ ?_)) (by rfl) (by simp [go_sem, V3.v, Pl.v, V3.cs, Pl.cs, layAt, Value.cells, Wide, Wide.cs] <;> rfl) (by repeat (first | exact .here | apply Upd.there)) ?_ hR; clear hR; intro _ hR)
      | (refine own_store (by rfl) (by rfl) (by rfl) (by first | exact (agg_all _ _ rfl).size | exact (one_all _ rfl).size) (by rfl) (by rfl) (by rfl) (by repeat (first | exact .head _ | refine .tail _ ?_)) (by rfl) (by simp [go_sem, V3.v, Pl.v, V3.cs, Pl.cs, layAt, Value.cells, Wide, Wide.cs] <;> rfl) (by repeat (first | exact .here | apply Upd.there)) ?_ hR; clear hR; intro _ hR)
      | (refine own_max (by rfl) (by rfl) (by rfl) (by rfl) ?_)
      | (refine own_min (by rfl) (by rfl) (by rfl) (by rfl) ?_)
      | (refine own_pure (by rfl) (by intro w; simp [go_sem, V3.v, Pl.v, V3.cs, Pl.cs, layAt, Value.cells, Wide, Wide.cs] <;> rfl) ?_)); simp only [Act.put, List.setIfInBounds_toArray, List.set_cons_succ, List.set_cons_zero]))))
    refine own_ret1 Try.results69 rfl (.tmp rfl) (fun hR => hR.ret ?_) hR
    rw [HV.out]
    rfl

theorem signed_any (n : Nat) (below : Bool) (w : World) : Calls Try.prog 69 #[Wide n, .bool below] w (Ret w (I (signedN n below))) := by
 have h := signed_w (nI (n / 18446744073709551616)) (nI (n % 18446744073709551616)) below w (nI_nonneg _) (nI_nonneg _) (nI_lt (Nat.mod_lt _ (by decide)))
 have e : (if below then (if nI (n / 18446744073709551616) > 0 then -9223372036854775808 else max (-nI (n % 18446744073709551616)) (-9223372036854775808)) else (if nI (n / 18446744073709551616) > 0 then 9223372036854775807 else min (nI (n % 18446744073709551616)) 9223372036854775807)) = signedN n below := by
  unfold signedN
  rw [nI_eq, nI_eq]
  cases below
  · simp only [Bool.false_eq_true, if_false]; split <;> omega
  · simp only [if_true]; split <;> omega
 rw [e] at h
 exact h

end Go.Proofs.Ytimkhidniolpeaa
