/- Package fix by the small machine: its numbers of 128 bits. -/
import Derived.Test.YtimkhidniolpeaaVmO
import Derived.Test.YtimkhidniolpeaaVmR
import Derived.Lib.Mul64
import Derived.Laws.Bits64b
namespace Go.Proofs.Ytimkhidniolpeaa
set_option linter.unusedSimpArgs false
set_option linter.unusedVariables false
set_option maxRecDepth 100000
set_option maxHeartbeats 0
open Go.RowKit

noncomputable def hidF {α : Type} (a : α) : α := Classical.choose (⟨a, rfl⟩ : ∃ b, b = a)
theorem hidF_eq {α : Type} (a : α) : hidF a = a := Classical.choose_spec (⟨a, rfl⟩ : ∃ b, b = a)
noncomputable def inU (x : Int) : Bool := hidF (decide (0 ≤ x) && decide (x < 18446744073709551616))
theorem inU_iff {x : Int} : inU x = true ↔ 0 ≤ x ∧ x < 18446744073709551616 := by unfold inU; rw [hidF_eq]; simp
noncomputable def in128 (x : Int) : Bool := hidF (decide (x < 340282366920938463463374607431768211456))
theorem in128_iff {x : Int} : in128 x = true ↔ x < 340282366920938463463374607431768211456 := by unfold in128; rw [hidF_eq]; simp
namespace Mul64
theorem maskN (a : Nat) (ha : a < 18446744073709551616) : bits .and .u64 (a : Int) 4294967295 = ((a % 4294967296 : Nat) : Int) := by
 have h := bits_and_u64_nat a 4294967295 ha (by omega)
 have e : a &&& 4294967295 = a % 4294967296 := Nat.and_two_pow_sub_one_eq_mod a 32
 rw [e] at h
 exact h
theorem divN (a : Nat) : (a : Int) / 4294967296 = ((a / 4294967296 : Nat) : Int) := by omega
theorem mulN (a b : Nat) : (a : Int) * (b : Int) = ((a * b : Nat) : Int) := (Int.natCast_mul a b).symm
theorem addN (a b : Nat) : (a : Int) + (b : Int) = ((a + b : Nat) : Int) := (Int.natCast_add a b).symm
theorem wrapN (a : Nat) (ha : a < 18446744073709551616) : IntKind.u64.wrap (a : Int) = (a : Int) := by rw [IntKind.wrap_u64]; omega
theorem wrapM (a : Nat) : IntKind.u64.wrap (a : Int) = ((a % 18446744073709551616 : Nat) : Int) := by rw [IntKind.wrap_u64]; omega
end Mul64

set_option maxHeartbeats 1000000 in
theorem mul64_n (x y : Nat) (hx : x < 18446744073709551616) (hy : y < 18446744073709551616) (w : World) :
    Calls Try.prog 90 #[.int .u64 x, .int .u64 y] w (Ret w (.tuple #[.int .u64 ((x * y / 18446744073709551616 : Nat) : Int), .int .u64 ((x * y % 18446744073709551616 : Nat) : Int)])) := by
 obtain ⟨bd, bt, bw, hhi⟩ := Lib.mul64_hi x y hx hy
 have ba := Lib.half_mul_le (a := x / 4294967296) (b := y / 4294967296) (by omega) (by omega)
 have bb := Lib.half_mul_le (a := x / 4294967296) (b := y % 4294967296) (by omega) (by omega)
 have bc := Lib.half_mul_le (a := x % 4294967296) (b := y / 4294967296) (by omega) (by omega)
 have ba' : x / 4294967296 * (y / 4294967296) < 18446744073709551616 := by omega
 have bb' : x / 4294967296 * (y % 4294967296) < 18446744073709551616 := by omega
 have bc' : x % 4294967296 * (y / 4294967296) < 18446744073709551616 := by omega
 have bh1 : x / 4294967296 * (y / 4294967296) + (x / 4294967296 * (y % 4294967296) + x % 4294967296 * (y % 4294967296) / 4294967296) / 4294967296 < 18446744073709551616 := by omega
 have bh : x / 4294967296 * (y / 4294967296) + (x / 4294967296 * (y % 4294967296) + x % 4294967296 * (y % 4294967296) / 4294967296) / 4294967296 + ((x / 4294967296 * (y % 4294967296) + x % 4294967296 * (y % 4294967296) / 4294967296) % 4294967296 + x % 4294967296 * (y / 4294967296)) / 4294967296 < 18446744073709551616 := by omega
 go_enter Try.func90, Try.ntmps90
 go_wp2
 simp only [Mul64.maskN x hx, Mul64.maskN y hy, Mul64.divN, Mul64.mulN, Mul64.addN, Mul64.wrapN _ bd, Mul64.wrapN _ bb', Mul64.wrapN _ bt, Mul64.maskN _ bt, Mul64.wrapN _ bc', Mul64.wrapN _ bw, Mul64.wrapN _ ba', Mul64.wrapN _ bh1, Mul64.wrapN _ bh, Mul64.wrapM (x * y)]
 rw [hhi]
 go_ret2
 exact ⟨rfl, Below.refl _ _⟩
noncomputable def oMul64 : List SV → Option Eff
 | [.int .u64 x, .int .u64 y] => some { ok := inU x && inU y, val := .tuple [.int .u64 (x * y / 18446744073709551616), .int .u64 (x * y % 18446744073709551616)] }
 | _ => none
theorem oMul64_ok {m : Nat → Option Row} {n : Nat} {args : List SV} {e : Eff} (h : oMul64 args = some e) (hok : e.ok = true) : FnOk Try.prog 90 args m n e := by
 unfold oMul64 at h
 split at h
 · rename_i x y
   cases h
   simp only [Bool.and_eq_true, inU_iff] at hok
   obtain ⟨⟨h1, h2⟩, h3, h4⟩ := hok
   obtain ⟨X, rfl⟩ := Int.eq_ofNat_of_zero_le h1
   obtain ⟨Y, rfl⟩ := Int.eq_ofNat_of_zero_le h3
   have := mul64_n X Y (by omega) (by omega)
   refine fnOk_data (vargs := [.int .u64 X, .int .u64 Y]) (rv := .tuple #[.int .u64 ((X * Y / 18446744073709551616 : Nat) : Int), .int .u64 ((X * Y % 18446744073709551616 : Nat) : Int)]) (fun ρ us h => ?_) (fun ρ => ?_) this
   · simp only [RelL, Rel] at h
     obtain ⟨_, _, rfl, rfl, _, _, rfl, rfl, rfl⟩ := h
     rfl
   · exact ⟨[_, _], rfl, by simp only [relL_cons, relL_nil, Rel, Value.int.injEq, true_and, and_true]; exact ⟨rfl, rfl⟩⟩
 · cases h
noncomputable def orcMul64 : Orc := ⟨90, fun args _ => oMul64 args, fun _ _ _ h hok => oMul64_ok h hok, bodied Try.func90 (by kernel_rfl)⟩

noncomputable def xFix : Ctx := ctxOf [] [orcMul64]
theorem xFix_ok : COk Try.prog xFix := ctxOf_ok (by kernel_rfl)

theorem size_tree (a : Int) : runK xFix (fun _ _ => none) 100 80 Try.f80 0 [.int .i64 a] [] =
 bif decide (a < 0) then some (.int .u64 (IntKind.u64.wrap (0 - IntKind.u64.wrap a)), []) else some (.int .u64 (IntKind.u64.wrap a), []) := by kernel_rfl

theorem product_tree (x y : Int) : runK xFix (fun _ _ => none) 100 83 Try.f83 0 [.int .u64 x, .int .u64 y] [] =
 bif inU x && inU y then some (SV.agg [.int .u64 (x * y / 18446744073709551616), .int .u64 (x * y % 18446744073709551616)], []) else none := by kernel_rfl

theorem wplus_tree (a b c d : Int) : runK xFix (fun _ _ => none) 100 81 Try.f81 0 [.agg [.int .u64 a, .int .u64 b], .agg [.int .u64 c, .int .u64 d]] [] =
 bif decide (0 ≤ b) && (decide (0 ≤ d) && true) then
 bif decide (0 ≤ a) && (decide (0 ≤ c) && (decide (0 ≤ (b + d + 0) / 18446744073709551616) && decide ((b + d + 0) / 18446744073709551616 ≤ 1))) then
 some (SV.agg [.int .u64 ((a + c + (b + d + 0) / 18446744073709551616) % 18446744073709551616), .int .u64 ((b + d + 0) % 18446744073709551616)], [])
 else none
 else none := by kernel_rfl

theorem above_tree (a b c d : Int) : runK xFix (fun _ _ => none) 100 84 Try.f84 0 [.agg [.int .u64 a, .int .u64 b], .agg [.int .u64 c, .int .u64 d]] [] =
 some (SV.bool (bif decide (a > c) == false then bif (a == c) == true then decide (b > d) else false else true), []) := by kernel_rfl

theorem signed_tree (a b : Int) (s : Bool) : runK xFix (fun _ _ => none) 100 69 Try.f69 0 [.agg [.int .u64 a, .int .u64 b], .bool s] [] =
 bif bif s == true then bif decide (a > 0) == false then decide (b > 9223372036854775808) else true else false then some (.int .i64 (-9223372036854775808), [])
 else
 bif s then some (.int .i64 (IntKind.i64.wrap (IntKind.u64.wrap (0 - b))), [])
 else bif bif decide (a > 0) == false then decide (b > 9223372036854775807) else true then some (.int .i64 9223372036854775807, []) else some (.int .i64 (IntKind.i64.wrap b), []) := by kernel_rfl

theorem fnOk_run {X : Ctx} (hX : COk Try.prog X) {L : Nat → List Nat → Option LoopF} (hL : LOk Try.prog L) {f : Nat} {fn : Func} {fuel : Nat} {args : List SV} {v : SV} {ok : Bool} {m : Nat → Option Row} {n : Nat} (hf : Try.prog.funcs[f]? = some fn) (hi : SV.idsL args = []) (hv : v.ids = [])
    (h : runK X L fuel f fn 0 args [] = some (v, [])) : FnOk Try.prog f args m n { ok := ok, val := v } := by
 obtain ⟨rows', hc, _⟩ := runK_ok hX hL hf h
 exact fnOk_pure hc hi hv

noncomputable def hiZ (z : Int) : Int := hidF (z / 18446744073709551616)
noncomputable def loZ (z : Int) : Int := hidF (z % 18446744073709551616)
noncomputable def wS (z : Int) : SV := .agg [.int .u64 (hiZ z), .int .u64 (loZ z)]
def wV (h l : Int) : Int := h * 18446744073709551616 + l
theorem hiZ_eq (z : Int) : hiZ z = z / 18446744073709551616 := hidF_eq _
theorem loZ_eq (z : Int) : loZ z = z % 18446744073709551616 := hidF_eq _
theorem wV_of (z : Int) : wV (hiZ z) (loZ z) = z := by unfold wV; rw [hiZ_eq, loZ_eq]; omega
theorem wV_word (z : Int) : wV 0 z = z := by unfold wV; omega
theorem inU_hi {z : Int} (h1 : 0 ≤ z) (h2 : z < 340282366920938463463374607431768211456) : inU (hiZ z) = true := inU_iff.2 (by rw [hiZ_eq]; omega)
theorem inU_lo (z : Int) : inU (loZ z) = true := inU_iff.2 (by rw [loZ_eq]; omega)

def absZ (a : Int) : Int := max a (-a)
def oSize : List SV → Option Eff
 | [.int .i64 a] => some { ok := in64B a, val := .int .u64 (absZ a) }
 | _ => none
theorem oSize_ok {m : Nat → Option Row} {n : Nat} {args : List SV} {e : Eff} (h : oSize args = some e) (hok : e.ok = true) : FnOk Try.prog 80 args m n e := by
 unfold oSize at h
 split at h
 · rename_i a
   cases h
   have := in64B_iff.1 hok
   unfold In64 at this
   refine fnOk_run xFix_ok lok_none Try.func80 rfl rfl (fuel := 100) ?_
   rw [size_tree]
   by_cases h : a < 0
   · rw [decide_eq_true h, show IntKind.u64.wrap (0 - IntKind.u64.wrap a) = absZ a by unfold absZ; rw [IntKind.wrap_u64, IntKind.wrap_u64]; omega]; rfl
   · rw [decide_eq_false h, show IntKind.u64.wrap a = absZ a by unfold absZ; rw [IntKind.wrap_u64]; omega]; rfl
 · cases h
noncomputable def orcSize : Orc := ⟨80, fun args _ => oSize args, fun _ _ _ h hok => oSize_ok h hok, bodied Try.func80 (by kernel_rfl)⟩

noncomputable def okWd (a b c d : Int) : Bool := inU a && (inU b && (inU c && inU d))
noncomputable def oWPlus : List SV → Option Eff
 | [.agg [.int .u64 a, .int .u64 b], .agg [.int .u64 c, .int .u64 d]] => some { ok := okWd a b c d && in128 (wV a b + wV c d), val := wS (wV a b + wV c d) }
 | _ => none
theorem oWPlus_ok {m : Nat → Option Row} {n : Nat} {args : List SV} {e : Eff} (h : oWPlus args = some e) (hok : e.ok = true) : FnOk Try.prog 81 args m n e := by
 unfold oWPlus at h
 split at h
 · rename_i a b c d
   cases h
   simp only [okWd, Bool.and_eq_true, inU_iff, in128_iff] at hok
   obtain ⟨⟨ha, hb, hc, hd⟩, hs⟩ := hok
   unfold wV at hs
   refine fnOk_run xFix_ok lok_none Try.func81 rfl rfl (fuel := 100) ?_
   rw [wplus_tree, decide_eq_true ha.1, decide_eq_true hb.1, decide_eq_true hc.1, decide_eq_true hd.1, decide_eq_true (show 0 ≤ (b + d + 0) / 18446744073709551616 by omega), decide_eq_true (show (b + d + 0) / 18446744073709551616 ≤ 1 by omega),
    show (a + c + (b + d + 0) / 18446744073709551616) % 18446744073709551616 = hiZ (wV a b + wV c d) by rw [hiZ_eq]; unfold wV; omega, show (b + d + 0) % 18446744073709551616 = loZ (wV a b + wV c d) by rw [loZ_eq]; unfold wV; omega]
   rfl
 · cases h
noncomputable def orcWPlus : Orc := ⟨81, fun args _ => oWPlus args, fun _ _ _ h hok => oWPlus_ok h hok, bodied Try.func81 (by kernel_rfl)⟩

noncomputable def oAbove : List SV → Option Eff
 | [.agg [.int .u64 a, .int .u64 b], .agg [.int .u64 c, .int .u64 d]] => some { ok := okWd a b c d, val := .bool (decide (wV c d < wV a b)) }
 | _ => none
theorem oAbove_ok {m : Nat → Option Row} {n : Nat} {args : List SV} {e : Eff} (h : oAbove args = some e) (hok : e.ok = true) : FnOk Try.prog 84 args m n e := by
 unfold oAbove at h
 split at h
 · rename_i a b c d
   cases h
   simp only [okWd, Bool.and_eq_true, inU_iff] at hok
   obtain ⟨ha, hb, hc, hd⟩ := hok
   refine fnOk_run xFix_ok lok_none Try.func84 rfl rfl (fuel := 100) ?_
   rw [above_tree]
   have e : (bif decide (a > c) == false then bif (a == c) == true then decide (b > d) else false else true) = decide (wV c d < wV a b) := by
    unfold wV
    by_cases h1 : a > c
    · rw [decide_eq_true h1, decide_eq_true (show c * 18446744073709551616 + d < a * 18446744073709551616 + b by omega)]; rfl
    · rw [decide_eq_false h1]
      by_cases h2 : a = c
      · subst h2
        rw [show (decide (a * 18446744073709551616 + d < a * 18446744073709551616 + b)) = decide (b > d) by rw [Bool.eq_iff_iff]; simp]
        simp
      · rw [decide_eq_false (show ¬ c * 18446744073709551616 + d < a * 18446744073709551616 + b by omega)]; simp [h2]
   rw [e]
 · cases h
noncomputable def orcAbove : Orc := ⟨84, fun args _ => oAbove args, fun _ _ _ h hok => oAbove_ok h hok, bodied Try.func84 (by kernel_rfl)⟩

def sgnZ (z : Int) (s : Bool) : Int := bif s then max (-z) (-9223372036854775808) else min z 9223372036854775807
noncomputable def oSigned : List SV → Option Eff
 | [.agg [.int .u64 a, .int .u64 b], .bool s] => some { ok := inU a && inU b, val := .int .i64 (sgnZ (wV a b) s) }
 | _ => none
theorem oSigned_ok {m : Nat → Option Row} {n : Nat} {args : List SV} {e : Eff} (h : oSigned args = some e) (hok : e.ok = true) : FnOk Try.prog 69 args m n e := by
 unfold oSigned at h
 split at h
 · rename_i a b s
   cases h
   simp only [Bool.and_eq_true, inU_iff] at hok
   obtain ⟨ha, hb⟩ := hok
   refine fnOk_run xFix_ok lok_none Try.func69 rfl rfl (fuel := 100) ?_
   rw [signed_tree]
   unfold sgnZ wV
   have key : ∀ k : Int, 9223372036854775807 ≤ k → k ≤ 9223372036854775808 → (bif decide (a > 0) == false then decide (b > k) else true) = decide (k < a * 18446744073709551616 + b) := by
    intro k h1 h2
    by_cases h : a > 0
    · rw [decide_eq_true h, decide_eq_true (show k < a * 18446744073709551616 + b by omega)]; rfl
    · rw [decide_eq_false h, show a = 0 by omega]; simp
   rw [key _ (by omega) (by omega), key _ (by omega) (by omega)]
   cases s with
   | true =>
    by_cases h : 9223372036854775808 < a * 18446744073709551616 + b
    · rw [decide_eq_true h, show max (-(a * 18446744073709551616 + b)) (-9223372036854775808) = -9223372036854775808 by omega]; rfl
    · rw [decide_eq_false h, show IntKind.i64.wrap (IntKind.u64.wrap (0 - b)) = max (-(a * 18446744073709551616 + b)) (-9223372036854775808) by rw [IntKind.wrap_u64, IntKind.wrap_i64]; omega]; rfl
   | false =>
    by_cases h : 9223372036854775807 < a * 18446744073709551616 + b
    · rw [decide_eq_true h, show min (a * 18446744073709551616 + b) 9223372036854775807 = 9223372036854775807 by omega]; rfl
    · rw [decide_eq_false h, show IntKind.i64.wrap b = min (a * 18446744073709551616 + b) 9223372036854775807 by rw [IntKind.wrap_i64]; omega]; rfl
 · cases h
noncomputable def orcSigned : Orc := ⟨69, fun args _ => oSigned args, fun _ _ _ h hok => oSigned_ok h hok, bodied Try.func69 (by kernel_rfl)⟩

def cut64 (z : Int) : Int := max (-9223372036854775808) (min 9223372036854775807 z)
theorem cut64_fits (z : Int) : In64 (cut64 z) := by unfold In64 cut64; omega
noncomputable def xFixY : Ctx := ctxOf [] [orcSize, orcWPlus, orcSigned]
theorem xFixY_ok : COk Try.prog xFixY := ctxOf_ok (by kernel_rfl)

theorem fadd_tree (a b : Int) : runK xFixY (fun _ _ => none) 100 65 Try.f65 0 [.int .i64 a, .int .i64 b] [] =
 bif decide (a < 0) == decide (b < 0) then
 bif in64B a then
 bif in64B b then
 bif okWd 0 (absZ a) 0 (absZ b) && in128 (wV 0 (absZ a) + wV 0 (absZ b)) then
 bif inU (hiZ (wV 0 (absZ a) + wV 0 (absZ b))) && inU (loZ (wV 0 (absZ a) + wV 0 (absZ b))) then
 some (.int .i64 (sgnZ (wV (hiZ (wV 0 (absZ a) + wV 0 (absZ b))) (loZ (wV 0 (absZ a) + wV 0 (absZ b)))) (decide (a < 0))), [])
 else none
 else none
 else none
 else none
 else some (.int .i64 (IntKind.i64.wrap (a + b)), []) := by kernel_rfl

theorem fsub_tree (a b : Int) : runK xFixY (fun _ _ => none) 100 64 Try.f64 0 [.int .i64 a, .int .i64 b] [] =
 bif !decide (a < 0) == decide (b < 0) then
 bif in64B a then
 bif in64B b then
 bif okWd 0 (absZ a) 0 (absZ b) && in128 (wV 0 (absZ a) + wV 0 (absZ b)) then
 bif inU (hiZ (wV 0 (absZ a) + wV 0 (absZ b))) && inU (loZ (wV 0 (absZ a) + wV 0 (absZ b))) then
 some (.int .i64 (sgnZ (wV (hiZ (wV 0 (absZ a) + wV 0 (absZ b))) (loZ (wV 0 (absZ a) + wV 0 (absZ b)))) (decide (a < 0))), [])
 else none
 else none
 else none
 else none
 else some (.int .i64 (IntKind.i64.wrap (a - b)), []) := by kernel_rfl

theorem absZ_in {a : Int} (ha : In64 a) : 0 ≤ absZ a ∧ absZ a ≤ 9223372036854775808 := by unfold In64 at ha; unfold absZ; omega
theorem add_words {a b : Int} (ha : In64 a) (hb : In64 b) : in64B a = true ∧ in64B b = true ∧ (okWd 0 (absZ a) 0 (absZ b) && in128 (wV 0 (absZ a) + wV 0 (absZ b))) = true ∧
    (inU (hiZ (wV 0 (absZ a) + wV 0 (absZ b))) && inU (loZ (wV 0 (absZ a) + wV 0 (absZ b)))) = true ∧ wV (hiZ (wV 0 (absZ a) + wV 0 (absZ b))) (loZ (wV 0 (absZ a) + wV 0 (absZ b))) = absZ a + absZ b := by
 have h1 := absZ_in ha
 have h2 := absZ_in hb
 have h3 := inU_iff (x := absZ a)
 have h4 := inU_iff (x := absZ b)
 refine ⟨in64B_iff.2 ha, in64B_iff.2 hb, ?_, ?_, by rw [wV_of, wV_word, wV_word]⟩
 · rw [wV_word, wV_word, in128_iff.2 (by omega)]
   unfold okWd
   rw [h3.2 (by omega), h4.2 (by omega), inU_iff.2 (show (0 : Int) ≤ 0 ∧ (0 : Int) < 18446744073709551616 by omega)]
   rfl
 · rw [wV_word, wV_word, inU_hi (by omega) (by omega), inU_lo]
   rfl
def oAdd : List SV → Option Eff
 | [.int .i64 a, .int .i64 b] => some { ok := in64B a && in64B b, val := .int .i64 (cut64 (a + b)) }
 | _ => none
theorem oAdd_ok {m : Nat → Option Row} {n : Nat} {args : List SV} {e : Eff} (h : oAdd args = some e) (hok : e.ok = true) : FnOk Try.prog 65 args m n e := by
 unfold oAdd at h
 split at h
 · rename_i a b
   cases h
   simp only [Bool.and_eq_true, in64B_iff] at hok
   obtain ⟨ha, hb⟩ := hok
   refine fnOk_run xFixY_ok lok_none Try.func65 rfl rfl (fuel := 100) ?_
   obtain ⟨h1, h2, h3, h4, h5⟩ := add_words ha hb
   rw [fadd_tree, h1, h2, h3, h4, h5]
   unfold In64 at ha hb
   by_cases k1 : a < 0 <;> by_cases k2 : b < 0 <;> simp only [k1, k2, decide_true, decide_false, beq_self_eq_true, cond_true, cond_false, show (true == false) = false from rfl, show (false == true) = false from rfl, Option.some.injEq, Prod.mk.injEq, SV.int.injEq, true_and, and_true]
   · unfold sgnZ cut64 absZ; simp only [cond_true]; omega
   · rw [IntKind.wrap_i64]; unfold cut64; omega
   · rw [IntKind.wrap_i64]; unfold cut64; omega
   · unfold sgnZ cut64 absZ; simp only [cond_false]; omega
 · cases h
noncomputable def orcAdd : Orc := ⟨65, fun args _ => oAdd args, fun _ _ _ h hok => oAdd_ok h hok, bodied Try.func65 (by kernel_rfl)⟩
def oSub : List SV → Option Eff
 | [.int .i64 a, .int .i64 b] => some { ok := in64B a && in64B b, val := .int .i64 (cut64 (a - b)) }
 | _ => none
theorem oSub_ok {m : Nat → Option Row} {n : Nat} {args : List SV} {e : Eff} (h : oSub args = some e) (hok : e.ok = true) : FnOk Try.prog 64 args m n e := by
 unfold oSub at h
 split at h
 · rename_i a b
   cases h
   simp only [Bool.and_eq_true, in64B_iff] at hok
   obtain ⟨ha, hb⟩ := hok
   refine fnOk_run xFixY_ok lok_none Try.func64 rfl rfl (fuel := 100) ?_
   obtain ⟨h1, h2, h3, h4, h5⟩ := add_words ha hb
   rw [fsub_tree, h1, h2, h3, h4, h5]
   unfold In64 at ha hb
   by_cases k1 : a < 0 <;> by_cases k2 : b < 0 <;> simp only [k1, k2, decide_true, decide_false, beq_self_eq_true, cond_true, cond_false, show (true == false) = false from rfl, show (false == true) = false from rfl, Bool.not_true, Bool.not_false, Option.some.injEq, Prod.mk.injEq, SV.int.injEq, true_and, and_true]
   · rw [IntKind.wrap_i64]; unfold cut64; omega
   · unfold sgnZ cut64 absZ; simp only [cond_true]; omega
   · unfold sgnZ cut64 absZ; simp only [cond_false]; omega
   · rw [IntKind.wrap_i64]; unfold cut64; omega
 · cases h
noncomputable def orcSub : Orc := ⟨64, fun args _ => oSub args, fun _ _ _ h hok => oSub_ok h hok, bodied Try.func64 (by kernel_rfl)⟩

def V3.plus (a b : V3) : V3 := ⟨cut64 (a.x + b.x), cut64 (a.y + b.y), cut64 (a.z + b.z)⟩
def V3.minus (a b : V3) : V3 := ⟨cut64 (a.x - b.x), cut64 (a.y - b.y), cut64 (a.z - b.z)⟩
noncomputable def xFixV : Ctx := ctxOf [63] [orcAdd, orcSub]
theorem xFixV_ok : COk Try.prog xFixV := ctxOf_ok (by kernel_rfl)

theorem vplus_tree (a b : V3) : runK xFixV (fun _ _ => none) 200 46 Try.f46 0 [.agg a.sv, .agg b.sv] [] =
 bif in64B a.x && in64B b.x then
 bif in64B a.y && in64B b.y then
 bif in64B a.z && in64B b.z then some (SV.agg [.int .i64 (cut64 (a.x + b.x)), .int .i64 (cut64 (a.y + b.y)), .int .i64 (cut64 (a.z + b.z))], []) else none
 else none
 else none := by kernel_rfl

theorem vminus_tree (a b : V3) : runK xFixV (fun _ _ => none) 200 45 Try.f45 0 [.agg a.sv, .agg b.sv] [] =
 bif in64B a.x && in64B b.x then
 bif in64B a.y && in64B b.y then
 bif in64B a.z && in64B b.z then some (SV.agg [.int .i64 (cut64 (a.x - b.x)), .int .i64 (cut64 (a.y - b.y)), .int .i64 (cut64 (a.z - b.z))], []) else none
 else none
 else none := by kernel_rfl

def oPlus : List SV → Option Eff
 | [.agg [.int .i64 x, .int .i64 y, .int .i64 z], .agg [.int .i64 p, .int .i64 q, .int .i64 r]] => some { ok := fitsB ⟨x, y, z⟩ && fitsB ⟨p, q, r⟩, val := .agg (V3.sv ((⟨x, y, z⟩ : V3).plus ⟨p, q, r⟩)) }
 | _ => none
def oMinus : List SV → Option Eff
 | [.agg [.int .i64 x, .int .i64 y, .int .i64 z], .agg [.int .i64 p, .int .i64 q, .int .i64 r]] => some { ok := fitsB ⟨x, y, z⟩ && fitsB ⟨p, q, r⟩, val := .agg (V3.sv ((⟨x, y, z⟩ : V3).minus ⟨p, q, r⟩)) }
 | _ => none
theorem fits3 {a b : V3} (h : (fitsB a && fitsB b) = true) : (in64B a.x && in64B b.x) = true ∧ (in64B a.y && in64B b.y) = true ∧ (in64B a.z && in64B b.z) = true := by
 simp only [fitsB, Bool.and_eq_true] at h ⊢
 exact ⟨⟨h.1.1, h.2.1⟩, ⟨h.1.2.1, h.2.2.1⟩, h.1.2.2, h.2.2.2⟩
theorem oPlus_ok {m : Nat → Option Row} {n : Nat} {args : List SV} {e : Eff} (h : oPlus args = some e) (hok : e.ok = true) : FnOk Try.prog 46 args m n e := by
 unfold oPlus at h
 split at h
 · rename_i x y z p q r
   cases h
   obtain ⟨h1, h2, h3⟩ := fits3 (a := ⟨x, y, z⟩) (b := ⟨p, q, r⟩) hok
   refine fnOk_run xFixV_ok lok_none Try.func46 rfl rfl (fuel := 200) ((vplus_tree ⟨x, y, z⟩ ⟨p, q, r⟩).trans ?_)
   rw [h1, h2, h3]
   rfl
 · cases h
theorem oMinus_ok {m : Nat → Option Row} {n : Nat} {args : List SV} {e : Eff} (h : oMinus args = some e) (hok : e.ok = true) : FnOk Try.prog 45 args m n e := by
 unfold oMinus at h
 split at h
 · rename_i x y z p q r
   cases h
   obtain ⟨h1, h2, h3⟩ := fits3 (a := ⟨x, y, z⟩) (b := ⟨p, q, r⟩) hok
   refine fnOk_run xFixV_ok lok_none Try.func45 rfl rfl (fuel := 200) ((vminus_tree ⟨x, y, z⟩ ⟨p, q, r⟩).trans ?_)
   rw [h1, h2, h3]
   rfl
 · cases h

noncomputable def xFixC : Ctx := ctxOf [63] [] [97]
theorem xFixC_ok : COk Try.prog xFixC := ctxOf_ok (by kernel_rfl)

theorem fclamp_tree (a : V3) (n : Int) : runK xFixC (fun _ _ => none) 200 88 Try.f88 0 [.agg a.sv, .int .i64 n] [] =
 some
 (SV.agg
 [.int .i64 (max (IntKind.i64.wrap (0 - max n 0)) (min (max n 0) a.x)), .int .i64 (max (IntKind.i64.wrap (0 - max n 0)) (min (max n 0) a.y)),
 .int .i64 (max (IntKind.i64.wrap (0 - max n 0)) (min (max n 0) a.z))],
 []) := by kernel_rfl

def clampN (n a : Int) : Int := max (-(max n 0)) (min (max n 0) a)
def V3.clamp (a : V3) (n : Int) : V3 := ⟨clampN n a.x, clampN n a.y, clampN n a.z⟩
def oClamp : List SV → Option Eff
 | [.agg [.int .i64 x, .int .i64 y, .int .i64 z], .int .i64 n] => some { ok := in64B n, val := .agg (V3.sv ((⟨x, y, z⟩ : V3).clamp n)) }
 | _ => none
theorem oClamp_ok {m : Nat → Option Row} {n : Nat} {args : List SV} {e : Eff} (h : oClamp args = some e) (hok : e.ok = true) : FnOk Try.prog 88 args m n e := by
 unfold oClamp at h
 split at h
 · rename_i x y z k
   cases h
   have hk := in64B_iff.1 hok
   unfold In64 at hk
   refine fnOk_run xFixC_ok lok_none Try.func88 rfl rfl (fuel := 200) ((fclamp_tree ⟨x, y, z⟩ k).trans ?_)
   rw [show IntKind.i64.wrap (0 - max k 0) = -(max k 0) by rw [IntKind.wrap_i64]; omega]
   rfl
 · cases h

noncomputable def oProd : List SV → Option Eff
 | [.int .u64 x, .int .u64 y] => some { ok := inU x && inU y, val := wS (x * y) }
 | _ => none
theorem oProd_ok {m : Nat → Option Row} {n : Nat} {args : List SV} {e : Eff} (h : oProd args = some e) (hok : e.ok = true) : FnOk Try.prog 83 args m n e := by
 unfold oProd at h
 split at h
 · rename_i x y
   cases h
   refine fnOk_run xFix_ok lok_none Try.func83 rfl rfl (fuel := 100) ?_
   rw [product_tree, show (inU x && inU y) = true from hok]
   unfold wS
   rw [hiZ_eq, loZ_eq]
   rfl
 · cases h
noncomputable def orcProd : Orc := ⟨83, fun args _ => oProd args, fun _ _ _ h hok => oProd_ok h hok, bodied Try.func83 (by kernel_rfl)⟩

noncomputable def xFixP : Ctx := ctxOf [] [orcProd, orcSize, orcWPlus]
theorem xFixP_ok : COk Try.prog xFixP := ctxOf_ok (by kernel_rfl)

theorem prod1_tree (x y a b c d : Int) : runF xFixP (fun _ _ => none) 200 82 Try.f82 [.int .i64 x, .int .i64 y, .ptr 0 0 0 0, .ptr 1 0 0 0] [.own [.int .u64 a, .int .u64 b], .own [.int .u64 c, .int .u64 d]] =
 bif in64B x then
 bif in64B y then
 bif inU (absZ x) && inU (absZ y) then
 bif decide (x < 0) == decide (y < 0) then
 bif okWd a b (hiZ (absZ x * absZ y)) (loZ (absZ x * absZ y)) && in128 (wV a b + wV (hiZ (absZ x * absZ y)) (loZ (absZ x * absZ y))) then
 some
 (.int .i64 0,
 [Row.own [.int .u64 (hiZ (wV a b + wV (hiZ (absZ x * absZ y)) (loZ (absZ x * absZ y)))), .int .u64 (loZ (wV a b + wV (hiZ (absZ x * absZ y)) (loZ (absZ x * absZ y))))],
 Row.own [.int .u64 c, .int .u64 d], Row.own [.int .u64 (hiZ (absZ x * absZ y)), .int .u64 (loZ (absZ x * absZ y))]])
 else none
 else
 bif okWd c d (hiZ (absZ x * absZ y)) (loZ (absZ x * absZ y)) && in128 (wV c d + wV (hiZ (absZ x * absZ y)) (loZ (absZ x * absZ y))) then
 some
 (.int .i64 0,
 [Row.own [.int .u64 a, .int .u64 b],
 Row.own
 [.int .u64 (hiZ (wV c d + wV (hiZ (absZ x * absZ y)) (loZ (absZ x * absZ y)))), .int .u64 (loZ (wV c d + wV (hiZ (absZ x * absZ y)) (loZ (absZ x * absZ y))))],
 Row.own [.int .u64 (hiZ (absZ x * absZ y)), .int .u64 (loZ (absZ x * absZ y))]])
 else none
 else none
 else none
 else none := by kernel_rfl

noncomputable def xFixR : Ctx := ctxOf [] [orcProd, orcAbove]
theorem xFixR_ok : COk Try.prog xFixR := ctxOf_ok (by kernel_rfl)
def valRoot (n t : Int) : List SV := [.ptr 0 0 0 0, .int .u64 n, .int .u64 t]
noncomputable def rdRoot : List SV → List Row → Option Res2 := roundS xFixR (fun _ _ => none) 100 70 [0, 1, 0, 1] (bodyAt Try.f70 [0, 1, 0, 1]) 22 1 [1, 2, 3]

theorem root_round (a b n t : Int) : rdRoot (valRoot n t) [.own [.int .u64 a, .int .u64 b]] =
 bif decide (t > 0) then
 bif
 inU (IntKind.u64.wrap (↑(BitVec.ofInt IntKind.u64.bits n ||| BitVec.ofInt IntKind.u64.bits t).toNat : Int)) &&
 inU (IntKind.u64.wrap (↑(BitVec.ofInt IntKind.u64.bits n ||| BitVec.ofInt IntKind.u64.bits t).toNat : Int)) then
 bif
 okWd
 (hiZ
 (IntKind.u64.wrap (↑(BitVec.ofInt IntKind.u64.bits n ||| BitVec.ofInt IntKind.u64.bits t).toNat : Int) *
 IntKind.u64.wrap (↑(BitVec.ofInt IntKind.u64.bits n ||| BitVec.ofInt IntKind.u64.bits t).toNat : Int)))
 (loZ
 (IntKind.u64.wrap (↑(BitVec.ofInt IntKind.u64.bits n ||| BitVec.ofInt IntKind.u64.bits t).toNat : Int) *
 IntKind.u64.wrap (↑(BitVec.ofInt IntKind.u64.bits n ||| BitVec.ofInt IntKind.u64.bits t).toNat : Int)))
 a b then
 bif
 !decide
 (wV a b <
 wV
 (hiZ
 (IntKind.u64.wrap (↑(BitVec.ofInt IntKind.u64.bits n ||| BitVec.ofInt IntKind.u64.bits t).toNat : Int) *
 IntKind.u64.wrap (↑(BitVec.ofInt IntKind.u64.bits n ||| BitVec.ofInt IntKind.u64.bits t).toNat : Int)))
 (loZ
 (IntKind.u64.wrap (↑(BitVec.ofInt IntKind.u64.bits n ||| BitVec.ofInt IntKind.u64.bits t).toNat : Int) *
 IntKind.u64.wrap (↑(BitVec.ofInt IntKind.u64.bits n ||| BitVec.ofInt IntKind.u64.bits t).toNat : Int)))) then
 some
 (SV.tuple
 [SV.nilp,
 SV.tuple
 [SV.ptr 0 0 0 0, .int .u64 (IntKind.u64.wrap (↑(BitVec.ofInt IntKind.u64.bits n ||| BitVec.ofInt IntKind.u64.bits t).toNat : Int)),
 .int .u64 (t.fdiv (2 ^ min (Int.toNat 1) IntKind.u64.bits))]],
 [Row.own [.int .u64 a, .int .u64 b]])
 else
 some
 (SV.tuple [SV.nilp, SV.tuple [SV.ptr 0 0 0 0, .int .u64 n, .int .u64 (t.fdiv (2 ^ min (Int.toNat 1) IntKind.u64.bits))]],
 [Row.own [.int .u64 a, .int .u64 b]])
 else none
 else none
 else some (SV.tuple [SV.ptr 0 0 0 0, SV.tuple [SV.ptr 0 0 0 0, .int .u64 n, .int .u64 t]], [Row.own [.int .u64 a, .int .u64 b]]) := by kernel_rfl

def rootGo (W : Nat) : Nat → Nat → Nat
 | 0, n => n
 | k + 1, n => bif Nat.ble ((n + 2 ^ k) * (n + 2 ^ k)) W then rootGo W k (n + 2 ^ k) else rootGo W k n
def rootC (W : Nat) : Nat := rootGo W 64 0
def RootAt (W n t : Nat) : Prop := t ∣ n ∧ n * n ≤ W ∧ W < (n + t) * (n + t)
theorem RootAt.take {W n t : Nat} (h : RootAt W n (2 * t)) (hle : (n + t) * (n + t) ≤ W) : RootAt W (n + t) t := by
 obtain ⟨⟨c, hc⟩, h1, h2⟩ := h
 refine ⟨⟨2 * c + 1, ?_⟩, hle, ?_⟩
 · rw [hc, Nat.mul_add, Nat.mul_one, Nat.mul_comm 2 t, Nat.mul_assoc]
 · rw [Nat.add_assoc, ← Nat.two_mul]; exact h2
theorem RootAt.leave {W n t : Nat} (h : RootAt W n (2 * t)) (hgt : W < (n + t) * (n + t)) : RootAt W n t := by
 obtain ⟨⟨c, hc⟩, h1, h2⟩ := h
 exact ⟨⟨2 * c, by rw [hc, Nat.mul_comm 2 t, Nat.mul_assoc]⟩, h1, hgt⟩
theorem root_lt {W n t k : Nat} (hW : W < 340282366920938463463374607431768211456) (hk : k < 64) (ht : t = 2 ^ k) (h : RootAt W n (2 * t)) : n + t < 18446744073709551616 := by
 obtain ⟨⟨c, hc⟩, h1, _⟩ := h
 have hn : n < 18446744073709551616 := by
  by_cases hh : n < 18446744073709551616
  · exact hh
  · have := Nat.mul_le_mul (Nat.le_of_not_lt hh) (Nat.le_of_not_lt hh)
    omega
 have hd : 2 * t * 2 ^ (63 - k) = 18446744073709551616 := by
  rw [ht, Nat.mul_assoc, ← Nat.pow_add, show k + (63 - k) = 63 by omega]
 have htp : 0 < t := by rw [ht]; exact Nat.two_pow_pos k
 have hcd : c < 2 ^ (63 - k) := by
  by_cases hh : c < 2 ^ (63 - k)
  · exact hh
  · have := Nat.mul_le_mul_left (2 * t) (Nat.le_of_not_lt hh)
    omega
 have := Nat.mul_le_mul_left (2 * t) hcd
 rw [Nat.mul_succ] at this
 omega
theorem root_or {W n t k : Nat} (ht : t = 2 ^ k) (h : RootAt W n (2 * t)) : n ||| t = n + t := by
 obtain ⟨⟨c, hc⟩, _, _⟩ := h
 have e : n = 2 ^ (k + 1) * c := by rw [hc, ht, Nat.pow_succ, Nat.mul_comm 2]
 rw [e]
 exact (Nat.two_pow_add_eq_or_of_lt (by rw [ht, Nat.pow_succ]; have := Nat.two_pow_pos k; omega) c).symm
theorem orZ_nat (n t : Nat) (hn : n < 18446744073709551616) (ht : t < 18446744073709551616) : IntKind.u64.wrap (↑(BitVec.ofInt IntKind.u64.bits (n : Int) ||| BitVec.ofInt IntKind.u64.bits (t : Int)).toNat : Int) = ((n ||| t : Nat) : Int) := bits_or_u64_nat n t hn ht
theorem root_loop {a b : Int} (ha : inU a = true) (hb : inU b = true) : ∀ (k n : Nat), k ≤ 64 → RootAt (wV a b).toNat n (2 ^ k) → LoopTo rdRoot (valRoot n ((2 ^ k / 2 : Nat) : Int)) [.own [.int .u64 a, .int .u64 b]] (.exit 0) (valRoot ((rootGo (wV a b).toNat k n : Nat) : Int) 0) [.own [.int .u64 a, .int .u64 b]]
 | 0, n, _, _ => by
  refine .done ?_ (by simp)
  rw [root_round]
  rfl
 | k + 1, n, hk, h => by
  have hab := inU_iff.1 ha
  have hbb := inU_iff.1 hb
  have hW : (((wV a b).toNat : Nat) : Int) = wV a b := by unfold wV; omega
  have hW2 : (wV a b).toNat < 340282366920938463463374607431768211456 := by unfold wV; omega
  have e2 : 2 ^ (k + 1) = 2 * 2 ^ k := by rw [Nat.pow_succ]; omega
  rw [e2] at h ⊢
  rw [show 2 * 2 ^ k / 2 = 2 ^ k by omega]
  have htp : 0 < 2 ^ k := Nat.two_pow_pos k
  have hlt := root_lt hW2 (show k < 64 by omega) rfl h
  have hsq : (n + 2 ^ k) * (n + 2 ^ k) < 340282366920938463463374607431768211456 := by
   have := Nat.mul_le_mul (show n + 2 ^ k ≤ 18446744073709551615 by omega) (show n + 2 ^ k ≤ 18446744073709551615 by omega)
   omega
  have hro := root_round a b n ((2 ^ k : Nat) : Int)
  have et : (((2 ^ k : Nat) : Int)).fdiv (2 ^ min (Int.toNat 1) IntKind.u64.bits) = ((2 ^ k / 2 : Nat) : Int) := by
   rw [show (2 ^ min (Int.toNat 1) IntKind.u64.bits : Int) = 2 by decide, Int.fdiv_eq_ediv_of_nonneg _ (by omega)]
   omega
  have hU : inU ((n + 2 ^ k : Nat) : Int) = true := inU_iff.2 (by omega)
  rw [orZ_nat n (2 ^ k) (by omega) (by omega), root_or rfl h, et, hU, decide_eq_true (show ((2 ^ k : Nat) : Int) > 0 by omega), ← Int.natCast_mul, wV_of] at hro
  unfold okWd at hro
  rw [inU_hi (by omega) (by omega), inU_lo, ha, hb, ← hW] at hro
  rw [rootGo]
  by_cases hle : (n + 2 ^ k) * (n + 2 ^ k) ≤ (wV a b).toNat
  · rw [decide_eq_false (show ¬ (((wV a b).toNat : Nat) : Int) < (((n + 2 ^ k) * (n + 2 ^ k) : Nat) : Int) by omega)] at hro
    rw [Nat.ble_eq_true_of_le hle, cond_true]
    exact .more hro (root_loop ha hb k _ (by omega) (h.take hle))
  · rw [decide_eq_true (show (((wV a b).toNat : Nat) : Int) < (((n + 2 ^ k) * (n + 2 ^ k) : Nat) : Int) by omega)] at hro
    rw [show Nat.ble ((n + 2 ^ k) * (n + 2 ^ k)) (wV a b).toNat = false by rw [Bool.eq_false_iff]; exact fun hh => hle (Nat.le_of_ble_eq_true hh), cond_false]
    exact .more hro (root_loop ha hb k _ (by omega) (h.leave (by omega)))
noncomputable def rootZ (z : Int) : Int := hidF ((rootC z.toNat : Nat) : Int)
noncomputable def outRoot (v : List SV) (R : List Row) (k : Ex → List SV → List Row → Option Res2) : Option Res2 := match v, R with
 | [.ptr 0 0 0 0, .int .u64 n, .int .u64 t], [.own [.int .u64 a, .int .u64 b]] => bif decide (n = 0) && (decide (t = 9223372036854775808) && (inU a && inU b)) then k (.exit 0) (valRoot (rootZ (wV a b)) 0) [.own [.int .u64 a, .int .u64 b]] else none
 | _, _ => none
theorem lpoRoot_ok : LpOk 70 [0, 1, 0, 1] (loopF 22 [1, 2, 3] outRoot) := by
 intro b hat s K r h
 refine loopF_ok (fuel := 100) xFixR_ok lok_none hat (fun v R k r hr => ?_) h
 have hbody := at_body Try.func70 hat
 subst hbody
 unfold outRoot at hr
 split at hr
 · rename_i n t a b
   obtain ⟨hb, hr2⟩ := cond_some hr
   simp only [Bool.and_eq_true, decide_eq_true_eq] at hb
   obtain ⟨rfl, rfl, ha, hb⟩ := hb
   have hab := inU_iff.1 ha
   have hbb := inU_iff.1 hb
   refine ⟨_, _, _, hr2, ?_⟩
   unfold rootZ
   rw [hidF_eq]
   exact root_loop ha hb 64 0 (by omega) ⟨Nat.dvd_zero _, Nat.zero_le _, by unfold wV; omega⟩
 · cases hr
noncomputable def lpoRoot : Lpo := ⟨_, _, _, lpoRoot_ok⟩

theorem root_tree (a b : Int) : runK xFixR (loopOf [lpoRoot]) 100 70 Try.f70 0 [.agg [.int .u64 a, .int .u64 b]] [] =
 bif inU a && inU b then some (.int .u64 (rootZ (wV a b)), []) else none := by kernel_rfl

noncomputable def oRoot : List SV → Option Eff
 | [.agg [.int .u64 a, .int .u64 b]] => some { ok := inU a && inU b, val := .int .u64 (rootZ (wV a b)) }
 | _ => none
theorem oRoot_ok {m : Nat → Option Row} {n : Nat} {args : List SV} {e : Eff} (h : oRoot args = some e) (hok : e.ok = true) : FnOk Try.prog 70 args m n e := by
 unfold oRoot at h
 split at h
 · rename_i a b
   cases h
   refine fnOk_run xFixR_ok loopOf_ok Try.func70 rfl rfl (fuel := 100) ((root_tree a b).trans ?_)
   rw [show (inU a && inU b) = true from hok]
   rfl
 · cases h
noncomputable def orcRoot : Orc := ⟨70, fun args _ => oRoot args, fun _ _ _ h hok => oRoot_ok h hok, bodied Try.func70 (by kernel_rfl)⟩

def upZ (x y : Int) : Int := bif decide (x < 0) == decide (y < 0) then absZ x * absZ y else 0
def dnZ (x y : Int) : Int := bif decide (x < 0) == decide (y < 0) then 0 else absZ x * absZ y
noncomputable def wC (z : Int) : List SV := [.int .u64 (hiZ z), .int .u64 (loZ z)]
noncomputable def okP (x y a b c d : Int) : Bool := in64B x && (in64B y && (okWd a b c d && (in128 (wV a b + upZ x y) && in128 (wV c d + dnZ x y))))
theorem prod1_val {x y a b c d : Int} (hok : okP x y a b c d = true) : runF xFixP (fun _ _ => none) 200 82 Try.f82 [.int .i64 x, .int .i64 y, .ptr 0 0 0 0, .ptr 1 0 0 0] [.own [.int .u64 a, .int .u64 b], .own [.int .u64 c, .int .u64 d]] =
    some (.int .i64 0, [.own (wC (wV a b + upZ x y)), .own (wC (wV c d + dnZ x y)), .own (wC (absZ x * absZ y))]) := by
 unfold okP okWd at hok
 simp only [Bool.and_eq_true] at hok
 obtain ⟨h1, h2, ⟨ha, hb, hc, hd⟩, h3, h4⟩ := hok
 have hx := absZ_in (in64B_iff.1 h1)
 have hy := absZ_in (in64B_iff.1 h2)
 have hp : absZ x * absZ y ≤ 85070591730234615865843651857942052864 := Int.mul_le_mul hx.2 hy.2 hy.1 (by omega)
 have hp0 : 0 ≤ absZ x * absZ y := Int.mul_nonneg hx.1 hy.1
 have same : ∀ p q : Int, inU p = true → inU q = true → hiZ (wV p q + 0) = p ∧ loZ (wV p q + 0) = q := by
  intro p q hp hq
  rw [inU_iff] at hp hq
  rw [hiZ_eq, loZ_eq]
  unfold wV
  omega
 rw [prod1_tree, h1, h2, inU_iff.2 (by omega), inU_iff.2 (by omega)]
 unfold okWd
 rw [ha, hb, hc, hd, inU_hi hp0 (by omega), inU_lo, wV_of]
 unfold upZ at h3
 unfold dnZ at h4
 unfold upZ dnZ
 generalize (decide (x < 0) == decide (y < 0)) = g at h3 h4 ⊢
 cases g with
 | true =>
  simp only [cond_true] at h3 h4 ⊢
  rw [h3, wC, wC, (same c d hc hd).1, (same c d hc hd).2]
  rfl
 | false =>
  simp only [cond_false] at h3 h4 ⊢
  rw [h4, wC, wC, (same a b ha hb).1, (same a b ha hb).2]
  rfl
noncomputable def oProd1 (args : List SV) (rows : List Row) : Option Eff := match args with
 | [.int .i64 x, .int .i64 y, .ptr iu 0 0 0, .ptr id 0 0 0] => match rows[iu]?, rows[id]? with
  | some (.own [.int .u64 a, .int .u64 b]), some (.own [.int .u64 c, .int .u64 d]) => bif !Nat.beq iu id then
   some { ok := okP x y a b c d, val := .int .i64 0, rd := [iu, id], wr := [(iu, .own (wC (wV a b + upZ x y))), (id, .own (wC (wV c d + dnZ x y)))], nw := [.own (wC (absZ x * absZ y))] } else none
  | _, _ => none
 | _ => none
theorem oProd1_ok {args : List SV} {rows : List Row} {e : Eff} (h : oProd1 args rows = some e) (hok : e.ok = true) : FnOk Try.prog 82 args (rows[·]?) rows.length e := by
 unfold oProd1 at h
 split at h
 · rename_i x y iu id
   split at h
   · rename_i a b c d hu hd
     obtain ⟨hb, h⟩ := cond_some h
     cases h
     have hne := Nat.ne_of_beq_eq_false (by simpa using hb : Nat.beq iu id = false)
     have l1 := (List.getElem?_eq_some_iff.1 hu).1
     have l2 := (List.getElem?_eq_some_iff.1 hd).1
     have hc := runF_ok xFixP_ok lok_none Try.func82 (prod1_val hok)
     refine fnOk_ren hc (σ := [iu, id]) (n := rows.length) (W := [(iu, .own (wC (wV a b + upZ x y))), (id, .own (wC (wV c d + dnZ x y)))]) rfl ?_ ?_ ?_ ?_ ?_ ?_ ?_
     · simp [hne]
     · intro j hj
       simp at hj
       rcases hj with rfl | rfl <;> assumption
     · intro i hi
       simp [SV.idsL, SV.ids] at hi
       rcases hi with rfl | rfl <;> simp
     · intro i row hr j hj
       match i, hr with
       | 0, hr => simp at hr; subst hr; simp [Row.idsR, SV.idsL, SV.ids] at hj
       | 1, hr => simp at hr; subst hr; simp [Row.idsR, SV.idsL, SV.ids] at hj
       | i + 2, hr => simp at hr
     · intro i row hr
       match i, hr with
       | 0, hr => simp at hr; subst hr; exact ⟨_, hu, fun _ => rfl, fun _ _ h => h⟩
       | 1, hr => simp at hr; subst hr; exact ⟨_, hd, fun _ => rfl, fun _ _ h => h⟩
       | i + 2, hr => simp at hr
     · intro i row hr _
       match i, hr with
       | 0, hr => exact .inr ⟨_, rfl, List.mem_cons_self ..⟩
       | 1, hr => exact .inr ⟨_, rfl, List.mem_cons_of_mem _ (List.mem_cons_self ..)⟩
       | i + 2, hr => simp at hr
     · intro x hx
       simp only [List.mem_cons, List.not_mem_nil, or_false] at hx
       rcases hx with rfl | rfl
       · exact ⟨0, _, by simp, rfl, rfl⟩
       · exact ⟨1, _, by simp, rfl, rfl⟩
   · cases h
 · cases h
noncomputable def orcProd1 : Orc := ⟨82, oProd1, fun _ _ _ h hok => oProd1_ok h hok, bodied Try.func82 (by kernel_rfl)⟩

noncomputable def xFixL : Ctx := ctxOf [63, 68] [orcProd1, orcRoot, orcSigned]
theorem xFixL_ok : COk Try.prog xFixL := ctxOf_ok (by kernel_rfl)

theorem long_tree (a : V3) : runK xFixL (fun _ _ => none) 300 52 Try.f52 0 [.agg a.sv] [] =
 bif okP a.x a.x 0 0 0 0 then
 bif okP a.y a.y (hiZ (wV 0 0 + upZ a.x a.x)) (loZ (wV 0 0 + upZ a.x a.x)) (hiZ (wV 0 0 + dnZ a.x a.x)) (loZ (wV 0 0 + dnZ a.x a.x)) then
 bif
 okP a.z a.z (hiZ (wV (hiZ (wV 0 0 + upZ a.x a.x)) (loZ (wV 0 0 + upZ a.x a.x)) + upZ a.y a.y)) (loZ (wV (hiZ (wV 0 0 + upZ a.x a.x)) (loZ (wV 0 0 + upZ a.x a.x)) + upZ a.y a.y))
 (hiZ (wV (hiZ (wV 0 0 + dnZ a.x a.x)) (loZ (wV 0 0 + dnZ a.x a.x)) + dnZ a.y a.y)) (loZ (wV (hiZ (wV 0 0 + dnZ a.x a.x)) (loZ (wV 0 0 + dnZ a.x a.x)) + dnZ a.y a.y)) then
 bif
 inU
 (hiZ
 (wV (hiZ (wV (hiZ (wV 0 0 + upZ a.x a.x)) (loZ (wV 0 0 + upZ a.x a.x)) + upZ a.y a.y)) (loZ (wV (hiZ (wV 0 0 + upZ a.x a.x)) (loZ (wV 0 0 + upZ a.x a.x)) + upZ a.y a.y)) +
 upZ a.z a.z)) &&
 inU
 (loZ
 (wV (hiZ (wV (hiZ (wV 0 0 + upZ a.x a.x)) (loZ (wV 0 0 + upZ a.x a.x)) + upZ a.y a.y)) (loZ (wV (hiZ (wV 0 0 + upZ a.x a.x)) (loZ (wV 0 0 + upZ a.x a.x)) + upZ a.y a.y)) +
 upZ a.z a.z)) then
 bif
 inU 0 &&
 inU
 (rootZ
 (wV
 (hiZ
 (wV (hiZ (wV (hiZ (wV 0 0 + upZ a.x a.x)) (loZ (wV 0 0 + upZ a.x a.x)) + upZ a.y a.y)) (loZ (wV (hiZ (wV 0 0 + upZ a.x a.x)) (loZ (wV 0 0 + upZ a.x a.x)) + upZ a.y a.y)) +
 upZ a.z a.z))
 (loZ
 (wV (hiZ (wV (hiZ (wV 0 0 + upZ a.x a.x)) (loZ (wV 0 0 + upZ a.x a.x)) + upZ a.y a.y)) (loZ (wV (hiZ (wV 0 0 + upZ a.x a.x)) (loZ (wV 0 0 + upZ a.x a.x)) + upZ a.y a.y)) +
 upZ a.z a.z)))) then
 some
 (SV.int IntKind.i64
 (sgnZ
 (wV 0
 (rootZ
 (wV
 (hiZ
 (wV (hiZ (wV (hiZ (wV 0 0 + upZ a.x a.x)) (loZ (wV 0 0 + upZ a.x a.x)) + upZ a.y a.y)) (loZ (wV (hiZ (wV 0 0 + upZ a.x a.x)) (loZ (wV 0 0 + upZ a.x a.x)) + upZ a.y a.y)) +
 upZ a.z a.z))
 (loZ
 (wV (hiZ (wV (hiZ (wV 0 0 + upZ a.x a.x)) (loZ (wV 0 0 + upZ a.x a.x)) + upZ a.y a.y)) (loZ (wV (hiZ (wV 0 0 + upZ a.x a.x)) (loZ (wV 0 0 + upZ a.x a.x)) + upZ a.y a.y)) +
 upZ a.z a.z)))))
 false),
 [])
 else none
 else none
 else none
 else none
 else none := by kernel_rfl

def sqN (a : V3) : Nat := a.x.natAbs * a.x.natAbs + a.y.natAbs * a.y.natAbs + a.z.natAbs * a.z.natAbs
def V3.long (a : V3) : Int := min ((rootC (sqN a) : Nat) : Int) 9223372036854775807
def oLong : List SV → Option Eff
 | [.agg [.int .i64 x, .int .i64 y, .int .i64 z]] => some { ok := fitsB ⟨x, y, z⟩, val := .int .i64 (V3.long ⟨x, y, z⟩) }
 | _ => none
theorem upZ_self (x : Int) : upZ x x = ((x.natAbs * x.natAbs : Nat) : Int) ∧ dnZ x x = 0 := by
 unfold upZ dnZ absZ
 rw [beq_self_eq_true]
 refine ⟨?_, rfl⟩
 rw [cond_true, Int.natCast_mul, show max x (-x) = (x.natAbs : Int) by omega]
theorem rootGo_lt {W : Nat} : ∀ (k n : Nat), rootGo W k n < n + 2 ^ k
 | 0, n => by simp [rootGo]
 | k + 1, n => by
  rw [rootGo, Nat.pow_succ]
  cases Nat.ble ((n + 2 ^ k) * (n + 2 ^ k)) W with
  | true => have := rootGo_lt (W := W) k (n + 2 ^ k); simp only [cond_true]; omega
  | false => have := rootGo_lt (W := W) k n; simp only [cond_false]; omega
theorem oLong_ok {m : Nat → Option Row} {n : Nat} {args : List SV} {e : Eff} (h : oLong args = some e) (hok : e.ok = true) : FnOk Try.prog 52 args m n e := by
 unfold oLong at h
 split at h
 · rename_i x y z
   cases h
   have hf := fitsB_iff.1 hok
   have le : ∀ x : Int, In64 x → x.natAbs * x.natAbs ≤ 85070591730234615865843651857942052864 := fun x hx => by unfold In64 at hx; exact Nat.mul_le_mul (show x.natAbs ≤ 9223372036854775808 by omega) (show x.natAbs ≤ 9223372036854775808 by omega)
   have lx := le x hf.1
   have ly := le y hf.2.1
   have lz := le z hf.2.2
   refine fnOk_run xFixL_ok lok_none Try.func52 rfl rfl (fuel := 300) ((long_tree ⟨x, y, z⟩).trans ?_)
   have e0 : wV 0 0 = 0 := rfl
   simp only [wV_of, (upZ_self _).1, (upZ_self _).2, e0, Int.zero_add, Int.add_zero, okP, okWd, ← Int.natCast_add]
   have i0 : inU 0 = true := inU_iff.2 (by omega)
   have q0 : in128 0 = true := in128_iff.2 (by omega)
   have hi0 : inU (hiZ 0) = true := inU_hi (by omega) (by omega)
   rw [in64B_iff.2 hf.1, in64B_iff.2 hf.2.1, in64B_iff.2 hf.2.2, i0, q0, hi0, inU_lo, inU_lo, inU_lo]
   rw [in128_iff.2 (show ((x.natAbs * x.natAbs : Nat) : Int) < 340282366920938463463374607431768211456 by omega), in128_iff.2 (show ((x.natAbs * x.natAbs + y.natAbs * y.natAbs : Nat) : Int) < 340282366920938463463374607431768211456 by omega),
    in128_iff.2 (show ((x.natAbs * x.natAbs + y.natAbs * y.natAbs + z.natAbs * z.natAbs : Nat) : Int) < 340282366920938463463374607431768211456 by omega),
    inU_hi (show (0 : Int) ≤ ((x.natAbs * x.natAbs : Nat) : Int) by omega) (by omega), inU_hi (show (0 : Int) ≤ ((x.natAbs * x.natAbs + y.natAbs * y.natAbs : Nat) : Int) by omega) (by omega),
    inU_hi (show (0 : Int) ≤ ((x.natAbs * x.natAbs + y.natAbs * y.natAbs + z.natAbs * z.natAbs : Nat) : Int) by omega) (by omega)]
   have hr : rootZ ((x.natAbs * x.natAbs + y.natAbs * y.natAbs + z.natAbs * z.natAbs : Nat) : Int) = ((rootC (sqN ⟨x, y, z⟩) : Nat) : Int) := hidF_eq _
   have hl := rootGo_lt (W := sqN ⟨x, y, z⟩) 64 0
   have hl2 : rootC (sqN ⟨x, y, z⟩) < 18446744073709551616 := by unfold rootC; omega
   rw [hr, inU_iff.2 (show (0 : Int) ≤ ((rootC (sqN ⟨x, y, z⟩) : Nat) : Int) ∧ ((rootC (sqN ⟨x, y, z⟩) : Nat) : Int) < 18446744073709551616 by omega), wV_word, inU_lo]
   rfl
 · cases h
noncomputable def orcLong : Orc := ⟨52, fun args _ => oLong args, fun _ _ _ h hok => oLong_ok h hok, bodied Try.func52 (by kernel_rfl)⟩

end Go.Proofs.Ytimkhidniolpeaa
