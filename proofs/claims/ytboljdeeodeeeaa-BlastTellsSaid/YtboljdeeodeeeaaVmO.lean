/- The small machine: fix's functions by their contracts. -/
import Derived.Test.YtboljdeeodeeeaaVmI
import Derived.Test.YtboljdeeodeeeaaVmT
import Derived.Test.YtboljdeeodeeeaaFixC
namespace Go.Proofs.Ytboljdeeodeeeaa
set_option linter.unusedSimpArgs false
set_option linter.unusedVariables false
set_option maxRecDepth 100000
open Go.RowKit

def in64B (n : Int) : Bool := decide (-9223372036854775808 ≤ n) && decide (n ≤ 9223372036854775807)
theorem in64B_iff {n : Int} : in64B n = true ↔ In64 n := by unfold in64B In64; simp
def fitsB (a : V3) : Bool := in64B a.x && (in64B a.y && in64B a.z)
theorem fitsB_iff {a : V3} : fitsB a = true ↔ a.fits := by unfold fitsB V3.fits; simp [in64B_iff]

def oAdd : List SV → Option Eff
  | [.int .i64 a, .int .i64 b] => some { ok := in64B a && in64B b, val := .int .i64 (cut64 (a + b)) }
  | _ => none
def oClamp : List SV → Option Eff
  | [.agg [.int .i64 x, .int .i64 y, .int .i64 z], .int .i64 n] => some { ok := in64B n, val := .agg (V3.sv ((⟨x, y, z⟩ : V3).clamp n)) }
  | _ => none

def oPlus : List SV → Option Eff
  | [.agg [.int .i64 x, .int .i64 y, .int .i64 z], .agg [.int .i64 p, .int .i64 q, .int .i64 r]] => some { ok := fitsB ⟨x, y, z⟩ && fitsB ⟨p, q, r⟩, val := .agg (V3.sv ((⟨x, y, z⟩ : V3).plus ⟨p, q, r⟩)) }
  | _ => none
def oMinus : List SV → Option Eff
  | [.agg [.int .i64 x, .int .i64 y, .int .i64 z], .agg [.int .i64 p, .int .i64 q, .int .i64 r]] => some { ok := fitsB ⟨x, y, z⟩ && fitsB ⟨p, q, r⟩, val := .agg (V3.sv ((⟨x, y, z⟩ : V3).minus ⟨p, q, r⟩)) }
  | _ => none

section
variable {m : Nat → Option Row} {n : Nat}

theorem relL_one {ρ : Rho} {a : SV} {us : List Value} : RelL ρ [a] us ↔ ∃ u, us = [u] ∧ Rel ρ a u := by
  simp only [RelL]
  constructor
  · rintro ⟨v, _, rfl, h, rfl⟩; exact ⟨v, rfl, h⟩
  · rintro ⟨v, rfl, h⟩; exact ⟨v, [], rfl, h, rfl⟩

theorem rel_vec {ρ : Rho} {x y z : Int} {u : Value} : Rel ρ (.agg [.int .i64 x, .int .i64 y, .int .i64 z]) u ↔ u = (⟨x, y, z⟩ : V3).v := by
  simp only [Rel, RelL]
  constructor
  · rintro ⟨vs, rfl, _, _, rfl, rfl, _, _, rfl, rfl, _, _, rfl, rfl, rfl⟩; rfl
  · rintro rfl
    exact ⟨[I x, I y, I z], rfl, _, _, rfl, rfl, _, _, rfl, rfl, _, _, rfl, rfl, rfl⟩

theorem oAdd_ok {args : List SV} {e : Eff} (h : oAdd args = some e) (hok : e.ok = true) : FnOk Try.prog 56 args m n e := by
  unfold oAdd at h
  split at h
  · rename_i a b
    cases h
    simp only [Bool.and_eq_true, in64B_iff] at hok
    refine fnOk_data (vargs := [I a, I b]) (fun ρ us h => ?_) (fun ρ => by simp only [Rel]) (fun w => add_any a b w hok.1 hok.2)
    simp only [RelL, Rel] at h
    obtain ⟨_, _, rfl, rfl, _, _, rfl, rfl, rfl⟩ := h
    rfl
  · cases h

end

theorem oPlus_ok {m : Nat → Option Row} {n : Nat} {args : List SV} {e : Eff} (h : oPlus args = some e) (hok : e.ok = true) : FnOk Try.prog 37 args m n e := by
  unfold oPlus at h
  split at h
  · rename_i x y z p q r
    cases h
    simp only [Bool.and_eq_true, fitsB_iff] at hok
    refine fnOk_data (vargs := [(⟨x, y, z⟩ : V3).v, (⟨p, q, r⟩ : V3).v]) (fun ρ us h => ?_) (fun ρ => rel_vec.2 rfl) (fun w => vplus_any ⟨x, y, z⟩ ⟨p, q, r⟩ w hok.1 hok.2)
    rw [RelL] at h
    obtain ⟨v, us, rfl, h1, h2⟩ := h
    rw [relL_one] at h2
    obtain ⟨u, rfl, h2⟩ := h2
    rw [rel_vec.1 h1, rel_vec.1 h2]
  · cases h

theorem oMinus_ok {m : Nat → Option Row} {n : Nat} {args : List SV} {e : Eff} (h : oMinus args = some e) (hok : e.ok = true) : FnOk Try.prog 23 args m n e := by
  unfold oMinus at h
  split at h
  · rename_i x y z p q r
    cases h
    simp only [Bool.and_eq_true, fitsB_iff] at hok
    refine fnOk_data (vargs := [(⟨x, y, z⟩ : V3).v, (⟨p, q, r⟩ : V3).v]) (fun ρ us h => ?_) (fun ρ => rel_vec.2 rfl) (fun w => vminus_any ⟨x, y, z⟩ ⟨p, q, r⟩ w hok.1 hok.2)
    rw [RelL] at h
    obtain ⟨v, us, rfl, h1, h2⟩ := h
    rw [relL_one] at h2
    obtain ⟨u, rfl, h2⟩ := h2
    rw [rel_vec.1 h1, rel_vec.1 h2]
  · cases h

noncomputable def fnsOf (l : List Nat) (f : Nat) : Option Func := bif memN f l then Try.prog.funcs[f]? else none

theorem bodied {f : Nat} {fn : Func} (h : Try.prog.funcs[f]? = some fn) (hok : (fn.name == "runtime.NumGoroutine" || fn.body.isNone) = false) : ∃ fn, Try.prog.funcs[f]? = some fn ∧ (fn.name == "runtime.NumGoroutine" || fn.body.isNone) = false := ⟨fn, h, hok⟩

theorem fnsOf_ok {l : List Nat} (hl : (l.all fun f => match Try.prog.funcs[f]? with
    | some fn => !(fn.name == "runtime.NumGoroutine" || fn.body.isNone)
    | none => true) = true) : ∀ f fn, fnsOf l f = some fn → Try.prog.funcs[f]? = some fn ∧ (fn.name == "runtime.NumGoroutine" || fn.body.isNone) = false := by
  intro f fn h
  unfold fnsOf at h
  cases hm : memN f l with
  | false => simp [hm] at h
  | true =>
    simp only [hm, cond_true] at h
    have h1 := List.all_eq_true.1 hl f (memN_iff.1 hm)
    rw [h] at h1
    exact ⟨h, by simpa using h1⟩

end Go.Proofs.Ytboljdeeodeeeaa
