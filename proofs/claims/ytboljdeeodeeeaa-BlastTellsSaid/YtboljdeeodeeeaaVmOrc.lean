/- The small machine: contracts put together. -/
import Derived.Test.YtboljdeeodeeeaaVmO
import Derived.Test.YtboljdeeodeeeaaVmI
namespace Go.Proofs.Ytboljdeeodeeeaa
set_option linter.unusedSimpArgs false
set_option linter.unusedVariables false
set_option maxRecDepth 100000
open Go.RowKit

/-- A function's contract. -/
structure Orc where
  f : Nat
  call : List SV → List Row → Option Eff
  ok : ∀ args rows e, call args rows = some e → e.ok = true → FnOk Try.prog f args (rows[·]?) rows.length e
  bod : ∃ fn, Try.prog.funcs[f]? = some fn ∧ (fn.name == "runtime.NumGoroutine" || fn.body.isNone) = false

noncomputable def callOf : List Orc → Nat → List SV → List Row → Option Eff
  | [], _, _, _ => none
  | o :: l, f, args, rows => bif Nat.beq f o.f then o.call args rows else callOf l f args rows

theorem callOf_ok {f : Nat} {args : List SV} {rows : List Row} {e : Eff} : ∀ {l : List Orc}, callOf l f args rows = some e → e.ok = true → FnOk Try.prog f args (rows[·]?) rows.length e ∧ (∃ fn, Try.prog.funcs[f]? = some fn ∧ (fn.name == "runtime.NumGoroutine" || fn.body.isNone) = false)
  | [], h, _ => by cases h
  | o :: l, h, hok => by
    rw [callOf] at h
    cases hb : Nat.beq f o.f with
    | true =>
      rw [hb, cond_true] at h
      have := Nat.eq_of_beq_eq_true hb
      subst this
      exact ⟨o.ok _ _ _ h hok, o.bod⟩
    | false =>
      rw [hb, cond_false] at h
      exact callOf_ok h hok

noncomputable def ctxOf (fns : List Nat) (l : List Orc) : Ctx := ⟨vmT, fnsOf fns, callOf l⟩
theorem ctxOf_ok {fns : List Nat} {l : List Orc} (hl : (fns.all fun f => match Try.prog.funcs[f]? with
    | some fn => !(fn.name == "runtime.NumGoroutine" || fn.body.isNone)
    | none => true) = true) : COk Try.prog (ctxOf fns l) where
  mixed := by kernel_rfl
  T := vmT_ok
  fn := fnsOf_ok hl
  call := fun _ _ _ _ h hok => callOf_ok h hok

/-- A function without arguments whose run is known. -/
noncomputable def oConst (v : SV) (args : List SV) : Option Eff := match args with
  | [] => some { val := v }
  | _ => none
theorem oConst_ok {f : Nat} {v : SV} {rows' : List Row} (hc : CallOk Try.prog f [] [] v rows') (hv : v.ids = []) {args : List SV} {m : Nat → Option Row} {n : Nat} {e : Eff} (h : oConst v args = some e) : FnOk Try.prog f args m n e := by
  unfold oConst at h
  split at h
  · cases h; exact fnOk_pure hc rfl hv
  · cases h

/-- Loops' oracles put together. -/
def LpOk (f : Nat) (p : List Nat) (F : LoopF) : Prop := ∀ b, At Try.prog f p (.loop b) → ∀ (s : St) (K : Ex → St → Option Res2) (r : Res2), F s K = some r → ∃ e s', K e s' = some r ∧ TriL Try.prog b s e s'
structure Lpo where
  f : Nat
  p : List Nat
  F : LoopF
  ok : LpOk f p F
noncomputable def loopOf : List Lpo → Nat → List Nat → Option LoopF
  | [], _, _ => none
  | o :: l, f, p => bif Nat.beq f o.f && decide (p = o.p) then some o.F else loopOf l f p
theorem loopOf_ok : ∀ {l : List Lpo}, LOk Try.prog (loopOf l)
  | [] => fun _ _ _ h => by cases h
  | o :: l => by
    intro f p F hF b hat s K r h
    rw [loopOf] at hF
    cases hb : Nat.beq f o.f && decide (p = o.p) with
    | true =>
      rw [hb, cond_true] at hF
      cases hF
      rw [Bool.and_eq_true, decide_eq_true_eq] at hb
      obtain ⟨h1, rfl⟩ := hb
      obtain rfl := Nat.eq_of_beq_eq_true h1
      exact o.ok b hat s K r h
    | false =>
      rw [hb, cond_false] at hF
      exact loopOf_ok f p F hF b hat s K r h

end Go.Proofs.Ytboljdeeodeeeaa
