/- The small machine in the laws of package grid: what must be in any case. -/
import Derived.Test.YtikifgbbiffclaaVmOrc
namespace Go.Proofs.Ytikifgbbiffclaa
set_option linter.unusedSimpArgs false
set_option linter.unusedVariables false
open Go.RowKit

noncomputable def callG (f : Nat) (args : List SV) (_rows : List Row) : Option Eff :=
  bif Nat.beq f 30 then oPlus args else bif Nat.beq f 29 then oMinus args else none
noncomputable def fnsG : List Nat := [25, 27, 14, 26, 15, 17, 28, 19, 21, 23, 38, 40,
  39, 41, 42, 43, 31, 36, 50, 32, 51]
noncomputable def xG : Ctx := ⟨vmT, fnsOf fnsG, callG⟩

theorem callG_ok {f : Nat} {args : List SV} {rows : List Row} {m : Nat → Option Row} {n : Nat} {e : Eff} (h : callG f args rows = some e) (hok : e.ok = true) : FnOk Try.prog f args m n e ∧ ∃ fn, Try.prog.funcs[f]? = some fn ∧ (fn.name == "runtime.NumGoroutine" || fn.body.isNone) = false := by
  simp only [callG] at h
  cases h1 : Nat.beq f 30 with
  | true =>
    simp only [h1, cond_true] at h
    have := Nat.eq_of_beq_eq_true h1
    subst this
    exact ⟨oPlus_ok h hok, bodied Try.func30 (by kernel_rfl)⟩
  | false =>
    simp only [h1, cond_false] at h
    cases h2 : Nat.beq f 29 with
    | true =>
      simp only [h2, cond_true] at h
      have := Nat.eq_of_beq_eq_true h2
      subst this
      exact ⟨oMinus_ok h hok, bodied Try.func29 (by kernel_rfl)⟩
    | false => simp [h2] at h

theorem xG_ok : COk Try.prog xG where
  mixed := by kernel_rfl
  T := vmT_ok
  fn := fnsOf_ok (by kernel_rfl)
  call := fun _ _ rows _ h hok => callG_ok (rows := rows) h hok

set_option maxRecDepth 100000 in
set_option maxHeartbeats 0 in
theorem shown9_val : runK xG (fun _ _ => none) 2000 13 Try.f13 0 [] [] = some (.bool true, []) := by kernel_rfl

noncomputable def callGb (f : Nat) (args : List SV) (rows : List Row) : Option Eff :=
  bif Nat.beq f 13 then (match args with
    | [] => some { val := .bool true }
    | _ => none) else callG f args rows
noncomputable def xGb : Ctx := ⟨vmT, fnsOf fnsG, callGb⟩
theorem xGb_ok : COk Try.prog xGb where
  mixed := by kernel_rfl
  T := vmT_ok
  fn := fnsOf_ok (by kernel_rfl)
  call := fun f args rows e h hok => by
    simp only [xGb, callGb] at h
    cases h1 : Nat.beq f 13 with
    | true =>
      simp only [h1, cond_true] at h
      have := Nat.eq_of_beq_eq_true h1
      subst this
      split at h
      · cases h
        obtain ⟨rows', hc, _⟩ := runK_ok xG_ok lok_none Try.func13 shown9_val
        exact ⟨fnOk_pure hc rfl rfl, bodied Try.func13 (by kernel_rfl)⟩
      · cases h
    | false =>
      simp only [h1, cond_false] at h
      exact callG_ok (rows := rows) h hok
noncomputable def orcShown9 : Orc := ⟨13, fun args _ => oConst (.bool true) args, fun _ _ _ h _ => (runK_ok xG_ok lok_none Try.func13 shown9_val).elim fun _ hc => oConst_ok hc.1 rfl h, bodied Try.func13 (by kernel_rfl)⟩

end Go.Proofs.Ytikifgbbiffclaa
