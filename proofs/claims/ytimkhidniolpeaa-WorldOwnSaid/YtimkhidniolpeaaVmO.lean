/- The small machine: words of contracts on numbers and vectors; the library's Add64. The small machine: contracts put together. -/
import Derived.Test.YtimkhidniolpeaaVmI
import Derived.Test.YtimkhidniolpeaaVmT
import Derived.Test.YtimkhidniolpeaaOpen
import Derived.Laws.Externs
namespace Go.Proofs.Ytimkhidniolpeaa
set_option linter.unusedSimpArgs false
set_option linter.unusedVariables false
set_option maxRecDepth 100000
set_option maxHeartbeats 0
open Go.RowKit

def in64B (n : Int) : Bool := decide (-9223372036854775808 ≤ n) && decide (n ≤ 9223372036854775807)
theorem in64B_iff {n : Int} : in64B n = true ↔ In64 n := by unfold in64B In64; simp
def fitsB (a : V3) : Bool := in64B a.x && (in64B a.y && in64B a.z)
theorem fitsB_iff {a : V3} : fitsB a = true ↔ a.fits := by unfold fitsB V3.fits; simp [in64B_iff]

theorem relL_one {ρ : Rho} {a : SV} {us : List Value} : RelL ρ [a] us ↔ ∃ u, us = [u] ∧ Rel ρ a u := by
 simp only [RelL]
 constructor
 · rintro ⟨v, _, rfl, h, rfl⟩; exact ⟨v, rfl, h⟩
 · rintro ⟨v, rfl, h⟩; exact ⟨v, [], rfl, h, rfl⟩

theorem rel_vec {ρ : Rho} {x y z : Int} {u : Value} : Rel ρ (.agg [.int .i64 x, .int .i64 y, .int .i64 z]) u ↔ u = (⟨x, y, z⟩ : V3).v := by
 simp only [Rel, RelL]
 constructor
 · rintro ⟨vs, rfl, _, _, rfl, rfl, _, _, rfl, rfl, _, _, rfl, rfl, rfl⟩; rfl
 · rintro rfl
   exact ⟨[I x, I y, I z], rfl, _, _, rfl, rfl, _, _, rfl, rfl, _, _, rfl, rfl, rfl⟩

noncomputable def fnsOf (l : List Nat) (f : Nat) : Option Func := bif memN f l then Try.prog.funcs[f]? else none

theorem bodied {f : Nat} {fn : Func} (h : Try.prog.funcs[f]? = some fn) (hok : (fn.name == "runtime.NumGoroutine" || fn.body.isNone) = false) : ∃ fn, Try.prog.funcs[f]? = some fn ∧ (fn.name == "runtime.NumGoroutine" || fn.body.isNone) = false := ⟨fn, h, hok⟩

theorem fnsOf_ok {l : List Nat} (hl : (l.all fun f => match Try.prog.funcs[f]? with
    | some fn => !(fn.name == "runtime.NumGoroutine" || fn.body.isNone)
    | none => true) = true) : ∀ f fn, fnsOf l f = some fn → Try.prog.funcs[f]? = some fn ∧ (fn.name == "runtime.NumGoroutine" || fn.body.isNone) = false := by
 intro f fn h
 unfold fnsOf at h
 cases hm : memN f l with
 | false => simp [hm] at h
 | true =>
  simp only [hm, cond_true] at h
  have h1 := List.all_eq_true.1 hl f (memN_iff.1 hm)
  rw [h] at h1
  exact ⟨h, by simpa using h1⟩

def extS (f : Nat) (args : List SV) : Option Eff := bif Nat.beq f 89 then (match args with
 | [.int .u64 x, .int .u64 y, .int .u64 c] => some { ok := decide (0 ≤ x) && (decide (0 ≤ y) && (decide (0 ≤ c) && decide (c ≤ 1))), val := .tuple [.int .u64 ((x + y + c) % 18446744073709551616), .int .u64 ((x + y + c) / 18446744073709551616)] }
 | _ => none) else none
theorem extS_ok {f : Nat} {args : List SV} {e : Eff} (h : extS f args = some e) (hok : e.ok = true) : ExtOk Try.prog f args e := by
 unfold extS at h
 cases hb : Nat.beq f 89 with
 | false => rw [hb] at h; cases h
 | true =>
  obtain rfl := Nat.eq_of_beq_eq_true hb
  rw [hb, cond_true] at h
  split at h
  · rename_i x y c
    cases h
    simp only [Bool.and_eq_true, decide_eq_true_eq] at hok
    obtain ⟨h1, h2, h3, h4⟩ := hok
    refine ⟨rfl, rfl, rfl, rfl, fun ρ vargs w hr => ?_⟩
    simp only [RelL, Rel] at hr
    obtain ⟨_, _, rfl, rfl, _, _, rfl, rfl, _, _, rfl, rfl, rfl⟩ := hr
    refine ⟨.tuple #[.int .u64 ((x + y + c) % 18446744073709551616), .int .u64 ((x + y + c) / 18446744073709551616)], ⟨[_, _], rfl, by simp only [relL_cons, relL_nil, Rel, and_self]⟩, ?_⟩
    rw [run_callFunc_extern Try.func89 (by kernel_rfl) (by kernel_rfl) (by kernel_rfl) (e := add64Entry) (by kernel_rfl)]
    rw [show [Value.int .u64 x, .int .u64 y, .int .u64 c].toArray = #[Value.int .u64 x, .int .u64 y, .int .u64 c] from rfl, run_add64 x y c h1 h2 h3 h4]
    rfl
  · cases h

end Go.Proofs.Ytimkhidniolpeaa

namespace Go.Proofs.Ytimkhidniolpeaa
set_option linter.unusedSimpArgs false
set_option linter.unusedVariables false
set_option maxRecDepth 100000
set_option maxHeartbeats 0
open Go.RowKit

structure Orc where
 f : Nat
 call : List SV → List Row → Option Eff
 ok : ∀ args rows e, call args rows = some e → e.ok = true → FnOk Try.prog f args (rows[·]?) rows.length e
 bod : ∃ fn, Try.prog.funcs[f]? = some fn ∧ (fn.name == "runtime.NumGoroutine" || fn.body.isNone) = false

noncomputable def callOf : List Orc → Nat → List SV → List Row → Option Eff
 | [], f, args, _ => extS f args
 | o :: l, f, args, rows => bif Nat.beq f o.f then (match o.call args rows with
  | some e => some { e with obj := false }
  | none => none) else callOf l f args rows

theorem FnOk.obj {P : Program} {f : Nat} {args : List SV} {m : Nat → Option Row} {n : Nat} {e : Eff} (h : FnOk P f args m n e) : FnOk P f args m n { e with obj := false } := fun ρ pres vargs w h1 h2 h3 h4 h5 =>
 (h ρ pres vargs w h1 h2 h3 h4 h5).mono fun _ _ ⟨v, ρ', he, ha⟩ => ⟨v, ρ', he, ⟨ha.le, ha.good, ha.dom, ha.new, ha.apart, ha.val, ha.wr, ha.nw, ha.frm⟩⟩

theorem callOf_ok {f : Nat} {args : List SV} {rows : List Row} {e : Eff} : ∀ {l : List Orc}, callOf l f args rows = some e → e.ok = true → ExtOk Try.prog f args e ∨ ((bif e.obj then FnOkO Try.prog f args (rows[·]?) rows.length e else FnOk Try.prog f args (rows[·]?) rows.length e) ∧ (∃ fn, Try.prog.funcs[f]? = some fn ∧ (fn.name == "runtime.NumGoroutine" || fn.body.isNone) = false))
 | [], h, hok => .inl (extS_ok h hok)
 | o :: l, h, hok => by
  rw [callOf] at h
  cases hb : Nat.beq f o.f with
  | true =>
   rw [hb, cond_true] at h
   have := Nat.eq_of_beq_eq_true hb
   subst this
   split at h
   · rename_i e0 he
     cases h
     exact .inr ⟨(o.ok _ _ _ he hok).obj, o.bod⟩
   · cases h
  | false =>
   rw [hb, cond_false] at h
   exact callOf_ok h hok

structure OrcO where
 f : Nat
 call : List SV → List Row → Option Eff
 ok : ∀ args rows e, call args rows = some e → e.ok = true → FnOkO Try.prog f args (rows[·]?) rows.length e
 bod : ∃ fn, Try.prog.funcs[f]? = some fn ∧ (fn.name == "runtime.NumGoroutine" || fn.body.isNone) = false

theorem FnOkO.obj {P : Program} {f : Nat} {args : List SV} {m : Rws} {n : Nat} {e : Eff} (h : FnOkO P f args m n e) : FnOkO P f args m n { e with obj := true } := fun ρ m1 vargs w h1 h2 h3 h4 h5 => h ρ m1 vargs w h1 h2 h3 h4 h5

noncomputable def callOfO (l0 : List Orc) : List OrcO → Nat → List SV → List Row → Option Eff
 | [], f, args, rows => callOf l0 f args rows
 | o :: l, f, args, rows => bif Nat.beq f o.f then (match o.call args rows with
  | some e => some { e with obj := true }
  | none => none) else callOfO l0 l f args rows
theorem callOfO_ok {l0 : List Orc} {f : Nat} {args : List SV} {rows : List Row} {e : Eff} : ∀ {l : List OrcO}, callOfO l0 l f args rows = some e → e.ok = true → ExtOk Try.prog f args e ∨ ((bif e.obj then FnOkO Try.prog f args (rows[·]?) rows.length e else FnOk Try.prog f args (rows[·]?) rows.length e) ∧ (∃ fn, Try.prog.funcs[f]? = some fn ∧ (fn.name == "runtime.NumGoroutine" || fn.body.isNone) = false))
 | [], h, hok => callOf_ok h hok
 | o :: l, h, hok => by
  rw [callOfO] at h
  cases hb : Nat.beq f o.f with
  | true =>
   rw [hb, cond_true] at h
   have := Nat.eq_of_beq_eq_true hb
   subst this
   split at h
   · rename_i e0 he
     cases h
     exact .inr ⟨(o.ok _ _ _ he hok).obj, o.bod⟩
   · cases h
  | false =>
   rw [hb, cond_false] at h
   exact callOfO_ok h hok

noncomputable def ctxOf (fns : List Nat) (l : List Orc) (ro : List Nat := []) : Ctx := ⟨vmT, fnsOf (ro ++ fns), callOf l, fun f => memN f ro⟩
theorem ctxOf_ok {fns : List Nat} {l : List Orc} {ro : List Nat} (hl : ((ro ++ fns).all fun f => match Try.prog.funcs[f]? with
    | some fn => !(fn.name == "runtime.NumGoroutine" || fn.body.isNone)
    | none => true) = true) : COk Try.prog (ctxOf fns l ro) where
 mixed := by kernel_rfl
 T := vmT_ok
 fn := fnsOf_ok hl
 call := fun _ _ _ _ h hok => callOf_ok h hok
noncomputable def ctxOfO (fns : List Nat) (l : List Orc) (lo : List OrcO) (ro : List Nat := []) : Ctx := ⟨vmT, fnsOf (ro ++ fns), callOfO l lo, fun f => memN f ro⟩
theorem ctxOfO_ok {fns : List Nat} {l : List Orc} {lo : List OrcO} {ro : List Nat} (hl : ((ro ++ fns).all fun f => match Try.prog.funcs[f]? with
    | some fn => !(fn.name == "runtime.NumGoroutine" || fn.body.isNone)
    | none => true) = true) : COk Try.prog (ctxOfO fns l lo ro) where
 mixed := by kernel_rfl
 T := vmT_ok
 fn := fnsOf_ok hl
 call := fun _ _ _ _ h hok => callOfO_ok h hok

noncomputable def oConst (v : SV) (args : List SV) : Option Eff := match args with
 | [] => some { val := v }
 | _ => none
theorem oConst_ok {f : Nat} {v : SV} {rows' : List Row} (hc : CallOk Try.prog f [] [] v rows') (hv : v.ids = []) {args : List SV} {m : Nat → Option Row} {n : Nat} {e : Eff} (h : oConst v args = some e) : FnOk Try.prog f args m n e := by
 unfold oConst at h
 split at h
 · cases h; exact fnOk_pure hc rfl hv
 · cases h

def LpOk (f : Nat) (p : List Nat) (F : LoopF) : Prop := ∀ b, At Try.prog f p (.loop b) → ∀ (s : St) (K : Ex → St → Option Res2) (r : Res2), F s K = some r → ∃ e s', K e s' = some r ∧ TriL Try.prog b s e s'
structure Lpo where
 f : Nat
 p : List Nat
 F : LoopF
 ok : LpOk f p F
noncomputable def loopOf : List Lpo → Nat → List Nat → Option LoopF
 | [], _, _ => none
 | o :: l, f, p => bif Nat.beq f o.f && decide (p = o.p) then some o.F else loopOf l f p
theorem loopOf_ok : ∀ {l : List Lpo}, LOk Try.prog (loopOf l)
 | [] => fun _ _ _ h => by cases h
 | o :: l => by
  intro f p F hF b hat s K r h
  rw [loopOf] at hF
  cases hb : Nat.beq f o.f && decide (p = o.p) with
  | true =>
   rw [hb, cond_true] at hF
   cases hF
   rw [Bool.and_eq_true, decide_eq_true_eq] at hb
   obtain ⟨h1, rfl⟩ := hb
   obtain rfl := Nat.eq_of_beq_eq_true h1
   exact o.ok b hat s K r h
  | false =>
   rw [hb, cond_false] at hF
   exact loopOf_ok f p F hF b hat s K r h

end Go.Proofs.Ytimkhidniolpeaa
