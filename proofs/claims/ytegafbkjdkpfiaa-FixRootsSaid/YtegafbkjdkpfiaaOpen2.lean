/- Arguments of 32 bits; six arguments. -/
import Derived.Test.YtegafbkjdkpfiaaOpen
namespace Go.Proofs.Ytegafbkjdkpfiaa
set_option linter.unusedSimpArgs false
set_option linter.unusedVariables false
open Go.RowKit Go.ChangeShapes Go.WideShapes Go.ChangeAt
variable {H : Type}

def In32 (n : Int) : Prop := -2147483648 ≤ n ∧ n ≤ 2147483647
theorem has32 {n : Int} (h : IntKind.i32.has n) : In32 n := by
  unfold In32; simpa [IntKind.has, IntKind.min, IntKind.max, IntKind.signed, IntKind.bits] using h
theorem open_i32 {P : Program} {w : World} {r : Reach} {base : Nat} {t : TypeId} {v : Value} (ht : P.underlying t = some (.int .i32)) (h : Value.okWide P w r base t v) : ∃ n, v = .int .i32 n ∧ In32 n := by
  obtain ⟨n, rfl, hn⟩ := cell_int ht (val_cell ht rfl h)
  exact ⟨n, rfl, has32 hn⟩

theorem trodAll_six {enc : TypeId × Value → H} {P : Program} {w : World} {base : Nat} {spare : Nat → Bool} {held : Bool} {t0 t1 t2 t3 t4 t5 : TypeId} {args : Array Value} {ds : List (DataW H)} {ps : List MemPlace} (h : DataW.TrodAll enc P w base spare held [t0, t1, t2, t3, t4, t5] args.toList ds ps) :
    ∃ v0 v1 v2 v3 v4 v5 d0 d1 d2 d3 d4 d5, args = #[v0, v1, v2, v3, v4, v5] ∧ ds = [d0, d1, d2, d3, d4, d5] := by
  obtain ⟨v0, vs, d0, ds', p, q, hargs, rfl, rfl, _, hrest⟩ := trodAll_cons h
  obtain ⟨v1, vs1, d1, ds1, p1, q1, rfl, rfl, rfl, _, hrest⟩ := trodAll_cons hrest
  obtain ⟨v2, vs2, d2, ds2, p2, q2, rfl, rfl, rfl, _, hrest⟩ := trodAll_cons hrest
  obtain ⟨v3, vs3, d3, ds3, p3, q3, rfl, rfl, rfl, _, hrest⟩ := trodAll_cons hrest
  obtain ⟨v4, vs4, d4, ds4, p4, q4, rfl, rfl, rfl, _, hrest⟩ := trodAll_cons hrest
  obtain ⟨v5, vs5, d5, ds5, p5, q5, rfl, rfl, rfl, _, hrest⟩ := trodAll_cons hrest
  obtain ⟨rfl, rfl, rfl⟩ := trodAll_nil hrest
  exact ⟨v0, v1, v2, v3, v4, v5, d0, d1, d2, d3, d4, d5, by cases args; simp_all, rfl⟩

end Go.Proofs.Ytegafbkjdkpfiaa
