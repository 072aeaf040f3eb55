/- TraceBack: for every input the law returns true, and its arguments read as they read before. No condition. -/
import Derived.Test.YtnfhlfmcgeaagaaVmBack
namespace Go.Proofs.Ytnfhlfmcgeaagaa
set_option linter.unusedSimpArgs false
set_option linter.unusedVariables false
open Go.ChangeShapes Go.WideShapes Go.ChangeAt Go.RowKit

theorem trodAll_five {H : Type} {enc : TypeId × Value → H} {P : Program} {w : World} {base : Nat} {spare : Nat → Bool} {held : Bool} {t0 t1 t2 t3 t4 : TypeId} {args : Array Value} {ds : List (DataW H)} {ps : List MemPlace} (h : DataW.TrodAll enc P w base spare held [t0, t1, t2, t3, t4] args.toList ds ps) :
    ∃ v0 v1 v2 v3 v4 d0 d1 d2 d3 d4, args = #[v0, v1, v2, v3, v4] ∧ ds = [d0, d1, d2, d3, d4] := by
  obtain ⟨v0, vs, d0, ds', p, q, hargs, rfl, rfl, _, hrest⟩ := trodAll_cons h
  obtain ⟨v1, vs1, d1, ds1, p1, q1, rfl, rfl, rfl, _, hrest⟩ := trodAll_cons hrest
  obtain ⟨v2, vs2, d2, ds2, p2, q2, rfl, rfl, rfl, _, hrest⟩ := trodAll_cons hrest
  obtain ⟨v3, vs3, d3, ds3, p3, q3, rfl, rfl, rfl, _, hrest⟩ := trodAll_cons hrest
  obtain ⟨v4, vs4, d4, ds4, p4, q4, rfl, rfl, rfl, _, hrest⟩ := trodAll_cons hrest
  obtain ⟨rfl, rfl, rfl⟩ := trodAll_nil hrest
  exact ⟨v0, v1, v2, v3, v4, d0, d1, d2, d3, d4, by cases args; simp_all, rfl⟩

set_option maxRecDepth 100000 in
theorem traceBack_lifted (os : Os) (started : os.Started) (H : Type) (enc : TypeId × Value → H) :
    ReturnsInHanded {} Try.checked os 8 .any (Rows.traceBackSpec.pre6 enc Try.prog Try.f8 Rows.traceBackRow.domain false) (Rows.traceBackSpec.post enc Try.prog Try.f8 false true false false) := by
  refine returnsInHanded_of_change (C := Try.checked) Try.own started (by kernel_rfl) Try.func8
    (ChangeSpec.witness6 (enc := enc) (C := Try.checked) false ⟨#[], #[I 0, I 0, I 0, .agg #[I 0, I 0, I 0], .agg #[I 0, I 0, I 0]], []⟩ 8 (by kernel_rfl) (by kernel_rfl) (by kernel_rfl) (by kernel_rfl)) ?_
  intro W base args ds gs before hval0 hW hcnd _
  have hval : ∀ (j : Nat) t v, Try.f8.params[j]? = some t → args[j]? = some v → Value.okWide Try.prog W .any base t v := hval0
  have hW' := hW
  obtain ⟨p, q, hA0, hV, rfl, hfz, hnd⟩ := hW
  have hA : DataW.TrodAll enc Try.prog W 0 (fun _ => true) true Try.f8.params.toList args.toList ds p := hA0
  rw [Try.params8] at hA hval
  obtain ⟨v0, v1, v2, v3, v4, d0, d1, d2, d3, d4, rfl, rfl⟩ := trodAll_five hA
  obtain ⟨n0, rfl, f0⟩ := open_i64 Try.underlying3 (hval 0 3 v0 rfl rfl)
  obtain ⟨n1, rfl, f1⟩ := open_i64 Try.underlying3 (hval 1 3 v1 rfl rfl)
  obtain ⟨n2, rfl, f2⟩ := open_i64 Try.underlying3 (hval 2 3 v2 rfl rfl)
  obtain ⟨a, rfl, fa⟩ := open_vec (hval 3 27 v3 rfl rfl)
  obtain ⟨b, rfl, fb⟩ := open_vec (hval 4 27 v4 rfl rfl)
  obtain ⟨rows', hc, _⟩ := runK_ok x10b_ok lok_none Try.func8 (back_law (w := n0) (d := n1) (h := n2) (b := b) fa)
  have hr := ret_of hc (vargs := [I n0, I n1, I n2, a.v, b.v]) (w := W) (ρ := fun _ => none)
    (by rw [relL_cons, relL_cons, relL_cons, relL_cons, relL_one']; exact ⟨by simp only [Rel], by simp only [Rel], by simp only [Rel], rel_vec.2 rfl, rel_vec.2 rfl⟩)
    (fun _ _ h => by cases h) (fun i row h => by simp at h) (fun _ _ => rfl) (fun _ _ h => by cases h)
  refine hr.mono fun e W' ⟨he, hb⟩ => ?_
  exact ⟨_, he, law_post Try.laidOut (of_decide_eq_true (by kernel_rfl)) (by kernel_rfl) Try.underlying4 rfl (fun l hl => by match l, hl with | [_, _, _, _, _], _ => rfl) hW' hb⟩

theorem traceBack_holds : Rows.TraceBackSaid :=
  OpenClaim.holds_of_wide 8 Try.f8 rfl rfl rfl rfl rfl rfl rfl ⟨rfl, rfl, rfl, rfl, rfl⟩ rfl rfl rfl rfl rfl (by kernel_rfl) Try.func8 (by kernel_rfl)
    (of_decide_eq_true (by kernel_rfl)) (by unfold Func.isWrapper; first | (rw [if_pos (by decide +kernel)]; kernel_rfl) | (rw [if_neg (by decide +kernel)]; exact ⟨rfl, rfl⟩))
    (fun os started H enc _ => traceBack_lifted os started H enc)

#print axioms traceBack_holds

end Go.Proofs.Ytnfhlfmcgeaagaa
