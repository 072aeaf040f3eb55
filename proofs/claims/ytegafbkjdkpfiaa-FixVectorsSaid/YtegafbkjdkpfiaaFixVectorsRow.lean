/- FixVectors: for every input the law returns true, and its arguments read as they read before. No condition. -/
import Derived.Test.YtegafbkjdkpfiaaVmDt
import Derived.Test.YtegafbkjdkpfiaaOpen
namespace Go.Proofs.Ytegafbkjdkpfiaa
set_option linter.unusedSimpArgs false
set_option linter.unusedVariables false
open Go.ChangeShapes Go.WideShapes Go.ChangeAt Go.RowKit

set_option maxRecDepth 100000 in
theorem fixVectors_lifted (os : Os) (started : os.Started) (H : Type) (enc : TypeId × Value → H) :
    ReturnsInHanded {} Try.checked os 14 .any (Rows.fixVectorsSpec.pre6 enc Try.prog Try.f14 Rows.fixVectorsRow.domain false) (Rows.fixVectorsSpec.post enc Try.prog Try.f14 false true false false) := by
  refine returnsInHanded_of_change (C := Try.checked) Try.own started (by kernel_rfl) Try.func14
    (ChangeSpec.witness6 (enc := enc) (C := Try.checked) false ⟨#[], #[.agg #[I 0, I 0, I 0], .agg #[I 0, I 0, I 0], I 0], []⟩ 8 (by kernel_rfl) (by kernel_rfl) (by kernel_rfl) (by kernel_rfl)) ?_
  intro W base args ds gs before hval0 hW hcnd _
  have hval : ∀ (j : Nat) t v, Try.f14.params[j]? = some t → args[j]? = some v → Value.okWide Try.prog W .any base t v := hval0
  have hW' := hW
  obtain ⟨p, q, hA0, hV, rfl, hfz, hnd⟩ := hW
  have hA : DataW.TrodAll enc Try.prog W 0 (fun _ => true) true Try.f14.params.toList args.toList ds p := hA0
  rw [Try.params14] at hA hval
  obtain ⟨v0, v1, v2, d0, d1, d2, p0, p1, p2, rfl, rfl, h0, h1, h2⟩ := trodAll_three hA
  obtain ⟨a, rfl, fa⟩ := open_vec (hval 0 25 v0 rfl rfl)
  obtain ⟨b, rfl, fb⟩ := open_vec (hval 1 25 v1 rfl rfl)
  obtain ⟨n, rfl, fn⟩ := open_i64 Try.underlying2 (hval 2 2 v2 rfl rfl)
  obtain ⟨rows', hc, _⟩ := runK_ok x01v_ok lok_none Try.func14 (fvec_law fa fb fn)
  have hr := ret_of hc (vargs := [a.v, b.v, I n]) (w := W) (ρ := fun _ => none)
    (by rw [relL_cons, relL_cons, relL_one]; exact ⟨rel_vec.2 rfl, rel_vec.2 rfl, _, rfl, by simp only [Rel]⟩)
    (fun _ _ h => by cases h) (fun i row h => by simp at h) (fun _ _ => rfl) (fun _ _ h => by cases h)
  refine hr.mono fun e W' ⟨he, hb⟩ => ?_
  exact ⟨_, he, law_post Try.laidOut (of_decide_eq_true (by kernel_rfl)) (by kernel_rfl) Try.underlying4 rfl (fun l hl => by match l, hl with | [_, _, _], _ => rfl) hW' hb⟩

theorem fixVectors_holds : Rows.FixVectorsSaid :=
  OpenClaim.holds_of_wide 14 Try.f14 rfl rfl rfl rfl rfl rfl rfl ⟨rfl, rfl, rfl, rfl, rfl⟩ rfl rfl rfl rfl rfl (by kernel_rfl) Try.func14 (by kernel_rfl)
    (of_decide_eq_true (by kernel_rfl)) (by unfold Func.isWrapper; first | (rw [if_pos (by decide +kernel)]; kernel_rfl) | (rw [if_neg (by decide +kernel)]; exact ⟨rfl, rfl⟩))
    (fun os started H enc _ => fixVectors_lifted os started H enc)

#print axioms fixVectors_holds

end Go.Proofs.Ytegafbkjdkpfiaa
