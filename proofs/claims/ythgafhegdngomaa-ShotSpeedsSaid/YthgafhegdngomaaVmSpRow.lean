/- ShotSpeeds: for every input the law returns true, and its arguments read as they read before. No condition. -/
import Derived.Test.YthgafhegdngomaaVmSp
import Derived.Test.YthgafhegdngomaaVmM2
namespace Go.Proofs.Ythgafhegdngomaa
set_option linter.unusedSimpArgs false
set_option linter.unusedVariables false
open Go.ChangeShapes Go.WideShapes Go.ChangeAt Go.RowKit

set_option maxRecDepth 100000 in
theorem shotSpeeds_lifted (os : Os) (started : os.Started) (H : Type) (enc : TypeId × Value → H) :
    ReturnsInHanded {} Try.checked os 3 .any (Rows.shotSpeedsSpec.pre6 enc Try.prog Try.f3 Rows.shotSpeedsRow.domain false) (Rows.shotSpeedsSpec.post enc Try.prog Try.f3 false true false false) := by
  refine returnsInHanded_of_change (C := Try.checked) Try.own started (by kernel_rfl) Try.func3
    (ChangeSpec.witness6 (enc := enc) (C := Try.checked) false ⟨#[], #[I 0, I 0, I 0, .agg #[I 0, I 0, I 0], .agg #[I 0, I 0, I 0]], []⟩ 8 (by kernel_rfl) (by kernel_rfl) (by kernel_rfl) (by kernel_rfl)) ?_
  intro W base args ds gs before hval0 hW hcnd _
  have hval : ∀ (j : Nat) t v, Try.f3.params[j]? = some t → args[j]? = some v → Value.okWide Try.prog W .any base t v := hval0
  have hW' := hW
  obtain ⟨p, q, hA0, hV, rfl, hfz, hnd⟩ := hW
  have hA : DataW.TrodAll enc Try.prog W 0 (fun _ => true) true Try.f3.params.toList args.toList ds p := hA0
  rw [Try.params3] at hA hval
  obtain ⟨v0, v1, v2, v3, v4, d0, d1, d2, d3, d4, p0, p1, p2, p3, p4, rfl, rfl, _, _, _, _, _⟩ := trodAll_5w hA
  obtain ⟨n0, rfl, f0⟩ := open_i64 Try.underlying3 (hval 0 3 v0 rfl rfl)
  obtain ⟨n1, rfl, f1⟩ := open_i64 Try.underlying3 (hval 1 3 v1 rfl rfl)
  obtain ⟨n2, rfl, f2⟩ := open_i64 Try.underlying3 (hval 2 3 v2 rfl rfl)
  obtain ⟨a, rfl, fa⟩ := open_vec (hval 3 23 v3 rfl rfl)
  obtain ⟨b, rfl, fb⟩ := open_vec (hval 4 23 v4 rfl rfl)
  obtain ⟨rows', hc, _⟩ := runK_ok x12b_ok lok_none Try.func3 (speeds_law n0 n1 n2 a b)
  have hr := ret_of hc (vargs := [I n0, I n1, I n2, a.v, b.v]) (w := W) (ρ := fun _ => none)
    (by rw [relL_cons, relL_cons, relL_cons, relL_cons, relL_one']; exact ⟨by simp only [Rel], by simp only [Rel], by simp only [Rel], rel_vec.2 rfl, rel_vec.2 rfl⟩)
    (fun _ _ h => by cases h) (fun i row h => by simp at h) (fun _ _ => rfl) (fun _ _ h => by cases h)
  refine hr.mono fun e W' ⟨he, hb⟩ => ?_
  exact ⟨_, he, law_post Try.laidOut (of_decide_eq_true (by kernel_rfl)) (by kernel_rfl) Try.underlying4 rfl (fun l hl => by match l, hl with | [_, _, _, _, _], _ => rfl) hW' hb⟩

theorem shotSpeeds_holds : Rows.ShotSpeedsSaid :=
  OpenClaim.holds_of_wide 3 Try.f3 rfl rfl rfl rfl rfl rfl rfl ⟨rfl, rfl, rfl, rfl, rfl⟩ rfl rfl rfl rfl rfl (by kernel_rfl) Try.func3 (by kernel_rfl)
    (of_decide_eq_true (by kernel_rfl)) (by unfold Func.isWrapper; first | (rw [if_pos (by decide +kernel)]; kernel_rfl) | (rw [if_neg (by decide +kernel)]; exact ⟨rfl, rfl⟩))
    (fun os started H enc _ => shotSpeeds_lifted os started H enc)

#print axioms shotSpeeds_holds

end Go.Proofs.Ythgafhegdngomaa
