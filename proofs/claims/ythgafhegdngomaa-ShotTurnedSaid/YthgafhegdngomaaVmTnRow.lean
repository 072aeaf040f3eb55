/- ShotTurned: for every input the law returns true, and its arguments read as they read before. No condition. -/
import Derived.Test.YthgafhegdngomaaVmTn
import Derived.Test.YthgafhegdngomaaVmM2
namespace Go.Proofs.Ythgafhegdngomaa
set_option linter.unusedSimpArgs false
set_option linter.unusedVariables false
open Go.ChangeShapes Go.WideShapes Go.ChangeAt Go.RowKit

set_option maxRecDepth 100000 in
theorem shotTurned_lifted (os : Os) (started : os.Started) (H : Type) (enc : TypeId × Value → H) :
    ReturnsInHanded {} Try.checked os 4 .any (Rows.shotTurnedSpec.pre6 enc Try.prog Try.f4 Rows.shotTurnedRow.domain false) (Rows.shotTurnedSpec.post enc Try.prog Try.f4 false true false false) := by
  refine returnsInHanded_of_change (C := Try.checked) Try.own started (by kernel_rfl) Try.func4
    (ChangeSpec.witness6 (enc := enc) (C := Try.checked) false ⟨#[], #[I 0, .agg #[I 0, I 0, I 0], .agg #[I 0, I 0, I 0]], []⟩ 8 (by kernel_rfl) (by kernel_rfl) (by kernel_rfl) (by kernel_rfl)) ?_
  intro W base args ds gs before hval0 hW hcnd _
  have hval : ∀ (j : Nat) t v, Try.f4.params[j]? = some t → args[j]? = some v → Value.okWide Try.prog W .any base t v := hval0
  have hW' := hW
  obtain ⟨p, q, hA0, hV, rfl, hfz, hnd⟩ := hW
  have hA : DataW.TrodAll enc Try.prog W 0 (fun _ => true) true Try.f4.params.toList args.toList ds p := hA0
  rw [Try.params4] at hA hval
  obtain ⟨v0, v1, v2, d0, d1, d2, p0, p1, p2, rfl, rfl, rfl, h0, h1, h2⟩ := trodAll_three hA
  obtain ⟨n0, rfl, f0⟩ := open_i64 Try.underlying3 (hval 0 3 v0 rfl rfl)
  obtain ⟨a, rfl, fa⟩ := open_vec (hval 1 23 v1 rfl rfl)
  obtain ⟨b, rfl, fb⟩ := open_vec (hval 2 23 v2 rfl rfl)
  obtain ⟨rows', hc, _⟩ := runK_ok x12b_ok lok_none Try.func4 (turned_law (k := n0) (p := a) fb)
  have hr := ret_of hc (vargs := [I n0, a.v, b.v]) (w := W) (ρ := fun _ => none)
    (by rw [relL_cons, relL_cons, relL_one']; exact ⟨by simp only [Rel], rel_vec.2 rfl, rel_vec.2 rfl⟩)
    (fun _ _ h => by cases h) (fun i row h => by simp at h) (fun _ _ => rfl) (fun _ _ h => by cases h)
  refine hr.mono fun e W' ⟨he, hb⟩ => ?_
  exact ⟨_, he, law_post Try.laidOut (of_decide_eq_true (by kernel_rfl)) (by kernel_rfl) Try.underlying4 rfl (fun l hl => by match l, hl with | [_, _, _], _ => rfl) hW' hb⟩

theorem shotTurned_holds : Rows.ShotTurnedSaid :=
  OpenClaim.holds_of_wide 4 Try.f4 rfl rfl rfl rfl rfl rfl rfl ⟨rfl, rfl, rfl, rfl, rfl⟩ rfl rfl rfl rfl rfl (by kernel_rfl) Try.func4 (by kernel_rfl)
    (of_decide_eq_true (by kernel_rfl)) (by unfold Func.isWrapper; first | (rw [if_pos (by decide +kernel)]; kernel_rfl) | (rw [if_neg (by decide +kernel)]; exact ⟨rfl, rfl⟩))
    (fun os started H enc _ => shotTurned_lifted os started H enc)

#print axioms shotTurned_holds

end Go.Proofs.Ythgafhegdngomaa
