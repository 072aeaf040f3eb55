/- BlastTakes: for every input the law returns true, and its arguments read as they read before. No condition. -/
import Derived.Test.YtboljdeeodeeeaaVmTk
import Derived.Test.YtboljdeeodeeeaaOpen4
import Derived.Test.YtboljdeeodeeeaaVmM2
namespace Go.Proofs.Ytboljdeeodeeeaa
set_option linter.unusedSimpArgs false
set_option linter.unusedVariables false
set_option maxRecDepth 100000
open Go.ChangeShapes Go.WideShapes Go.ChangeAt Go.RowKit

set_option maxRecDepth 100000 in
theorem blastTakes_lifted (os : Os) (started : os.Started) (H : Type) (enc : TypeId × Value → H) :
    ReturnsInHanded {} Try.checked os 3 .any (Rows.blastTakesSpec.pre6 enc Try.prog Try.f3 Rows.blastTakesRow.domain false) (Rows.blastTakesSpec.post enc Try.prog Try.f3 false true false false) := by
  refine returnsInHanded_of_change (C := Try.checked) Try.own started (by kernel_rfl) Try.func3
    (ChangeSpec.witness6 (enc := enc) (C := Try.checked) false ⟨#[], #[.agg #[I 0, I 0, I 0, I 0, I 0, I 0, I 0, .bool false, I 0, I 0, I 0, I 0, I 0, I 0, I 0], I 0], []⟩ 8 (by kernel_rfl) (by kernel_rfl) (by kernel_rfl) (by kernel_rfl)) ?_
  intro W base args ds gs before hval0 hW hcnd _
  have hval : ∀ (j : Nat) t v, Try.f3.params[j]? = some t → args[j]? = some v → Value.okWide Try.prog W .any base t v := hval0
  have hW' := hW
  obtain ⟨p, q, hA0, hV, rfl, hfz, hnd⟩ := hW
  have hA : DataW.TrodAll enc Try.prog W 0 (fun _ => true) true Try.f3.params.toList args.toList ds p := hA0
  rw [Try.params3] at hA hval
  obtain ⟨v0, v1, d0, d1, p0, p1, rfl, rfl, rfl, h0, h1⟩ := trodAll_two hA
  obtain ⟨p, rfl, fp⟩ := open_pl (hval 0 26 v0 rfl rfl)
  obtain ⟨n, rfl, fn⟩ := open_i64 Try.underlying3 (hval 1 3 v1 rfl rfl)
  obtain ⟨rows', hc, _⟩ := runK_ok xTk_ok lok_none Try.func3 (takes_law p n)
  have hr := ret_of hc (vargs := [p.v, I n]) (w := W) (ρ := fun _ => none) (by rw [relL_cons, relL_one']; exact ⟨rel_pl.2 rfl, by simp only [Rel]⟩)
    (fun _ _ h => by cases h) (fun i row h => by simp at h) (fun _ _ => rfl) (fun _ _ h => by cases h)
  refine hr.mono fun e W' ⟨he, hb⟩ => ?_
  exact ⟨_, he, law_post Try.laidOut (of_decide_eq_true (by kernel_rfl)) (by kernel_rfl) Try.underlying4 rfl (fun l hl => by match l, hl with | [_, _], _ => rfl) hW' hb⟩

theorem blastTakes_holds : Rows.BlastTakesSaid :=
  OpenClaim.holds_of_wide 3 Try.f3 rfl rfl rfl rfl rfl rfl rfl ⟨rfl, rfl, rfl, rfl, rfl⟩ rfl rfl rfl rfl rfl (by kernel_rfl) Try.func3 (by kernel_rfl)
    (of_decide_eq_true (by kernel_rfl)) (by unfold Func.isWrapper; first | (rw [if_pos (by decide +kernel)]; kernel_rfl) | (rw [if_neg (by decide +kernel)]; exact ⟨rfl, rfl⟩))
    (fun os started H enc _ => blastTakes_lifted os started H enc)

#print axioms blastTakes_holds

end Go.Proofs.Ytboljdeeodeeeaa
