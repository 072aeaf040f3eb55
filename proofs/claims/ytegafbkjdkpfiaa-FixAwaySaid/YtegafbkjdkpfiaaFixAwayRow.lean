/- FixAway: for every input the law returns true, and its arguments read as they read before. No condition. -/
import Derived.Test.YtegafbkjdkpfiaaFixAway
namespace Go.Proofs.Ytegafbkjdkpfiaa
set_option linter.unusedSimpArgs false
set_option linter.unusedVariables false
open Go.ChangeShapes Go.WideShapes Go.ChangeAt Go.RowKit

set_option maxRecDepth 100000 in
theorem fixAway_lifted (os : Os) (started : os.Started) (H : Type) (enc : TypeId × Value → H) :
    ReturnsInHanded {} Try.checked os 12 .any (Rows.fixAwaySpec.pre6 enc Try.prog Try.f12 Rows.fixAwayRow.domain false) (Rows.fixAwaySpec.post enc Try.prog Try.f12 false true false false) := by
  refine returnsInHanded_of_change (C := Try.checked) Try.own started (by kernel_rfl) Try.func12
    (ChangeSpec.witness6 (enc := enc) (C := Try.checked) false ⟨#[], #[.int .i32 0, .int .i32 0, .int .i32 0, .int .i32 0, .int .i32 0, .int .i32 0], []⟩ 8 (by kernel_rfl) (by kernel_rfl) (by kernel_rfl) (by kernel_rfl)) ?_
  intro W base args ds gs before hval0 hW hcnd _
  have hval : ∀ (j : Nat) t v, Try.f12.params[j]? = some t → args[j]? = some v → Value.okWide Try.prog W .any base t v := hval0
  have hW' := hW
  obtain ⟨p, q, hA0, hV, rfl, hfz, hnd⟩ := hW
  have hA : DataW.TrodAll enc Try.prog W 0 (fun _ => true) true Try.f12.params.toList args.toList ds p := hA0
  rw [Try.params12] at hA hval
  obtain ⟨v0, v1, v2, v3, v4, v5, d0, d1, d2, d3, d4, d5, rfl, rfl⟩ := trodAll_six hA
  obtain ⟨a, rfl, fa⟩ := open_i32 Try.underlying21 (hval 0 21 v0 rfl rfl)
  obtain ⟨b, rfl, fb⟩ := open_i32 Try.underlying21 (hval 1 21 v1 rfl rfl)
  obtain ⟨c, rfl, fc⟩ := open_i32 Try.underlying21 (hval 2 21 v2 rfl rfl)
  obtain ⟨d, rfl, fd⟩ := open_i32 Try.underlying21 (hval 3 21 v3 rfl rfl)
  obtain ⟨e, rfl, fe⟩ := open_i32 Try.underlying21 (hval 4 21 v4 rfl rfl)
  obtain ⟨f, rfl, ff⟩ := open_i32 Try.underlying21 (hval 5 21 v5 rfl rfl)
  refine (away_law_any a b c d e f W fa fb fc fd fe ff).mono fun e W' ⟨he, hb⟩ => ?_
  exact ⟨_, he, law_post Try.laidOut (of_decide_eq_true (by kernel_rfl)) (by kernel_rfl) Try.underlying4 rfl (fun l hl => by match l, hl with | [_, _, _, _, _, _], _ => rfl) hW' hb⟩

theorem fixAway_holds : Rows.FixAwaySaid :=
  OpenClaim.holds_of_wide 12 Try.f12 rfl rfl rfl rfl rfl rfl rfl ⟨rfl, rfl, rfl, rfl, rfl⟩ rfl rfl rfl rfl rfl (by kernel_rfl) Try.func12 (by kernel_rfl)
    (of_decide_eq_true (by kernel_rfl)) (by unfold Func.isWrapper; first | (rw [if_pos (by decide +kernel)]; kernel_rfl) | (rw [if_neg (by decide +kernel)]; exact ⟨rfl, rfl⟩))
    (fun os started H enc _ => fixAway_lifted os started H enc)

#print axioms fixAway_holds

end Go.Proofs.Ytegafbkjdkpfiaa
