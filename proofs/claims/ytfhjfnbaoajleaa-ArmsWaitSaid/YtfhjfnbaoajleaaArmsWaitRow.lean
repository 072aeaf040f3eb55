/- ArmsWait: for every ID, place and kinds the law returns true, and its arguments read as they read before. No condition. -/
import Derived.Test.YtfhjfnbaoajleaaArmsWait
import Derived.Test.YtfhjfnbaoajleaaOpenS
namespace Go.Proofs.Ytfhjfnbaoajleaa
set_option linter.unusedSimpArgs false
set_option linter.unusedVariables false
open Go.ChangeShapes Go.WideShapes Go.ChangeAt Go.RowKit

set_option maxRecDepth 100000 in
theorem armsWait_lifted (os : Os) (started : os.Started) (H : Type) (enc : TypeId × Value → H) :
    ReturnsInHanded {} Try.checked os 3 .any (Rows.armsWaitSpec.pre6 enc Try.prog Try.f3 Rows.armsWaitRow.domain false) (Rows.armsWaitSpec.post enc Try.prog Try.f3 false true false false) := by
  refine returnsInHanded_of_change (C := Try.checked) Try.own started (by kernel_rfl) Try.func3
    (ChangeSpec.witness6 (enc := enc) (C := Try.checked) false ⟨#[], #[I 0, .agg #[I 0, I 0, I 0], .slice none 0 0], []⟩ 8 (by kernel_rfl) (by kernel_rfl) (by kernel_rfl) (by kernel_rfl)) ?_
  intro W base args ds gs before hval0 hW hcnd _
  have hval : ∀ (j : Nat) t v, Try.f3.params[j]? = some t → args[j]? = some v → Value.okWide Try.prog W .any base t v := hval0
  have hW' := hW
  obtain ⟨p, q, hA0, hV, rfl, hfz, hnd⟩ := hW
  have hA : DataW.TrodAll enc Try.prog W 0 (fun _ => true) true Try.f3.params.toList args.toList ds p := hA0
  rw [Try.params3] at hA hval
  obtain ⟨v0, v1, v2, d0, d1, d2, p0, p1, p2, rfl, rfl, rfl, h0, h1, h2⟩ := trodAll_three hA
  obtain ⟨k, rfl, fk⟩ := open_i64 Try.underlying3 (hval 0 3 v0 rfl rfl)
  obtain ⟨b, rfl, fb⟩ := open_vec (hval 1 23 v1 rfl rfl)
  obtain ⟨oa, len, cap, zs, rfl, hn, hz⟩ := open_i64s Try.underlying24 Try.underlying3 (by kernel_rfl) (hval 2 24 v2 rfl rfl) h2
  refine (wait_law k b W oa len cap (fun j => zs.getD j 0) hn hz).mono fun e W' ⟨he, hb⟩ => ?_
  exact ⟨_, he, law_post Try.laidOut (of_decide_eq_true (by kernel_rfl)) (by kernel_rfl) Try.underlying4 rfl (fun l hl => by match l, hl with | [_, _, _], _ => rfl) hW' hb⟩

theorem armsWait_holds : Rows.ArmsWaitSaid :=
  OpenClaim.holds_of_wide 3 Try.f3 rfl rfl rfl rfl rfl rfl rfl ⟨rfl, rfl, rfl, rfl, rfl⟩ rfl rfl rfl rfl rfl (by kernel_rfl) Try.func3 (by kernel_rfl)
    (of_decide_eq_true (by kernel_rfl)) (by unfold Func.isWrapper; first | (rw [if_pos (by decide +kernel)]; kernel_rfl) | (rw [if_neg (by decide +kernel)]; exact ⟨rfl, rfl⟩))
    (fun os started H enc _ => armsWait_lifted os started H enc)

#print axioms armsWait_holds

end Go.Proofs.Ytfhjfnbaoajleaa
