/- WorldAhead: for every input the law returns true, and its arguments read as they read before. No condition. -/
import Derived.Test.YtimkhidniolpeaaWhB
import Derived.Test.YtimkhidniolpeaaOpen3
import Derived.Test.YtimkhidniolpeaaVmM
namespace Go.Proofs.Ytimkhidniolpeaa
set_option linter.unusedSimpArgs false
set_option linter.unusedVariables false
set_option maxRecDepth 100000
set_option maxHeartbeats 0
open Go.ChangeShapes Go.WideShapes Go.ChangeAt Go.RowKit

theorem worldAhead_lifted (os : Os) (started : os.Started) (H : Type) (enc : TypeId × Value → H) :
    ReturnsInHanded {} Try.checked os 3 .any (Rows.worldAheadSpec.pre6 enc Try.prog Try.f3 Rows.worldAheadRow.domain false) (Rows.worldAheadSpec.post enc Try.prog Try.f3 false true false false) := by
 refine returnsInHanded_of_change (C := Try.checked) Try.own started (by kernel_rfl) Try.func3
  (ChangeSpec.witness6 (enc := enc) (C := Try.checked) false ⟨#[], #[.agg #[I 0, I 0, I 0, .slice none 0 0, .slice none 0 0], I 0, .agg #[I 0, I 0, I 0], I 0], []⟩ 8 (by kernel_rfl) (by kernel_rfl) (by kernel_rfl) (by kernel_rfl)) ?_
 intro W base args ds gs before hval0 hW hcnd _
 have hval : ∀ (j : Nat) t v, Try.f3.params[j]? = some t → args[j]? = some v → Value.okWide Try.prog W .any base t v := hval0
 have hW' := hW
 obtain ⟨p, q, hA0, hV, rfl, hfz, hnd⟩ := hW
 have hA : DataW.TrodAll enc Try.prog W 0 (fun _ => true) true Try.f3.params.toList args.toList ds p := hA0
 rw [Try.params3] at hA hval
 obtain ⟨v0, v1, v2, v3, d0, d1, d2, d3, p0, p1, p2, p3, rfl, rfl, rfl, h0, _, _, _⟩ := trodAll_four hA
 obtain ⟨kd, rfl, f1⟩ := open_i64 Try.underlying3 (hval 1 3 v1 rfl rfl)
 obtain ⟨a, rfl, fa⟩ := open_vec (hval 2 27 v2 rfl rfl)
 obtain ⟨n, rfl, f3⟩ := open_i64 Try.underlying3 (hval 3 3 v3 rfl rfl)
 obtain ⟨ρ, wd, dd, hd, len, xs, ls, sp, g1, g2, g3, g4, g5, g6, g7, g8, g9, g10, g11, g12, g13, g14⟩ := map_entry3 (hval 0 25 v0 rfl rfl) h0
 obtain ⟨rows', hc, _⟩ := runK_ok x16h_ok loopOf_ok Try.func3 (wh_law ⟨g2, g3, g4, g5, g6, g7, g8, g14⟩ kd n a)
 have hr := ret_of hc (vargs := [v0, I kd, a.v, I n]) (w := W) (ρ := ρ) (by rw [relL_cons, relL_cons, relL_cons, relL_one']; exact ⟨g1, by simp only [Rel], rel_vec.2 rfl, by simp only [Rel]⟩) g9 (fun i row h => by
  match i with
  | 0 => simp at h; subst h; exact g10
  | 1 => simp at h; subst h; exact g11
  | i + 2 => simp at h) (fun i hi => g12 i (by simpa using hi)) g13
 refine hr.mono fun e W' ⟨he, hb⟩ => ?_
 exact ⟨_, he, law_post Try.laidOut (of_decide_eq_true (by kernel_rfl)) (by kernel_rfl) Try.underlying4 rfl (fun l hl => by match l, hl with | [_, _, _, _], _ => rfl) hW' hb⟩

theorem worldAhead_holds : Rows.WorldAheadSaid :=
 OpenClaim.holds_of_wide 3 Try.f3 rfl rfl rfl rfl rfl rfl rfl ⟨rfl, rfl, rfl, rfl, rfl⟩ rfl rfl rfl rfl rfl (by kernel_rfl) Try.func3 (by kernel_rfl)
  (of_decide_eq_true (by kernel_rfl)) (by unfold Func.isWrapper; first | (rw [if_pos (by decide +kernel)]; kernel_rfl) | (rw [if_neg (by decide +kernel)]; exact ⟨rfl, rfl⟩))
  (fun os started H enc _ => worldAhead_lifted os started H enc)

#print axioms worldAhead_holds

end Go.Proofs.Ytimkhidniolpeaa
