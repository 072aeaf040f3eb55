/- GridStraight: for every input the law returns true, and its arguments read as they read before. No condition. -/
import Derived.Test.YtikifgbbiffclaaVmSr
import Derived.Test.YtikifgbbiffclaaVmM2
namespace Go.Proofs.Ytikifgbbiffclaa
set_option linter.unusedSimpArgs false
set_option linter.unusedVariables false
open Go.ChangeShapes Go.WideShapes Go.ChangeAt Go.RowKit

set_option maxRecDepth 100000 in
theorem gridStraight_lifted (os : Os) (started : os.Started) (H : Type) (enc : TypeId × Value → H) :
    ReturnsInHanded {} Try.checked os 9 .any (Rows.gridStraightSpec.pre6 enc Try.prog Try.f9 Rows.gridStraightRow.domain false) (Rows.gridStraightSpec.post enc Try.prog Try.f9 false true false false) := by
  refine returnsInHanded_of_change (C := Try.checked) Try.own started (by kernel_rfl) Try.func9
    (ChangeSpec.witness6 (enc := enc) (C := Try.checked) false ⟨#[], #[.agg #[I 0, I 0, I 0, .slice none 0 0, .slice none 0 0], .agg #[I 0, I 0, I 0], I 0, I 0], []⟩ 8 (by kernel_rfl) (by kernel_rfl) (by kernel_rfl) (by kernel_rfl)) ?_
  intro W base args ds gs before hval0 hW hcnd _
  have hval : ∀ (j : Nat) t v, Try.f9.params[j]? = some t → args[j]? = some v → Value.okWide Try.prog W .any base t v := hval0
  have hW' := hW
  obtain ⟨p, q, hA0, hV, rfl, hfz, hnd⟩ := hW
  have hA : DataW.TrodAll enc Try.prog W 0 (fun _ => true) true Try.f9.params.toList args.toList ds p := hA0
  rw [Try.params9] at hA hval
  obtain ⟨v0, v1, v2, v3, d0, d1, d2, d3, p0, p1, p2, p3, rfl, rfl, rfl, h0, h1, h2, h3⟩ := trodAll_four hA
  obtain ⟨a, rfl, fa⟩ := open_vec (hval 1 27 v1 rfl rfl)
  obtain ⟨m, rfl, fm⟩ := open_i64 Try.underlying2 (hval 2 2 v2 rfl rfl)
  obtain ⟨n, rfl, fn⟩ := open_i64 Try.underlying3 (hval 3 3 v3 rfl rfl)
  obtain ⟨ρ, wd, dd, hd, len, xs, ls, sp, g1, g2, g3, g4, g5, g6, g7, g8, g9, g10, g11, g12, g13⟩ := map_entry2 (hval 0 25 v0 rfl rfl) h0
  obtain ⟨rows', hc, _⟩ := runK_ok x9_ok loopOf_ok Try.func9 (straight_law (ls := ls) (sp := sp) (b := m) (ax := n) g2 g3 g4 g5 g6 fa)
  have hr := ret_of hc (vargs := [v0, a.v, I m, I n]) (w := W) (ρ := ρ) (by rw [relL_cons, relL_cons, relL_cons, relL_one']; exact ⟨g1, rel_vec.2 rfl, by simp only [Rel], by simp only [Rel]⟩) g9 (fun i row h => by
    match i with
    | 0 => simp at h; subst h; exact g10
    | 1 => simp at h; subst h; exact g11
    | i + 2 => simp at h) (fun i hi => g12 i (by simpa using hi)) g13
  refine hr.mono fun e W' ⟨he, hb⟩ => ?_
  exact ⟨_, he, law_post Try.laidOut (of_decide_eq_true (by kernel_rfl)) (by kernel_rfl) Try.underlying4 rfl (fun l hl => by match l, hl with | [_, _, _, _], _ => rfl) hW' hb⟩

theorem gridStraight_holds : Rows.GridStraightSaid :=
  OpenClaim.holds_of_wide 9 Try.f9 rfl rfl rfl rfl rfl rfl rfl ⟨rfl, rfl, rfl, rfl, rfl⟩ rfl rfl rfl rfl rfl (by kernel_rfl) Try.func9 (by kernel_rfl)
    (of_decide_eq_true (by kernel_rfl)) (by unfold Func.isWrapper; first | (rw [if_pos (by decide +kernel)]; kernel_rfl) | (rw [if_neg (by decide +kernel)]; exact ⟨rfl, rfl⟩))
    (fun os started H enc _ => gridStraight_lifted os started H enc)

#print axioms gridStraight_holds

end Go.Proofs.Ytikifgbbiffclaa
