/- BlastTells: for every input the law returns true, and its arguments read as they read before. No condition. -/
import Derived.Test.YtboljdeeodeeeaaVmBl
import Derived.Test.YtboljdeeodeeeaaOpen4
import Derived.Test.YtboljdeeodeeeaaVmM
namespace Go.Proofs.Ytboljdeeodeeeaa
set_option linter.unusedSimpArgs false
set_option linter.unusedVariables false
set_option maxRecDepth 100000
open Go.ChangeShapes Go.WideShapes Go.ChangeAt Go.RowKit

set_option maxRecDepth 100000 in
theorem blastTells_lifted (os : Os) (started : os.Started) (H : Type) (enc : TypeId × Value → H) :
    ReturnsInHanded {} Try.checked os 4 .any (Rows.blastTellsSpec.pre6 enc Try.prog Try.f4 Rows.blastTellsRow.domain false) (Rows.blastTellsSpec.post enc Try.prog Try.f4 false true false false) := by
  refine returnsInHanded_of_change (C := Try.checked) Try.own started (by kernel_rfl) Try.func4
    (ChangeSpec.witness6 (enc := enc) (C := Try.checked) false ⟨#[], #[.agg #[I 0, I 0, I 0, .slice none 0 0, .slice none 0 0], .agg #[I 0, I 0, I 0], I 0, .slice none 0 0, I 0], []⟩ 8 (by kernel_rfl) (by kernel_rfl) (by kernel_rfl) (by kernel_rfl)) ?_
  intro W base args ds gs before hval0 hW hcnd _
  have hval : ∀ (j : Nat) t v, Try.f4.params[j]? = some t → args[j]? = some v → Value.okWide Try.prog W .any base t v := hval0
  have hW' := hW
  obtain ⟨p, q, hA0, hV, rfl, hfz, hnd⟩ := hW
  have hA : DataW.TrodAll enc Try.prog W 0 (fun _ => true) true Try.f4.params.toList args.toList ds p := hA0
  rw [Try.params4] at hA hval
  obtain ⟨v0, v1, v2, v3, v4, d0, d1, d2, d3, d4, p0, p1, p2, p3, p4, rfl, rfl, h0, h1, h2, h3, h4⟩ := trodAll_5w hA
  obtain ⟨a, rfl, fa⟩ := open_vec (hval 1 23 v1 rfl rfl)
  obtain ⟨o, rfl, fo⟩ := open_i64 Try.underlying3 (hval 2 3 v2 rfl rfl)
  obtain ⟨n, rfl, fn⟩ := open_i64 Try.underlying3 (hval 4 3 v4 rfl rfl)
  obtain ⟨ρ, wd, dd, hd, len, xs, ls, sp, g1, g2, g3, g4, g5, g6, g7, g8, g9, g10, g11, g12, g13, g14⟩ := map_entry3 (hval 0 33 v0 rfl rfl) h0
  obtain ⟨ρ', ll, ps, k1, k2, k3, k4, k5, k6, k7, k8, k9⟩ := pl_entry (k := 2) g9 g12 g13 (cell_slice Try.underlying34 (val_cell Try.underlying34 rfl (hval 3 34 v3 rfl rfl))) h3
  obtain ⟨rows', hc, _⟩ := runK_ok xBt_ok loopOf_ok Try.func4 (tells_law (owner := o) (n := n) g2 g3 g4 g5 g6 g7 g8 g14 fa k4 k9)
  have hr := ret_of hc (vargs := [v0, a.v, I o, v3, I n]) (w := W) (ρ := ρ') (by rw [relL_cons, relL_cons, relL_cons, relL_cons, relL_one']; exact ⟨Rel.mono k1 _ _ g1, rel_vec.2 rfl, by simp only [Rel], k2, by simp only [Rel]⟩) k5 (fun i row h => by
    match i with
    | 0 => simp at h; subst h; exact g10.keep k1 (fun _ _ => rfl)
    | 1 => simp at h; subst h; exact g11.keep k1 (fun _ _ => rfl)
    | 2 => simp at h; subst h; exact k6
    | i + 3 => simp at h) (fun i hi => k7 i (by simpa using hi)) k8
  refine hr.mono fun e W' ⟨he, hb⟩ => ?_
  exact ⟨_, he, law_post Try.laidOut (of_decide_eq_true (by kernel_rfl)) (by kernel_rfl) Try.underlying4 rfl (fun l hl => by match l, hl with | [_, _, _, _, _], _ => rfl) hW' hb⟩

theorem blastTells_holds : Rows.BlastTellsSaid :=
  OpenClaim.holds_of_wide 4 Try.f4 rfl rfl rfl rfl rfl rfl rfl ⟨rfl, rfl, rfl, rfl, rfl⟩ rfl rfl rfl rfl rfl (by kernel_rfl) Try.func4 (by kernel_rfl)
    (of_decide_eq_true (by kernel_rfl)) (by unfold Func.isWrapper; first | (rw [if_pos (by decide +kernel)]; kernel_rfl) | (rw [if_neg (by decide +kernel)]; exact ⟨rfl, rfl⟩))
    (fun os started H enc _ => blastTells_lifted os started H enc)

#print axioms blastTells_holds

end Go.Proofs.Ytboljdeeodeeeaa
