/- TraceWalls: for every input the law returns true, and its arguments read as they read before. No condition. -/
import Derived.Test.YtnfhlfmcgeaagaaVmWa
import Derived.Test.YtnfhlfmcgeaagaaVmM4
namespace Go.Proofs.Ytnfhlfmcgeaagaa
set_option linter.unusedSimpArgs false
set_option linter.unusedVariables false
open Go.ChangeShapes Go.WideShapes Go.ChangeAt Go.RowKit

set_option maxRecDepth 100000 in
theorem traceWalls_lifted (os : Os) (started : os.Started) (H : Type) (enc : TypeId × Value → H) :
    ReturnsInHanded {} Try.checked os 9 .any (Rows.traceWallsSpec.pre6 enc Try.prog Try.f9 Rows.traceWallsRow.domain false) (Rows.traceWallsSpec.post enc Try.prog Try.f9 false true false false) := by
  refine returnsInHanded_of_change (C := Try.checked) Try.own started (by kernel_rfl) Try.func9
    (ChangeSpec.witness6 (enc := enc) (C := Try.checked) false ⟨#[], #[.agg #[I 0, I 0, I 0, .slice none 0 0, .slice none 0 0], .agg #[I 0, I 0, I 0], .slice none 0 0, I 0], []⟩ 8 (by kernel_rfl) (by kernel_rfl) (by kernel_rfl) (by kernel_rfl)) ?_
  intro W base args ds gs before hval0 hW hcnd _
  have hval : ∀ (j : Nat) t v, Try.f9.params[j]? = some t → args[j]? = some v → Value.okWide Try.prog W .any base t v := hval0
  have hW' := hW
  obtain ⟨p, q, hA0, hV, rfl, hfz, hnd⟩ := hW
  have hA : DataW.TrodAll enc Try.prog W 0 (fun _ => true) true Try.f9.params.toList args.toList ds p := hA0
  rw [Try.params9] at hA hval
  obtain ⟨v0, v1, v2, v3, d0, d1, d2, d3, p0, p1, p2, p3, rfl, rfl, rfl, h0, h1, h2, h3⟩ := trodAll_four hA
  obtain ⟨a, rfl, fa⟩ := open_vec (hval 1 27 v1 rfl rfl)
  obtain ⟨n, rfl, fn⟩ := open_i64 Try.underlying3 (hval 3 3 v3 rfl rfl)
  obtain ⟨ρ, wd, dd, hd, len, xs, g1, g2, g3, g4, g5, g6, g7, g8, g9, g10⟩ := map_entry (hval 0 25 v0 rfl rfl) h0
  obtain ⟨ρ', ll, l, k1, k2, k3, k4, k5, k6, k7, k8⟩ := i64_entry (k := 1) g7 g9 g10 (cell_slice Try.underlying39 (val_cell Try.underlying39 rfl (hval 2 39 v2 rfl rfl))) h2
  obtain ⟨rows', hc, _⟩ := runK_ok x10w_ok loopOf_ok Try.func9 (wa_law (ax := n) g2 g3 g4 g5 g6 k4 fa)
  have hr := ret_of hc (vargs := [v0, a.v, v2, I n]) (w := W) (ρ := ρ') (by rw [relL_cons, relL_cons, relL_cons, relL_one']; exact ⟨Rel.mono k1 _ _ g1, rel_vec.2 rfl, k2, by simp only [Rel]⟩) k5 (fun i row h => by
    match i with
    | 0 => simp at h; subst h; exact g8.keep k1 (fun _ _ => rfl)
    | 1 => simp at h; subst h; exact k6
    | i + 2 => simp at h) (fun i hi => k7 i (by simpa using hi)) k8
  refine hr.mono fun e W' ⟨he, hb⟩ => ?_
  exact ⟨_, he, law_post Try.laidOut (of_decide_eq_true (by kernel_rfl)) (by kernel_rfl) Try.underlying4 rfl (fun l hl => by match l, hl with | [_, _, _, _], _ => rfl) hW' hb⟩

theorem traceWalls_holds : Rows.TraceWallsSaid :=
  OpenClaim.holds_of_wide 9 Try.f9 rfl rfl rfl rfl rfl rfl rfl ⟨rfl, rfl, rfl, rfl, rfl⟩ rfl rfl rfl rfl rfl (by kernel_rfl) Try.func9 (by kernel_rfl)
    (of_decide_eq_true (by kernel_rfl)) (by unfold Func.isWrapper; first | (rw [if_pos (by decide +kernel)]; kernel_rfl) | (rw [if_neg (by decide +kernel)]; exact ⟨rfl, rfl⟩))
    (fun os started H enc _ => traceWalls_lifted os started H enc)

#print axioms traceWalls_holds

end Go.Proofs.Ytnfhlfmcgeaagaa
