/- WorldOwn: for every input the law returns true, and its arguments read as they read before. No condition. -/
import Derived.Test.YtimkhidniolpeaaWnD
import Derived.Test.YtimkhidniolpeaaOpen4
import Derived.Test.YtimkhidniolpeaaVmM6
namespace Go.Proofs.Ytimkhidniolpeaa
set_option linter.unusedSimpArgs false
set_option linter.unusedVariables false
set_option maxRecDepth 100000
set_option maxHeartbeats 0
open Go.ChangeShapes Go.WideShapes Go.ChangeAt Go.RowKit

theorem worldOwn_lifted (os : Os) (started : os.Started) (H : Type) (enc : TypeId × Value → H) :
    ReturnsInHanded {} Try.checked os 7 .any (Rows.worldOwnSpec.pre6 enc Try.prog Try.f7 Rows.worldOwnRow.domain false) (Rows.worldOwnSpec.post enc Try.prog Try.f7 false true false false) := by
 refine returnsInHanded_of_change (C := Try.checked) Try.own started (by kernel_rfl) Try.func7
  (ChangeSpec.witness6 (enc := enc) (C := Try.checked) false ⟨#[], #[.agg #[I 0, I 0, I 0, .slice none 0 0, .slice none 0 0], .slice none 0 0], []⟩ 8 (by kernel_rfl) (by kernel_rfl) (by kernel_rfl) (by kernel_rfl)) ?_
 intro W base args ds gs before hval0 hW hcnd _
 have hval : ∀ (j : Nat) t v, Try.f7.params[j]? = some t → args[j]? = some v → Value.okWide Try.prog W .any base t v := hval0
 have hW' := hW
 obtain ⟨p, q, hA0, hV, rfl, hfz, hnd⟩ := hW
 have hA : DataW.TrodAll enc Try.prog W 0 (fun _ => true) true Try.f7.params.toList args.toList ds p := hA0
 rw [Try.params7] at hA hval
 obtain ⟨v0, v1, d0, d1, p0, p1, rfl, rfl, rfl, h0, h1⟩ := trodAll_two hA
 obtain ⟨ρ, wd, dd, hd, len, xs, ls, sp, g1, g2, g3, g4, g5, g6, g7, g8, g9, g10, g11, g12, g13, g14⟩ := map_entry3 (hval 0 25 v0 rfl rfl) h0
 obtain ⟨ρ', ll, cs, k1, k2, k3, k4, k5, k6, k7, k8⟩ := op_entry (k := 2) g9 g12 g13 (cell_slice Try.underlying55 (val_cell Try.underlying55 rfl (hval 1 55 v1 rfl rfl))) h1
 obtain ⟨rows', hc, _⟩ := runK_ok x16n_ok loopOf_ok Try.func7 (wn_law ⟨g2, g3, g4, g5, g6, g7, g8, g14⟩ k4)
 have hr := ret_of hc (vargs := [v0, v1]) (w := W) (ρ := ρ') (by rw [relL_cons, relL_one']; exact ⟨Rel.mono k1 _ _ g1, k2⟩) k5 (fun i row h => by
  match i with
  | 0 => simp at h; subst h; exact g10.keep k1 (fun _ _ => rfl)
  | 1 => simp at h; subst h; exact g11.keep k1 (fun _ _ => rfl)
  | 2 => simp at h; subst h; exact k6
  | i + 3 => simp at h) (fun i hi => k7 i (by simpa using hi)) k8
 refine hr.mono fun e W' ⟨he, hb⟩ => ?_
 exact ⟨_, he, law_post Try.laidOut (of_decide_eq_true (by kernel_rfl)) (by kernel_rfl) Try.underlying4 rfl (fun l hl => by match l, hl with | [_, _], _ => rfl) hW' hb⟩

theorem worldOwn_holds : Rows.WorldOwnSaid :=
 OpenClaim.holds_of_wide 7 Try.f7 rfl rfl rfl rfl rfl rfl rfl ⟨rfl, rfl, rfl, rfl, rfl⟩ rfl rfl rfl rfl rfl (by kernel_rfl) Try.func7 (by kernel_rfl)
  (of_decide_eq_true (by kernel_rfl)) (by unfold Func.isWrapper; first | (rw [if_pos (by decide +kernel)]; kernel_rfl) | (rw [if_neg (by decide +kernel)]; exact ⟨rfl, rfl⟩))
  (fun os started H enc _ => worldOwn_lifted os started H enc)

#print axioms worldOwn_holds

end Go.Proofs.Ytimkhidniolpeaa
