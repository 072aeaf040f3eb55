/- GridAts: for every input the law returns true, and its arguments read as they read before. No condition. -/
import Derived.Test.YtikifgbbiffclaaVmAts
namespace Go.Proofs.Ytikifgbbiffclaa
set_option linter.unusedSimpArgs false
set_option linter.unusedVariables false
open Go.ChangeShapes Go.WideShapes Go.ChangeAt Go.RowKit

theorem open_i16 {P : Program} {w : World} {r : Reach} {base : Nat} {t : TypeId} {v : Value} (ht : P.underlying t = some (.int .i16)) (h : Value.okWide P w r base t v) : ∃ n, v = .int .i16 n ∧ -32768 ≤ n ∧ n ≤ 32767 := by
  obtain ⟨n, rfl, hn⟩ := cell_int ht (val_cell ht rfl h)
  exact ⟨n, rfl, by simpa [IntKind.has, IntKind.min, IntKind.max, IntKind.signed, IntKind.bits] using hn⟩

set_option maxRecDepth 100000 in
theorem gridAts_lifted (os : Os) (started : os.Started) (H : Type) (enc : TypeId × Value → H) :
    ReturnsInHanded {} Try.checked os 11 .any (Rows.gridAtsSpec.pre6 enc Try.prog Try.f11 Rows.gridAtsRow.domain false) (Rows.gridAtsSpec.post enc Try.prog Try.f11 false true false false) := by
  refine returnsInHanded_of_change (C := Try.checked) Try.own started (by kernel_rfl) Try.func11
    (ChangeSpec.witness6 (enc := enc) (C := Try.checked) false ⟨#[], #[.agg #[I 0, I 0, I 0], .int .i16 0], []⟩ 8 (by kernel_rfl) (by kernel_rfl) (by kernel_rfl) (by kernel_rfl)) ?_
  intro W base args ds gs before hval0 hW hcnd _
  have hval : ∀ (j : Nat) t v, Try.f11.params[j]? = some t → args[j]? = some v → Value.okWide Try.prog W .any base t v := hval0
  have hW' := hW
  obtain ⟨p, q, hA0, hV, rfl, hfz, hnd⟩ := hW
  have hA : DataW.TrodAll enc Try.prog W 0 (fun _ => true) true Try.f11.params.toList args.toList ds p := hA0
  rw [Try.params11] at hA hval
  obtain ⟨v0, v1, d0, d1, p0, p1, rfl, rfl, rfl, h0, h1⟩ := trodAll_two hA
  obtain ⟨a, rfl, fa⟩ := open_vec (hval 0 27 v0 rfl rfl)
  obtain ⟨n, rfl, fn⟩ := open_i16 Try.underlying43 (hval 1 43 v1 rfl rfl)
  obtain ⟨rows', hc, _⟩ := runK_ok xGb_ok lok_none Try.func11 (ats_law fa fn)
  have hr := ret_of hc (vargs := [a.v, .int .i16 n]) (w := W) (ρ := fun _ => none)
    (by rw [relL_cons, relL_one]; exact ⟨rel_vec.2 rfl, _, rfl, by simp only [Rel]⟩)
    (fun _ _ h => by cases h) (fun i row h => by simp at h) (fun _ _ => rfl) (fun _ _ h => by cases h)
  refine hr.mono fun e W' ⟨he, hb⟩ => ?_
  exact ⟨_, he, law_post Try.laidOut (of_decide_eq_true (by kernel_rfl)) (by kernel_rfl) Try.underlying4 rfl (fun l hl => by match l, hl with | [_, _], _ => rfl) hW' hb⟩

theorem gridAts_holds : Rows.GridAtsSaid :=
  OpenClaim.holds_of_wide 11 Try.f11 rfl rfl rfl rfl rfl rfl rfl ⟨rfl, rfl, rfl, rfl, rfl⟩ rfl rfl rfl rfl rfl (by kernel_rfl) Try.func11 (by kernel_rfl)
    (of_decide_eq_true (by kernel_rfl)) (by unfold Func.isWrapper; first | (rw [if_pos (by decide +kernel)]; kernel_rfl) | (rw [if_neg (by decide +kernel)]; exact ⟨rfl, rfl⟩))
    (fun os started H enc _ => gridAts_lifted os started H enc)

#print axioms gridAts_holds

end Go.Proofs.Ytikifgbbiffclaa
