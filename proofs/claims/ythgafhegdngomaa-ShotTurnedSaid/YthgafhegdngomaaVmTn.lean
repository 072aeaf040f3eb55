/- ShotTurned: the law's call. -/
import Derived.Test.YthgafhegdngomaaVmNw
import Derived.Test.YthgafhegdngomaaVmG12
namespace Go.Proofs.Ythgafhegdngomaa
set_option linter.unusedSimpArgs false
set_option linter.unusedVariables false
open Go.RowKit

noncomputable def x12b : Ctx := ctxOf [10] [orcShown12, orcNew]
theorem x12b_ok : COk Try.prog x12b := ctxOf_ok (by kernel_rfl)

set_option maxRecDepth 100000 in
set_option maxHeartbeats 0 in
theorem turned_tree (k : Int) (p d : V3) : runK x12b (fun _ _ => none) 200 4 Try.f4 0 [.int .i64 k, .agg p.sv, .agg d.sv] [] =
  bif newE k d != newE k (V3.mk (IntKind.i64.wrap (0 - d.x)) (IntKind.i64.wrap (0 - d.y)) (IntKind.i64.wrap (0 - d.z))) then
    some
      (SV.bool
          (bif
              (bif (bif (d.x == IntKind.i64.wrap (0 - d.x)) == true then d.x != 0 else false) == false then bif (d.y == IntKind.i64.wrap (0 - d.y)) == true then d.y != 0 else false else true) ==
                false then
            bif (d.z == IntKind.i64.wrap (0 - d.z)) == true then d.z != 0 else false
          else true),
        [])
  else
    some
      (SV.bool
          (bif
              (bif
                    (bif
                          (bif true == true then
                              (newS 1 1 k p (V3.mk (IntKind.i64.wrap (0 - d.x)) (IntKind.i64.wrap (0 - d.y)) (IntKind.i64.wrap (0 - d.z)))).vel.x == IntKind.i64.wrap (0 - (newS 1 1 k p d).vel.x)
                            else false) ==
                            true then
                        (newS 1 1 k p (V3.mk (IntKind.i64.wrap (0 - d.x)) (IntKind.i64.wrap (0 - d.y)) (IntKind.i64.wrap (0 - d.z)))).vel.y == IntKind.i64.wrap (0 - (newS 1 1 k p d).vel.y)
                      else false) ==
                      true then
                  (newS 1 1 k p (V3.mk (IntKind.i64.wrap (0 - d.x)) (IntKind.i64.wrap (0 - d.y)) (IntKind.i64.wrap (0 - d.z)))).vel.z == IntKind.i64.wrap (0 - (newS 1 1 k p d).vel.z)
                else false) ==
                true then
            (newS 1 1 k p d).fuse == (newS 1 1 k p (V3.mk (IntKind.i64.wrap (0 - d.x)) (IntKind.i64.wrap (0 - d.y)) (IntKind.i64.wrap (0 - d.z)))).fuse
          else false),
        []) := by kernel_rfl

theorem neg_out {x : Int} (h : In64 x) : outA (IntKind.i64.wrap (0 - x)) = outA x ∧ (IntKind.i64.wrap (0 - x) == 0) = (x == 0) := by
  unfold In64 at h
  by_cases hm : x = -9223372036854775808
  · subst hm; decide
  · rw [IntWalk.i64_in (0 - x) (by omega)]
    unfold outA
    refine ⟨?_, ?_⟩ <;> rw [Bool.eq_iff_iff] <;> simp only [Bool.or_eq_true, decide_eq_true_eq, beq_iff_eq] <;> omega

theorem turned_law {k : Int} {p d : V3} (hd : d.fits) : runK x12b (fun _ _ => none) 200 4 Try.f4 0 [.int .i64 k, .agg p.sv, .agg d.sv] [] = some (.bool true, []) := by
  rw [turned_tree]
  obtain ⟨x1, x2⟩ := neg_out hd.1
  obtain ⟨y1, y2⟩ := neg_out hd.2.1
  obtain ⟨z1, z2⟩ := neg_out hd.2.2
  have hbad : newBad k ⟨IntKind.i64.wrap (0 - d.x), IntKind.i64.wrap (0 - d.y), IntKind.i64.wrap (0 - d.z)⟩ = newBad k d := by
    unfold newBad
    simp only [x1, x2, y1, y2, z1, z2]
  have hE : newE k ⟨IntKind.i64.wrap (0 - d.x), IntKind.i64.wrap (0 - d.y), IntKind.i64.wrap (0 - d.z)⟩ = newE k d := by unfold newE; rw [hbad]
  rw [hE, bne_self_eq_false, cond_false]
  cases hb : newBad k d with
  | true =>
    unfold newS
    rw [hbad, hb]
    rfl
  | false =>
    obtain ⟨hk, hw, hw', hl⟩ := newBad_false hb
    have hsq := axes_sq d
    have hs : 0 ≤ spN k ∧ spN k ≤ 26214 := by unfold spN; cases k == 0 <;> decide
    have vx := vel_axis hl (axis_le_long hw' hsq.1) hs.1
    have vy := vel_axis hl (axis_le_long hw' hsq.2.1) hs.1
    have vz := vel_axis hl (axis_le_long hw' hsq.2.2) hs.1
    unfold V3.within at hw
    rw [IntWalk.i64_in (0 - d.x) (by omega), IntWalk.i64_in (0 - d.y) (by omega), IntWalk.i64_in (0 - d.z) (by omega)] at hbad ⊢
    have hlong : (⟨0 - d.x, 0 - d.y, 0 - d.z⟩ : V3).long = d.long := long_neg _ _ (by unfold V3.sq; grind)
    have neg : ∀ x : Int, ((0 - x) * spN k).tdiv d.long = 0 - (x * spN k).tdiv d.long := by
      intro x
      rw [show (0 - x) * spN k = -(x * spN k) by grind, Int.neg_tdiv]
      omega
    unfold newS
    rw [hbad, hb]
    simp only [cond_false]
    unfold velN
    simp only [hlong, neg]
    generalize (d.x * spN k).tdiv d.long = a at vx ⊢
    generalize (d.y * spN k).tdiv d.long = b at vy ⊢
    generalize (d.z * spN k).tdiv d.long = c at vz ⊢
    rw [IntWalk.i64_in (0 - a) (by omega), IntWalk.i64_in (0 - b) (by omega), IntWalk.i64_in (0 - c) (by omega)]
    simp only [beq_self_eq_true, cond_true]

end Go.Proofs.Ythgafhegdngomaa
