/- ShotSpeeds: the law's call. -/
import Derived.Test.YthgafhegdngomaaVmNw
import Derived.Test.YthgafhegdngomaaVmG12
namespace Go.Proofs.Ythgafhegdngomaa
set_option linter.unusedSimpArgs false
set_option linter.unusedVariables false
open Go.RowKit

noncomputable def x12b : Ctx := ctxOf [10] [orcShown12, orcNew]
theorem x12b_ok : COk Try.prog x12b := ctxOf_ok (by kernel_rfl)

set_option maxRecDepth 100000 in
set_option maxHeartbeats 0 in
theorem speeds_tree (id ow k : Int) (p d : V3) : runK x12b (fun _ _ => none) 200 3 Try.f3 0 [.int .i64 id, .int .i64 ow, .int .i64 k, .agg p.sv, .agg d.sv] [] =
  bif newE k d != 0 then
    some
      (SV.bool
          (bif (bif true == true then newE k d == 1 else false) == true then
            (newS id ow k p d).id == 0 &&
              ((newS id ow k p d).owner == 0 &&
                ((newS id ow k p d).kind == 0 &&
                  ((newS id ow k p d).pos.x == 0 &&
                    ((newS id ow k p d).pos.y == 0 &&
                      ((newS id ow k p d).pos.z == 0 &&
                        ((newS id ow k p d).vel.x == 0 &&
                          ((newS id ow k p d).vel.y == 0 && ((newS id ow k p d).vel.z == 0 && ((newS id ow k p d).fuse == 0 && ((newS id ow k p d).rest == false && true))))))))))
          else false),
        [])
  else
    bif k == 1 then
      bif
          bif
              (bif ((newS id ow k p d).vel.x == 0) == false then
                  bif (bif decide (d.x > 0) == true then decide ((newS id ow k p d).vel.x > 0) else false) == true then decide ((newS id ow k p d).vel.x ≤ 16384) else false
                else true) ==
                false then
            bif (bif decide (d.x < 0) == true then decide ((newS id ow k p d).vel.x < 0) else false) == true then decide ((newS id ow k p d).vel.x ≥ IntKind.i64.wrap (0 - 16384)) else false
          else true then
        bif
            bif
                (bif ((newS id ow k p d).vel.y == 0) == false then
                    bif (bif decide (d.y > 0) == true then decide ((newS id ow k p d).vel.y > 0) else false) == true then decide ((newS id ow k p d).vel.y ≤ 16384) else false
                  else true) ==
                  false then
              bif (bif decide (d.y < 0) == true then decide ((newS id ow k p d).vel.y < 0) else false) == true then decide ((newS id ow k p d).vel.y ≥ IntKind.i64.wrap (0 - 16384)) else false
            else true then
          some
            (SV.bool
                (bif
                    (bif
                          (bif
                                (bif
                                      (bif
                                            (bif
                                                  (bif ((newS id ow k p d).vel.z == 0) == false then
                                                      bif (bif decide (d.z > 0) == true then decide ((newS id ow k p d).vel.z > 0) else false) == true then decide ((newS id ow k p d).vel.z ≤ 16384)
                                                      else false
                                                    else true) ==
                                                    false then
                                                bif (bif decide (d.z < 0) == true then decide ((newS id ow k p d).vel.z < 0) else false) == true then
                                                  decide ((newS id ow k p d).vel.z ≥ IntKind.i64.wrap (0 - 16384))
                                                else false
                                              else true) ==
                                              true then
                                          (newS id ow k p d).id == id
                                        else false) ==
                                        true then
                                    (newS id ow k p d).owner == ow
                                  else false) ==
                                  true then
                              (newS id ow k p d).kind == k
                            else false) ==
                            true then
                        (newS id ow k p d).pos.x == p.x && ((newS id ow k p d).pos.y == p.y && ((newS id ow k p d).pos.z == p.z && true))
                      else false) ==
                      true then
                  !(newS id ow k p d).rest
                else false),
              [])
        else
          some
            (SV.bool
                (bif
                    (bif
                          (bif (bif (bif false == true then (newS id ow k p d).id == id else false) == true then (newS id ow k p d).owner == ow else false) == true then (newS id ow k p d).kind == k
                            else false) ==
                            true then
                        (newS id ow k p d).pos.x == p.x && ((newS id ow k p d).pos.y == p.y && ((newS id ow k p d).pos.z == p.z && true))
                      else false) ==
                      true then
                  !(newS id ow k p d).rest
                else false),
              [])
      else
        some
          (SV.bool
              (bif
                  (bif
                        (bif (bif (bif false == true then (newS id ow k p d).id == id else false) == true then (newS id ow k p d).owner == ow else false) == true then (newS id ow k p d).kind == k
                          else false) ==
                          true then
                      (newS id ow k p d).pos.x == p.x && ((newS id ow k p d).pos.y == p.y && ((newS id ow k p d).pos.z == p.z && true))
                    else false) ==
                    true then
                !(newS id ow k p d).rest
              else false),
            [])
    else
      bif
          bif
              (bif ((newS id ow k p d).vel.x == 0) == false then
                  bif (bif decide (d.x > 0) == true then decide ((newS id ow k p d).vel.x > 0) else false) == true then decide ((newS id ow k p d).vel.x ≤ 26214) else false
                else true) ==
                false then
            bif (bif decide (d.x < 0) == true then decide ((newS id ow k p d).vel.x < 0) else false) == true then decide ((newS id ow k p d).vel.x ≥ IntKind.i64.wrap (0 - 26214)) else false
          else true then
        bif
            bif
                (bif ((newS id ow k p d).vel.y == 0) == false then
                    bif (bif decide (d.y > 0) == true then decide ((newS id ow k p d).vel.y > 0) else false) == true then decide ((newS id ow k p d).vel.y ≤ 26214) else false
                  else true) ==
                  false then
              bif (bif decide (d.y < 0) == true then decide ((newS id ow k p d).vel.y < 0) else false) == true then decide ((newS id ow k p d).vel.y ≥ IntKind.i64.wrap (0 - 26214)) else false
            else true then
          some
            (SV.bool
                (bif
                    (bif
                          (bif
                                (bif
                                      (bif
                                            (bif
                                                  (bif ((newS id ow k p d).vel.z == 0) == false then
                                                      bif (bif decide (d.z > 0) == true then decide ((newS id ow k p d).vel.z > 0) else false) == true then decide ((newS id ow k p d).vel.z ≤ 26214)
                                                      else false
                                                    else true) ==
                                                    false then
                                                bif (bif decide (d.z < 0) == true then decide ((newS id ow k p d).vel.z < 0) else false) == true then
                                                  decide ((newS id ow k p d).vel.z ≥ IntKind.i64.wrap (0 - 26214))
                                                else false
                                              else true) ==
                                              true then
                                          (newS id ow k p d).id == id
                                        else false) ==
                                        true then
                                    (newS id ow k p d).owner == ow
                                  else false) ==
                                  true then
                              (newS id ow k p d).kind == k
                            else false) ==
                            true then
                        (newS id ow k p d).pos.x == p.x && ((newS id ow k p d).pos.y == p.y && ((newS id ow k p d).pos.z == p.z && true))
                      else false) ==
                      true then
                  !(newS id ow k p d).rest
                else false),
              [])
        else
          some
            (SV.bool
                (bif
                    (bif
                          (bif (bif (bif false == true then (newS id ow k p d).id == id else false) == true then (newS id ow k p d).owner == ow else false) == true then (newS id ow k p d).kind == k
                            else false) ==
                            true then
                        (newS id ow k p d).pos.x == p.x && ((newS id ow k p d).pos.y == p.y && ((newS id ow k p d).pos.z == p.z && true))
                      else false) ==
                      true then
                  !(newS id ow k p d).rest
                else false),
              [])
      else
        some
          (SV.bool
              (bif
                  (bif
                        (bif (bif (bif false == true then (newS id ow k p d).id == id else false) == true then (newS id ow k p d).owner == ow else false) == true then (newS id ow k p d).kind == k
                          else false) ==
                          true then
                      (newS id ow k p d).pos.x == p.x && ((newS id ow k p d).pos.y == p.y && ((newS id ow k p d).pos.z == p.z && true))
                    else false) ==
                    true then
                !(newS id ow k p d).rest
              else false),
            []) := by kernel_rfl

theorem goes_form {x v s : Int} (h : (v = 0 ∨ (0 < x ∧ 0 < v ∧ v ≤ s)) ∨ (x < 0 ∧ v < 0 ∧ -s ≤ v)) : ((v == 0 || (decide (x > 0) && decide (v > 0)) && decide (v ≤ s)) || (decide (x < 0) && decide (v < 0)) && decide (v ≥ -s)) = true := by
  simp only [Bool.or_eq_true, Bool.and_eq_true, decide_eq_true_eq, beq_iff_eq]
  omega

theorem speeds_law (id ow k : Int) (p d : V3) : runK x12b (fun _ _ => none) 200 3 Try.f3 0 [.int .i64 id, .int .i64 ow, .int .i64 k, .agg p.sv, .agg d.sv] [] = some (.bool true, []) := by
  rw [speeds_tree]
  cases hb : newBad k d with
  | true =>
    have e1 : newE k d = 1 := by unfold newE; rw [hb]; rfl
    have e2 : newS id ow k p d = ⟨0, 0, 0, ⟨0, 0, 0⟩, ⟨0, 0, 0⟩, 0, false⟩ := by unfold newS; rw [hb]; rfl
    rw [e1, e2]
    rfl
  | false =>
    obtain ⟨hk, hw, hw', hl⟩ := newBad_false hb
    have e1 : newE k d = 0 := by unfold newE; rw [hb]; rfl
    have e2 : newS id ow k p d = ⟨id, ow, k, p, velN (spN k) d, fuN k, false⟩ := by unfold newS; rw [hb]; rfl
    have hsq := axes_sq d
    have hs : 0 ≤ spN k := by unfold spN; cases k == 0 <;> decide
    have gx := goes_form (vel_axis hl (axis_le_long hw' hsq.1) hs)
    have gy := goes_form (vel_axis hl (axis_le_long hw' hsq.2.1) hs)
    have gz := goes_form (vel_axis hl (axis_le_long hw' hsq.2.2) hs)
    rw [e1, e2]
    have w1 : IntKind.i64.wrap (0 - 16384) = -16384 := by decide
    have w2 : IntKind.i64.wrap (0 - 26214) = -26214 := by decide
    simp only [or_form, and_form, w1, w2]
    unfold velN
    simp only
    rcases hk with rfl | rfl
    · rw [show spN 0 = 26214 from rfl] at gx gy gz ⊢
      simp only [gx, gy, gz, beq_self_eq_true, Bool.and_true, Bool.true_and]
      rfl
    · rw [show spN 1 = 16384 from rfl] at gx gy gz ⊢
      simp only [gx, gy, gz, beq_self_eq_true, Bool.and_true, Bool.true_and]
      rfl

end Go.Proofs.Ythgafhegdngomaa
