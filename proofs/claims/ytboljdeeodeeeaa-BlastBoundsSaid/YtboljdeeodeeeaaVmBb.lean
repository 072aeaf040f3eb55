/- BlastBounds: the law's call. -/
import Derived.Test.YtboljdeeodeeeaaVmHf
import Derived.Test.YtboljdeeodeeeaaVmRt
import Derived.Test.YtboljdeeodeeeaaVmG13
namespace Go.Proofs.Ytboljdeeodeeeaa
set_option linter.unusedSimpArgs false
set_option linter.unusedVariables false
set_option maxRecDepth 100000
open Go.RowKit

noncomputable def x13b : Ctx := ctxOf [11, 12] [orcShown13, orcRight, orcHurt, orcSight]
theorem x13b_ok : COk Try.prog x13b := ctxOf_ok (by kernel_rfl)

set_option maxRecDepth 100000 in
set_option maxHeartbeats 0 in
theorem bounds_tree (w d h : Int) (len ls : Nat) (xs : List Bool) (sp : List V3) (a : V3) (p : Pl) : runK x13b (fun _ _ => none) 200 5 Try.f5 0 [mapS w d h (.slice 0 1 0 len none) (.slice 1 3 0 ls none), .agg a.sv, .agg p.sv] [.vec true .bool xs, .vec true .vec sp] =
  bif
      (mapOk w d h len && (decide (0 + len ≤ xs.length) && (decide (0 + ls ≤ sp.length) && (decide (ls ≤ 9223372036854775807) && sp.all fitsB))) && true && true ||
            (bif (bif decide (w ≤ 10) == true then decide (d ≤ 10) else false) == true then decide (h ≤ 10) else false) != true) &&
          (true || (bif (bif decide (w ≤ 10) == true then decide (d ≤ 10) else false) == true then decide (h ≤ 10) else false) == true) &&
        true then
    bif
        !bif (bif (bif decide (w ≤ 10) == true then decide (d ≤ 10) else false) == true then decide (h ≤ 10) else false) == true then
            rightE ((mpOf w d h len fun j => xs.getD (0 + j) false).right (spAt sp 0) ls) == 0
          else false then
      some (SV.bool true, [])
    else
      bif bif false == false then !bif decide (max (max a.x a.y) a.z ≤ 6553600) == true then decide (min (min a.x a.y) a.z ≥ -6553600) else false else true then some (SV.bool true, [])
      else
        bif bif false == false then !bif decide (max (max p.pos.x p.pos.y) p.pos.z ≤ 6553600) == true then decide (min (min p.pos.x p.pos.y) p.pos.z ≥ -6553600) else false else true then
          some (SV.bool true, [])
        else
          bif mapOk w d h len && (fitsB a && (fitsB p.pos && decide (0 + len ≤ xs.length))) then
            bif mapOk w d h len && (fitsB a && (fitsB p.pos && decide (0 + len ≤ xs.length))) then
              bif
                  bif
                      (bif decide ((mpOf w d h len fun j => xs.getD (0 + j) false).hurt a p < 0) == false then decide ((mpOf w d h len fun j => xs.getD (0 + j) false).hurt a p > 100) else true) ==
                        false then
                    bif
                        (bif
                              (bif decide (p.dead > 0) == false then
                                  decide
                                    (max
                                        (max (max (max (max (IntKind.i64.wrap (p.pos.x - a.x)) (IntKind.i64.wrap (a.x - p.pos.x))) (IntKind.i64.wrap (p.pos.y - a.y))) (IntKind.i64.wrap (a.y - p.pos.y)))
                                          (IntKind.i64.wrap (p.pos.z - a.z)))
                                        (IntKind.i64.wrap (a.z - p.pos.z)) ≥
                                      196608)
                                else true) ==
                                false then
                            !(mpOf w d h len fun j => xs.getD (0 + j) false).sight a p.pos
                          else true) ==
                          true then
                      (mpOf w d h len fun j => xs.getD (0 + j) false).hurt a p != 0
                    else false
                  else true then
                some (SV.bool false, [])
              else
                bif mapOk w d h len && (fitsB a && (fitsB a && decide (0 + len ≤ xs.length))) then
                  bif mapOk w d h len && (fitsB a && (fitsB a && decide (0 + len ≤ xs.length))) then
                    some
                      (SV.bool
                          (bif true == true then
                            ((mpOf w d h len fun j => xs.getD (0 + j) false).hurt a (Pl.mk p.id a p.vel p.ground p.health p.armour p.score p.a0 p.a1 p.wait p.dead) == 100) ==
                              bif decide (p.dead ≤ 0) == true then (mpOf w d h len fun j => xs.getD (0 + j) false).sight a a else false
                          else false),
                        [])
                  else none
                else none
            else none
          else none
  else none := by kernel_rfl

set_option maxHeartbeats 0 in
theorem bounds_law {w d h : Int} {len ls : Nat} {xs : List Bool} {sp : List V3} {a : V3} {p : Pl} (hw : In64 w) (hd : In64 d) (hh : In64 h) (hl : len ≤ 9223372036854775807) (hx : xs.length = len) (hs : ls ≤ 9223372036854775807) (hy : sp.length = ls) (hf : ∀ p ∈ sp, p.fits) (ha : a.fits) (hp : p.pos.fits) :
    runK x13b (fun _ _ => none) 200 5 Try.f5 0 [mapS w d h (.slice 0 1 0 len none) (.slice 1 3 0 ls none), .agg a.sv, .agg p.sv] [.vec true .bool xs, .vec true .vec sp] = some (.bool true, []) := by
  rw [bounds_tree]
  obtain ⟨c1, c2, c3⟩ := right_facts hw hd hh hl hx hs hy hf
  rw [c1]
  generalize (mpOf w d h len fun j => xs.getD (0 + j) false).right (spAt sp 0) ls = R
  generalize (mpOf w d h len fun j => xs.getD (0 + j) false) = m
  simp only [c2, c3, fitsB_iff.2 ha, fitsB_iff.2 hp, Bool.and_true, Bool.true_or, Bool.true_and, Bool.false_or, cond_true, and_form, or_form]
  refine bif_law (fun _ => rfl) (fun _ => ?_)
  refine bif_law (fun _ => rfl) (fun h1 => ?_)
  refine bif_law (fun _ => rfl) (fun h2 => ?_)
  simp only [Bool.not_eq_false', Bool.and_eq_true, decide_eq_true_eq] at h1 h2
  have wa : a.within 6553600 := by unfold V3.within; omega
  have wp : p.pos.within 6553600 := by unfold V3.within; omega
  have hb := hurt_bounds (m := m) wa wp
  rw [IntWalk.i64_in (p.pos.x - a.x) (by omega), IntWalk.i64_in (a.x - p.pos.x) (by omega), IntWalk.i64_in (p.pos.y - a.y) (by omega), IntWalk.i64_in (a.y - p.pos.y) (by omega), IntWalk.i64_in (p.pos.z - a.z) (by omega), IntWalk.i64_in (a.z - p.pos.z) (by omega)]
  refine bif_false ?_ ?_
  · rw [decide_eq_false (show ¬ m.hurt a p < 0 by omega), decide_eq_false (show ¬ m.hurt a p > 100 by omega), Bool.false_or, Bool.false_or]
    cases hc : (decide (p.dead > 0) || decide (max (max (max (max (max (p.pos.x - a.x) (a.x - p.pos.x)) (p.pos.y - a.y)) (a.y - p.pos.y)) (p.pos.z - a.z)) (a.z - p.pos.z) ≥ 196608)) || !m.sight a p.pos with
    | false => rfl
    | true =>
      rw [Bool.true_and]
      simp only [Bool.or_eq_true, decide_eq_true_eq, Bool.not_eq_true'] at hc
      rw [hurt_none (m := m) wa wp hc]
      rfl
  · rw [hurt_there wa rfl, beq_self_eq_true]

end Go.Proofs.Ytboljdeeodeeeaa
