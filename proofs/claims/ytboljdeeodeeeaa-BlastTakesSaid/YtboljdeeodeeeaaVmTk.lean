/- BlastTakes: the law's call. -/
import Derived.Test.YtboljdeeodeeeaaVmG13
import Derived.Test.YtboljdeeodeeeaaVmTp
import Derived.Test.YtboljdeeodeeeaaVmRt
namespace Go.Proofs.Ytboljdeeodeeeaa
set_option linter.unusedSimpArgs false
set_option linter.unusedVariables false
set_option maxRecDepth 100000
open Go.RowKit

noncomputable def xTk : Ctx := ctxOf [] [orcShown13, orcTake]
theorem xTk_ok : COk Try.prog xTk := ctxOf_ok (by kernel_rfl)

set_option maxRecDepth 100000 in
set_option maxHeartbeats 0 in
theorem takes_tree (p : Pl) (n : Int) : runK xTk (fun _ _ => none) 200 3 Try.f3 0 [.agg p.sv, .int .i64 n] [] =
  bif decide (n.tmod 1000000 < 1) then
    some
      (SV.bool
          (bif true == true then
            (takeP
                    (Pl.mk p.id p.pos p.vel p.ground (IntKind.i64.wrap (1 + IntKind.i64.wrap (↑(BitVec.ofInt IntKind.i64.bits p.health &&& BitVec.ofInt IntKind.i64.bits 1048575).toNat : Int)))
                      (IntKind.i64.wrap (↑(BitVec.ofInt IntKind.i64.bits p.armour &&& BitVec.ofInt IntKind.i64.bits 1048575).toNat : Int)) p.score p.a0 p.a1 p.wait 0)
                    (n.tmod 1000000)).id ==
                p.id &&
              ((takeP
                        (Pl.mk p.id p.pos p.vel p.ground (IntKind.i64.wrap (1 + IntKind.i64.wrap (↑(BitVec.ofInt IntKind.i64.bits p.health &&& BitVec.ofInt IntKind.i64.bits 1048575).toNat : Int)))
                          (IntKind.i64.wrap (↑(BitVec.ofInt IntKind.i64.bits p.armour &&& BitVec.ofInt IntKind.i64.bits 1048575).toNat : Int)) p.score p.a0 p.a1 p.wait 0)
                        (n.tmod 1000000)).pos.x ==
                  p.pos.x &&
                ((takeP
                          (Pl.mk p.id p.pos p.vel p.ground (IntKind.i64.wrap (1 + IntKind.i64.wrap (↑(BitVec.ofInt IntKind.i64.bits p.health &&& BitVec.ofInt IntKind.i64.bits 1048575).toNat : Int)))
                            (IntKind.i64.wrap (↑(BitVec.ofInt IntKind.i64.bits p.armour &&& BitVec.ofInt IntKind.i64.bits 1048575).toNat : Int)) p.score p.a0 p.a1 p.wait 0)
                          (n.tmod 1000000)).pos.y ==
                    p.pos.y &&
                  ((takeP
                            (Pl.mk p.id p.pos p.vel p.ground (IntKind.i64.wrap (1 + IntKind.i64.wrap (↑(BitVec.ofInt IntKind.i64.bits p.health &&& BitVec.ofInt IntKind.i64.bits 1048575).toNat : Int)))
                              (IntKind.i64.wrap (↑(BitVec.ofInt IntKind.i64.bits p.armour &&& BitVec.ofInt IntKind.i64.bits 1048575).toNat : Int)) p.score p.a0 p.a1 p.wait 0)
                            (n.tmod 1000000)).pos.z ==
                      p.pos.z &&
                    ((takeP
                              (Pl.mk p.id p.pos p.vel p.ground (IntKind.i64.wrap (1 + IntKind.i64.wrap (↑(BitVec.ofInt IntKind.i64.bits p.health &&& BitVec.ofInt IntKind.i64.bits 1048575).toNat : Int)))
                                (IntKind.i64.wrap (↑(BitVec.ofInt IntKind.i64.bits p.armour &&& BitVec.ofInt IntKind.i64.bits 1048575).toNat : Int)) p.score p.a0 p.a1 p.wait 0)
                              (n.tmod 1000000)).vel.x ==
                        p.vel.x &&
                      ((takeP
                                (Pl.mk p.id p.pos p.vel p.ground
                                  (IntKind.i64.wrap (1 + IntKind.i64.wrap (↑(BitVec.ofInt IntKind.i64.bits p.health &&& BitVec.ofInt IntKind.i64.bits 1048575).toNat : Int)))
                                  (IntKind.i64.wrap (↑(BitVec.ofInt IntKind.i64.bits p.armour &&& BitVec.ofInt IntKind.i64.bits 1048575).toNat : Int)) p.score p.a0 p.a1 p.wait 0)
                                (n.tmod 1000000)).vel.y ==
                          p.vel.y &&
                        ((takeP
                                  (Pl.mk p.id p.pos p.vel p.ground
                                    (IntKind.i64.wrap (1 + IntKind.i64.wrap (↑(BitVec.ofInt IntKind.i64.bits p.health &&& BitVec.ofInt IntKind.i64.bits 1048575).toNat : Int)))
                                    (IntKind.i64.wrap (↑(BitVec.ofInt IntKind.i64.bits p.armour &&& BitVec.ofInt IntKind.i64.bits 1048575).toNat : Int)) p.score p.a0 p.a1 p.wait 0)
                                  (n.tmod 1000000)).vel.z ==
                            p.vel.z &&
                          ((takeP
                                  (Pl.mk p.id p.pos p.vel p.ground
                                    (IntKind.i64.wrap (1 + IntKind.i64.wrap (↑(BitVec.ofInt IntKind.i64.bits p.health &&& BitVec.ofInt IntKind.i64.bits 1048575).toNat : Int)))
                                    (IntKind.i64.wrap (↑(BitVec.ofInt IntKind.i64.bits p.armour &&& BitVec.ofInt IntKind.i64.bits 1048575).toNat : Int)) p.score p.a0 p.a1 p.wait 0)
                                  (n.tmod 1000000)).ground ==
                              p.ground &&
                            ((takeP
                                    (Pl.mk p.id p.pos p.vel p.ground
                                      (IntKind.i64.wrap (1 + IntKind.i64.wrap (↑(BitVec.ofInt IntKind.i64.bits p.health &&& BitVec.ofInt IntKind.i64.bits 1048575).toNat : Int)))
                                      (IntKind.i64.wrap (↑(BitVec.ofInt IntKind.i64.bits p.armour &&& BitVec.ofInt IntKind.i64.bits 1048575).toNat : Int)) p.score p.a0 p.a1 p.wait 0)
                                    (n.tmod 1000000)).health ==
                                IntKind.i64.wrap (1 + IntKind.i64.wrap (↑(BitVec.ofInt IntKind.i64.bits p.health &&& BitVec.ofInt IntKind.i64.bits 1048575).toNat : Int)) &&
                              ((takeP
                                      (Pl.mk p.id p.pos p.vel p.ground
                                        (IntKind.i64.wrap (1 + IntKind.i64.wrap (↑(BitVec.ofInt IntKind.i64.bits p.health &&& BitVec.ofInt IntKind.i64.bits 1048575).toNat : Int)))
                                        (IntKind.i64.wrap (↑(BitVec.ofInt IntKind.i64.bits p.armour &&& BitVec.ofInt IntKind.i64.bits 1048575).toNat : Int)) p.score p.a0 p.a1 p.wait 0)
                                      (n.tmod 1000000)).armour ==
                                  IntKind.i64.wrap (↑(BitVec.ofInt IntKind.i64.bits p.armour &&& BitVec.ofInt IntKind.i64.bits 1048575).toNat : Int) &&
                                ((takeP
                                        (Pl.mk p.id p.pos p.vel p.ground
                                          (IntKind.i64.wrap (1 + IntKind.i64.wrap (↑(BitVec.ofInt IntKind.i64.bits p.health &&& BitVec.ofInt IntKind.i64.bits 1048575).toNat : Int)))
                                          (IntKind.i64.wrap (↑(BitVec.ofInt IntKind.i64.bits p.armour &&& BitVec.ofInt IntKind.i64.bits 1048575).toNat : Int)) p.score p.a0 p.a1 p.wait 0)
                                        (n.tmod 1000000)).score ==
                                    p.score &&
                                  ((takeP
                                          (Pl.mk p.id p.pos p.vel p.ground
                                            (IntKind.i64.wrap (1 + IntKind.i64.wrap (↑(BitVec.ofInt IntKind.i64.bits p.health &&& BitVec.ofInt IntKind.i64.bits 1048575).toNat : Int)))
                                            (IntKind.i64.wrap (↑(BitVec.ofInt IntKind.i64.bits p.armour &&& BitVec.ofInt IntKind.i64.bits 1048575).toNat : Int)) p.score p.a0 p.a1 p.wait 0)
                                          (n.tmod 1000000)).a0 ==
                                      p.a0 &&
                                    ((takeP
                                            (Pl.mk p.id p.pos p.vel p.ground
                                              (IntKind.i64.wrap (1 + IntKind.i64.wrap (↑(BitVec.ofInt IntKind.i64.bits p.health &&& BitVec.ofInt IntKind.i64.bits 1048575).toNat : Int)))
                                              (IntKind.i64.wrap (↑(BitVec.ofInt IntKind.i64.bits p.armour &&& BitVec.ofInt IntKind.i64.bits 1048575).toNat : Int)) p.score p.a0 p.a1 p.wait 0)
                                            (n.tmod 1000000)).a1 ==
                                        p.a1 &&
                                      ((takeP
                                              (Pl.mk p.id p.pos p.vel p.ground
                                                (IntKind.i64.wrap (1 + IntKind.i64.wrap (↑(BitVec.ofInt IntKind.i64.bits p.health &&& BitVec.ofInt IntKind.i64.bits 1048575).toNat : Int)))
                                                (IntKind.i64.wrap (↑(BitVec.ofInt IntKind.i64.bits p.armour &&& BitVec.ofInt IntKind.i64.bits 1048575).toNat : Int)) p.score p.a0 p.a1 p.wait 0)
                                              (n.tmod 1000000)).wait ==
                                          p.wait &&
                                        ((takeP
                                                (Pl.mk p.id p.pos p.vel p.ground
                                                  (IntKind.i64.wrap (1 + IntKind.i64.wrap (↑(BitVec.ofInt IntKind.i64.bits p.health &&& BitVec.ofInt IntKind.i64.bits 1048575).toNat : Int)))
                                                  (IntKind.i64.wrap (↑(BitVec.ofInt IntKind.i64.bits p.armour &&& BitVec.ofInt IntKind.i64.bits 1048575).toNat : Int)) p.score p.a0 p.a1 p.wait 0)
                                                (n.tmod 1000000)).dead ==
                                            0 &&
                                          true))))))))))))))
          else false),
        [])
  else
    bif
        bif
            (bif
                  decide
                      (IntKind.i64.wrap
                          (IntKind.i64.wrap (↑(BitVec.ofInt IntKind.i64.bits p.armour &&& BitVec.ofInt IntKind.i64.bits 1048575).toNat : Int) -
                            (takeP
                                (Pl.mk p.id p.pos p.vel p.ground
                                  (IntKind.i64.wrap (1 + IntKind.i64.wrap (↑(BitVec.ofInt IntKind.i64.bits p.health &&& BitVec.ofInt IntKind.i64.bits 1048575).toNat : Int)))
                                  (IntKind.i64.wrap (↑(BitVec.ofInt IntKind.i64.bits p.armour &&& BitVec.ofInt IntKind.i64.bits 1048575).toNat : Int)) p.score p.a0 p.a1 p.wait 0)
                                (n.tmod 1000000)).armour) <
                        0) ==
                    false then
                decide
                  (IntKind.i64.wrap
                      (IntKind.i64.wrap (↑(BitVec.ofInt IntKind.i64.bits p.armour &&& BitVec.ofInt IntKind.i64.bits 1048575).toNat : Int) -
                        (takeP
                            (Pl.mk p.id p.pos p.vel p.ground (IntKind.i64.wrap (1 + IntKind.i64.wrap (↑(BitVec.ofInt IntKind.i64.bits p.health &&& BitVec.ofInt IntKind.i64.bits 1048575).toNat : Int)))
                              (IntKind.i64.wrap (↑(BitVec.ofInt IntKind.i64.bits p.armour &&& BitVec.ofInt IntKind.i64.bits 1048575).toNat : Int)) p.score p.a0 p.a1 p.wait 0)
                            (n.tmod 1000000)).armour) >
                    IntKind.i64.wrap ((n.tmod 1000000).tdiv 2))
              else true) ==
              false then
          bif
              decide
                  (IntKind.i64.wrap
                      (IntKind.i64.wrap (↑(BitVec.ofInt IntKind.i64.bits p.armour &&& BitVec.ofInt IntKind.i64.bits 1048575).toNat : Int) -
                        (takeP
                            (Pl.mk p.id p.pos p.vel p.ground (IntKind.i64.wrap (1 + IntKind.i64.wrap (↑(BitVec.ofInt IntKind.i64.bits p.health &&& BitVec.ofInt IntKind.i64.bits 1048575).toNat : Int)))
                              (IntKind.i64.wrap (↑(BitVec.ofInt IntKind.i64.bits p.armour &&& BitVec.ofInt IntKind.i64.bits 1048575).toNat : Int)) p.score p.a0 p.a1 p.wait 0)
                            (n.tmod 1000000)).armour) <
                    IntKind.i64.wrap ((n.tmod 1000000).tdiv 2)) ==
                true then
            (takeP
                  (Pl.mk p.id p.pos p.vel p.ground (IntKind.i64.wrap (1 + IntKind.i64.wrap (↑(BitVec.ofInt IntKind.i64.bits p.health &&& BitVec.ofInt IntKind.i64.bits 1048575).toNat : Int)))
                    (IntKind.i64.wrap (↑(BitVec.ofInt IntKind.i64.bits p.armour &&& BitVec.ofInt IntKind.i64.bits 1048575).toNat : Int)) p.score p.a0 p.a1 p.wait 0)
                  (n.tmod 1000000)).armour !=
              0
          else false
        else true then
      some (SV.bool false, [])
    else
      bif
          decide
            (IntKind.i64.wrap
                (IntKind.i64.wrap (1 + IntKind.i64.wrap (↑(BitVec.ofInt IntKind.i64.bits p.health &&& BitVec.ofInt IntKind.i64.bits 1048575).toNat : Int)) -
                  IntKind.i64.wrap
                    (n.tmod 1000000 -
                      IntKind.i64.wrap
                        (IntKind.i64.wrap (↑(BitVec.ofInt IntKind.i64.bits p.armour &&& BitVec.ofInt IntKind.i64.bits 1048575).toNat : Int) -
                          (takeP
                              (Pl.mk p.id p.pos p.vel p.ground (IntKind.i64.wrap (1 + IntKind.i64.wrap (↑(BitVec.ofInt IntKind.i64.bits p.health &&& BitVec.ofInt IntKind.i64.bits 1048575).toNat : Int)))
                                (IntKind.i64.wrap (↑(BitVec.ofInt IntKind.i64.bits p.armour &&& BitVec.ofInt IntKind.i64.bits 1048575).toNat : Int)) p.score p.a0 p.a1 p.wait 0)
                              (n.tmod 1000000)).armour))) ≤
              0) then
        some
          (SV.bool
              (bif
                  (bif
                        (bif true == true then
                            (takeP
                                  (Pl.mk p.id p.pos p.vel p.ground
                                    (IntKind.i64.wrap (1 + IntKind.i64.wrap (↑(BitVec.ofInt IntKind.i64.bits p.health &&& BitVec.ofInt IntKind.i64.bits 1048575).toNat : Int)))
                                    (IntKind.i64.wrap (↑(BitVec.ofInt IntKind.i64.bits p.armour &&& BitVec.ofInt IntKind.i64.bits 1048575).toNat : Int)) p.score p.a0 p.a1 p.wait 0)
                                  (n.tmod 1000000)).health ==
                              0
                          else false) ==
                          true then
                      (takeP
                            (Pl.mk p.id p.pos p.vel p.ground (IntKind.i64.wrap (1 + IntKind.i64.wrap (↑(BitVec.ofInt IntKind.i64.bits p.health &&& BitVec.ofInt IntKind.i64.bits 1048575).toNat : Int)))
                              (IntKind.i64.wrap (↑(BitVec.ofInt IntKind.i64.bits p.armour &&& BitVec.ofInt IntKind.i64.bits 1048575).toNat : Int)) p.score p.a0 p.a1 p.wait 0)
                            (n.tmod 1000000)).dead ==
                        30
                    else false) ==
                    true then
                (takeP
                      (Pl.mk p.id p.pos p.vel p.ground (IntKind.i64.wrap (1 + IntKind.i64.wrap (↑(BitVec.ofInt IntKind.i64.bits p.health &&& BitVec.ofInt IntKind.i64.bits 1048575).toNat : Int)))
                        (IntKind.i64.wrap (↑(BitVec.ofInt IntKind.i64.bits p.armour &&& BitVec.ofInt IntKind.i64.bits 1048575).toNat : Int)) p.score p.a0 p.a1 p.wait 0)
                      (n.tmod 1000000)).score ==
                  p.score
              else false),
            [])
      else
        some
          (SV.bool
              (bif
                  (bif true == true then
                      (takeP
                            (Pl.mk p.id p.pos p.vel p.ground (IntKind.i64.wrap (1 + IntKind.i64.wrap (↑(BitVec.ofInt IntKind.i64.bits p.health &&& BitVec.ofInt IntKind.i64.bits 1048575).toNat : Int)))
                              (IntKind.i64.wrap (↑(BitVec.ofInt IntKind.i64.bits p.armour &&& BitVec.ofInt IntKind.i64.bits 1048575).toNat : Int)) p.score p.a0 p.a1 p.wait 0)
                            (n.tmod 1000000)).health ==
                        IntKind.i64.wrap
                          (IntKind.i64.wrap (1 + IntKind.i64.wrap (↑(BitVec.ofInt IntKind.i64.bits p.health &&& BitVec.ofInt IntKind.i64.bits 1048575).toNat : Int)) -
                            IntKind.i64.wrap
                              (n.tmod 1000000 -
                                IntKind.i64.wrap
                                  (IntKind.i64.wrap (↑(BitVec.ofInt IntKind.i64.bits p.armour &&& BitVec.ofInt IntKind.i64.bits 1048575).toNat : Int) -
                                    (takeP
                                        (Pl.mk p.id p.pos p.vel p.ground
                                          (IntKind.i64.wrap (1 + IntKind.i64.wrap (↑(BitVec.ofInt IntKind.i64.bits p.health &&& BitVec.ofInt IntKind.i64.bits 1048575).toNat : Int)))
                                          (IntKind.i64.wrap (↑(BitVec.ofInt IntKind.i64.bits p.armour &&& BitVec.ofInt IntKind.i64.bits 1048575).toNat : Int)) p.score p.a0 p.a1 p.wait 0)
                                        (n.tmod 1000000)).armour)))
                    else false) ==
                    true then
                (takeP
                      (Pl.mk p.id p.pos p.vel p.ground (IntKind.i64.wrap (1 + IntKind.i64.wrap (↑(BitVec.ofInt IntKind.i64.bits p.health &&& BitVec.ofInt IntKind.i64.bits 1048575).toNat : Int)))
                        (IntKind.i64.wrap (↑(BitVec.ofInt IntKind.i64.bits p.armour &&& BitVec.ofInt IntKind.i64.bits 1048575).toNat : Int)) p.score p.a0 p.a1 p.wait 0)
                      (n.tmod 1000000)).dead ==
                  0
              else false),
            []) := by kernel_rfl

set_option maxHeartbeats 0 in
theorem takes_law (p : Pl) (n : Int) : runK xTk (fun _ _ => none) 200 3 Try.f3 0 [.agg p.sv, .int .i64 n] [] = some (.bool true, []) := by
  rw [takes_tree]
  have hH := mask_in (a := p.health) (c := 1048575) 1048575 rfl (by omega)
  have hA := mask_in (a := p.armour) (c := 1048575) 1048575 rfl (by omega)
  generalize IntKind.i64.wrap ((BitVec.ofInt IntKind.i64.bits p.health &&& BitVec.ofInt IntKind.i64.bits 1048575).toNat : Int) = H0 at hH ⊢
  generalize IntKind.i64.wrap ((BitVec.ofInt IntKind.i64.bits p.armour &&& BitVec.ofInt IntKind.i64.bits 1048575).toNat : Int) = A at hA ⊢
  rw [IntWalk.i64_in (1 + H0) (by omega)]
  have t1 := Int.lt_tmod_of_pos n (show (0 : Int) < 1000000 by omega)
  have t2 := Int.tmod_lt_of_pos n (show (0 : Int) < 1000000 by omega)
  generalize n.tmod 1000000 = N at t1 t2 ⊢
  refine bif_law (fun hn => ?_) (fun hn => ?_)
  · have e : takeP (Pl.mk p.id p.pos p.vel p.ground (1 + H0) A p.score p.a0 p.a1 p.wait 0) N = Pl.mk p.id p.pos p.vel p.ground (1 + H0) A p.score p.a0 p.a1 p.wait 0 := by
      unfold takeP
      rw [hn, Bool.or_true]
      rfl
    rw [e]
    simp only [beq_self_eq_true, Bool.and_true, cond_true]
  · rw [decide_eq_false_iff_not] at hn
    have ho : takeOff (Pl.mk p.id p.pos p.vel p.ground (1 + H0) A p.score p.a0 p.a1 p.wait 0) N = min (N / 2) A := by
      unfold takeOff
      rw [Int.tdiv_eq_ediv_of_nonneg (by omega), IntWalk.i64_in (N / 2) (by omega)]
    have hh : takeH (Pl.mk p.id p.pos p.vel p.ground (1 + H0) A p.score p.a0 p.a1 p.wait 0) N = 1 + H0 - (N - min (N / 2) A) := by
      unfold takeH
      rw [ho, IntWalk.i64_in (N - min (N / 2) A) (by omega)]
      exact IntWalk.i64_in _ (by simp only; omega)
    have e : takeP (Pl.mk p.id p.pos p.vel p.ground (1 + H0) A p.score p.a0 p.a1 p.wait 0) N = bif decide (1 + H0 - (N - min (N / 2) A) ≤ 0) then Pl.mk p.id p.pos p.vel p.ground 0 (A - min (N / 2) A) p.score p.a0 p.a1 p.wait 30 else Pl.mk p.id p.pos p.vel p.ground (1 + H0 - (N - min (N / 2) A)) (A - min (N / 2) A) p.score p.a0 p.a1 p.wait 0 := by
      unfold takeP
      rw [ho, hh, decide_eq_false hn]
      simp only
      rw [IntWalk.i64_in (A - min (N / 2) A) (by omega)]
      rfl
    have ea : (takeP (Pl.mk p.id p.pos p.vel p.ground (1 + H0) A p.score p.a0 p.a1 p.wait 0) N).armour = A - min (N / 2) A := by
      rw [e]
      cases decide (1 + H0 - (N - min (N / 2) A) ≤ 0) <;> rfl
    rw [ea, Int.tdiv_eq_ediv_of_nonneg (by omega), IntWalk.i64_in (N / 2) (by omega), IntWalk.i64_in (A - (A - min (N / 2) A)) (by omega), show A - (A - min (N / 2) A) = min (N / 2) A by omega, IntWalk.i64_in (N - min (N / 2) A) (by omega), IntWalk.i64_in (1 + H0 - (N - min (N / 2) A)) (by omega)]
    simp only [or_form, and_form]
    refine bif_false ?_ ?_
    · simp only [Bool.or_eq_false_iff, Bool.and_eq_false_iff, decide_eq_false_iff_not, bne_eq_false_iff_eq]
      omega
    · rw [e]
      cases hc : decide (1 + H0 - (N - min (N / 2) A) ≤ 0) <;> simp

end Go.Proofs.Ytboljdeeodeeeaa
