/- ShotRests: the law's call. -/
import Derived.Test.YthgafhegdngomaaVmAd
import Derived.Test.YthgafhegdngomaaVmRt
import Derived.Test.YthgafhegdngomaaVmG12
import Derived.Test.YthgafhegdngomaaOpen3
namespace Go.Proofs.Ythgafhegdngomaa
set_option linter.unusedSimpArgs false
set_option linter.unusedVariables false
open Go.RowKit

noncomputable def x12c : Ctx := ctxOf [11, 15, 12] [orcShown12, orcRight, orcAdv, orcStep]
theorem x12c_ok : COk Try.prog x12c := ctxOf_ok (by kernel_rfl)

set_option maxRecDepth 100000 in
set_option maxHeartbeats 0 in
theorem rests_tree (w d h : Int) (len ls : Nat) (xs : List Bool) (sp : List V3) (s : Sh) : runK x12c (fun _ _ => none) 200 7 Try.f7 0 [mapS w d h (.slice 0 1 0 len none) (.slice 1 3 0 ls none), .agg s.sv] [.vec true .bool xs, .vec true .vec sp] =
  bif
      (mapOk w d h len && (decide (0 + len ≤ xs.length) && (decide (0 + ls ≤ sp.length) && (decide (ls ≤ 9223372036854775807) && sp.all fitsB))) && true && true ||
            (bif (bif decide (w ≤ 10) == true then decide (d ≤ 10) else false) == true then decide (h ≤ 10) else false) != true) &&
          (true || (bif (bif decide (w ≤ 10) == true then decide (d ≤ 10) else false) == true then decide (h ≤ 10) else false) == true) &&
        true then
    bif
        !bif (bif (bif decide (w ≤ 10) == true then decide (d ≤ 10) else false) == true then decide (h ≤ 10) else false) == true then
            rightE ((mpOf w d h len fun j => xs.getD (0 + j) false).right (spAt sp 0) ls) == 0
          else false then
      some (SV.bool true, [])
    else
      bif bif decide (s.pos.x ≤ 65536000) == true then decide (s.pos.x ≥ IntKind.i64.wrap (0 - 65536000)) else false then
        bif bif decide (s.pos.y ≤ 65536000) == true then decide (s.pos.y ≥ IntKind.i64.wrap (0 - 65536000)) else false then
          bif bif decide (s.pos.z ≤ 65536000) == true then decide (s.pos.z ≥ IntKind.i64.wrap (0 - 65536000)) else false then
            bif bif decide (s.vel.x ≤ 262144) == true then decide (s.vel.x ≥ IntKind.i64.wrap (0 - 262144)) else false then
              bif bif decide (s.vel.y ≤ 262144) == true then decide (s.vel.y ≥ IntKind.i64.wrap (0 - 262144)) else false then
                bif
                    bif false == false then
                      !bif
                            (bif (bif decide (s.vel.z ≤ 262144) == true then decide (s.vel.z ≥ IntKind.i64.wrap (0 - 262144)) else false) == true then
                                decide (IntKind.i64.wrap (2 + IntKind.i64.wrap (↑(BitVec.ofInt IntKind.i64.bits s.fuse &&& BitVec.ofInt IntKind.i64.bits 63).toNat : Int)) ≤ 1000000)
                              else false) ==
                              true then
                          decide (IntKind.i64.wrap (2 + IntKind.i64.wrap (↑(BitVec.ofInt IntKind.i64.bits s.fuse &&& BitVec.ofInt IntKind.i64.bits 63).toNat : Int)) ≥ -1000000)
                        else false
                    else true then
                  some (SV.bool true, [])
                else
                  bif
                      mapOk w d h len &&
                          in64B (IntKind.i64.wrap (IntKind.i64.wrap (2 + IntKind.i64.wrap (↑(BitVec.ofInt IntKind.i64.bits s.fuse &&& BitVec.ofInt IntKind.i64.bits 63).toNat : Int)) - 1)) &&
                        (fitsB s.pos && decide (0 + len ≤ xs.length)) then
                    bif
                        mapOk w d h len &&
                          (fitsB
                              (advR (mpOf w d h len fun j => xs.getD (0 + j) false).at
                                    (Sh.mk s.id s.owner s.kind s.pos s.vel
                                      (IntKind.i64.wrap (2 + IntKind.i64.wrap (↑(BitVec.ofInt IntKind.i64.bits s.fuse &&& BitVec.ofInt IntKind.i64.bits 63).toNat : Int))) true)
                                    (IntKind.i64.wrap
                                      (IntKind.i64.wrap (2 + IntKind.i64.wrap (↑(BitVec.ofInt IntKind.i64.bits s.fuse &&& BitVec.ofInt IntKind.i64.bits 63).toNat : Int)) - 1))).fst.pos &&
                            decide (0 + len ≤ xs.length)) then
                      bif
                          bif
                              (bif
                                    (!((advR (mpOf w d h len fun j => xs.getD (0 + j) false).at
                                                  (Sh.mk s.id s.owner s.kind s.pos s.vel
                                                    (IntKind.i64.wrap (2 + IntKind.i64.wrap (↑(BitVec.ofInt IntKind.i64.bits s.fuse &&& BitVec.ofInt IntKind.i64.bits 63).toNat : Int))) true)
                                                  (IntKind.i64.wrap
                                                    (IntKind.i64.wrap (2 + IntKind.i64.wrap (↑(BitVec.ofInt IntKind.i64.bits s.fuse &&& BitVec.ofInt IntKind.i64.bits 63).toNat : Int)) - 1))).fst.id ==
                                            s.id &&
                                          ((advR (mpOf w d h len fun j => xs.getD (0 + j) false).at
                                                    (Sh.mk s.id s.owner s.kind s.pos s.vel
                                                      (IntKind.i64.wrap (2 + IntKind.i64.wrap (↑(BitVec.ofInt IntKind.i64.bits s.fuse &&& BitVec.ofInt IntKind.i64.bits 63).toNat : Int))) true)
                                                    (IntKind.i64.wrap
                                                      (IntKind.i64.wrap (2 + IntKind.i64.wrap (↑(BitVec.ofInt IntKind.i64.bits s.fuse &&& BitVec.ofInt IntKind.i64.bits 63).toNat : Int)) -
                                                        1))).fst.owner ==
                                              s.owner &&
                                            ((advR (mpOf w d h len fun j => xs.getD (0 + j) false).at
                                                      (Sh.mk s.id s.owner s.kind s.pos s.vel
                                                        (IntKind.i64.wrap (2 + IntKind.i64.wrap (↑(BitVec.ofInt IntKind.i64.bits s.fuse &&& BitVec.ofInt IntKind.i64.bits 63).toNat : Int))) true)
                                                      (IntKind.i64.wrap
                                                        (IntKind.i64.wrap (2 + IntKind.i64.wrap (↑(BitVec.ofInt IntKind.i64.bits s.fuse &&& BitVec.ofInt IntKind.i64.bits 63).toNat : Int)) -
                                                          1))).fst.kind ==
                                                s.kind &&
                                              ((advR (mpOf w d h len fun j => xs.getD (0 + j) false).at
                                                          (Sh.mk s.id s.owner s.kind s.pos s.vel
                                                            (IntKind.i64.wrap (2 + IntKind.i64.wrap (↑(BitVec.ofInt IntKind.i64.bits s.fuse &&& BitVec.ofInt IntKind.i64.bits 63).toNat : Int))) true)
                                                          (IntKind.i64.wrap
                                                            (IntKind.i64.wrap (2 + IntKind.i64.wrap (↑(BitVec.ofInt IntKind.i64.bits s.fuse &&& BitVec.ofInt IntKind.i64.bits 63).toNat : Int)) -
                                                              1))).fst.pos.x ==
                                                  s.pos.x &&
                                                ((advR (mpOf w d h len fun j => xs.getD (0 + j) false).at
                                                            (Sh.mk s.id s.owner s.kind s.pos s.vel
                                                              (IntKind.i64.wrap (2 + IntKind.i64.wrap (↑(BitVec.ofInt IntKind.i64.bits s.fuse &&& BitVec.ofInt IntKind.i64.bits 63).toNat : Int))) true)
                                                            (IntKind.i64.wrap
                                                              (IntKind.i64.wrap (2 + IntKind.i64.wrap (↑(BitVec.ofInt IntKind.i64.bits s.fuse &&& BitVec.ofInt IntKind.i64.bits 63).toNat : Int)) -
                                                                1))).fst.pos.y ==
                                                    s.pos.y &&
                                                  ((advR (mpOf w d h len fun j => xs.getD (0 + j) false).at
                                                              (Sh.mk s.id s.owner s.kind s.pos s.vel
                                                                (IntKind.i64.wrap (2 + IntKind.i64.wrap (↑(BitVec.ofInt IntKind.i64.bits s.fuse &&& BitVec.ofInt IntKind.i64.bits 63).toNat : Int))) true)
                                                              (IntKind.i64.wrap
                                                                (IntKind.i64.wrap (2 + IntKind.i64.wrap (↑(BitVec.ofInt IntKind.i64.bits s.fuse &&& BitVec.ofInt IntKind.i64.bits 63).toNat : Int)) -
                                                                  1))).fst.pos.z ==
                                                      s.pos.z &&
                                                    ((advR (mpOf w d h len fun j => xs.getD (0 + j) false).at
                                                                (Sh.mk s.id s.owner s.kind s.pos s.vel
                                                                  (IntKind.i64.wrap (2 + IntKind.i64.wrap (↑(BitVec.ofInt IntKind.i64.bits s.fuse &&& BitVec.ofInt IntKind.i64.bits 63).toNat : Int)))
                                                                  true)
                                                                (IntKind.i64.wrap
                                                                  (IntKind.i64.wrap (2 + IntKind.i64.wrap (↑(BitVec.ofInt IntKind.i64.bits s.fuse &&& BitVec.ofInt IntKind.i64.bits 63).toNat : Int)) -
                                                                    1))).fst.vel.x ==
                                                        s.vel.x &&
                                                      ((advR (mpOf w d h len fun j => xs.getD (0 + j) false).at
                                                                  (Sh.mk s.id s.owner s.kind s.pos s.vel
                                                                    (IntKind.i64.wrap (2 + IntKind.i64.wrap (↑(BitVec.ofInt IntKind.i64.bits s.fuse &&& BitVec.ofInt IntKind.i64.bits 63).toNat : Int)))
                                                                    true)
                                                                  (IntKind.i64.wrap
                                                                    (IntKind.i64.wrap (2 + IntKind.i64.wrap (↑(BitVec.ofInt IntKind.i64.bits s.fuse &&& BitVec.ofInt IntKind.i64.bits 63).toNat : Int)) -
                                                                      1))).fst.vel.y ==
                                                          s.vel.y &&
                                                        ((advR (mpOf w d h len fun j => xs.getD (0 + j) false).at
                                                                    (Sh.mk s.id s.owner s.kind s.pos s.vel
                                                                      (IntKind.i64.wrap (2 + IntKind.i64.wrap (↑(BitVec.ofInt IntKind.i64.bits s.fuse &&& BitVec.ofInt IntKind.i64.bits 63).toNat : Int)))
                                                                      true)
                                                                    (IntKind.i64.wrap
                                                                      (IntKind.i64.wrap
                                                                          (2 + IntKind.i64.wrap (↑(BitVec.ofInt IntKind.i64.bits s.fuse &&& BitVec.ofInt IntKind.i64.bits 63).toNat : Int)) -
                                                                        1))).fst.vel.z ==
                                                            s.vel.z &&
                                                          ((advR (mpOf w d h len fun j => xs.getD (0 + j) false).at
                                                                    (Sh.mk s.id s.owner s.kind s.pos s.vel
                                                                      (IntKind.i64.wrap (2 + IntKind.i64.wrap (↑(BitVec.ofInt IntKind.i64.bits s.fuse &&& BitVec.ofInt IntKind.i64.bits 63).toNat : Int)))
                                                                      true)
                                                                    (IntKind.i64.wrap
                                                                      (IntKind.i64.wrap
                                                                          (2 + IntKind.i64.wrap (↑(BitVec.ofInt IntKind.i64.bits s.fuse &&& BitVec.ofInt IntKind.i64.bits 63).toNat : Int)) -
                                                                        1))).fst.fuse ==
                                                              1 &&
                                                            ((advR (mpOf w d h len fun j => xs.getD (0 + j) false).at
                                                                      (Sh.mk s.id s.owner s.kind s.pos s.vel
                                                                        (IntKind.i64.wrap
                                                                          (2 + IntKind.i64.wrap (↑(BitVec.ofInt IntKind.i64.bits s.fuse &&& BitVec.ofInt IntKind.i64.bits 63).toNat : Int)))
                                                                        true)
                                                                      (IntKind.i64.wrap
                                                                        (IntKind.i64.wrap
                                                                            (2 + IntKind.i64.wrap (↑(BitVec.ofInt IntKind.i64.bits s.fuse &&& BitVec.ofInt IntKind.i64.bits 63).toNat : Int)) -
                                                                          1))).fst.rest ==
                                                                true &&
                                                              true)))))))))))) ==
                                      false then
                                  (advR (mpOf w d h len fun j => xs.getD (0 + j) false).at
                                          (Sh.mk s.id s.owner s.kind s.pos s.vel
                                            (IntKind.i64.wrap (2 + IntKind.i64.wrap (↑(BitVec.ofInt IntKind.i64.bits s.fuse &&& BitVec.ofInt IntKind.i64.bits 63).toNat : Int))) true)
                                          (IntKind.i64.wrap
                                            (IntKind.i64.wrap (2 + IntKind.i64.wrap (↑(BitVec.ofInt IntKind.i64.bits s.fuse &&& BitVec.ofInt IntKind.i64.bits 63).toNat : Int)) - 1))).snd.fst !=
                                    IntKind.i64.wrap (IntKind.i64.wrap (2 + IntKind.i64.wrap (↑(BitVec.ofInt IntKind.i64.bits s.fuse &&& BitVec.ofInt IntKind.i64.bits 63).toNat : Int)) - 1)
                                else true) ==
                                false then
                            (advR (mpOf w d h len fun j => xs.getD (0 + j) false).at
                                  (Sh.mk s.id s.owner s.kind s.pos s.vel
                                    (IntKind.i64.wrap (2 + IntKind.i64.wrap (↑(BitVec.ofInt IntKind.i64.bits s.fuse &&& BitVec.ofInt IntKind.i64.bits 63).toNat : Int))) true)
                                  (IntKind.i64.wrap (IntKind.i64.wrap (2 + IntKind.i64.wrap (↑(BitVec.ofInt IntKind.i64.bits s.fuse &&& BitVec.ofInt IntKind.i64.bits 63).toNat : Int)) - 1))).snd.snd
                          else true then
                        some (SV.bool false, [])
                      else
                        some
                          (SV.bool
                              (bif
                                  (bif true == true then
                                      (stepS (mpOf w d h len fun j => xs.getD (0 + j) false).at
                                                (advR (mpOf w d h len fun j => xs.getD (0 + j) false).at
                                                    (Sh.mk s.id s.owner s.kind s.pos s.vel
                                                      (IntKind.i64.wrap (2 + IntKind.i64.wrap (↑(BitVec.ofInt IntKind.i64.bits s.fuse &&& BitVec.ofInt IntKind.i64.bits 63).toNat : Int))) true)
                                                    (IntKind.i64.wrap
                                                      (IntKind.i64.wrap (2 + IntKind.i64.wrap (↑(BitVec.ofInt IntKind.i64.bits s.fuse &&& BitVec.ofInt IntKind.i64.bits 63).toNat : Int)) -
                                                        1))).fst).fst.id ==
                                          s.id &&
                                        ((stepS (mpOf w d h len fun j => xs.getD (0 + j) false).at
                                                  (advR (mpOf w d h len fun j => xs.getD (0 + j) false).at
                                                      (Sh.mk s.id s.owner s.kind s.pos s.vel
                                                        (IntKind.i64.wrap (2 + IntKind.i64.wrap (↑(BitVec.ofInt IntKind.i64.bits s.fuse &&& BitVec.ofInt IntKind.i64.bits 63).toNat : Int))) true)
                                                      (IntKind.i64.wrap
                                                        (IntKind.i64.wrap (2 + IntKind.i64.wrap (↑(BitVec.ofInt IntKind.i64.bits s.fuse &&& BitVec.ofInt IntKind.i64.bits 63).toNat : Int)) -
                                                          1))).fst).fst.owner ==
                                            s.owner &&
                                          ((stepS (mpOf w d h len fun j => xs.getD (0 + j) false).at
                                                    (advR (mpOf w d h len fun j => xs.getD (0 + j) false).at
                                                        (Sh.mk s.id s.owner s.kind s.pos s.vel
                                                          (IntKind.i64.wrap (2 + IntKind.i64.wrap (↑(BitVec.ofInt IntKind.i64.bits s.fuse &&& BitVec.ofInt IntKind.i64.bits 63).toNat : Int))) true)
                                                        (IntKind.i64.wrap
                                                          (IntKind.i64.wrap (2 + IntKind.i64.wrap (↑(BitVec.ofInt IntKind.i64.bits s.fuse &&& BitVec.ofInt IntKind.i64.bits 63).toNat : Int)) -
                                                            1))).fst).fst.kind ==
                                              s.kind &&
                                            ((stepS (mpOf w d h len fun j => xs.getD (0 + j) false).at
                                                        (advR (mpOf w d h len fun j => xs.getD (0 + j) false).at
                                                            (Sh.mk s.id s.owner s.kind s.pos s.vel
                                                              (IntKind.i64.wrap (2 + IntKind.i64.wrap (↑(BitVec.ofInt IntKind.i64.bits s.fuse &&& BitVec.ofInt IntKind.i64.bits 63).toNat : Int))) true)
                                                            (IntKind.i64.wrap
                                                              (IntKind.i64.wrap (2 + IntKind.i64.wrap (↑(BitVec.ofInt IntKind.i64.bits s.fuse &&& BitVec.ofInt IntKind.i64.bits 63).toNat : Int)) -
                                                                1))).fst).fst.pos.x ==
                                                s.pos.x &&
                                              ((stepS (mpOf w d h len fun j => xs.getD (0 + j) false).at
                                                          (advR (mpOf w d h len fun j => xs.getD (0 + j) false).at
                                                              (Sh.mk s.id s.owner s.kind s.pos s.vel
                                                                (IntKind.i64.wrap (2 + IntKind.i64.wrap (↑(BitVec.ofInt IntKind.i64.bits s.fuse &&& BitVec.ofInt IntKind.i64.bits 63).toNat : Int))) true)
                                                              (IntKind.i64.wrap
                                                                (IntKind.i64.wrap (2 + IntKind.i64.wrap (↑(BitVec.ofInt IntKind.i64.bits s.fuse &&& BitVec.ofInt IntKind.i64.bits 63).toNat : Int)) -
                                                                  1))).fst).fst.pos.y ==
                                                  s.pos.y &&
                                                ((stepS (mpOf w d h len fun j => xs.getD (0 + j) false).at
                                                            (advR (mpOf w d h len fun j => xs.getD (0 + j) false).at
                                                                (Sh.mk s.id s.owner s.kind s.pos s.vel
                                                                  (IntKind.i64.wrap (2 + IntKind.i64.wrap (↑(BitVec.ofInt IntKind.i64.bits s.fuse &&& BitVec.ofInt IntKind.i64.bits 63).toNat : Int)))
                                                                  true)
                                                                (IntKind.i64.wrap
                                                                  (IntKind.i64.wrap (2 + IntKind.i64.wrap (↑(BitVec.ofInt IntKind.i64.bits s.fuse &&& BitVec.ofInt IntKind.i64.bits 63).toNat : Int)) -
                                                                    1))).fst).fst.pos.z ==
                                                    s.pos.z &&
                                                  ((stepS (mpOf w d h len fun j => xs.getD (0 + j) false).at
                                                              (advR (mpOf w d h len fun j => xs.getD (0 + j) false).at
                                                                  (Sh.mk s.id s.owner s.kind s.pos s.vel
                                                                    (IntKind.i64.wrap (2 + IntKind.i64.wrap (↑(BitVec.ofInt IntKind.i64.bits s.fuse &&& BitVec.ofInt IntKind.i64.bits 63).toNat : Int)))
                                                                    true)
                                                                  (IntKind.i64.wrap
                                                                    (IntKind.i64.wrap (2 + IntKind.i64.wrap (↑(BitVec.ofInt IntKind.i64.bits s.fuse &&& BitVec.ofInt IntKind.i64.bits 63).toNat : Int)) -
                                                                      1))).fst).fst.vel.x ==
                                                      s.vel.x &&
                                                    ((stepS (mpOf w d h len fun j => xs.getD (0 + j) false).at
                                                                (advR (mpOf w d h len fun j => xs.getD (0 + j) false).at
                                                                    (Sh.mk s.id s.owner s.kind s.pos s.vel
                                                                      (IntKind.i64.wrap (2 + IntKind.i64.wrap (↑(BitVec.ofInt IntKind.i64.bits s.fuse &&& BitVec.ofInt IntKind.i64.bits 63).toNat : Int)))
                                                                      true)
                                                                    (IntKind.i64.wrap
                                                                      (IntKind.i64.wrap
                                                                          (2 + IntKind.i64.wrap (↑(BitVec.ofInt IntKind.i64.bits s.fuse &&& BitVec.ofInt IntKind.i64.bits 63).toNat : Int)) -
                                                                        1))).fst).fst.vel.y ==
                                                        s.vel.y &&
                                                      ((stepS (mpOf w d h len fun j => xs.getD (0 + j) false).at
                                                                  (advR (mpOf w d h len fun j => xs.getD (0 + j) false).at
                                                                      (Sh.mk s.id s.owner s.kind s.pos s.vel
                                                                        (IntKind.i64.wrap
                                                                          (2 + IntKind.i64.wrap (↑(BitVec.ofInt IntKind.i64.bits s.fuse &&& BitVec.ofInt IntKind.i64.bits 63).toNat : Int)))
                                                                        true)
                                                                      (IntKind.i64.wrap
                                                                        (IntKind.i64.wrap
                                                                            (2 + IntKind.i64.wrap (↑(BitVec.ofInt IntKind.i64.bits s.fuse &&& BitVec.ofInt IntKind.i64.bits 63).toNat : Int)) -
                                                                          1))).fst).fst.vel.z ==
                                                          s.vel.z &&
                                                        ((stepS (mpOf w d h len fun j => xs.getD (0 + j) false).at
                                                                  (advR (mpOf w d h len fun j => xs.getD (0 + j) false).at
                                                                      (Sh.mk s.id s.owner s.kind s.pos s.vel
                                                                        (IntKind.i64.wrap
                                                                          (2 + IntKind.i64.wrap (↑(BitVec.ofInt IntKind.i64.bits s.fuse &&& BitVec.ofInt IntKind.i64.bits 63).toNat : Int)))
                                                                        true)
                                                                      (IntKind.i64.wrap
                                                                        (IntKind.i64.wrap
                                                                            (2 + IntKind.i64.wrap (↑(BitVec.ofInt IntKind.i64.bits s.fuse &&& BitVec.ofInt IntKind.i64.bits 63).toNat : Int)) -
                                                                          1))).fst).fst.fuse ==
                                                            0 &&
                                                          ((stepS (mpOf w d h len fun j => xs.getD (0 + j) false).at
                                                                    (advR (mpOf w d h len fun j => xs.getD (0 + j) false).at
                                                                        (Sh.mk s.id s.owner s.kind s.pos s.vel
                                                                          (IntKind.i64.wrap
                                                                            (2 + IntKind.i64.wrap (↑(BitVec.ofInt IntKind.i64.bits s.fuse &&& BitVec.ofInt IntKind.i64.bits 63).toNat : Int)))
                                                                          true)
                                                                        (IntKind.i64.wrap
                                                                          (IntKind.i64.wrap
                                                                              (2 + IntKind.i64.wrap (↑(BitVec.ofInt IntKind.i64.bits s.fuse &&& BitVec.ofInt IntKind.i64.bits 63).toNat : Int)) -
                                                                            1))).fst).fst.rest ==
                                                              true &&
                                                            true))))))))))
                                    else false) ==
                                    true then
                                (stepS (mpOf w d h len fun j => xs.getD (0 + j) false).at
                                    (advR (mpOf w d h len fun j => xs.getD (0 + j) false).at
                                        (Sh.mk s.id s.owner s.kind s.pos s.vel
                                          (IntKind.i64.wrap (2 + IntKind.i64.wrap (↑(BitVec.ofInt IntKind.i64.bits s.fuse &&& BitVec.ofInt IntKind.i64.bits 63).toNat : Int))) true)
                                        (IntKind.i64.wrap
                                          (IntKind.i64.wrap (2 + IntKind.i64.wrap (↑(BitVec.ofInt IntKind.i64.bits s.fuse &&& BitVec.ofInt IntKind.i64.bits 63).toNat : Int)) - 1))).fst).snd
                              else false),
                            [])
                    else none
                  else none
              else some (SV.bool true, [])
            else some (SV.bool true, [])
          else some (SV.bool true, [])
        else some (SV.bool true, [])
      else some (SV.bool true, [])
  else none := by kernel_rfl

theorem rest_adv {F : V3 → Bool} : ∀ (k : Nat) (i : Int) (s : Sh), s.rest = true → (k : Int) < s.fuse → s.fuse ≤ 100 → advS F k i s = ({ s with fuse := s.fuse - k }, i + k, false)
  | 0, i, s, h1, h2, h3 => by simp [advS]
  | k + 1, i, s, h1, h2, h3 => by
    have e : stepS F s = ({ s with fuse := s.fuse - 1 }, false) := by
      unfold stepS lessF
      rw [IntWalk.i64_in (s.fuse - 1) (by omega), decide_eq_false (by omega), h1]
      rfl
    unfold advS
    rw [e]
    simp only [cond_false]
    rw [rest_adv k (i + 1) { s with fuse := s.fuse - 1 } h1 (by simp only; omega) (by simp only; omega)]
    simp only [Prod.mk.injEq, Sh.mk.injEq, true_and, and_true]
    omega

set_option maxHeartbeats 0 in
theorem rests_law {w d h : Int} {len ls : Nat} {xs : List Bool} {sp : List V3} {s : Sh} (hw : In64 w) (hd : In64 d) (hh : In64 h) (hl : len ≤ 9223372036854775807) (hx : xs.length = len) (hs : ls ≤ 9223372036854775807) (hy : sp.length = ls) (hf : ∀ p ∈ sp, p.fits) (hp : s.fits) :
    runK x12c (fun _ _ => none) 200 7 Try.f7 0 [mapS w d h (.slice 0 1 0 len none) (.slice 1 3 0 ls none), .agg s.sv] [.vec true .bool xs, .vec true .vec sp] = some (.bool true, []) := by
  rw [rests_tree]
  obtain ⟨c1, c2, c3⟩ := right_facts hw hd hh hl hx hs hy hf
  have hA := mask_in (a := s.fuse) (c := 63) 63 rfl (by omega)
  generalize IntKind.i64.wrap ((BitVec.ofInt IntKind.i64.bits s.fuse &&& BitVec.ofInt IntKind.i64.bits 63).toNat : Int) = A at hA ⊢
  rw [IntWalk.i64_in (2 + A) (by omega), IntWalk.i64_in (2 + A - 1) (by omega)]
  have fp := fitsB_iff.2 hp.2.1
  have i64 : in64B (2 + A - 1) = true := by rw [in64B_iff]; unfold In64; omega
  rw [c1]
  generalize (mpOf w d h len fun j => xs.getD (0 + j) false).right (spAt sp 0) ls = R
  generalize (mpOf w d h len fun j => xs.getD (0 + j) false).at = F
  have e1 : advR F (Sh.mk s.id s.owner s.kind s.pos s.vel (2 + A) true) (2 + A - 1) = (Sh.mk s.id s.owner s.kind s.pos s.vel 1 true, 2 + A - 1, false) := by
    unfold advR
    rw [rest_adv (max (2 + A - 1) 0).toNat 0 (Sh.mk s.id s.owner s.kind s.pos s.vel (2 + A) true) rfl (by simp only; omega) (by simp only; omega)]
    simp only [cond_false, Prod.mk.injEq, Sh.mk.injEq, true_and, and_true]
    omega
  have e2 : stepS F (Sh.mk s.id s.owner s.kind s.pos s.vel 1 true) = (Sh.mk s.id s.owner s.kind s.pos s.vel 0 true, true) := by
    unfold stepS lessF
    rw [IntWalk.i64_in ((Sh.mk s.id s.owner s.kind s.pos s.vel 1 true).fuse - 1) (by simp), decide_eq_true (by simp)]
    rfl
  simp only [e1, e2, c2, c3, fp, i64, Bool.and_true, Bool.true_or, Bool.true_and, cond_true, beq_self_eq_true, bne_self_eq_false, Bool.not_true]
  refine bif_law (fun _ => rfl) (fun _ => ?_)
  refine bif_law (fun _ => ?_) (fun _ => rfl)
  refine bif_law (fun _ => ?_) (fun _ => rfl)
  refine bif_law (fun _ => ?_) (fun _ => rfl)
  refine bif_law (fun _ => ?_) (fun _ => rfl)
  refine bif_law (fun _ => ?_) (fun _ => rfl)
  refine bif_law (fun _ => rfl) (fun _ => ?_)
  rfl

end Go.Proofs.Ythgafhegdngomaa
