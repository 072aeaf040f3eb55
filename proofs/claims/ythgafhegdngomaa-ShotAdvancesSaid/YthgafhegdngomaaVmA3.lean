/- ShotAdvances: the law's call. -/
import Derived.Test.YthgafhegdngomaaVmAd
import Derived.Test.YthgafhegdngomaaVmRt
import Derived.Test.YthgafhegdngomaaVmG12
import Derived.Test.YthgafhegdngomaaOpen3
namespace Go.Proofs.Ythgafhegdngomaa
set_option linter.unusedSimpArgs false
set_option linter.unusedVariables false
open Go.RowKit

noncomputable def x12c : Ctx := ctxOf [11, 15, 12] [orcShown12, orcRight, orcAdv, orcStep]
theorem x12c_ok : COk Try.prog x12c := ctxOf_ok (by kernel_rfl)

set_option maxRecDepth 100000 in
set_option maxHeartbeats 0 in
theorem advances_tree (w d h : Int) (len ls : Nat) (xs : List Bool) (sp : List V3) (s : Sh) (a b : Int) : runK x12c (fun _ _ => none) 200 6 Try.f6 0 [mapS w d h (.slice 0 1 0 len none) (.slice 1 3 0 ls none), .agg s.sv, .int .i64 a, .int .i64 b] [.vec true .bool xs, .vec true .vec sp] =
  bif
      (mapOk w d h len && (decide (0 + len ≤ xs.length) && (decide (0 + ls ≤ sp.length) && (decide (ls ≤ 9223372036854775807) && sp.all fitsB))) && true && true ||
            (bif (bif decide (w ≤ 10) == true then decide (d ≤ 10) else false) == true then decide (h ≤ 10) else false) != true) &&
          (true || (bif (bif decide (w ≤ 10) == true then decide (d ≤ 10) else false) == true then decide (h ≤ 10) else false) == true) &&
        true then
    bif
        !bif (bif (bif decide (w ≤ 10) == true then decide (d ≤ 10) else false) == true then decide (h ≤ 10) else false) == true then
            rightE ((mpOf w d h len fun j => xs.getD (0 + j) false).right (spAt sp 0) ls) == 0
          else false then
      some (SV.bool true, [])
    else
      bif bif decide (s.pos.x ≤ 65536000) == true then decide (s.pos.x ≥ IntKind.i64.wrap (0 - 65536000)) else false then
        bif bif decide (s.pos.y ≤ 65536000) == true then decide (s.pos.y ≥ IntKind.i64.wrap (0 - 65536000)) else false then
          bif bif decide (s.pos.z ≤ 65536000) == true then decide (s.pos.z ≥ IntKind.i64.wrap (0 - 65536000)) else false then
            bif bif decide (s.vel.x ≤ 262144) == true then decide (s.vel.x ≥ IntKind.i64.wrap (0 - 262144)) else false then
              bif bif decide (s.vel.y ≤ 262144) == true then decide (s.vel.y ≥ IntKind.i64.wrap (0 - 262144)) else false then
                bif
                    bif false == false then
                      !bif (bif (bif decide (s.vel.z ≤ 262144) == true then decide (s.vel.z ≥ IntKind.i64.wrap (0 - 262144)) else false) == true then decide (s.fuse ≤ 1000000) else false) == true then
                          decide (s.fuse ≥ -1000000)
                        else false
                    else true then
                  some (SV.bool true, [])
                else
                  bif
                      mapOk w d h len &&
                          in64B
                            (IntKind.i64.wrap
                              (IntKind.i64.wrap (↑(BitVec.ofInt IntKind.i64.bits a &&& BitVec.ofInt IntKind.i64.bits 31).toNat : Int) +
                                IntKind.i64.wrap (↑(BitVec.ofInt IntKind.i64.bits b &&& BitVec.ofInt IntKind.i64.bits 31).toNat : Int))) &&
                        (fitsB s.pos && decide (0 + len ≤ xs.length)) then
                    bif
                        mapOk w d h len && in64B (IntKind.i64.wrap (↑(BitVec.ofInt IntKind.i64.bits a &&& BitVec.ofInt IntKind.i64.bits 31).toNat : Int)) &&
                          (fitsB s.pos && decide (0 + len ≤ xs.length)) then
                      bif
                          (advR (mpOf w d h len fun j => xs.getD (0 + j) false).at s
                                (IntKind.i64.wrap (↑(BitVec.ofInt IntKind.i64.bits a &&& BitVec.ofInt IntKind.i64.bits 31).toNat : Int))).snd.snd then
                        some
                          (SV.bool
                              (bif
                                  (bif
                                        (bif
                                              (bif true == true then
                                                  (advR (mpOf w d h len fun j => xs.getD (0 + j) false).at s
                                                            (IntKind.i64.wrap
                                                              (IntKind.i64.wrap (↑(BitVec.ofInt IntKind.i64.bits a &&& BitVec.ofInt IntKind.i64.bits 31).toNat : Int) +
                                                                IntKind.i64.wrap (↑(BitVec.ofInt IntKind.i64.bits b &&& BitVec.ofInt IntKind.i64.bits 31).toNat : Int)))).fst.id ==
                                                      (advR (mpOf w d h len fun j => xs.getD (0 + j) false).at s
                                                            (IntKind.i64.wrap (↑(BitVec.ofInt IntKind.i64.bits a &&& BitVec.ofInt IntKind.i64.bits 31).toNat : Int))).fst.id &&
                                                    ((advR (mpOf w d h len fun j => xs.getD (0 + j) false).at s
                                                              (IntKind.i64.wrap
                                                                (IntKind.i64.wrap (↑(BitVec.ofInt IntKind.i64.bits a &&& BitVec.ofInt IntKind.i64.bits 31).toNat : Int) +
                                                                  IntKind.i64.wrap (↑(BitVec.ofInt IntKind.i64.bits b &&& BitVec.ofInt IntKind.i64.bits 31).toNat : Int)))).fst.owner ==
                                                        (advR (mpOf w d h len fun j => xs.getD (0 + j) false).at s
                                                              (IntKind.i64.wrap (↑(BitVec.ofInt IntKind.i64.bits a &&& BitVec.ofInt IntKind.i64.bits 31).toNat : Int))).fst.owner &&
                                                      ((advR (mpOf w d h len fun j => xs.getD (0 + j) false).at s
                                                                (IntKind.i64.wrap
                                                                  (IntKind.i64.wrap (↑(BitVec.ofInt IntKind.i64.bits a &&& BitVec.ofInt IntKind.i64.bits 31).toNat : Int) +
                                                                    IntKind.i64.wrap (↑(BitVec.ofInt IntKind.i64.bits b &&& BitVec.ofInt IntKind.i64.bits 31).toNat : Int)))).fst.kind ==
                                                          (advR (mpOf w d h len fun j => xs.getD (0 + j) false).at s
                                                                (IntKind.i64.wrap (↑(BitVec.ofInt IntKind.i64.bits a &&& BitVec.ofInt IntKind.i64.bits 31).toNat : Int))).fst.kind &&
                                                        ((advR (mpOf w d h len fun j => xs.getD (0 + j) false).at s
                                                                    (IntKind.i64.wrap
                                                                      (IntKind.i64.wrap (↑(BitVec.ofInt IntKind.i64.bits a &&& BitVec.ofInt IntKind.i64.bits 31).toNat : Int) +
                                                                        IntKind.i64.wrap (↑(BitVec.ofInt IntKind.i64.bits b &&& BitVec.ofInt IntKind.i64.bits 31).toNat : Int)))).fst.pos.x ==
                                                            (advR (mpOf w d h len fun j => xs.getD (0 + j) false).at s
                                                                    (IntKind.i64.wrap (↑(BitVec.ofInt IntKind.i64.bits a &&& BitVec.ofInt IntKind.i64.bits 31).toNat : Int))).fst.pos.x &&
                                                          ((advR (mpOf w d h len fun j => xs.getD (0 + j) false).at s
                                                                      (IntKind.i64.wrap
                                                                        (IntKind.i64.wrap (↑(BitVec.ofInt IntKind.i64.bits a &&& BitVec.ofInt IntKind.i64.bits 31).toNat : Int) +
                                                                          IntKind.i64.wrap (↑(BitVec.ofInt IntKind.i64.bits b &&& BitVec.ofInt IntKind.i64.bits 31).toNat : Int)))).fst.pos.y ==
                                                              (advR (mpOf w d h len fun j => xs.getD (0 + j) false).at s
                                                                      (IntKind.i64.wrap (↑(BitVec.ofInt IntKind.i64.bits a &&& BitVec.ofInt IntKind.i64.bits 31).toNat : Int))).fst.pos.y &&
                                                            ((advR (mpOf w d h len fun j => xs.getD (0 + j) false).at s
                                                                        (IntKind.i64.wrap
                                                                          (IntKind.i64.wrap (↑(BitVec.ofInt IntKind.i64.bits a &&& BitVec.ofInt IntKind.i64.bits 31).toNat : Int) +
                                                                            IntKind.i64.wrap (↑(BitVec.ofInt IntKind.i64.bits b &&& BitVec.ofInt IntKind.i64.bits 31).toNat : Int)))).fst.pos.z ==
                                                                (advR (mpOf w d h len fun j => xs.getD (0 + j) false).at s
                                                                        (IntKind.i64.wrap (↑(BitVec.ofInt IntKind.i64.bits a &&& BitVec.ofInt IntKind.i64.bits 31).toNat : Int))).fst.pos.z &&
                                                              ((advR (mpOf w d h len fun j => xs.getD (0 + j) false).at s
                                                                          (IntKind.i64.wrap
                                                                            (IntKind.i64.wrap (↑(BitVec.ofInt IntKind.i64.bits a &&& BitVec.ofInt IntKind.i64.bits 31).toNat : Int) +
                                                                              IntKind.i64.wrap (↑(BitVec.ofInt IntKind.i64.bits b &&& BitVec.ofInt IntKind.i64.bits 31).toNat : Int)))).fst.vel.x ==
                                                                  (advR (mpOf w d h len fun j => xs.getD (0 + j) false).at s
                                                                          (IntKind.i64.wrap (↑(BitVec.ofInt IntKind.i64.bits a &&& BitVec.ofInt IntKind.i64.bits 31).toNat : Int))).fst.vel.x &&
                                                                ((advR (mpOf w d h len fun j => xs.getD (0 + j) false).at s
                                                                            (IntKind.i64.wrap
                                                                              (IntKind.i64.wrap (↑(BitVec.ofInt IntKind.i64.bits a &&& BitVec.ofInt IntKind.i64.bits 31).toNat : Int) +
                                                                                IntKind.i64.wrap (↑(BitVec.ofInt IntKind.i64.bits b &&& BitVec.ofInt IntKind.i64.bits 31).toNat : Int)))).fst.vel.y ==
                                                                    (advR (mpOf w d h len fun j => xs.getD (0 + j) false).at s
                                                                            (IntKind.i64.wrap (↑(BitVec.ofInt IntKind.i64.bits a &&& BitVec.ofInt IntKind.i64.bits 31).toNat : Int))).fst.vel.y &&
                                                                  ((advR (mpOf w d h len fun j => xs.getD (0 + j) false).at s
                                                                              (IntKind.i64.wrap
                                                                                (IntKind.i64.wrap (↑(BitVec.ofInt IntKind.i64.bits a &&& BitVec.ofInt IntKind.i64.bits 31).toNat : Int) +
                                                                                  IntKind.i64.wrap (↑(BitVec.ofInt IntKind.i64.bits b &&& BitVec.ofInt IntKind.i64.bits 31).toNat : Int)))).fst.vel.z ==
                                                                      (advR (mpOf w d h len fun j => xs.getD (0 + j) false).at s
                                                                              (IntKind.i64.wrap (↑(BitVec.ofInt IntKind.i64.bits a &&& BitVec.ofInt IntKind.i64.bits 31).toNat : Int))).fst.vel.z &&
                                                                    ((advR (mpOf w d h len fun j => xs.getD (0 + j) false).at s
                                                                              (IntKind.i64.wrap
                                                                                (IntKind.i64.wrap (↑(BitVec.ofInt IntKind.i64.bits a &&& BitVec.ofInt IntKind.i64.bits 31).toNat : Int) +
                                                                                  IntKind.i64.wrap (↑(BitVec.ofInt IntKind.i64.bits b &&& BitVec.ofInt IntKind.i64.bits 31).toNat : Int)))).fst.fuse ==
                                                                        (advR (mpOf w d h len fun j => xs.getD (0 + j) false).at s
                                                                              (IntKind.i64.wrap (↑(BitVec.ofInt IntKind.i64.bits a &&& BitVec.ofInt IntKind.i64.bits 31).toNat : Int))).fst.fuse &&
                                                                      ((advR (mpOf w d h len fun j => xs.getD (0 + j) false).at s
                                                                                (IntKind.i64.wrap
                                                                                  (IntKind.i64.wrap (↑(BitVec.ofInt IntKind.i64.bits a &&& BitVec.ofInt IntKind.i64.bits 31).toNat : Int) +
                                                                                    IntKind.i64.wrap (↑(BitVec.ofInt IntKind.i64.bits b &&& BitVec.ofInt IntKind.i64.bits 31).toNat : Int)))).fst.rest ==
                                                                          (advR (mpOf w d h len fun j => xs.getD (0 + j) false).at s
                                                                                (IntKind.i64.wrap (↑(BitVec.ofInt IntKind.i64.bits a &&& BitVec.ofInt IntKind.i64.bits 31).toNat : Int))).fst.rest &&
                                                                        true))))))))))
                                                else false) ==
                                                true then
                                            (advR (mpOf w d h len fun j => xs.getD (0 + j) false).at s
                                                    (IntKind.i64.wrap
                                                      (IntKind.i64.wrap (↑(BitVec.ofInt IntKind.i64.bits a &&& BitVec.ofInt IntKind.i64.bits 31).toNat : Int) +
                                                        IntKind.i64.wrap (↑(BitVec.ofInt IntKind.i64.bits b &&& BitVec.ofInt IntKind.i64.bits 31).toNat : Int)))).snd.fst ==
                                              (advR (mpOf w d h len fun j => xs.getD (0 + j) false).at s
                                                    (IntKind.i64.wrap (↑(BitVec.ofInt IntKind.i64.bits a &&& BitVec.ofInt IntKind.i64.bits 31).toNat : Int))).snd.fst
                                          else false) ==
                                          true then
                                      (advR (mpOf w d h len fun j => xs.getD (0 + j) false).at s
                                            (IntKind.i64.wrap
                                              (IntKind.i64.wrap (↑(BitVec.ofInt IntKind.i64.bits a &&& BitVec.ofInt IntKind.i64.bits 31).toNat : Int) +
                                                IntKind.i64.wrap (↑(BitVec.ofInt IntKind.i64.bits b &&& BitVec.ofInt IntKind.i64.bits 31).toNat : Int)))).snd.snd
                                    else false) ==
                                    true then
                                decide
                                  ((advR (mpOf w d h len fun j => xs.getD (0 + j) false).at s
                                          (IntKind.i64.wrap (↑(BitVec.ofInt IntKind.i64.bits a &&& BitVec.ofInt IntKind.i64.bits 31).toNat : Int))).snd.fst ≤
                                    IntKind.i64.wrap (↑(BitVec.ofInt IntKind.i64.bits a &&& BitVec.ofInt IntKind.i64.bits 31).toNat : Int))
                              else false),
                            [])
                      else
                        bif
                            mapOk w d h len && in64B (IntKind.i64.wrap (↑(BitVec.ofInt IntKind.i64.bits b &&& BitVec.ofInt IntKind.i64.bits 31).toNat : Int)) &&
                              (fitsB
                                  (advR (mpOf w d h len fun j => xs.getD (0 + j) false).at s
                                        (IntKind.i64.wrap (↑(BitVec.ofInt IntKind.i64.bits a &&& BitVec.ofInt IntKind.i64.bits 31).toNat : Int))).fst.pos &&
                                decide (0 + len ≤ xs.length)) then
                          bif
                              mapOk w d h len && in64B (IntKind.i64.wrap (0 - IntKind.i64.wrap (↑(BitVec.ofInt IntKind.i64.bits a &&& BitVec.ofInt IntKind.i64.bits 31).toNat : Int))) &&
                                (fitsB s.pos && decide (0 + len ≤ xs.length)) then
                            some
                              (SV.bool
                                  (bif
                                      (bif
                                            (bif
                                                  (bif
                                                        (bif true == true then
                                                            (advR (mpOf w d h len fun j => xs.getD (0 + j) false).at s
                                                                    (IntKind.i64.wrap (↑(BitVec.ofInt IntKind.i64.bits a &&& BitVec.ofInt IntKind.i64.bits 31).toNat : Int))).snd.fst ==
                                                              IntKind.i64.wrap (↑(BitVec.ofInt IntKind.i64.bits a &&& BitVec.ofInt IntKind.i64.bits 31).toNat : Int)
                                                          else false) ==
                                                          true then
                                                      (advR (mpOf w d h len fun j => xs.getD (0 + j) false).at s
                                                                (IntKind.i64.wrap
                                                                  (IntKind.i64.wrap (↑(BitVec.ofInt IntKind.i64.bits a &&& BitVec.ofInt IntKind.i64.bits 31).toNat : Int) +
                                                                    IntKind.i64.wrap (↑(BitVec.ofInt IntKind.i64.bits b &&& BitVec.ofInt IntKind.i64.bits 31).toNat : Int)))).fst.id ==
                                                          (advR (mpOf w d h len fun j => xs.getD (0 + j) false).at
                                                                (advR (mpOf w d h len fun j => xs.getD (0 + j) false).at s
                                                                    (IntKind.i64.wrap (↑(BitVec.ofInt IntKind.i64.bits a &&& BitVec.ofInt IntKind.i64.bits 31).toNat : Int))).fst
                                                                (IntKind.i64.wrap (↑(BitVec.ofInt IntKind.i64.bits b &&& BitVec.ofInt IntKind.i64.bits 31).toNat : Int))).fst.id &&
                                                        ((advR (mpOf w d h len fun j => xs.getD (0 + j) false).at s
                                                                  (IntKind.i64.wrap
                                                                    (IntKind.i64.wrap (↑(BitVec.ofInt IntKind.i64.bits a &&& BitVec.ofInt IntKind.i64.bits 31).toNat : Int) +
                                                                      IntKind.i64.wrap (↑(BitVec.ofInt IntKind.i64.bits b &&& BitVec.ofInt IntKind.i64.bits 31).toNat : Int)))).fst.owner ==
                                                            (advR (mpOf w d h len fun j => xs.getD (0 + j) false).at
                                                                  (advR (mpOf w d h len fun j => xs.getD (0 + j) false).at s
                                                                      (IntKind.i64.wrap (↑(BitVec.ofInt IntKind.i64.bits a &&& BitVec.ofInt IntKind.i64.bits 31).toNat : Int))).fst
                                                                  (IntKind.i64.wrap (↑(BitVec.ofInt IntKind.i64.bits b &&& BitVec.ofInt IntKind.i64.bits 31).toNat : Int))).fst.owner &&
                                                          ((advR (mpOf w d h len fun j => xs.getD (0 + j) false).at s
                                                                    (IntKind.i64.wrap
                                                                      (IntKind.i64.wrap (↑(BitVec.ofInt IntKind.i64.bits a &&& BitVec.ofInt IntKind.i64.bits 31).toNat : Int) +
                                                                        IntKind.i64.wrap (↑(BitVec.ofInt IntKind.i64.bits b &&& BitVec.ofInt IntKind.i64.bits 31).toNat : Int)))).fst.kind ==
                                                              (advR (mpOf w d h len fun j => xs.getD (0 + j) false).at
                                                                    (advR (mpOf w d h len fun j => xs.getD (0 + j) false).at s
                                                                        (IntKind.i64.wrap (↑(BitVec.ofInt IntKind.i64.bits a &&& BitVec.ofInt IntKind.i64.bits 31).toNat : Int))).fst
                                                                    (IntKind.i64.wrap (↑(BitVec.ofInt IntKind.i64.bits b &&& BitVec.ofInt IntKind.i64.bits 31).toNat : Int))).fst.kind &&
                                                            ((advR (mpOf w d h len fun j => xs.getD (0 + j) false).at s
                                                                        (IntKind.i64.wrap
                                                                          (IntKind.i64.wrap (↑(BitVec.ofInt IntKind.i64.bits a &&& BitVec.ofInt IntKind.i64.bits 31).toNat : Int) +
                                                                            IntKind.i64.wrap (↑(BitVec.ofInt IntKind.i64.bits b &&& BitVec.ofInt IntKind.i64.bits 31).toNat : Int)))).fst.pos.x ==
                                                                (advR (mpOf w d h len fun j => xs.getD (0 + j) false).at
                                                                        (advR (mpOf w d h len fun j => xs.getD (0 + j) false).at s
                                                                            (IntKind.i64.wrap (↑(BitVec.ofInt IntKind.i64.bits a &&& BitVec.ofInt IntKind.i64.bits 31).toNat : Int))).fst
                                                                        (IntKind.i64.wrap (↑(BitVec.ofInt IntKind.i64.bits b &&& BitVec.ofInt IntKind.i64.bits 31).toNat : Int))).fst.pos.x &&
                                                              ((advR (mpOf w d h len fun j => xs.getD (0 + j) false).at s
                                                                          (IntKind.i64.wrap
                                                                            (IntKind.i64.wrap (↑(BitVec.ofInt IntKind.i64.bits a &&& BitVec.ofInt IntKind.i64.bits 31).toNat : Int) +
                                                                              IntKind.i64.wrap (↑(BitVec.ofInt IntKind.i64.bits b &&& BitVec.ofInt IntKind.i64.bits 31).toNat : Int)))).fst.pos.y ==
                                                                  (advR (mpOf w d h len fun j => xs.getD (0 + j) false).at
                                                                          (advR (mpOf w d h len fun j => xs.getD (0 + j) false).at s
                                                                              (IntKind.i64.wrap (↑(BitVec.ofInt IntKind.i64.bits a &&& BitVec.ofInt IntKind.i64.bits 31).toNat : Int))).fst
                                                                          (IntKind.i64.wrap (↑(BitVec.ofInt IntKind.i64.bits b &&& BitVec.ofInt IntKind.i64.bits 31).toNat : Int))).fst.pos.y &&
                                                                ((advR (mpOf w d h len fun j => xs.getD (0 + j) false).at s
                                                                            (IntKind.i64.wrap
                                                                              (IntKind.i64.wrap (↑(BitVec.ofInt IntKind.i64.bits a &&& BitVec.ofInt IntKind.i64.bits 31).toNat : Int) +
                                                                                IntKind.i64.wrap (↑(BitVec.ofInt IntKind.i64.bits b &&& BitVec.ofInt IntKind.i64.bits 31).toNat : Int)))).fst.pos.z ==
                                                                    (advR (mpOf w d h len fun j => xs.getD (0 + j) false).at
                                                                            (advR (mpOf w d h len fun j => xs.getD (0 + j) false).at s
                                                                                (IntKind.i64.wrap (↑(BitVec.ofInt IntKind.i64.bits a &&& BitVec.ofInt IntKind.i64.bits 31).toNat : Int))).fst
                                                                            (IntKind.i64.wrap (↑(BitVec.ofInt IntKind.i64.bits b &&& BitVec.ofInt IntKind.i64.bits 31).toNat : Int))).fst.pos.z &&
                                                                  ((advR (mpOf w d h len fun j => xs.getD (0 + j) false).at s
                                                                              (IntKind.i64.wrap
                                                                                (IntKind.i64.wrap (↑(BitVec.ofInt IntKind.i64.bits a &&& BitVec.ofInt IntKind.i64.bits 31).toNat : Int) +
                                                                                  IntKind.i64.wrap (↑(BitVec.ofInt IntKind.i64.bits b &&& BitVec.ofInt IntKind.i64.bits 31).toNat : Int)))).fst.vel.x ==
                                                                      (advR (mpOf w d h len fun j => xs.getD (0 + j) false).at
                                                                              (advR (mpOf w d h len fun j => xs.getD (0 + j) false).at s
                                                                                  (IntKind.i64.wrap (↑(BitVec.ofInt IntKind.i64.bits a &&& BitVec.ofInt IntKind.i64.bits 31).toNat : Int))).fst
                                                                              (IntKind.i64.wrap (↑(BitVec.ofInt IntKind.i64.bits b &&& BitVec.ofInt IntKind.i64.bits 31).toNat : Int))).fst.vel.x &&
                                                                    ((advR (mpOf w d h len fun j => xs.getD (0 + j) false).at s
                                                                                (IntKind.i64.wrap
                                                                                  (IntKind.i64.wrap (↑(BitVec.ofInt IntKind.i64.bits a &&& BitVec.ofInt IntKind.i64.bits 31).toNat : Int) +
                                                                                    IntKind.i64.wrap (↑(BitVec.ofInt IntKind.i64.bits b &&& BitVec.ofInt IntKind.i64.bits 31).toNat : Int)))).fst.vel.y ==
                                                                        (advR (mpOf w d h len fun j => xs.getD (0 + j) false).at
                                                                                (advR (mpOf w d h len fun j => xs.getD (0 + j) false).at s
                                                                                    (IntKind.i64.wrap (↑(BitVec.ofInt IntKind.i64.bits a &&& BitVec.ofInt IntKind.i64.bits 31).toNat : Int))).fst
                                                                                (IntKind.i64.wrap (↑(BitVec.ofInt IntKind.i64.bits b &&& BitVec.ofInt IntKind.i64.bits 31).toNat : Int))).fst.vel.y &&
                                                                      ((advR (mpOf w d h len fun j => xs.getD (0 + j) false).at s
                                                                                  (IntKind.i64.wrap
                                                                                    (IntKind.i64.wrap (↑(BitVec.ofInt IntKind.i64.bits a &&& BitVec.ofInt IntKind.i64.bits 31).toNat : Int) +
                                                                                      IntKind.i64.wrap
                                                                                        (↑(BitVec.ofInt IntKind.i64.bits b &&& BitVec.ofInt IntKind.i64.bits 31).toNat : Int)))).fst.vel.z ==
                                                                          (advR (mpOf w d h len fun j => xs.getD (0 + j) false).at
                                                                                  (advR (mpOf w d h len fun j => xs.getD (0 + j) false).at s
                                                                                      (IntKind.i64.wrap (↑(BitVec.ofInt IntKind.i64.bits a &&& BitVec.ofInt IntKind.i64.bits 31).toNat : Int))).fst
                                                                                  (IntKind.i64.wrap (↑(BitVec.ofInt IntKind.i64.bits b &&& BitVec.ofInt IntKind.i64.bits 31).toNat : Int))).fst.vel.z &&
                                                                        ((advR (mpOf w d h len fun j => xs.getD (0 + j) false).at s
                                                                                  (IntKind.i64.wrap
                                                                                    (IntKind.i64.wrap (↑(BitVec.ofInt IntKind.i64.bits a &&& BitVec.ofInt IntKind.i64.bits 31).toNat : Int) +
                                                                                      IntKind.i64.wrap
                                                                                        (↑(BitVec.ofInt IntKind.i64.bits b &&& BitVec.ofInt IntKind.i64.bits 31).toNat : Int)))).fst.fuse ==
                                                                            (advR (mpOf w d h len fun j => xs.getD (0 + j) false).at
                                                                                  (advR (mpOf w d h len fun j => xs.getD (0 + j) false).at s
                                                                                      (IntKind.i64.wrap (↑(BitVec.ofInt IntKind.i64.bits a &&& BitVec.ofInt IntKind.i64.bits 31).toNat : Int))).fst
                                                                                  (IntKind.i64.wrap (↑(BitVec.ofInt IntKind.i64.bits b &&& BitVec.ofInt IntKind.i64.bits 31).toNat : Int))).fst.fuse &&
                                                                          ((advR (mpOf w d h len fun j => xs.getD (0 + j) false).at s
                                                                                    (IntKind.i64.wrap
                                                                                      (IntKind.i64.wrap (↑(BitVec.ofInt IntKind.i64.bits a &&& BitVec.ofInt IntKind.i64.bits 31).toNat : Int) +
                                                                                        IntKind.i64.wrap
                                                                                          (↑(BitVec.ofInt IntKind.i64.bits b &&& BitVec.ofInt IntKind.i64.bits 31).toNat : Int)))).fst.rest ==
                                                                              (advR (mpOf w d h len fun j => xs.getD (0 + j) false).at
                                                                                    (advR (mpOf w d h len fun j => xs.getD (0 + j) false).at s
                                                                                        (IntKind.i64.wrap (↑(BitVec.ofInt IntKind.i64.bits a &&& BitVec.ofInt IntKind.i64.bits 31).toNat : Int))).fst
                                                                                    (IntKind.i64.wrap (↑(BitVec.ofInt IntKind.i64.bits b &&& BitVec.ofInt IntKind.i64.bits 31).toNat : Int))).fst.rest &&
                                                                            true))))))))))
                                                    else false) ==
                                                    true then
                                                (advR (mpOf w d h len fun j => xs.getD (0 + j) false).at s
                                                        (IntKind.i64.wrap
                                                          (IntKind.i64.wrap (↑(BitVec.ofInt IntKind.i64.bits a &&& BitVec.ofInt IntKind.i64.bits 31).toNat : Int) +
                                                            IntKind.i64.wrap (↑(BitVec.ofInt IntKind.i64.bits b &&& BitVec.ofInt IntKind.i64.bits 31).toNat : Int)))).snd.fst ==
                                                  IntKind.i64.wrap
                                                    ((advR (mpOf w d h len fun j => xs.getD (0 + j) false).at s
                                                            (IntKind.i64.wrap (↑(BitVec.ofInt IntKind.i64.bits a &&& BitVec.ofInt IntKind.i64.bits 31).toNat : Int))).snd.fst +
                                                      (advR (mpOf w d h len fun j => xs.getD (0 + j) false).at
                                                            (advR (mpOf w d h len fun j => xs.getD (0 + j) false).at s
                                                                (IntKind.i64.wrap (↑(BitVec.ofInt IntKind.i64.bits a &&& BitVec.ofInt IntKind.i64.bits 31).toNat : Int))).fst
                                                            (IntKind.i64.wrap (↑(BitVec.ofInt IntKind.i64.bits b &&& BitVec.ofInt IntKind.i64.bits 31).toNat : Int))).snd.fst)
                                              else false) ==
                                              true then
                                          (advR (mpOf w d h len fun j => xs.getD (0 + j) false).at s
                                                  (IntKind.i64.wrap
                                                    (IntKind.i64.wrap (↑(BitVec.ofInt IntKind.i64.bits a &&& BitVec.ofInt IntKind.i64.bits 31).toNat : Int) +
                                                      IntKind.i64.wrap (↑(BitVec.ofInt IntKind.i64.bits b &&& BitVec.ofInt IntKind.i64.bits 31).toNat : Int)))).snd.snd ==
                                            (advR (mpOf w d h len fun j => xs.getD (0 + j) false).at
                                                  (advR (mpOf w d h len fun j => xs.getD (0 + j) false).at s
                                                      (IntKind.i64.wrap (↑(BitVec.ofInt IntKind.i64.bits a &&& BitVec.ofInt IntKind.i64.bits 31).toNat : Int))).fst
                                                  (IntKind.i64.wrap (↑(BitVec.ofInt IntKind.i64.bits b &&& BitVec.ofInt IntKind.i64.bits 31).toNat : Int))).snd.snd
                                        else false) ==
                                        true then
                                    bif (IntKind.i64.wrap (↑(BitVec.ofInt IntKind.i64.bits a &&& BitVec.ofInt IntKind.i64.bits 31).toNat : Int) == 0) == false then
                                      bif
                                          (bif
                                                ((advR (mpOf w d h len fun j => xs.getD (0 + j) false).at s
                                                            (IntKind.i64.wrap (0 - IntKind.i64.wrap (↑(BitVec.ofInt IntKind.i64.bits a &&& BitVec.ofInt IntKind.i64.bits 31).toNat : Int)))).fst.id ==
                                                      s.id &&
                                                    ((advR (mpOf w d h len fun j => xs.getD (0 + j) false).at s
                                                              (IntKind.i64.wrap
                                                                (0 - IntKind.i64.wrap (↑(BitVec.ofInt IntKind.i64.bits a &&& BitVec.ofInt IntKind.i64.bits 31).toNat : Int)))).fst.owner ==
                                                        s.owner &&
                                                      ((advR (mpOf w d h len fun j => xs.getD (0 + j) false).at s
                                                                (IntKind.i64.wrap
                                                                  (0 - IntKind.i64.wrap (↑(BitVec.ofInt IntKind.i64.bits a &&& BitVec.ofInt IntKind.i64.bits 31).toNat : Int)))).fst.kind ==
                                                          s.kind &&
                                                        ((advR (mpOf w d h len fun j => xs.getD (0 + j) false).at s
                                                                    (IntKind.i64.wrap
                                                                      (0 - IntKind.i64.wrap (↑(BitVec.ofInt IntKind.i64.bits a &&& BitVec.ofInt IntKind.i64.bits 31).toNat : Int)))).fst.pos.x ==
                                                            s.pos.x &&
                                                          ((advR (mpOf w d h len fun j => xs.getD (0 + j) false).at s
                                                                      (IntKind.i64.wrap
                                                                        (0 - IntKind.i64.wrap (↑(BitVec.ofInt IntKind.i64.bits a &&& BitVec.ofInt IntKind.i64.bits 31).toNat : Int)))).fst.pos.y ==
                                                              s.pos.y &&
                                                            ((advR (mpOf w d h len fun j => xs.getD (0 + j) false).at s
                                                                        (IntKind.i64.wrap
                                                                          (0 - IntKind.i64.wrap (↑(BitVec.ofInt IntKind.i64.bits a &&& BitVec.ofInt IntKind.i64.bits 31).toNat : Int)))).fst.pos.z ==
                                                                s.pos.z &&
                                                              ((advR (mpOf w d h len fun j => xs.getD (0 + j) false).at s
                                                                          (IntKind.i64.wrap
                                                                            (0 - IntKind.i64.wrap (↑(BitVec.ofInt IntKind.i64.bits a &&& BitVec.ofInt IntKind.i64.bits 31).toNat : Int)))).fst.vel.x ==
                                                                  s.vel.x &&
                                                                ((advR (mpOf w d h len fun j => xs.getD (0 + j) false).at s
                                                                            (IntKind.i64.wrap
                                                                              (0 - IntKind.i64.wrap (↑(BitVec.ofInt IntKind.i64.bits a &&& BitVec.ofInt IntKind.i64.bits 31).toNat : Int)))).fst.vel.y ==
                                                                    s.vel.y &&
                                                                  ((advR (mpOf w d h len fun j => xs.getD (0 + j) false).at s
                                                                              (IntKind.i64.wrap
                                                                                (0 -
                                                                                  IntKind.i64.wrap (↑(BitVec.ofInt IntKind.i64.bits a &&& BitVec.ofInt IntKind.i64.bits 31).toNat : Int)))).fst.vel.z ==
                                                                      s.vel.z &&
                                                                    ((advR (mpOf w d h len fun j => xs.getD (0 + j) false).at s
                                                                              (IntKind.i64.wrap
                                                                                (0 - IntKind.i64.wrap (↑(BitVec.ofInt IntKind.i64.bits a &&& BitVec.ofInt IntKind.i64.bits 31).toNat : Int)))).fst.fuse ==
                                                                        s.fuse &&
                                                                      ((advR (mpOf w d h len fun j => xs.getD (0 + j) false).at s
                                                                                (IntKind.i64.wrap
                                                                                  (0 -
                                                                                    IntKind.i64.wrap (↑(BitVec.ofInt IntKind.i64.bits a &&& BitVec.ofInt IntKind.i64.bits 31).toNat : Int)))).fst.rest ==
                                                                          s.rest &&
                                                                        true))))))))))) ==
                                                  true then
                                              (advR (mpOf w d h len fun j => xs.getD (0 + j) false).at s
                                                      (IntKind.i64.wrap (0 - IntKind.i64.wrap (↑(BitVec.ofInt IntKind.i64.bits a &&& BitVec.ofInt IntKind.i64.bits 31).toNat : Int)))).snd.fst ==
                                                0
                                            else false) ==
                                            true then
                                        !(advR (mpOf w d h len fun j => xs.getD (0 + j) false).at s
                                                (IntKind.i64.wrap (0 - IntKind.i64.wrap (↑(BitVec.ofInt IntKind.i64.bits a &&& BitVec.ofInt IntKind.i64.bits 31).toNat : Int)))).snd.snd
                                      else false
                                    else true
                                  else false),
                                [])
                          else none
                        else none
                    else none
                  else none
              else some (SV.bool true, [])
            else some (SV.bool true, [])
          else some (SV.bool true, [])
        else some (SV.bool true, [])
      else some (SV.bool true, [])
  else none := by kernel_rfl

set_option maxHeartbeats 0 in
theorem advances_law {w d h : Int} {len ls : Nat} {xs : List Bool} {sp : List V3} {s : Sh} {a b : Int} (hw : In64 w) (hd : In64 d) (hh : In64 h) (hl : len ≤ 9223372036854775807) (hx : xs.length = len) (hs : ls ≤ 9223372036854775807) (hy : sp.length = ls) (hf : ∀ p ∈ sp, p.fits) (hp : s.fits) :
    runK x12c (fun _ _ => none) 200 6 Try.f6 0 [mapS w d h (.slice 0 1 0 len none) (.slice 1 3 0 ls none), .agg s.sv, .int .i64 a, .int .i64 b] [.vec true .bool xs, .vec true .vec sp] = some (.bool true, []) := by
  rw [advances_tree]
  obtain ⟨c1, c2, c3⟩ := right_facts hw hd hh hl hx hs hy hf
  have hA := mask_in (a := a) (c := 31) 31 rfl (by omega)
  have hB := mask_in (a := b) (c := 31) 31 rfl (by omega)
  generalize IntKind.i64.wrap ((BitVec.ofInt IntKind.i64.bits a &&& BitVec.ofInt IntKind.i64.bits 31).toNat : Int) = A at hA ⊢
  generalize IntKind.i64.wrap ((BitVec.ofInt IntKind.i64.bits b &&& BitVec.ofInt IntKind.i64.bits 31).toNat : Int) = B at hB ⊢
  have i64 : ∀ x : Int, -1000 ≤ x → x ≤ 1000 → in64B x = true := fun x h1 h2 => by rw [in64B_iff]; unfold In64; omega
  rw [IntWalk.i64_in (A + B) (by omega), IntWalk.i64_in (0 - A) (by omega)]
  have fp := fitsB_iff.2 hp.2.1
  rw [c1]
  generalize (mpOf w d h len fun j => xs.getD (0 + j) false).right (spAt sp 0) ls = R
  have fone : fitsB (advR (mpOf w d h len fun j => xs.getD (0 + j) false).at s A).1.pos = true := fitsB_iff.2 (advR_fits hp.2.1)
  generalize (mpOf w d h len fun j => xs.getD (0 + j) false).at = F at fone ⊢
  simp only [c2, c3, fp, fone, i64 (A + B) (by omega) (by omega), i64 A (by omega) (by omega), i64 B (by omega) (by omega), i64 (0 - A) (by omega) (by omega), Bool.and_true, Bool.true_or, Bool.true_and, cond_true]
  refine bif_law (fun _ => rfl) (fun _ => ?_)
  refine bif_law (fun _ => ?_) (fun _ => rfl)
  refine bif_law (fun _ => ?_) (fun _ => rfl)
  refine bif_law (fun _ => ?_) (fun _ => rfl)
  refine bif_law (fun _ => ?_) (fun _ => rfl)
  refine bif_law (fun _ => ?_) (fun _ => rfl)
  refine bif_law (fun _ => rfl) (fun _ => ?_)
  have e3 : advR F s (0 - A) = (s, 0, false) := advR_none (by omega)
  cases h1 : (advR F s A).2.2 with
  | true =>
    have e1 := advR_burst (b := B) hA.1 hB.1 h1
    have e2 := advR_bound (F := F) (s := s) hA.1
    rw [e1, h1]
    simp only [beq_self_eq_true, Bool.and_true, cond_true, decide_eq_true e2.2]
  | false =>
    obtain ⟨e1, e2⟩ := advR_more (b := B) hA.1 hB.1 h1
    have e4 := advR_bound (F := F) (s := (advR F s A).1) hB.1
    rw [e2, e3, e1, IntWalk.i64_in (A + (advR F (advR F s A).1 B).2.1) (by omega)]
    simp only [beq_self_eq_true, Bool.and_true, cond_true, cond_false, Bool.not_false]
    cases (A == 0) <;> rfl

end Go.Proofs.Ythgafhegdngomaa
