/- GridFree: the law's call. -/
import Derived.Test.YtikifgbbiffclaaVmX9
namespace Go.Proofs.Ytikifgbbiffclaa
set_option linter.unusedSimpArgs false
set_option linter.unusedVariables false
open Go.RowKit

set_option maxRecDepth 100000 in
set_option maxHeartbeats 0 in
theorem free_tree (w d h : Int) (p q : V3) : runK x9 (fun _ _ => none) 200 8 Try.f8 0 [.int .i64 w, .int .i64 d, .int .i64 h, .agg p.sv, .agg q.sv] [] =
  bif
      decide
          (0 ≤
            IntKind.i64.wrap
              (IntKind.i64.wrap
                  (IntKind.i64.wrap (1 + IntKind.i64.wrap (↑(BitVec.ofInt IntKind.i64.bits w &&& BitVec.ofInt IntKind.i64.bits 7).toNat : Int)) *
                    IntKind.i64.wrap (1 + IntKind.i64.wrap (↑(BitVec.ofInt IntKind.i64.bits d &&& BitVec.ofInt IntKind.i64.bits 7).toNat : Int))) *
                IntKind.i64.wrap (1 + IntKind.i64.wrap (↑(BitVec.ofInt IntKind.i64.bits h &&& BitVec.ofInt IntKind.i64.bits 7).toNat : Int)))) &&
        (decide
            (IntKind.i64.wrap
                (IntKind.i64.wrap
                    (IntKind.i64.wrap (1 + IntKind.i64.wrap (↑(BitVec.ofInt IntKind.i64.bits w &&& BitVec.ofInt IntKind.i64.bits 7).toNat : Int)) *
                      IntKind.i64.wrap (1 + IntKind.i64.wrap (↑(BitVec.ofInt IntKind.i64.bits d &&& BitVec.ofInt IntKind.i64.bits 7).toNat : Int))) *
                  IntKind.i64.wrap (1 + IntKind.i64.wrap (↑(BitVec.ofInt IntKind.i64.bits h &&& BitVec.ofInt IntKind.i64.bits 7).toNat : Int))) ≤
              9223372036854775807) &&
          (decide
              ((↑1 : Int) *
                  IntKind.i64.wrap
                    (IntKind.i64.wrap
                        (IntKind.i64.wrap (1 + IntKind.i64.wrap (↑(BitVec.ofInt IntKind.i64.bits w &&& BitVec.ofInt IntKind.i64.bits 7).toNat : Int)) *
                          IntKind.i64.wrap (1 + IntKind.i64.wrap (↑(BitVec.ofInt IntKind.i64.bits d &&& BitVec.ofInt IntKind.i64.bits 7).toNat : Int))) *
                      IntKind.i64.wrap (1 + IntKind.i64.wrap (↑(BitVec.ofInt IntKind.i64.bits h &&& BitVec.ofInt IntKind.i64.bits 7).toNat : Int))) ≤
                2 ^ 48) &&
            decide
              (IntKind.i64.wrap
                  (IntKind.i64.wrap
                      (IntKind.i64.wrap (1 + IntKind.i64.wrap (↑(BitVec.ofInt IntKind.i64.bits w &&& BitVec.ofInt IntKind.i64.bits 7).toNat : Int)) *
                        IntKind.i64.wrap (1 + IntKind.i64.wrap (↑(BitVec.ofInt IntKind.i64.bits d &&& BitVec.ofInt IntKind.i64.bits 7).toNat : Int))) *
                    IntKind.i64.wrap (1 + IntKind.i64.wrap (↑(BitVec.ofInt IntKind.i64.bits h &&& BitVec.ofInt IntKind.i64.bits 7).toNat : Int))) =
                IntKind.i64.wrap
                  (IntKind.i64.wrap
                      (IntKind.i64.wrap (1 + IntKind.i64.wrap (↑(BitVec.ofInt IntKind.i64.bits w &&& BitVec.ofInt IntKind.i64.bits 7).toNat : Int)) *
                        IntKind.i64.wrap (1 + IntKind.i64.wrap (↑(BitVec.ofInt IntKind.i64.bits d &&& BitVec.ofInt IntKind.i64.bits 7).toNat : Int))) *
                    IntKind.i64.wrap (1 + IntKind.i64.wrap (↑(BitVec.ofInt IntKind.i64.bits h &&& BitVec.ofInt IntKind.i64.bits 7).toNat : Int)))))) then
    bif
        (mapOk (IntKind.i64.wrap (1 + IntKind.i64.wrap (↑(BitVec.ofInt IntKind.i64.bits w &&& BitVec.ofInt IntKind.i64.bits 7).toNat : Int)))
                      (IntKind.i64.wrap (1 + IntKind.i64.wrap (↑(BitVec.ofInt IntKind.i64.bits d &&& BitVec.ofInt IntKind.i64.bits 7).toNat : Int)))
                      (IntKind.i64.wrap (1 + IntKind.i64.wrap (↑(BitVec.ofInt IntKind.i64.bits h &&& BitVec.ofInt IntKind.i64.bits 7).toNat : Int)))
                      (IntKind.i64.wrap
                          (IntKind.i64.wrap
                              (IntKind.i64.wrap (1 + IntKind.i64.wrap (↑(BitVec.ofInt IntKind.i64.bits w &&& BitVec.ofInt IntKind.i64.bits 7).toNat : Int)) *
                                IntKind.i64.wrap (1 + IntKind.i64.wrap (↑(BitVec.ofInt IntKind.i64.bits d &&& BitVec.ofInt IntKind.i64.bits 7).toNat : Int))) *
                            IntKind.i64.wrap (1 + IntKind.i64.wrap (↑(BitVec.ofInt IntKind.i64.bits h &&& BitVec.ofInt IntKind.i64.bits 7).toNat : Int)))).toNat &&
                    (fitsB p &&
                      (fitsB q &&
                        decide
                          (0 +
                              (IntKind.i64.wrap
                                  (IntKind.i64.wrap
                                      (IntKind.i64.wrap (1 + IntKind.i64.wrap (↑(BitVec.ofInt IntKind.i64.bits w &&& BitVec.ofInt IntKind.i64.bits 7).toNat : Int)) *
                                        IntKind.i64.wrap (1 + IntKind.i64.wrap (↑(BitVec.ofInt IntKind.i64.bits d &&& BitVec.ofInt IntKind.i64.bits 7).toNat : Int))) *
                                    IntKind.i64.wrap (1 + IntKind.i64.wrap (↑(BitVec.ofInt IntKind.i64.bits h &&& BitVec.ofInt IntKind.i64.bits 7).toNat : Int)))).toNat ≤
                            (List.replicate
                                (IntKind.i64.wrap
                                    (IntKind.i64.wrap
                                        (IntKind.i64.wrap (1 + IntKind.i64.wrap (↑(BitVec.ofInt IntKind.i64.bits w &&& BitVec.ofInt IntKind.i64.bits 7).toNat : Int)) *
                                          IntKind.i64.wrap (1 + IntKind.i64.wrap (↑(BitVec.ofInt IntKind.i64.bits d &&& BitVec.ofInt IntKind.i64.bits 7).toNat : Int))) *
                                      IntKind.i64.wrap (1 + IntKind.i64.wrap (↑(BitVec.ofInt IntKind.i64.bits h &&& BitVec.ofInt IntKind.i64.bits 7).toNat : Int)))).toNat
                                false).length))) &&
                  true &&
                true ||
              true != true) &&
            (true || true == true) &&
          true then
      bif
          (mapOk (IntKind.i64.wrap (1 + IntKind.i64.wrap (↑(BitVec.ofInt IntKind.i64.bits w &&& BitVec.ofInt IntKind.i64.bits 7).toNat : Int)))
                        (IntKind.i64.wrap (1 + IntKind.i64.wrap (↑(BitVec.ofInt IntKind.i64.bits d &&& BitVec.ofInt IntKind.i64.bits 7).toNat : Int)))
                        (IntKind.i64.wrap (1 + IntKind.i64.wrap (↑(BitVec.ofInt IntKind.i64.bits h &&& BitVec.ofInt IntKind.i64.bits 7).toNat : Int)))
                        (IntKind.i64.wrap
                            (IntKind.i64.wrap
                                (IntKind.i64.wrap (1 + IntKind.i64.wrap (↑(BitVec.ofInt IntKind.i64.bits w &&& BitVec.ofInt IntKind.i64.bits 7).toNat : Int)) *
                                  IntKind.i64.wrap (1 + IntKind.i64.wrap (↑(BitVec.ofInt IntKind.i64.bits d &&& BitVec.ofInt IntKind.i64.bits 7).toNat : Int))) *
                              IntKind.i64.wrap (1 + IntKind.i64.wrap (↑(BitVec.ofInt IntKind.i64.bits h &&& BitVec.ofInt IntKind.i64.bits 7).toNat : Int)))).toNat &&
                      (fitsB p &&
                        (fitsB q &&
                          decide
                            (0 +
                                (IntKind.i64.wrap
                                    (IntKind.i64.wrap
                                        (IntKind.i64.wrap (1 + IntKind.i64.wrap (↑(BitVec.ofInt IntKind.i64.bits w &&& BitVec.ofInt IntKind.i64.bits 7).toNat : Int)) *
                                          IntKind.i64.wrap (1 + IntKind.i64.wrap (↑(BitVec.ofInt IntKind.i64.bits d &&& BitVec.ofInt IntKind.i64.bits 7).toNat : Int))) *
                                      IntKind.i64.wrap (1 + IntKind.i64.wrap (↑(BitVec.ofInt IntKind.i64.bits h &&& BitVec.ofInt IntKind.i64.bits 7).toNat : Int)))).toNat ≤
                              (List.replicate
                                  (IntKind.i64.wrap
                                      (IntKind.i64.wrap
                                          (IntKind.i64.wrap (1 + IntKind.i64.wrap (↑(BitVec.ofInt IntKind.i64.bits w &&& BitVec.ofInt IntKind.i64.bits 7).toNat : Int)) *
                                            IntKind.i64.wrap (1 + IntKind.i64.wrap (↑(BitVec.ofInt IntKind.i64.bits d &&& BitVec.ofInt IntKind.i64.bits 7).toNat : Int))) *
                                        IntKind.i64.wrap (1 + IntKind.i64.wrap (↑(BitVec.ofInt IntKind.i64.bits h &&& BitVec.ofInt IntKind.i64.bits 7).toNat : Int)))).toNat
                                  false).length))) &&
                    ((true || (bif (bif decide (p.x ≥ q.x) == false then decide (p.y ≥ q.y) else true) == false then decide (p.z ≥ q.z) else true) != false) &&
                        (true || (bif (bif decide (p.x ≥ q.x) == false then decide (p.y ≥ q.y) else true) == false then decide (p.z ≥ q.z) else true) == false) &&
                      true) &&
                  true ||
                (bif true == true then
                    (mpOf (IntKind.i64.wrap (1 + IntKind.i64.wrap (↑(BitVec.ofInt IntKind.i64.bits w &&& BitVec.ofInt IntKind.i64.bits 7).toNat : Int)))
                            (IntKind.i64.wrap (1 + IntKind.i64.wrap (↑(BitVec.ofInt IntKind.i64.bits d &&& BitVec.ofInt IntKind.i64.bits 7).toNat : Int)))
                            (IntKind.i64.wrap (1 + IntKind.i64.wrap (↑(BitVec.ofInt IntKind.i64.bits h &&& BitVec.ofInt IntKind.i64.bits 7).toNat : Int)))
                            (IntKind.i64.wrap
                                (IntKind.i64.wrap
                                    (IntKind.i64.wrap (1 + IntKind.i64.wrap (↑(BitVec.ofInt IntKind.i64.bits w &&& BitVec.ofInt IntKind.i64.bits 7).toNat : Int)) *
                                      IntKind.i64.wrap (1 + IntKind.i64.wrap (↑(BitVec.ofInt IntKind.i64.bits d &&& BitVec.ofInt IntKind.i64.bits 7).toNat : Int))) *
                                  IntKind.i64.wrap (1 + IntKind.i64.wrap (↑(BitVec.ofInt IntKind.i64.bits h &&& BitVec.ofInt IntKind.i64.bits 7).toNat : Int)))).toNat
                            fun j =>
                            (List.replicate
                                  (IntKind.i64.wrap
                                      (IntKind.i64.wrap
                                          (IntKind.i64.wrap (1 + IntKind.i64.wrap (↑(BitVec.ofInt IntKind.i64.bits w &&& BitVec.ofInt IntKind.i64.bits 7).toNat : Int)) *
                                            IntKind.i64.wrap (1 + IntKind.i64.wrap (↑(BitVec.ofInt IntKind.i64.bits d &&& BitVec.ofInt IntKind.i64.bits 7).toNat : Int))) *
                                        IntKind.i64.wrap (1 + IntKind.i64.wrap (↑(BitVec.ofInt IntKind.i64.bits h &&& BitVec.ofInt IntKind.i64.bits 7).toNat : Int)))).toNat
                                  false).getD
                              (0 + j) false).sight
                        p q ==
                      bif
                          (bif
                                (bif decide (min (min (min (min (min p.x p.y) p.z) q.x) q.y) q.z ≥ 0) == true then
                                    decide
                                      (max p.x q.x <
                                        IntKind.i64.wrap (IntKind.i64.wrap (1 + IntKind.i64.wrap (↑(BitVec.ofInt IntKind.i64.bits w &&& BitVec.ofInt IntKind.i64.bits 7).toNat : Int)) * 65536))
                                  else false) ==
                                  true then
                              decide
                                (max p.y q.y < IntKind.i64.wrap (IntKind.i64.wrap (1 + IntKind.i64.wrap (↑(BitVec.ofInt IntKind.i64.bits d &&& BitVec.ofInt IntKind.i64.bits 7).toNat : Int)) * 65536))
                            else false) ==
                            true then
                        decide (max p.z q.z < IntKind.i64.wrap (IntKind.i64.wrap (1 + IntKind.i64.wrap (↑(BitVec.ofInt IntKind.i64.bits h &&& BitVec.ofInt IntKind.i64.bits 7).toNat : Int)) * 65536))
                      else false
                  else false) !=
                  true) &&
              (true ||
                (bif true == true then
                    (mpOf (IntKind.i64.wrap (1 + IntKind.i64.wrap (↑(BitVec.ofInt IntKind.i64.bits w &&& BitVec.ofInt IntKind.i64.bits 7).toNat : Int)))
                            (IntKind.i64.wrap (1 + IntKind.i64.wrap (↑(BitVec.ofInt IntKind.i64.bits d &&& BitVec.ofInt IntKind.i64.bits 7).toNat : Int)))
                            (IntKind.i64.wrap (1 + IntKind.i64.wrap (↑(BitVec.ofInt IntKind.i64.bits h &&& BitVec.ofInt IntKind.i64.bits 7).toNat : Int)))
                            (IntKind.i64.wrap
                                (IntKind.i64.wrap
                                    (IntKind.i64.wrap (1 + IntKind.i64.wrap (↑(BitVec.ofInt IntKind.i64.bits w &&& BitVec.ofInt IntKind.i64.bits 7).toNat : Int)) *
                                      IntKind.i64.wrap (1 + IntKind.i64.wrap (↑(BitVec.ofInt IntKind.i64.bits d &&& BitVec.ofInt IntKind.i64.bits 7).toNat : Int))) *
                                  IntKind.i64.wrap (1 + IntKind.i64.wrap (↑(BitVec.ofInt IntKind.i64.bits h &&& BitVec.ofInt IntKind.i64.bits 7).toNat : Int)))).toNat
                            fun j =>
                            (List.replicate
                                  (IntKind.i64.wrap
                                      (IntKind.i64.wrap
                                          (IntKind.i64.wrap (1 + IntKind.i64.wrap (↑(BitVec.ofInt IntKind.i64.bits w &&& BitVec.ofInt IntKind.i64.bits 7).toNat : Int)) *
                                            IntKind.i64.wrap (1 + IntKind.i64.wrap (↑(BitVec.ofInt IntKind.i64.bits d &&& BitVec.ofInt IntKind.i64.bits 7).toNat : Int))) *
                                        IntKind.i64.wrap (1 + IntKind.i64.wrap (↑(BitVec.ofInt IntKind.i64.bits h &&& BitVec.ofInt IntKind.i64.bits 7).toNat : Int)))).toNat
                                  false).getD
                              (0 + j) false).sight
                        p q ==
                      bif
                          (bif
                                (bif decide (min (min (min (min (min p.x p.y) p.z) q.x) q.y) q.z ≥ 0) == true then
                                    decide
                                      (max p.x q.x <
                                        IntKind.i64.wrap (IntKind.i64.wrap (1 + IntKind.i64.wrap (↑(BitVec.ofInt IntKind.i64.bits w &&& BitVec.ofInt IntKind.i64.bits 7).toNat : Int)) * 65536))
                                  else false) ==
                                  true then
                              decide
                                (max p.y q.y < IntKind.i64.wrap (IntKind.i64.wrap (1 + IntKind.i64.wrap (↑(BitVec.ofInt IntKind.i64.bits d &&& BitVec.ofInt IntKind.i64.bits 7).toNat : Int)) * 65536))
                            else false) ==
                            true then
                        decide (max p.z q.z < IntKind.i64.wrap (IntKind.i64.wrap (1 + IntKind.i64.wrap (↑(BitVec.ofInt IntKind.i64.bits h &&& BitVec.ofInt IntKind.i64.bits 7).toNat : Int)) * 65536))
                      else false
                  else false) ==
                  true) &&
            true then
        some
          (SV.bool
              (bif
                  (bif true == true then
                      (mpOf (IntKind.i64.wrap (1 + IntKind.i64.wrap (↑(BitVec.ofInt IntKind.i64.bits w &&& BitVec.ofInt IntKind.i64.bits 7).toNat : Int)))
                              (IntKind.i64.wrap (1 + IntKind.i64.wrap (↑(BitVec.ofInt IntKind.i64.bits d &&& BitVec.ofInt IntKind.i64.bits 7).toNat : Int)))
                              (IntKind.i64.wrap (1 + IntKind.i64.wrap (↑(BitVec.ofInt IntKind.i64.bits h &&& BitVec.ofInt IntKind.i64.bits 7).toNat : Int)))
                              (IntKind.i64.wrap
                                  (IntKind.i64.wrap
                                      (IntKind.i64.wrap (1 + IntKind.i64.wrap (↑(BitVec.ofInt IntKind.i64.bits w &&& BitVec.ofInt IntKind.i64.bits 7).toNat : Int)) *
                                        IntKind.i64.wrap (1 + IntKind.i64.wrap (↑(BitVec.ofInt IntKind.i64.bits d &&& BitVec.ofInt IntKind.i64.bits 7).toNat : Int))) *
                                    IntKind.i64.wrap (1 + IntKind.i64.wrap (↑(BitVec.ofInt IntKind.i64.bits h &&& BitVec.ofInt IntKind.i64.bits 7).toNat : Int)))).toNat
                              fun j =>
                              (List.replicate
                                    (IntKind.i64.wrap
                                        (IntKind.i64.wrap
                                            (IntKind.i64.wrap (1 + IntKind.i64.wrap (↑(BitVec.ofInt IntKind.i64.bits w &&& BitVec.ofInt IntKind.i64.bits 7).toNat : Int)) *
                                              IntKind.i64.wrap (1 + IntKind.i64.wrap (↑(BitVec.ofInt IntKind.i64.bits d &&& BitVec.ofInt IntKind.i64.bits 7).toNat : Int))) *
                                          IntKind.i64.wrap (1 + IntKind.i64.wrap (↑(BitVec.ofInt IntKind.i64.bits h &&& BitVec.ofInt IntKind.i64.bits 7).toNat : Int)))).toNat
                                    false).getD
                                (0 + j) false).sight
                          p q ==
                        bif
                            (bif
                                  (bif decide (min (min (min (min (min p.x p.y) p.z) q.x) q.y) q.z ≥ 0) == true then
                                      decide
                                        (max p.x q.x <
                                          IntKind.i64.wrap (IntKind.i64.wrap (1 + IntKind.i64.wrap (↑(BitVec.ofInt IntKind.i64.bits w &&& BitVec.ofInt IntKind.i64.bits 7).toNat : Int)) * 65536))
                                    else false) ==
                                    true then
                                decide
                                  (max p.y q.y < IntKind.i64.wrap (IntKind.i64.wrap (1 + IntKind.i64.wrap (↑(BitVec.ofInt IntKind.i64.bits d &&& BitVec.ofInt IntKind.i64.bits 7).toNat : Int)) * 65536))
                              else false) ==
                              true then
                          decide (max p.z q.z < IntKind.i64.wrap (IntKind.i64.wrap (1 + IntKind.i64.wrap (↑(BitVec.ofInt IntKind.i64.bits h &&& BitVec.ofInt IntKind.i64.bits 7).toNat : Int)) * 65536))
                        else false
                    else false) ==
                    true then
                (mpOf (IntKind.i64.wrap (1 + IntKind.i64.wrap (↑(BitVec.ofInt IntKind.i64.bits w &&& BitVec.ofInt IntKind.i64.bits 7).toNat : Int)))
                        (IntKind.i64.wrap (1 + IntKind.i64.wrap (↑(BitVec.ofInt IntKind.i64.bits d &&& BitVec.ofInt IntKind.i64.bits 7).toNat : Int)))
                        (IntKind.i64.wrap (1 + IntKind.i64.wrap (↑(BitVec.ofInt IntKind.i64.bits h &&& BitVec.ofInt IntKind.i64.bits 7).toNat : Int)))
                        (IntKind.i64.wrap
                            (IntKind.i64.wrap
                                (IntKind.i64.wrap (1 + IntKind.i64.wrap (↑(BitVec.ofInt IntKind.i64.bits w &&& BitVec.ofInt IntKind.i64.bits 7).toNat : Int)) *
                                  IntKind.i64.wrap (1 + IntKind.i64.wrap (↑(BitVec.ofInt IntKind.i64.bits d &&& BitVec.ofInt IntKind.i64.bits 7).toNat : Int))) *
                              IntKind.i64.wrap (1 + IntKind.i64.wrap (↑(BitVec.ofInt IntKind.i64.bits h &&& BitVec.ofInt IntKind.i64.bits 7).toNat : Int)))).toNat
                        fun j =>
                        (List.replicate
                              (IntKind.i64.wrap
                                  (IntKind.i64.wrap
                                      (IntKind.i64.wrap (1 + IntKind.i64.wrap (↑(BitVec.ofInt IntKind.i64.bits w &&& BitVec.ofInt IntKind.i64.bits 7).toNat : Int)) *
                                        IntKind.i64.wrap (1 + IntKind.i64.wrap (↑(BitVec.ofInt IntKind.i64.bits d &&& BitVec.ofInt IntKind.i64.bits 7).toNat : Int))) *
                                    IntKind.i64.wrap (1 + IntKind.i64.wrap (↑(BitVec.ofInt IntKind.i64.bits h &&& BitVec.ofInt IntKind.i64.bits 7).toNat : Int)))).toNat
                              false).getD
                          (0 + j) false).clear
                    p q ==
                  bif (bif (bif decide (p.x ≥ q.x) == false then decide (p.y ≥ q.y) else true) == false then decide (p.z ≥ q.z) else true) == false then
                    bif
                        (bif
                              (bif decide (min (min p.x p.y) p.z ≥ 0) == true then
                                  decide (q.x ≤ IntKind.i64.wrap (IntKind.i64.wrap (1 + IntKind.i64.wrap (↑(BitVec.ofInt IntKind.i64.bits w &&& BitVec.ofInt IntKind.i64.bits 7).toNat : Int)) * 65536))
                                else false) ==
                                true then
                            decide (q.y ≤ IntKind.i64.wrap (IntKind.i64.wrap (1 + IntKind.i64.wrap (↑(BitVec.ofInt IntKind.i64.bits d &&& BitVec.ofInt IntKind.i64.bits 7).toNat : Int)) * 65536))
                          else false) ==
                          true then
                      decide (q.z ≤ IntKind.i64.wrap (IntKind.i64.wrap (1 + IntKind.i64.wrap (↑(BitVec.ofInt IntKind.i64.bits h &&& BitVec.ofInt IntKind.i64.bits 7).toNat : Int)) * 65536))
                    else false
                  else true
              else false),
            [])
      else none
    else none
  else none := by kernel_rfl

section
variable {W D H : Int}
theorem prod8 (hW : 1 ≤ W ∧ W ≤ 8) (hD : 1 ≤ D ∧ D ≤ 8) (hH : 1 ≤ H ∧ H ≤ 8) : 1 ≤ W * D ∧ W * D ≤ 64 ∧ 1 ≤ W * D * H ∧ W * D * H ≤ 512 := by
  have h1 : W * D ≤ 8 * 8 := Int.mul_le_mul hW.2 hD.2 (by omega) (by omega)
  have h2 : 1 * 1 ≤ W * D := Int.mul_le_mul hW.1 hD.1 (by omega) (by omega)
  have h3 : W * D * H ≤ 64 * 8 := Int.mul_le_mul (by omega) hH.2 (by omega) (by omega)
  have h4 : 1 * 1 ≤ W * D * H := Int.mul_le_mul (by omega) hH.1 (by omega) (by omega)
  omega
theorem free_solid (hW : 1 ≤ W ∧ W ≤ 8) (hD : 1 ≤ D ∧ D ≤ 8) (hH : 1 ≤ H ∧ H ≤ 8) {s : Nat → Bool} (hs : ∀ j, s j = false) (x y z : Int) : (mpOf W D H (W * D * H).toNat s).solid x y z = false ↔ (0 ≤ x ∧ x < W) ∧ (0 ≤ y ∧ y < D) ∧ (0 ≤ z ∧ z < H) := by
  have hp := prod8 hW hD hH
  have h0 : (mpOf W D H (W * D * H).toNat s).sized = true := by
    unfold Mp.sized sideB mpOf
    simp only [Bool.and_eq_true, decide_eq_true_eq, beq_iff_eq]
    omega
  rw [solid_parts, h0]
  unfold inB
  simp only [Bool.and_eq_true, decide_eq_true_eq, hs, true_and, and_true]
set_option maxHeartbeats 0 in
theorem free_sight (hW : 1 ≤ W ∧ W ≤ 8) (hD : 1 ≤ D ∧ D ≤ 8) (hH : 1 ≤ H ∧ H ≤ 8) {s : Nat → Bool} (hs : ∀ j, s j = false) (p q : V3) : (mpOf W D H (W * D * H).toNat s).sight p q = true ↔
    0 ≤ min (min (min (min (min p.x p.y) p.z) q.x) q.y) q.z ∧ max p.x q.x < W * 65536 ∧ max p.y q.y < D * 65536 ∧ max p.z q.z < H * 65536 := by
  constructor
  · intro h
    obtain ⟨h1, h2⟩ := msight_ends mp_inside h
    rw [msight_self mp_inside, Bool.not_eq_true', free_solid hW hD hH hs] at h1 h2
    omega
  · intro h
    refine msight_box mp_inside fun x y z hb => ?_
    rw [free_solid hW hD hH hs]
    unfold InBox at hb
    omega
set_option maxHeartbeats 0 in
theorem free_clear (hW : 1 ≤ W ∧ W ≤ 8) (hD : 1 ≤ D ∧ D ≤ 8) (hH : 1 ≤ H ∧ H ≤ 8) {s : Nat → Bool} (hs : ∀ j, s j = false) (p q : V3) : (mpOf W D H (W * D * H).toNat s).clear p q = true ↔
    ((p.x ≥ q.x ∨ p.y ≥ q.y ∨ p.z ≥ q.z) ∨ (0 ≤ min (min p.x p.y) p.z ∧ q.x ≤ W * 65536 ∧ q.y ≤ D * 65536 ∧ q.z ≤ H * 65536)) := by
  rw [Mp.clear_iff]
  unfold Mp.Clear Mp.boxFree
  simp only [free_solid hW hD hH hs]
  constructor
  · rintro (h | h | h | h)
    · omega
    · omega
    · omega
    · by_cases hn : p.x ≥ q.x ∨ p.y ≥ q.y ∨ p.z ≥ q.z
      · exact .inl hn
      · right
        have h1 := h (p.x / 65536) (p.y / 65536) (p.z / 65536) (by omega) (by omega) (by omega) (by omega) (by omega) (by omega)
        have h2 := h ((q.x - 1) / 65536) ((q.y - 1) / 65536) ((q.z - 1) / 65536) (by omega) (by omega) (by omega) (by omega) (by omega) (by omega)
        omega
  · rintro (h | h)
    · omega
    · refine .inr (.inr (.inr fun i j k h1 h2 h3 h4 h5 h6 => ?_))
      omega
end

theorem rep_get (n j : Nat) : (List.replicate n false).getD (0 + j) false = false := by
  rw [List.getD_eq_getElem?_getD, List.getElem?_replicate]
  split <;> rfl

set_option maxHeartbeats 0 in
theorem free_law {w d h : Int} {p q : V3} (hp : p.fits) (hq : q.fits) :
    runK x9 (fun _ _ => none) 200 8 Try.f8 0 [.int .i64 w, .int .i64 d, .int .i64 h, .agg p.sv, .agg q.sv] [] = some (.bool true, []) := by
  rw [free_tree]
  have hW := eight (w := w)
  have hD := eight (w := d)
  have hH := eight (w := h)
  generalize IntKind.i64.wrap (1 + IntKind.i64.wrap ((BitVec.ofInt IntKind.i64.bits w &&& BitVec.ofInt IntKind.i64.bits 7).toNat : Int)) = W at hW ⊢
  generalize IntKind.i64.wrap (1 + IntKind.i64.wrap ((BitVec.ofInt IntKind.i64.bits d &&& BitVec.ofInt IntKind.i64.bits 7).toNat : Int)) = D at hD ⊢
  generalize IntKind.i64.wrap (1 + IntKind.i64.wrap ((BitVec.ofInt IntKind.i64.bits h &&& BitVec.ofInt IntKind.i64.bits 7).toNat : Int)) = H at hH ⊢
  have hprod := prod8 hW hD hH
  rw [IntWalk.i64_in (W * D) (by omega), IntWalk.i64_in (W * D * H) (by omega), IntWalk.i64_in (W * 65536) (by omega), IntWalk.i64_in (D * 65536) (by omega), IntWalk.i64_in (H * 65536) (by omega)]
  have c3 : mapOk W D H (W * D * H).toNat = true := by
    unfold mapOk
    simp only [Bool.and_eq_true, in64B_iff, decide_eq_true_eq]
    unfold In64
    omega
  have c4 : decide (0 + (W * D * H).toNat ≤ (List.replicate (W * D * H).toNat false).length) = true := by
    rw [List.length_replicate, decide_eq_true_eq]; omega
  have c5 : (decide (0 ≤ W * D * H) && (decide (W * D * H ≤ 9223372036854775807) && (decide ((1 : Int) * (W * D * H) ≤ 2 ^ 48) && decide (W * D * H = W * D * H)))) = true := by
    rw [Int.one_mul, show (2 : Int) ^ 48 = 281474976710656 from rfl]
    simp only [Bool.and_eq_true, decide_eq_true_eq, and_true]
    omega
  rw [c5]
  have e1 := free_sight hW hD hH (s := fun j => (List.replicate (W * D * H).toNat false).getD (0 + j) false) (fun j => rep_get _ j) p q
  have e2 := free_clear hW hD hH (s := fun j => (List.replicate (W * D * H).toNat false).getD (0 + j) false) (fun j => rep_get _ j) p q
  generalize (mpOf W D H (W * D * H).toNat fun j => (List.replicate (W * D * H).toNat false).getD (0 + j) false) = M at e1 e2 ⊢
  simp only [c3, c4, fitsB_iff.2 hp, fitsB_iff.2 hq, Bool.true_and, Bool.and_true, Bool.true_or, cond_true, and_form, or_form]
  have k1 : M.sight p q = (((decide (min (min (min (min (min p.x p.y) p.z) q.x) q.y) q.z ≥ 0) && decide (max p.x q.x < W * 65536)) && decide (max p.y q.y < D * 65536)) && decide (max p.z q.z < H * 65536)) := by
    rw [Bool.eq_iff_iff, e1]
    simp only [Bool.and_eq_true, decide_eq_true_eq]
    omega
  have k2 : M.clear p q = (((decide (p.x ≥ q.x) || decide (p.y ≥ q.y)) || decide (p.z ≥ q.z)) || (((decide (min (min p.x p.y) p.z ≥ 0) && decide (q.x ≤ W * 65536)) && decide (q.y ≤ D * 65536)) && decide (q.z ≤ H * 65536))) := by
    rw [Bool.eq_iff_iff, e2]
    simp only [Bool.and_eq_true, Bool.or_eq_true, decide_eq_true_eq]
    omega
  simp only [k1, k2, beq_self_eq_true, Bool.true_or, cond_true, Bool.and_true]

end Go.Proofs.Ytikifgbbiffclaa
