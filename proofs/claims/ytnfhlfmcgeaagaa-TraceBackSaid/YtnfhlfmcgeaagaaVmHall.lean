/- TraceHall: the law's call returns true. -/
import Derived.Test.YtnfhlfmcgeaagaaVmHallP
namespace Go.Proofs.Ytnfhlfmcgeaagaa
set_option linter.unusedSimpArgs false
set_option linter.unusedVariables false
open Go.RowKit

set_option maxRecDepth 100000 in
set_option maxHeartbeats 0 in
theorem hall_tree (w d h px py pz bx b_y bz : Int) : runK x10b (fun _ _ => none) 200 7 Try.f7 0 [.int .i64 w, .int .i64 d, .int .i64 h, .agg [.int .i64 px, .int .i64 py, .int .i64 pz], .agg [.int .i64 bx, .int .i64 b_y, .int .i64 bz]] [] =
  bif
      decide
          (0 ≤
            IntKind.i64.wrap
              (IntKind.i64.wrap
                  (IntKind.i64.wrap (2 + IntKind.i64.wrap (↑(BitVec.ofInt IntKind.i64.bits w &&& BitVec.ofInt IntKind.i64.bits 7).toNat : Int)) *
                    IntKind.i64.wrap (2 + IntKind.i64.wrap (↑(BitVec.ofInt IntKind.i64.bits d &&& BitVec.ofInt IntKind.i64.bits 7).toNat : Int))) *
                IntKind.i64.wrap (2 + IntKind.i64.wrap (↑(BitVec.ofInt IntKind.i64.bits h &&& BitVec.ofInt IntKind.i64.bits 7).toNat : Int)))) &&
        (decide
            (IntKind.i64.wrap
                (IntKind.i64.wrap
                    (IntKind.i64.wrap (2 + IntKind.i64.wrap (↑(BitVec.ofInt IntKind.i64.bits w &&& BitVec.ofInt IntKind.i64.bits 7).toNat : Int)) *
                      IntKind.i64.wrap (2 + IntKind.i64.wrap (↑(BitVec.ofInt IntKind.i64.bits d &&& BitVec.ofInt IntKind.i64.bits 7).toNat : Int))) *
                  IntKind.i64.wrap (2 + IntKind.i64.wrap (↑(BitVec.ofInt IntKind.i64.bits h &&& BitVec.ofInt IntKind.i64.bits 7).toNat : Int))) ≤
              9223372036854775807) &&
          (decide
              ((↑1 : Int) *
                  IntKind.i64.wrap
                    (IntKind.i64.wrap
                        (IntKind.i64.wrap (2 + IntKind.i64.wrap (↑(BitVec.ofInt IntKind.i64.bits w &&& BitVec.ofInt IntKind.i64.bits 7).toNat : Int)) *
                          IntKind.i64.wrap (2 + IntKind.i64.wrap (↑(BitVec.ofInt IntKind.i64.bits d &&& BitVec.ofInt IntKind.i64.bits 7).toNat : Int))) *
                      IntKind.i64.wrap (2 + IntKind.i64.wrap (↑(BitVec.ofInt IntKind.i64.bits h &&& BitVec.ofInt IntKind.i64.bits 7).toNat : Int))) ≤
                2 ^ 48) &&
            decide
              (IntKind.i64.wrap
                  (IntKind.i64.wrap
                      (IntKind.i64.wrap (2 + IntKind.i64.wrap (↑(BitVec.ofInt IntKind.i64.bits w &&& BitVec.ofInt IntKind.i64.bits 7).toNat : Int)) *
                        IntKind.i64.wrap (2 + IntKind.i64.wrap (↑(BitVec.ofInt IntKind.i64.bits d &&& BitVec.ofInt IntKind.i64.bits 7).toNat : Int))) *
                    IntKind.i64.wrap (2 + IntKind.i64.wrap (↑(BitVec.ofInt IntKind.i64.bits h &&& BitVec.ofInt IntKind.i64.bits 7).toNat : Int))) =
                IntKind.i64.wrap
                  (IntKind.i64.wrap
                      (IntKind.i64.wrap (2 + IntKind.i64.wrap (↑(BitVec.ofInt IntKind.i64.bits w &&& BitVec.ofInt IntKind.i64.bits 7).toNat : Int)) *
                        IntKind.i64.wrap (2 + IntKind.i64.wrap (↑(BitVec.ofInt IntKind.i64.bits d &&& BitVec.ofInt IntKind.i64.bits 7).toNat : Int))) *
                    IntKind.i64.wrap (2 + IntKind.i64.wrap (↑(BitVec.ofInt IntKind.i64.bits h &&& BitVec.ofInt IntKind.i64.bits 7).toNat : Int)))))) then
    bif decide (px ≥ 26214) then
      bif
          decide
            (px ≤ IntKind.i64.wrap (IntKind.i64.wrap (IntKind.i64.wrap (2 + IntKind.i64.wrap (↑(BitVec.ofInt IntKind.i64.bits w &&& BitVec.ofInt IntKind.i64.bits 7).toNat : Int)) * 65536) - 26214)) then
        bif decide (py ≥ 26214) then
          bif
              decide
                (py ≤
                  IntKind.i64.wrap (IntKind.i64.wrap (IntKind.i64.wrap (2 + IntKind.i64.wrap (↑(BitVec.ofInt IntKind.i64.bits d &&& BitVec.ofInt IntKind.i64.bits 7).toNat : Int)) * 65536) - 26214)) then
            bif decide (pz ≥ 58982) then
              bif
                  mapOk (IntKind.i64.wrap (2 + IntKind.i64.wrap (↑(BitVec.ofInt IntKind.i64.bits w &&& BitVec.ofInt IntKind.i64.bits 7).toNat : Int)))
                      (IntKind.i64.wrap (2 + IntKind.i64.wrap (↑(BitVec.ofInt IntKind.i64.bits d &&& BitVec.ofInt IntKind.i64.bits 7).toNat : Int)))
                      (IntKind.i64.wrap (2 + IntKind.i64.wrap (↑(BitVec.ofInt IntKind.i64.bits h &&& BitVec.ofInt IntKind.i64.bits 7).toNat : Int)))
                      (IntKind.i64.wrap
                          (IntKind.i64.wrap
                              (IntKind.i64.wrap (2 + IntKind.i64.wrap (↑(BitVec.ofInt IntKind.i64.bits w &&& BitVec.ofInt IntKind.i64.bits 7).toNat : Int)) *
                                IntKind.i64.wrap (2 + IntKind.i64.wrap (↑(BitVec.ofInt IntKind.i64.bits d &&& BitVec.ofInt IntKind.i64.bits 7).toNat : Int))) *
                            IntKind.i64.wrap (2 + IntKind.i64.wrap (↑(BitVec.ofInt IntKind.i64.bits h &&& BitVec.ofInt IntKind.i64.bits 7).toNat : Int)))).toNat &&
                    (fitsB { x := px, y := py, z := pz } &&
                      decide
                        (0 +
                            (IntKind.i64.wrap
                                (IntKind.i64.wrap
                                    (IntKind.i64.wrap (2 + IntKind.i64.wrap (↑(BitVec.ofInt IntKind.i64.bits w &&& BitVec.ofInt IntKind.i64.bits 7).toNat : Int)) *
                                      IntKind.i64.wrap (2 + IntKind.i64.wrap (↑(BitVec.ofInt IntKind.i64.bits d &&& BitVec.ofInt IntKind.i64.bits 7).toNat : Int))) *
                                  IntKind.i64.wrap (2 + IntKind.i64.wrap (↑(BitVec.ofInt IntKind.i64.bits h &&& BitVec.ofInt IntKind.i64.bits 7).toNat : Int)))).toNat ≤
                          (List.replicate
                              (IntKind.i64.wrap
                                  (IntKind.i64.wrap
                                      (IntKind.i64.wrap (2 + IntKind.i64.wrap (↑(BitVec.ofInt IntKind.i64.bits w &&& BitVec.ofInt IntKind.i64.bits 7).toNat : Int)) *
                                        IntKind.i64.wrap (2 + IntKind.i64.wrap (↑(BitVec.ofInt IntKind.i64.bits d &&& BitVec.ofInt IntKind.i64.bits 7).toNat : Int))) *
                                    IntKind.i64.wrap (2 + IntKind.i64.wrap (↑(BitVec.ofInt IntKind.i64.bits h &&& BitVec.ofInt IntKind.i64.bits 7).toNat : Int)))).toNat
                              false).length)) then
                bif
                    !(mpOf (IntKind.i64.wrap (2 + IntKind.i64.wrap (↑(BitVec.ofInt IntKind.i64.bits w &&& BitVec.ofInt IntKind.i64.bits 7).toNat : Int)))
                              (IntKind.i64.wrap (2 + IntKind.i64.wrap (↑(BitVec.ofInt IntKind.i64.bits d &&& BitVec.ofInt IntKind.i64.bits 7).toNat : Int)))
                              (IntKind.i64.wrap (2 + IntKind.i64.wrap (↑(BitVec.ofInt IntKind.i64.bits h &&& BitVec.ofInt IntKind.i64.bits 7).toNat : Int)))
                              (IntKind.i64.wrap
                                  (IntKind.i64.wrap
                                      (IntKind.i64.wrap (2 + IntKind.i64.wrap (↑(BitVec.ofInt IntKind.i64.bits w &&& BitVec.ofInt IntKind.i64.bits 7).toNat : Int)) *
                                        IntKind.i64.wrap (2 + IntKind.i64.wrap (↑(BitVec.ofInt IntKind.i64.bits d &&& BitVec.ofInt IntKind.i64.bits 7).toNat : Int))) *
                                    IntKind.i64.wrap (2 + IntKind.i64.wrap (↑(BitVec.ofInt IntKind.i64.bits h &&& BitVec.ofInt IntKind.i64.bits 7).toNat : Int)))).toNat
                              fun j =>
                              (List.replicate
                                    (IntKind.i64.wrap
                                        (IntKind.i64.wrap
                                            (IntKind.i64.wrap (2 + IntKind.i64.wrap (↑(BitVec.ofInt IntKind.i64.bits w &&& BitVec.ofInt IntKind.i64.bits 7).toNat : Int)) *
                                              IntKind.i64.wrap (2 + IntKind.i64.wrap (↑(BitVec.ofInt IntKind.i64.bits d &&& BitVec.ofInt IntKind.i64.bits 7).toNat : Int))) *
                                          IntKind.i64.wrap (2 + IntKind.i64.wrap (↑(BitVec.ofInt IntKind.i64.bits h &&& BitVec.ofInt IntKind.i64.bits 7).toNat : Int)))).toNat
                                    false).getD
                                (0 + j) false).free
                          { x := px, y := py, z := pz } ==
                        decide
                          (pz ≤
                            IntKind.i64.wrap
                              (IntKind.i64.wrap (IntKind.i64.wrap (2 + IntKind.i64.wrap (↑(BitVec.ofInt IntKind.i64.bits h &&& BitVec.ofInt IntKind.i64.bits 7).toNat : Int)) * 65536) - 58982)) then
                  some (SV.bool false, [])
                else
                  bif
                      !decide
                          (pz ≤
                            IntKind.i64.wrap
                              (IntKind.i64.wrap (IntKind.i64.wrap (2 + IntKind.i64.wrap (↑(BitVec.ofInt IntKind.i64.bits h &&& BitVec.ofInt IntKind.i64.bits 7).toNat : Int)) * 65536) - 58982)) then
                    some (SV.bool true, [])
                  else
                    bif
                        mapOk (IntKind.i64.wrap (2 + IntKind.i64.wrap (↑(BitVec.ofInt IntKind.i64.bits w &&& BitVec.ofInt IntKind.i64.bits 7).toNat : Int)))
                            (IntKind.i64.wrap (2 + IntKind.i64.wrap (↑(BitVec.ofInt IntKind.i64.bits d &&& BitVec.ofInt IntKind.i64.bits 7).toNat : Int)))
                            (IntKind.i64.wrap (2 + IntKind.i64.wrap (↑(BitVec.ofInt IntKind.i64.bits h &&& BitVec.ofInt IntKind.i64.bits 7).toNat : Int)))
                            (IntKind.i64.wrap
                                (IntKind.i64.wrap
                                    (IntKind.i64.wrap (2 + IntKind.i64.wrap (↑(BitVec.ofInt IntKind.i64.bits w &&& BitVec.ofInt IntKind.i64.bits 7).toNat : Int)) *
                                      IntKind.i64.wrap (2 + IntKind.i64.wrap (↑(BitVec.ofInt IntKind.i64.bits d &&& BitVec.ofInt IntKind.i64.bits 7).toNat : Int))) *
                                  IntKind.i64.wrap (2 + IntKind.i64.wrap (↑(BitVec.ofInt IntKind.i64.bits h &&& BitVec.ofInt IntKind.i64.bits 7).toNat : Int)))).toNat &&
                          (fitsB { x := px, y := py, z := pz } &&
                            decide
                              (0 +
                                  (IntKind.i64.wrap
                                      (IntKind.i64.wrap
                                          (IntKind.i64.wrap (2 + IntKind.i64.wrap (↑(BitVec.ofInt IntKind.i64.bits w &&& BitVec.ofInt IntKind.i64.bits 7).toNat : Int)) *
                                            IntKind.i64.wrap (2 + IntKind.i64.wrap (↑(BitVec.ofInt IntKind.i64.bits d &&& BitVec.ofInt IntKind.i64.bits 7).toNat : Int))) *
                                        IntKind.i64.wrap (2 + IntKind.i64.wrap (↑(BitVec.ofInt IntKind.i64.bits h &&& BitVec.ofInt IntKind.i64.bits 7).toNat : Int)))).toNat ≤
                                (List.replicate
                                    (IntKind.i64.wrap
                                        (IntKind.i64.wrap
                                            (IntKind.i64.wrap (2 + IntKind.i64.wrap (↑(BitVec.ofInt IntKind.i64.bits w &&& BitVec.ofInt IntKind.i64.bits 7).toNat : Int)) *
                                              IntKind.i64.wrap (2 + IntKind.i64.wrap (↑(BitVec.ofInt IntKind.i64.bits d &&& BitVec.ofInt IntKind.i64.bits 7).toNat : Int))) *
                                          IntKind.i64.wrap (2 + IntKind.i64.wrap (↑(BitVec.ofInt IntKind.i64.bits h &&& BitVec.ofInt IntKind.i64.bits 7).toNat : Int)))).toNat
                                    false).length)) then
                      bif decide (IntKind.i64.wrap (px + max (-32768) (min 32768 bx)) ≥ 26214) then
                        bif
                            ((mpOf (IntKind.i64.wrap (2 + IntKind.i64.wrap (↑(BitVec.ofInt IntKind.i64.bits w &&& BitVec.ofInt IntKind.i64.bits 7).toNat : Int)))
                                        (IntKind.i64.wrap (2 + IntKind.i64.wrap (↑(BitVec.ofInt IntKind.i64.bits d &&& BitVec.ofInt IntKind.i64.bits 7).toNat : Int)))
                                        (IntKind.i64.wrap (2 + IntKind.i64.wrap (↑(BitVec.ofInt IntKind.i64.bits h &&& BitVec.ofInt IntKind.i64.bits 7).toNat : Int)))
                                        (IntKind.i64.wrap
                                            (IntKind.i64.wrap
                                                (IntKind.i64.wrap (2 + IntKind.i64.wrap (↑(BitVec.ofInt IntKind.i64.bits w &&& BitVec.ofInt IntKind.i64.bits 7).toNat : Int)) *
                                                  IntKind.i64.wrap (2 + IntKind.i64.wrap (↑(BitVec.ofInt IntKind.i64.bits d &&& BitVec.ofInt IntKind.i64.bits 7).toNat : Int))) *
                                              IntKind.i64.wrap (2 + IntKind.i64.wrap (↑(BitVec.ofInt IntKind.i64.bits h &&& BitVec.ofInt IntKind.i64.bits 7).toNat : Int)))).toNat
                                        fun j =>
                                        (List.replicate
                                              (IntKind.i64.wrap
                                                  (IntKind.i64.wrap
                                                      (IntKind.i64.wrap (2 + IntKind.i64.wrap (↑(BitVec.ofInt IntKind.i64.bits w &&& BitVec.ofInt IntKind.i64.bits 7).toNat : Int)) *
                                                        IntKind.i64.wrap (2 + IntKind.i64.wrap (↑(BitVec.ofInt IntKind.i64.bits d &&& BitVec.ofInt IntKind.i64.bits 7).toNat : Int))) *
                                                    IntKind.i64.wrap (2 + IntKind.i64.wrap (↑(BitVec.ofInt IntKind.i64.bits h &&& BitVec.ofInt IntKind.i64.bits 7).toNat : Int)))).toNat
                                              false).getD
                                          (0 + j) false).slide
                                    { x := px, y := py, z := pz } { x := bx, y := b_y, z := bz }).snd.fst ==
                              !decide
                                  (IntKind.i64.wrap (px + max (-32768) (min 32768 bx)) ≤
                                    IntKind.i64.wrap
                                      (IntKind.i64.wrap (IntKind.i64.wrap (2 + IntKind.i64.wrap (↑(BitVec.ofInt IntKind.i64.bits w &&& BitVec.ofInt IntKind.i64.bits 7).toNat : Int)) * 65536) -
                                        26214)) then
                          bif decide (IntKind.i64.wrap (py + max (-32768) (min 32768 b_y)) ≥ 26214) then
                            bif
                                ((mpOf (IntKind.i64.wrap (2 + IntKind.i64.wrap (↑(BitVec.ofInt IntKind.i64.bits w &&& BitVec.ofInt IntKind.i64.bits 7).toNat : Int)))
                                              (IntKind.i64.wrap (2 + IntKind.i64.wrap (↑(BitVec.ofInt IntKind.i64.bits d &&& BitVec.ofInt IntKind.i64.bits 7).toNat : Int)))
                                              (IntKind.i64.wrap (2 + IntKind.i64.wrap (↑(BitVec.ofInt IntKind.i64.bits h &&& BitVec.ofInt IntKind.i64.bits 7).toNat : Int)))
                                              (IntKind.i64.wrap
                                                  (IntKind.i64.wrap
                                                      (IntKind.i64.wrap (2 + IntKind.i64.wrap (↑(BitVec.ofInt IntKind.i64.bits w &&& BitVec.ofInt IntKind.i64.bits 7).toNat : Int)) *
                                                        IntKind.i64.wrap (2 + IntKind.i64.wrap (↑(BitVec.ofInt IntKind.i64.bits d &&& BitVec.ofInt IntKind.i64.bits 7).toNat : Int))) *
                                                    IntKind.i64.wrap (2 + IntKind.i64.wrap (↑(BitVec.ofInt IntKind.i64.bits h &&& BitVec.ofInt IntKind.i64.bits 7).toNat : Int)))).toNat
                                              fun j =>
                                              (List.replicate
                                                    (IntKind.i64.wrap
                                                        (IntKind.i64.wrap
                                                            (IntKind.i64.wrap (2 + IntKind.i64.wrap (↑(BitVec.ofInt IntKind.i64.bits w &&& BitVec.ofInt IntKind.i64.bits 7).toNat : Int)) *
                                                              IntKind.i64.wrap (2 + IntKind.i64.wrap (↑(BitVec.ofInt IntKind.i64.bits d &&& BitVec.ofInt IntKind.i64.bits 7).toNat : Int))) *
                                                          IntKind.i64.wrap (2 + IntKind.i64.wrap (↑(BitVec.ofInt IntKind.i64.bits h &&& BitVec.ofInt IntKind.i64.bits 7).toNat : Int)))).toNat
                                                    false).getD
                                                (0 + j) false).slide
                                          { x := px, y := py, z := pz } { x := bx, y := b_y, z := bz }).snd.snd.fst ==
                                  !decide
                                      (IntKind.i64.wrap (py + max (-32768) (min 32768 b_y)) ≤
                                        IntKind.i64.wrap
                                          (IntKind.i64.wrap (IntKind.i64.wrap (2 + IntKind.i64.wrap (↑(BitVec.ofInt IntKind.i64.bits d &&& BitVec.ofInt IntKind.i64.bits 7).toNat : Int)) * 65536) -
                                            26214)) then
                              bif decide (IntKind.i64.wrap (pz + max (-32768) (min 32768 bz)) ≥ 58982) then
                                some
                                  (SV.bool
                                      (((mpOf (IntKind.i64.wrap (2 + IntKind.i64.wrap (↑(BitVec.ofInt IntKind.i64.bits w &&& BitVec.ofInt IntKind.i64.bits 7).toNat : Int)))
                                                    (IntKind.i64.wrap (2 + IntKind.i64.wrap (↑(BitVec.ofInt IntKind.i64.bits d &&& BitVec.ofInt IntKind.i64.bits 7).toNat : Int)))
                                                    (IntKind.i64.wrap (2 + IntKind.i64.wrap (↑(BitVec.ofInt IntKind.i64.bits h &&& BitVec.ofInt IntKind.i64.bits 7).toNat : Int)))
                                                    (IntKind.i64.wrap
                                                        (IntKind.i64.wrap
                                                            (IntKind.i64.wrap (2 + IntKind.i64.wrap (↑(BitVec.ofInt IntKind.i64.bits w &&& BitVec.ofInt IntKind.i64.bits 7).toNat : Int)) *
                                                              IntKind.i64.wrap (2 + IntKind.i64.wrap (↑(BitVec.ofInt IntKind.i64.bits d &&& BitVec.ofInt IntKind.i64.bits 7).toNat : Int))) *
                                                          IntKind.i64.wrap (2 + IntKind.i64.wrap (↑(BitVec.ofInt IntKind.i64.bits h &&& BitVec.ofInt IntKind.i64.bits 7).toNat : Int)))).toNat
                                                    fun j =>
                                                    (List.replicate
                                                          (IntKind.i64.wrap
                                                              (IntKind.i64.wrap
                                                                  (IntKind.i64.wrap (2 + IntKind.i64.wrap (↑(BitVec.ofInt IntKind.i64.bits w &&& BitVec.ofInt IntKind.i64.bits 7).toNat : Int)) *
                                                                    IntKind.i64.wrap (2 + IntKind.i64.wrap (↑(BitVec.ofInt IntKind.i64.bits d &&& BitVec.ofInt IntKind.i64.bits 7).toNat : Int))) *
                                                                IntKind.i64.wrap (2 + IntKind.i64.wrap (↑(BitVec.ofInt IntKind.i64.bits h &&& BitVec.ofInt IntKind.i64.bits 7).toNat : Int)))).toNat
                                                          false).getD
                                                      (0 + j) false).slide
                                                { x := px, y := py, z := pz } { x := bx, y := b_y, z := bz }).snd.snd.snd ==
                                        !decide
                                            (IntKind.i64.wrap (pz + max (-32768) (min 32768 bz)) ≤
                                              IntKind.i64.wrap
                                                (IntKind.i64.wrap (IntKind.i64.wrap (2 + IntKind.i64.wrap (↑(BitVec.ofInt IntKind.i64.bits h &&& BitVec.ofInt IntKind.i64.bits 7).toNat : Int)) * 65536) -
                                                  58982))),
                                    [])
                              else
                                some
                                  (SV.bool
                                      (((mpOf (IntKind.i64.wrap (2 + IntKind.i64.wrap (↑(BitVec.ofInt IntKind.i64.bits w &&& BitVec.ofInt IntKind.i64.bits 7).toNat : Int)))
                                                    (IntKind.i64.wrap (2 + IntKind.i64.wrap (↑(BitVec.ofInt IntKind.i64.bits d &&& BitVec.ofInt IntKind.i64.bits 7).toNat : Int)))
                                                    (IntKind.i64.wrap (2 + IntKind.i64.wrap (↑(BitVec.ofInt IntKind.i64.bits h &&& BitVec.ofInt IntKind.i64.bits 7).toNat : Int)))
                                                    (IntKind.i64.wrap
                                                        (IntKind.i64.wrap
                                                            (IntKind.i64.wrap (2 + IntKind.i64.wrap (↑(BitVec.ofInt IntKind.i64.bits w &&& BitVec.ofInt IntKind.i64.bits 7).toNat : Int)) *
                                                              IntKind.i64.wrap (2 + IntKind.i64.wrap (↑(BitVec.ofInt IntKind.i64.bits d &&& BitVec.ofInt IntKind.i64.bits 7).toNat : Int))) *
                                                          IntKind.i64.wrap (2 + IntKind.i64.wrap (↑(BitVec.ofInt IntKind.i64.bits h &&& BitVec.ofInt IntKind.i64.bits 7).toNat : Int)))).toNat
                                                    fun j =>
                                                    (List.replicate
                                                          (IntKind.i64.wrap
                                                              (IntKind.i64.wrap
                                                                  (IntKind.i64.wrap (2 + IntKind.i64.wrap (↑(BitVec.ofInt IntKind.i64.bits w &&& BitVec.ofInt IntKind.i64.bits 7).toNat : Int)) *
                                                                    IntKind.i64.wrap (2 + IntKind.i64.wrap (↑(BitVec.ofInt IntKind.i64.bits d &&& BitVec.ofInt IntKind.i64.bits 7).toNat : Int))) *
                                                                IntKind.i64.wrap (2 + IntKind.i64.wrap (↑(BitVec.ofInt IntKind.i64.bits h &&& BitVec.ofInt IntKind.i64.bits 7).toNat : Int)))).toNat
                                                          false).getD
                                                      (0 + j) false).slide
                                                { x := px, y := py, z := pz } { x := bx, y := b_y, z := bz }).snd.snd.snd ==
                                        true),
                                    [])
                            else some (SV.bool false, [])
                          else
                            bif
                                ((mpOf (IntKind.i64.wrap (2 + IntKind.i64.wrap (↑(BitVec.ofInt IntKind.i64.bits w &&& BitVec.ofInt IntKind.i64.bits 7).toNat : Int)))
                                              (IntKind.i64.wrap (2 + IntKind.i64.wrap (↑(BitVec.ofInt IntKind.i64.bits d &&& BitVec.ofInt IntKind.i64.bits 7).toNat : Int)))
                                              (IntKind.i64.wrap (2 + IntKind.i64.wrap (↑(BitVec.ofInt IntKind.i64.bits h &&& BitVec.ofInt IntKind.i64.bits 7).toNat : Int)))
                                              (IntKind.i64.wrap
                                                  (IntKind.i64.wrap
                                                      (IntKind.i64.wrap (2 + IntKind.i64.wrap (↑(BitVec.ofInt IntKind.i64.bits w &&& BitVec.ofInt IntKind.i64.bits 7).toNat : Int)) *
                                                        IntKind.i64.wrap (2 + IntKind.i64.wrap (↑(BitVec.ofInt IntKind.i64.bits d &&& BitVec.ofInt IntKind.i64.bits 7).toNat : Int))) *
                                                    IntKind.i64.wrap (2 + IntKind.i64.wrap (↑(BitVec.ofInt IntKind.i64.bits h &&& BitVec.ofInt IntKind.i64.bits 7).toNat : Int)))).toNat
                                              fun j =>
                                              (List.replicate
                                                    (IntKind.i64.wrap
                                                        (IntKind.i64.wrap
                                                            (IntKind.i64.wrap (2 + IntKind.i64.wrap (↑(BitVec.ofInt IntKind.i64.bits w &&& BitVec.ofInt IntKind.i64.bits 7).toNat : Int)) *
                                                              IntKind.i64.wrap (2 + IntKind.i64.wrap (↑(BitVec.ofInt IntKind.i64.bits d &&& BitVec.ofInt IntKind.i64.bits 7).toNat : Int))) *
                                                          IntKind.i64.wrap (2 + IntKind.i64.wrap (↑(BitVec.ofInt IntKind.i64.bits h &&& BitVec.ofInt IntKind.i64.bits 7).toNat : Int)))).toNat
                                                    false).getD
                                                (0 + j) false).slide
                                          { x := px, y := py, z := pz } { x := bx, y := b_y, z := bz }).snd.snd.fst ==
                                  true then
                              bif decide (IntKind.i64.wrap (pz + max (-32768) (min 32768 bz)) ≥ 58982) then
                                some
                                  (SV.bool
                                      (((mpOf (IntKind.i64.wrap (2 + IntKind.i64.wrap (↑(BitVec.ofInt IntKind.i64.bits w &&& BitVec.ofInt IntKind.i64.bits 7).toNat : Int)))
                                                    (IntKind.i64.wrap (2 + IntKind.i64.wrap (↑(BitVec.ofInt IntKind.i64.bits d &&& BitVec.ofInt IntKind.i64.bits 7).toNat : Int)))
                                                    (IntKind.i64.wrap (2 + IntKind.i64.wrap (↑(BitVec.ofInt IntKind.i64.bits h &&& BitVec.ofInt IntKind.i64.bits 7).toNat : Int)))
                                                    (IntKind.i64.wrap
                                                        (IntKind.i64.wrap
                                                            (IntKind.i64.wrap (2 + IntKind.i64.wrap (↑(BitVec.ofInt IntKind.i64.bits w &&& BitVec.ofInt IntKind.i64.bits 7).toNat : Int)) *
                                                              IntKind.i64.wrap (2 + IntKind.i64.wrap (↑(BitVec.ofInt IntKind.i64.bits d &&& BitVec.ofInt IntKind.i64.bits 7).toNat : Int))) *
                                                          IntKind.i64.wrap (2 + IntKind.i64.wrap (↑(BitVec.ofInt IntKind.i64.bits h &&& BitVec.ofInt IntKind.i64.bits 7).toNat : Int)))).toNat
                                                    fun j =>
                                                    (List.replicate
                                                          (IntKind.i64.wrap
                                                              (IntKind.i64.wrap
                                                                  (IntKind.i64.wrap (2 + IntKind.i64.wrap (↑(BitVec.ofInt IntKind.i64.bits w &&& BitVec.ofInt IntKind.i64.bits 7).toNat : Int)) *
                                                                    IntKind.i64.wrap (2 + IntKind.i64.wrap (↑(BitVec.ofInt IntKind.i64.bits d &&& BitVec.ofInt IntKind.i64.bits 7).toNat : Int))) *
                                                                IntKind.i64.wrap (2 + IntKind.i64.wrap (↑(BitVec.ofInt IntKind.i64.bits h &&& BitVec.ofInt IntKind.i64.bits 7).toNat : Int)))).toNat
                                                          false).getD
                                                      (0 + j) false).slide
                                                { x := px, y := py, z := pz } { x := bx, y := b_y, z := bz }).snd.snd.snd ==
                                        !decide
                                            (IntKind.i64.wrap (pz + max (-32768) (min 32768 bz)) ≤
                                              IntKind.i64.wrap
                                                (IntKind.i64.wrap (IntKind.i64.wrap (2 + IntKind.i64.wrap (↑(BitVec.ofInt IntKind.i64.bits h &&& BitVec.ofInt IntKind.i64.bits 7).toNat : Int)) * 65536) -
                                                  58982))),
                                    [])
                              else
                                some
                                  (SV.bool
                                      (((mpOf (IntKind.i64.wrap (2 + IntKind.i64.wrap (↑(BitVec.ofInt IntKind.i64.bits w &&& BitVec.ofInt IntKind.i64.bits 7).toNat : Int)))
                                                    (IntKind.i64.wrap (2 + IntKind.i64.wrap (↑(BitVec.ofInt IntKind.i64.bits d &&& BitVec.ofInt IntKind.i64.bits 7).toNat : Int)))
                                                    (IntKind.i64.wrap (2 + IntKind.i64.wrap (↑(BitVec.ofInt IntKind.i64.bits h &&& BitVec.ofInt IntKind.i64.bits 7).toNat : Int)))
                                                    (IntKind.i64.wrap
                                                        (IntKind.i64.wrap
                                                            (IntKind.i64.wrap (2 + IntKind.i64.wrap (↑(BitVec.ofInt IntKind.i64.bits w &&& BitVec.ofInt IntKind.i64.bits 7).toNat : Int)) *
                                                              IntKind.i64.wrap (2 + IntKind.i64.wrap (↑(BitVec.ofInt IntKind.i64.bits d &&& BitVec.ofInt IntKind.i64.bits 7).toNat : Int))) *
                                                          IntKind.i64.wrap (2 + IntKind.i64.wrap (↑(BitVec.ofInt IntKind.i64.bits h &&& BitVec.ofInt IntKind.i64.bits 7).toNat : Int)))).toNat
                                                    fun j =>
                                                    (List.replicate
                                                          (IntKind.i64.wrap
                                                              (IntKind.i64.wrap
                                                                  (IntKind.i64.wrap (2 + IntKind.i64.wrap (↑(BitVec.ofInt IntKind.i64.bits w &&& BitVec.ofInt IntKind.i64.bits 7).toNat : Int)) *
                                                                    IntKind.i64.wrap (2 + IntKind.i64.wrap (↑(BitVec.ofInt IntKind.i64.bits d &&& BitVec.ofInt IntKind.i64.bits 7).toNat : Int))) *
                                                                IntKind.i64.wrap (2 + IntKind.i64.wrap (↑(BitVec.ofInt IntKind.i64.bits h &&& BitVec.ofInt IntKind.i64.bits 7).toNat : Int)))).toNat
                                                          false).getD
                                                      (0 + j) false).slide
                                                { x := px, y := py, z := pz } { x := bx, y := b_y, z := bz }).snd.snd.snd ==
                                        true),
                                    [])
                            else some (SV.bool false, [])
                        else some (SV.bool false, [])
                      else
                        bif
                            ((mpOf (IntKind.i64.wrap (2 + IntKind.i64.wrap (↑(BitVec.ofInt IntKind.i64.bits w &&& BitVec.ofInt IntKind.i64.bits 7).toNat : Int)))
                                        (IntKind.i64.wrap (2 + IntKind.i64.wrap (↑(BitVec.ofInt IntKind.i64.bits d &&& BitVec.ofInt IntKind.i64.bits 7).toNat : Int)))
                                        (IntKind.i64.wrap (2 + IntKind.i64.wrap (↑(BitVec.ofInt IntKind.i64.bits h &&& BitVec.ofInt IntKind.i64.bits 7).toNat : Int)))
                                        (IntKind.i64.wrap
                                            (IntKind.i64.wrap
                                                (IntKind.i64.wrap (2 + IntKind.i64.wrap (↑(BitVec.ofInt IntKind.i64.bits w &&& BitVec.ofInt IntKind.i64.bits 7).toNat : Int)) *
                                                  IntKind.i64.wrap (2 + IntKind.i64.wrap (↑(BitVec.ofInt IntKind.i64.bits d &&& BitVec.ofInt IntKind.i64.bits 7).toNat : Int))) *
                                              IntKind.i64.wrap (2 + IntKind.i64.wrap (↑(BitVec.ofInt IntKind.i64.bits h &&& BitVec.ofInt IntKind.i64.bits 7).toNat : Int)))).toNat
                                        fun j =>
                                        (List.replicate
                                              (IntKind.i64.wrap
                                                  (IntKind.i64.wrap
                                                      (IntKind.i64.wrap (2 + IntKind.i64.wrap (↑(BitVec.ofInt IntKind.i64.bits w &&& BitVec.ofInt IntKind.i64.bits 7).toNat : Int)) *
                                                        IntKind.i64.wrap (2 + IntKind.i64.wrap (↑(BitVec.ofInt IntKind.i64.bits d &&& BitVec.ofInt IntKind.i64.bits 7).toNat : Int))) *
                                                    IntKind.i64.wrap (2 + IntKind.i64.wrap (↑(BitVec.ofInt IntKind.i64.bits h &&& BitVec.ofInt IntKind.i64.bits 7).toNat : Int)))).toNat
                                              false).getD
                                          (0 + j) false).slide
                                    { x := px, y := py, z := pz } { x := bx, y := b_y, z := bz }).snd.fst ==
                              true then
                          bif decide (IntKind.i64.wrap (py + max (-32768) (min 32768 b_y)) ≥ 26214) then
                            bif
                                ((mpOf (IntKind.i64.wrap (2 + IntKind.i64.wrap (↑(BitVec.ofInt IntKind.i64.bits w &&& BitVec.ofInt IntKind.i64.bits 7).toNat : Int)))
                                              (IntKind.i64.wrap (2 + IntKind.i64.wrap (↑(BitVec.ofInt IntKind.i64.bits d &&& BitVec.ofInt IntKind.i64.bits 7).toNat : Int)))
                                              (IntKind.i64.wrap (2 + IntKind.i64.wrap (↑(BitVec.ofInt IntKind.i64.bits h &&& BitVec.ofInt IntKind.i64.bits 7).toNat : Int)))
                                              (IntKind.i64.wrap
                                                  (IntKind.i64.wrap
                                                      (IntKind.i64.wrap (2 + IntKind.i64.wrap (↑(BitVec.ofInt IntKind.i64.bits w &&& BitVec.ofInt IntKind.i64.bits 7).toNat : Int)) *
                                                        IntKind.i64.wrap (2 + IntKind.i64.wrap (↑(BitVec.ofInt IntKind.i64.bits d &&& BitVec.ofInt IntKind.i64.bits 7).toNat : Int))) *
                                                    IntKind.i64.wrap (2 + IntKind.i64.wrap (↑(BitVec.ofInt IntKind.i64.bits h &&& BitVec.ofInt IntKind.i64.bits 7).toNat : Int)))).toNat
                                              fun j =>
                                              (List.replicate
                                                    (IntKind.i64.wrap
                                                        (IntKind.i64.wrap
                                                            (IntKind.i64.wrap (2 + IntKind.i64.wrap (↑(BitVec.ofInt IntKind.i64.bits w &&& BitVec.ofInt IntKind.i64.bits 7).toNat : Int)) *
                                                              IntKind.i64.wrap (2 + IntKind.i64.wrap (↑(BitVec.ofInt IntKind.i64.bits d &&& BitVec.ofInt IntKind.i64.bits 7).toNat : Int))) *
                                                          IntKind.i64.wrap (2 + IntKind.i64.wrap (↑(BitVec.ofInt IntKind.i64.bits h &&& BitVec.ofInt IntKind.i64.bits 7).toNat : Int)))).toNat
                                                    false).getD
                                                (0 + j) false).slide
                                          { x := px, y := py, z := pz } { x := bx, y := b_y, z := bz }).snd.snd.fst ==
                                  !decide
                                      (IntKind.i64.wrap (py + max (-32768) (min 32768 b_y)) ≤
                                        IntKind.i64.wrap
                                          (IntKind.i64.wrap (IntKind.i64.wrap (2 + IntKind.i64.wrap (↑(BitVec.ofInt IntKind.i64.bits d &&& BitVec.ofInt IntKind.i64.bits 7).toNat : Int)) * 65536) -
                                            26214)) then
                              bif decide (IntKind.i64.wrap (pz + max (-32768) (min 32768 bz)) ≥ 58982) then
                                some
                                  (SV.bool
                                      (((mpOf (IntKind.i64.wrap (2 + IntKind.i64.wrap (↑(BitVec.ofInt IntKind.i64.bits w &&& BitVec.ofInt IntKind.i64.bits 7).toNat : Int)))
                                                    (IntKind.i64.wrap (2 + IntKind.i64.wrap (↑(BitVec.ofInt IntKind.i64.bits d &&& BitVec.ofInt IntKind.i64.bits 7).toNat : Int)))
                                                    (IntKind.i64.wrap (2 + IntKind.i64.wrap (↑(BitVec.ofInt IntKind.i64.bits h &&& BitVec.ofInt IntKind.i64.bits 7).toNat : Int)))
                                                    (IntKind.i64.wrap
                                                        (IntKind.i64.wrap
                                                            (IntKind.i64.wrap (2 + IntKind.i64.wrap (↑(BitVec.ofInt IntKind.i64.bits w &&& BitVec.ofInt IntKind.i64.bits 7).toNat : Int)) *
                                                              IntKind.i64.wrap (2 + IntKind.i64.wrap (↑(BitVec.ofInt IntKind.i64.bits d &&& BitVec.ofInt IntKind.i64.bits 7).toNat : Int))) *
                                                          IntKind.i64.wrap (2 + IntKind.i64.wrap (↑(BitVec.ofInt IntKind.i64.bits h &&& BitVec.ofInt IntKind.i64.bits 7).toNat : Int)))).toNat
                                                    fun j =>
                                                    (List.replicate
                                                          (IntKind.i64.wrap
                                                              (IntKind.i64.wrap
                                                                  (IntKind.i64.wrap (2 + IntKind.i64.wrap (↑(BitVec.ofInt IntKind.i64.bits w &&& BitVec.ofInt IntKind.i64.bits 7).toNat : Int)) *
                                                                    IntKind.i64.wrap (2 + IntKind.i64.wrap (↑(BitVec.ofInt IntKind.i64.bits d &&& BitVec.ofInt IntKind.i64.bits 7).toNat : Int))) *
                                                                IntKind.i64.wrap (2 + IntKind.i64.wrap (↑(BitVec.ofInt IntKind.i64.bits h &&& BitVec.ofInt IntKind.i64.bits 7).toNat : Int)))).toNat
                                                          false).getD
                                                      (0 + j) false).slide
                                                { x := px, y := py, z := pz } { x := bx, y := b_y, z := bz }).snd.snd.snd ==
                                        !decide
                                            (IntKind.i64.wrap (pz + max (-32768) (min 32768 bz)) ≤
                                              IntKind.i64.wrap
                                                (IntKind.i64.wrap (IntKind.i64.wrap (2 + IntKind.i64.wrap (↑(BitVec.ofInt IntKind.i64.bits h &&& BitVec.ofInt IntKind.i64.bits 7).toNat : Int)) * 65536) -
                                                  58982))),
                                    [])
                              else
                                some
                                  (SV.bool
                                      (((mpOf (IntKind.i64.wrap (2 + IntKind.i64.wrap (↑(BitVec.ofInt IntKind.i64.bits w &&& BitVec.ofInt IntKind.i64.bits 7).toNat : Int)))
                                                    (IntKind.i64.wrap (2 + IntKind.i64.wrap (↑(BitVec.ofInt IntKind.i64.bits d &&& BitVec.ofInt IntKind.i64.bits 7).toNat : Int)))
                                                    (IntKind.i64.wrap (2 + IntKind.i64.wrap (↑(BitVec.ofInt IntKind.i64.bits h &&& BitVec.ofInt IntKind.i64.bits 7).toNat : Int)))
                                                    (IntKind.i64.wrap
                                                        (IntKind.i64.wrap
                                                            (IntKind.i64.wrap (2 + IntKind.i64.wrap (↑(BitVec.ofInt IntKind.i64.bits w &&& BitVec.ofInt IntKind.i64.bits 7).toNat : Int)) *
                                                              IntKind.i64.wrap (2 + IntKind.i64.wrap (↑(BitVec.ofInt IntKind.i64.bits d &&& BitVec.ofInt IntKind.i64.bits 7).toNat : Int))) *
                                                          IntKind.i64.wrap (2 + IntKind.i64.wrap (↑(BitVec.ofInt IntKind.i64.bits h &&& BitVec.ofInt IntKind.i64.bits 7).toNat : Int)))).toNat
                                                    fun j =>
                                                    (List.replicate
                                                          (IntKind.i64.wrap
                                                              (IntKind.i64.wrap
                                                                  (IntKind.i64.wrap (2 + IntKind.i64.wrap (↑(BitVec.ofInt IntKind.i64.bits w &&& BitVec.ofInt IntKind.i64.bits 7).toNat : Int)) *
                                                                    IntKind.i64.wrap (2 + IntKind.i64.wrap (↑(BitVec.ofInt IntKind.i64.bits d &&& BitVec.ofInt IntKind.i64.bits 7).toNat : Int))) *
                                                                IntKind.i64.wrap (2 + IntKind.i64.wrap (↑(BitVec.ofInt IntKind.i64.bits h &&& BitVec.ofInt IntKind.i64.bits 7).toNat : Int)))).toNat
                                                          false).getD
                                                      (0 + j) false).slide
                                                { x := px, y := py, z := pz } { x := bx, y := b_y, z := bz }).snd.snd.snd ==
                                        true),
                                    [])
                            else some (SV.bool false, [])
                          else
                            bif
                                ((mpOf (IntKind.i64.wrap (2 + IntKind.i64.wrap (↑(BitVec.ofInt IntKind.i64.bits w &&& BitVec.ofInt IntKind.i64.bits 7).toNat : Int)))
                                              (IntKind.i64.wrap (2 + IntKind.i64.wrap (↑(BitVec.ofInt IntKind.i64.bits d &&& BitVec.ofInt IntKind.i64.bits 7).toNat : Int)))
                                              (IntKind.i64.wrap (2 + IntKind.i64.wrap (↑(BitVec.ofInt IntKind.i64.bits h &&& BitVec.ofInt IntKind.i64.bits 7).toNat : Int)))
                                              (IntKind.i64.wrap
                                                  (IntKind.i64.wrap
                                                      (IntKind.i64.wrap (2 + IntKind.i64.wrap (↑(BitVec.ofInt IntKind.i64.bits w &&& BitVec.ofInt IntKind.i64.bits 7).toNat : Int)) *
                                                        IntKind.i64.wrap (2 + IntKind.i64.wrap (↑(BitVec.ofInt IntKind.i64.bits d &&& BitVec.ofInt IntKind.i64.bits 7).toNat : Int))) *
                                                    IntKind.i64.wrap (2 + IntKind.i64.wrap (↑(BitVec.ofInt IntKind.i64.bits h &&& BitVec.ofInt IntKind.i64.bits 7).toNat : Int)))).toNat
                                              fun j =>
                                              (List.replicate
                                                    (IntKind.i64.wrap
                                                        (IntKind.i64.wrap
                                                            (IntKind.i64.wrap (2 + IntKind.i64.wrap (↑(BitVec.ofInt IntKind.i64.bits w &&& BitVec.ofInt IntKind.i64.bits 7).toNat : Int)) *
                                                              IntKind.i64.wrap (2 + IntKind.i64.wrap (↑(BitVec.ofInt IntKind.i64.bits d &&& BitVec.ofInt IntKind.i64.bits 7).toNat : Int))) *
                                                          IntKind.i64.wrap (2 + IntKind.i64.wrap (↑(BitVec.ofInt IntKind.i64.bits h &&& BitVec.ofInt IntKind.i64.bits 7).toNat : Int)))).toNat
                                                    false).getD
                                                (0 + j) false).slide
                                          { x := px, y := py, z := pz } { x := bx, y := b_y, z := bz }).snd.snd.fst ==
                                  true then
                              bif decide (IntKind.i64.wrap (pz + max (-32768) (min 32768 bz)) ≥ 58982) then
                                some
                                  (SV.bool
                                      (((mpOf (IntKind.i64.wrap (2 + IntKind.i64.wrap (↑(BitVec.ofInt IntKind.i64.bits w &&& BitVec.ofInt IntKind.i64.bits 7).toNat : Int)))
                                                    (IntKind.i64.wrap (2 + IntKind.i64.wrap (↑(BitVec.ofInt IntKind.i64.bits d &&& BitVec.ofInt IntKind.i64.bits 7).toNat : Int)))
                                                    (IntKind.i64.wrap (2 + IntKind.i64.wrap (↑(BitVec.ofInt IntKind.i64.bits h &&& BitVec.ofInt IntKind.i64.bits 7).toNat : Int)))
                                                    (IntKind.i64.wrap
                                                        (IntKind.i64.wrap
                                                            (IntKind.i64.wrap (2 + IntKind.i64.wrap (↑(BitVec.ofInt IntKind.i64.bits w &&& BitVec.ofInt IntKind.i64.bits 7).toNat : Int)) *
                                                              IntKind.i64.wrap (2 + IntKind.i64.wrap (↑(BitVec.ofInt IntKind.i64.bits d &&& BitVec.ofInt IntKind.i64.bits 7).toNat : Int))) *
                                                          IntKind.i64.wrap (2 + IntKind.i64.wrap (↑(BitVec.ofInt IntKind.i64.bits h &&& BitVec.ofInt IntKind.i64.bits 7).toNat : Int)))).toNat
                                                    fun j =>
                                                    (List.replicate
                                                          (IntKind.i64.wrap
                                                              (IntKind.i64.wrap
                                                                  (IntKind.i64.wrap (2 + IntKind.i64.wrap (↑(BitVec.ofInt IntKind.i64.bits w &&& BitVec.ofInt IntKind.i64.bits 7).toNat : Int)) *
                                                                    IntKind.i64.wrap (2 + IntKind.i64.wrap (↑(BitVec.ofInt IntKind.i64.bits d &&& BitVec.ofInt IntKind.i64.bits 7).toNat : Int))) *
                                                                IntKind.i64.wrap (2 + IntKind.i64.wrap (↑(BitVec.ofInt IntKind.i64.bits h &&& BitVec.ofInt IntKind.i64.bits 7).toNat : Int)))).toNat
                                                          false).getD
                                                      (0 + j) false).slide
                                                { x := px, y := py, z := pz } { x := bx, y := b_y, z := bz }).snd.snd.snd ==
                                        !decide
                                            (IntKind.i64.wrap (pz + max (-32768) (min 32768 bz)) ≤
                                              IntKind.i64.wrap
                                                (IntKind.i64.wrap (IntKind.i64.wrap (2 + IntKind.i64.wrap (↑(BitVec.ofInt IntKind.i64.bits h &&& BitVec.ofInt IntKind.i64.bits 7).toNat : Int)) * 65536) -
                                                  58982))),
                                    [])
                              else
                                some
                                  (SV.bool
                                      (((mpOf (IntKind.i64.wrap (2 + IntKind.i64.wrap (↑(BitVec.ofInt IntKind.i64.bits w &&& BitVec.ofInt IntKind.i64.bits 7).toNat : Int)))
                                                    (IntKind.i64.wrap (2 + IntKind.i64.wrap (↑(BitVec.ofInt IntKind.i64.bits d &&& BitVec.ofInt IntKind.i64.bits 7).toNat : Int)))
                                                    (IntKind.i64.wrap (2 + IntKind.i64.wrap (↑(BitVec.ofInt IntKind.i64.bits h &&& BitVec.ofInt IntKind.i64.bits 7).toNat : Int)))
                                                    (IntKind.i64.wrap
                                                        (IntKind.i64.wrap
                                                            (IntKind.i64.wrap (2 + IntKind.i64.wrap (↑(BitVec.ofInt IntKind.i64.bits w &&& BitVec.ofInt IntKind.i64.bits 7).toNat : Int)) *
                                                              IntKind.i64.wrap (2 + IntKind.i64.wrap (↑(BitVec.ofInt IntKind.i64.bits d &&& BitVec.ofInt IntKind.i64.bits 7).toNat : Int))) *
                                                          IntKind.i64.wrap (2 + IntKind.i64.wrap (↑(BitVec.ofInt IntKind.i64.bits h &&& BitVec.ofInt IntKind.i64.bits 7).toNat : Int)))).toNat
                                                    fun j =>
                                                    (List.replicate
                                                          (IntKind.i64.wrap
                                                              (IntKind.i64.wrap
                                                                  (IntKind.i64.wrap (2 + IntKind.i64.wrap (↑(BitVec.ofInt IntKind.i64.bits w &&& BitVec.ofInt IntKind.i64.bits 7).toNat : Int)) *
                                                                    IntKind.i64.wrap (2 + IntKind.i64.wrap (↑(BitVec.ofInt IntKind.i64.bits d &&& BitVec.ofInt IntKind.i64.bits 7).toNat : Int))) *
                                                                IntKind.i64.wrap (2 + IntKind.i64.wrap (↑(BitVec.ofInt IntKind.i64.bits h &&& BitVec.ofInt IntKind.i64.bits 7).toNat : Int)))).toNat
                                                          false).getD
                                                      (0 + j) false).slide
                                                { x := px, y := py, z := pz } { x := bx, y := b_y, z := bz }).snd.snd.snd ==
                                        true),
                                    [])
                            else some (SV.bool false, [])
                        else some (SV.bool false, [])
                    else none
              else none
            else
              bif
                  mapOk (IntKind.i64.wrap (2 + IntKind.i64.wrap (↑(BitVec.ofInt IntKind.i64.bits w &&& BitVec.ofInt IntKind.i64.bits 7).toNat : Int)))
                      (IntKind.i64.wrap (2 + IntKind.i64.wrap (↑(BitVec.ofInt IntKind.i64.bits d &&& BitVec.ofInt IntKind.i64.bits 7).toNat : Int)))
                      (IntKind.i64.wrap (2 + IntKind.i64.wrap (↑(BitVec.ofInt IntKind.i64.bits h &&& BitVec.ofInt IntKind.i64.bits 7).toNat : Int)))
                      (IntKind.i64.wrap
                          (IntKind.i64.wrap
                              (IntKind.i64.wrap (2 + IntKind.i64.wrap (↑(BitVec.ofInt IntKind.i64.bits w &&& BitVec.ofInt IntKind.i64.bits 7).toNat : Int)) *
                                IntKind.i64.wrap (2 + IntKind.i64.wrap (↑(BitVec.ofInt IntKind.i64.bits d &&& BitVec.ofInt IntKind.i64.bits 7).toNat : Int))) *
                            IntKind.i64.wrap (2 + IntKind.i64.wrap (↑(BitVec.ofInt IntKind.i64.bits h &&& BitVec.ofInt IntKind.i64.bits 7).toNat : Int)))).toNat &&
                    (fitsB { x := px, y := py, z := pz } &&
                      decide
                        (0 +
                            (IntKind.i64.wrap
                                (IntKind.i64.wrap
                                    (IntKind.i64.wrap (2 + IntKind.i64.wrap (↑(BitVec.ofInt IntKind.i64.bits w &&& BitVec.ofInt IntKind.i64.bits 7).toNat : Int)) *
                                      IntKind.i64.wrap (2 + IntKind.i64.wrap (↑(BitVec.ofInt IntKind.i64.bits d &&& BitVec.ofInt IntKind.i64.bits 7).toNat : Int))) *
                                  IntKind.i64.wrap (2 + IntKind.i64.wrap (↑(BitVec.ofInt IntKind.i64.bits h &&& BitVec.ofInt IntKind.i64.bits 7).toNat : Int)))).toNat ≤
                          (List.replicate
                              (IntKind.i64.wrap
                                  (IntKind.i64.wrap
                                      (IntKind.i64.wrap (2 + IntKind.i64.wrap (↑(BitVec.ofInt IntKind.i64.bits w &&& BitVec.ofInt IntKind.i64.bits 7).toNat : Int)) *
                                        IntKind.i64.wrap (2 + IntKind.i64.wrap (↑(BitVec.ofInt IntKind.i64.bits d &&& BitVec.ofInt IntKind.i64.bits 7).toNat : Int))) *
                                    IntKind.i64.wrap (2 + IntKind.i64.wrap (↑(BitVec.ofInt IntKind.i64.bits h &&& BitVec.ofInt IntKind.i64.bits 7).toNat : Int)))).toNat
                              false).length)) then
                bif
                    !(mpOf (IntKind.i64.wrap (2 + IntKind.i64.wrap (↑(BitVec.ofInt IntKind.i64.bits w &&& BitVec.ofInt IntKind.i64.bits 7).toNat : Int)))
                              (IntKind.i64.wrap (2 + IntKind.i64.wrap (↑(BitVec.ofInt IntKind.i64.bits d &&& BitVec.ofInt IntKind.i64.bits 7).toNat : Int)))
                              (IntKind.i64.wrap (2 + IntKind.i64.wrap (↑(BitVec.ofInt IntKind.i64.bits h &&& BitVec.ofInt IntKind.i64.bits 7).toNat : Int)))
                              (IntKind.i64.wrap
                                  (IntKind.i64.wrap
                                      (IntKind.i64.wrap (2 + IntKind.i64.wrap (↑(BitVec.ofInt IntKind.i64.bits w &&& BitVec.ofInt IntKind.i64.bits 7).toNat : Int)) *
                                        IntKind.i64.wrap (2 + IntKind.i64.wrap (↑(BitVec.ofInt IntKind.i64.bits d &&& BitVec.ofInt IntKind.i64.bits 7).toNat : Int))) *
                                    IntKind.i64.wrap (2 + IntKind.i64.wrap (↑(BitVec.ofInt IntKind.i64.bits h &&& BitVec.ofInt IntKind.i64.bits 7).toNat : Int)))).toNat
                              fun j =>
                              (List.replicate
                                    (IntKind.i64.wrap
                                        (IntKind.i64.wrap
                                            (IntKind.i64.wrap (2 + IntKind.i64.wrap (↑(BitVec.ofInt IntKind.i64.bits w &&& BitVec.ofInt IntKind.i64.bits 7).toNat : Int)) *
                                              IntKind.i64.wrap (2 + IntKind.i64.wrap (↑(BitVec.ofInt IntKind.i64.bits d &&& BitVec.ofInt IntKind.i64.bits 7).toNat : Int))) *
                                          IntKind.i64.wrap (2 + IntKind.i64.wrap (↑(BitVec.ofInt IntKind.i64.bits h &&& BitVec.ofInt IntKind.i64.bits 7).toNat : Int)))).toNat
                                    false).getD
                                (0 + j) false).free
                          { x := px, y := py, z := pz } ==
                        false then
                  some (SV.bool false, [])
                else some (SV.bool true, [])
              else none
          else
            bif
                mapOk (IntKind.i64.wrap (2 + IntKind.i64.wrap (↑(BitVec.ofInt IntKind.i64.bits w &&& BitVec.ofInt IntKind.i64.bits 7).toNat : Int)))
                    (IntKind.i64.wrap (2 + IntKind.i64.wrap (↑(BitVec.ofInt IntKind.i64.bits d &&& BitVec.ofInt IntKind.i64.bits 7).toNat : Int)))
                    (IntKind.i64.wrap (2 + IntKind.i64.wrap (↑(BitVec.ofInt IntKind.i64.bits h &&& BitVec.ofInt IntKind.i64.bits 7).toNat : Int)))
                    (IntKind.i64.wrap
                        (IntKind.i64.wrap
                            (IntKind.i64.wrap (2 + IntKind.i64.wrap (↑(BitVec.ofInt IntKind.i64.bits w &&& BitVec.ofInt IntKind.i64.bits 7).toNat : Int)) *
                              IntKind.i64.wrap (2 + IntKind.i64.wrap (↑(BitVec.ofInt IntKind.i64.bits d &&& BitVec.ofInt IntKind.i64.bits 7).toNat : Int))) *
                          IntKind.i64.wrap (2 + IntKind.i64.wrap (↑(BitVec.ofInt IntKind.i64.bits h &&& BitVec.ofInt IntKind.i64.bits 7).toNat : Int)))).toNat &&
                  (fitsB { x := px, y := py, z := pz } &&
                    decide
                      (0 +
                          (IntKind.i64.wrap
                              (IntKind.i64.wrap
                                  (IntKind.i64.wrap (2 + IntKind.i64.wrap (↑(BitVec.ofInt IntKind.i64.bits w &&& BitVec.ofInt IntKind.i64.bits 7).toNat : Int)) *
                                    IntKind.i64.wrap (2 + IntKind.i64.wrap (↑(BitVec.ofInt IntKind.i64.bits d &&& BitVec.ofInt IntKind.i64.bits 7).toNat : Int))) *
                                IntKind.i64.wrap (2 + IntKind.i64.wrap (↑(BitVec.ofInt IntKind.i64.bits h &&& BitVec.ofInt IntKind.i64.bits 7).toNat : Int)))).toNat ≤
                        (List.replicate
                            (IntKind.i64.wrap
                                (IntKind.i64.wrap
                                    (IntKind.i64.wrap (2 + IntKind.i64.wrap (↑(BitVec.ofInt IntKind.i64.bits w &&& BitVec.ofInt IntKind.i64.bits 7).toNat : Int)) *
                                      IntKind.i64.wrap (2 + IntKind.i64.wrap (↑(BitVec.ofInt IntKind.i64.bits d &&& BitVec.ofInt IntKind.i64.bits 7).toNat : Int))) *
                                  IntKind.i64.wrap (2 + IntKind.i64.wrap (↑(BitVec.ofInt IntKind.i64.bits h &&& BitVec.ofInt IntKind.i64.bits 7).toNat : Int)))).toNat
                            false).length)) then
              bif
                  !(mpOf (IntKind.i64.wrap (2 + IntKind.i64.wrap (↑(BitVec.ofInt IntKind.i64.bits w &&& BitVec.ofInt IntKind.i64.bits 7).toNat : Int)))
                            (IntKind.i64.wrap (2 + IntKind.i64.wrap (↑(BitVec.ofInt IntKind.i64.bits d &&& BitVec.ofInt IntKind.i64.bits 7).toNat : Int)))
                            (IntKind.i64.wrap (2 + IntKind.i64.wrap (↑(BitVec.ofInt IntKind.i64.bits h &&& BitVec.ofInt IntKind.i64.bits 7).toNat : Int)))
                            (IntKind.i64.wrap
                                (IntKind.i64.wrap
                                    (IntKind.i64.wrap (2 + IntKind.i64.wrap (↑(BitVec.ofInt IntKind.i64.bits w &&& BitVec.ofInt IntKind.i64.bits 7).toNat : Int)) *
                                      IntKind.i64.wrap (2 + IntKind.i64.wrap (↑(BitVec.ofInt IntKind.i64.bits d &&& BitVec.ofInt IntKind.i64.bits 7).toNat : Int))) *
                                  IntKind.i64.wrap (2 + IntKind.i64.wrap (↑(BitVec.ofInt IntKind.i64.bits h &&& BitVec.ofInt IntKind.i64.bits 7).toNat : Int)))).toNat
                            fun j =>
                            (List.replicate
                                  (IntKind.i64.wrap
                                      (IntKind.i64.wrap
                                          (IntKind.i64.wrap (2 + IntKind.i64.wrap (↑(BitVec.ofInt IntKind.i64.bits w &&& BitVec.ofInt IntKind.i64.bits 7).toNat : Int)) *
                                            IntKind.i64.wrap (2 + IntKind.i64.wrap (↑(BitVec.ofInt IntKind.i64.bits d &&& BitVec.ofInt IntKind.i64.bits 7).toNat : Int))) *
                                        IntKind.i64.wrap (2 + IntKind.i64.wrap (↑(BitVec.ofInt IntKind.i64.bits h &&& BitVec.ofInt IntKind.i64.bits 7).toNat : Int)))).toNat
                                  false).getD
                              (0 + j) false).free
                        { x := px, y := py, z := pz } ==
                      false then
                some (SV.bool false, [])
              else some (SV.bool true, [])
            else none
        else
          bif
              mapOk (IntKind.i64.wrap (2 + IntKind.i64.wrap (↑(BitVec.ofInt IntKind.i64.bits w &&& BitVec.ofInt IntKind.i64.bits 7).toNat : Int)))
                  (IntKind.i64.wrap (2 + IntKind.i64.wrap (↑(BitVec.ofInt IntKind.i64.bits d &&& BitVec.ofInt IntKind.i64.bits 7).toNat : Int)))
                  (IntKind.i64.wrap (2 + IntKind.i64.wrap (↑(BitVec.ofInt IntKind.i64.bits h &&& BitVec.ofInt IntKind.i64.bits 7).toNat : Int)))
                  (IntKind.i64.wrap
                      (IntKind.i64.wrap
                          (IntKind.i64.wrap (2 + IntKind.i64.wrap (↑(BitVec.ofInt IntKind.i64.bits w &&& BitVec.ofInt IntKind.i64.bits 7).toNat : Int)) *
                            IntKind.i64.wrap (2 + IntKind.i64.wrap (↑(BitVec.ofInt IntKind.i64.bits d &&& BitVec.ofInt IntKind.i64.bits 7).toNat : Int))) *
                        IntKind.i64.wrap (2 + IntKind.i64.wrap (↑(BitVec.ofInt IntKind.i64.bits h &&& BitVec.ofInt IntKind.i64.bits 7).toNat : Int)))).toNat &&
                (fitsB { x := px, y := py, z := pz } &&
                  decide
                    (0 +
                        (IntKind.i64.wrap
                            (IntKind.i64.wrap
                                (IntKind.i64.wrap (2 + IntKind.i64.wrap (↑(BitVec.ofInt IntKind.i64.bits w &&& BitVec.ofInt IntKind.i64.bits 7).toNat : Int)) *
                                  IntKind.i64.wrap (2 + IntKind.i64.wrap (↑(BitVec.ofInt IntKind.i64.bits d &&& BitVec.ofInt IntKind.i64.bits 7).toNat : Int))) *
                              IntKind.i64.wrap (2 + IntKind.i64.wrap (↑(BitVec.ofInt IntKind.i64.bits h &&& BitVec.ofInt IntKind.i64.bits 7).toNat : Int)))).toNat ≤
                      (List.replicate
                          (IntKind.i64.wrap
                              (IntKind.i64.wrap
                                  (IntKind.i64.wrap (2 + IntKind.i64.wrap (↑(BitVec.ofInt IntKind.i64.bits w &&& BitVec.ofInt IntKind.i64.bits 7).toNat : Int)) *
                                    IntKind.i64.wrap (2 + IntKind.i64.wrap (↑(BitVec.ofInt IntKind.i64.bits d &&& BitVec.ofInt IntKind.i64.bits 7).toNat : Int))) *
                                IntKind.i64.wrap (2 + IntKind.i64.wrap (↑(BitVec.ofInt IntKind.i64.bits h &&& BitVec.ofInt IntKind.i64.bits 7).toNat : Int)))).toNat
                          false).length)) then
            bif
                !(mpOf (IntKind.i64.wrap (2 + IntKind.i64.wrap (↑(BitVec.ofInt IntKind.i64.bits w &&& BitVec.ofInt IntKind.i64.bits 7).toNat : Int)))
                          (IntKind.i64.wrap (2 + IntKind.i64.wrap (↑(BitVec.ofInt IntKind.i64.bits d &&& BitVec.ofInt IntKind.i64.bits 7).toNat : Int)))
                          (IntKind.i64.wrap (2 + IntKind.i64.wrap (↑(BitVec.ofInt IntKind.i64.bits h &&& BitVec.ofInt IntKind.i64.bits 7).toNat : Int)))
                          (IntKind.i64.wrap
                              (IntKind.i64.wrap
                                  (IntKind.i64.wrap (2 + IntKind.i64.wrap (↑(BitVec.ofInt IntKind.i64.bits w &&& BitVec.ofInt IntKind.i64.bits 7).toNat : Int)) *
                                    IntKind.i64.wrap (2 + IntKind.i64.wrap (↑(BitVec.ofInt IntKind.i64.bits d &&& BitVec.ofInt IntKind.i64.bits 7).toNat : Int))) *
                                IntKind.i64.wrap (2 + IntKind.i64.wrap (↑(BitVec.ofInt IntKind.i64.bits h &&& BitVec.ofInt IntKind.i64.bits 7).toNat : Int)))).toNat
                          fun j =>
                          (List.replicate
                                (IntKind.i64.wrap
                                    (IntKind.i64.wrap
                                        (IntKind.i64.wrap (2 + IntKind.i64.wrap (↑(BitVec.ofInt IntKind.i64.bits w &&& BitVec.ofInt IntKind.i64.bits 7).toNat : Int)) *
                                          IntKind.i64.wrap (2 + IntKind.i64.wrap (↑(BitVec.ofInt IntKind.i64.bits d &&& BitVec.ofInt IntKind.i64.bits 7).toNat : Int))) *
                                      IntKind.i64.wrap (2 + IntKind.i64.wrap (↑(BitVec.ofInt IntKind.i64.bits h &&& BitVec.ofInt IntKind.i64.bits 7).toNat : Int)))).toNat
                                false).getD
                            (0 + j) false).free
                      { x := px, y := py, z := pz } ==
                    false then
              some (SV.bool false, [])
            else some (SV.bool true, [])
          else none
      else
        bif
            mapOk (IntKind.i64.wrap (2 + IntKind.i64.wrap (↑(BitVec.ofInt IntKind.i64.bits w &&& BitVec.ofInt IntKind.i64.bits 7).toNat : Int)))
                (IntKind.i64.wrap (2 + IntKind.i64.wrap (↑(BitVec.ofInt IntKind.i64.bits d &&& BitVec.ofInt IntKind.i64.bits 7).toNat : Int)))
                (IntKind.i64.wrap (2 + IntKind.i64.wrap (↑(BitVec.ofInt IntKind.i64.bits h &&& BitVec.ofInt IntKind.i64.bits 7).toNat : Int)))
                (IntKind.i64.wrap
                    (IntKind.i64.wrap
                        (IntKind.i64.wrap (2 + IntKind.i64.wrap (↑(BitVec.ofInt IntKind.i64.bits w &&& BitVec.ofInt IntKind.i64.bits 7).toNat : Int)) *
                          IntKind.i64.wrap (2 + IntKind.i64.wrap (↑(BitVec.ofInt IntKind.i64.bits d &&& BitVec.ofInt IntKind.i64.bits 7).toNat : Int))) *
                      IntKind.i64.wrap (2 + IntKind.i64.wrap (↑(BitVec.ofInt IntKind.i64.bits h &&& BitVec.ofInt IntKind.i64.bits 7).toNat : Int)))).toNat &&
              (fitsB { x := px, y := py, z := pz } &&
                decide
                  (0 +
                      (IntKind.i64.wrap
                          (IntKind.i64.wrap
                              (IntKind.i64.wrap (2 + IntKind.i64.wrap (↑(BitVec.ofInt IntKind.i64.bits w &&& BitVec.ofInt IntKind.i64.bits 7).toNat : Int)) *
                                IntKind.i64.wrap (2 + IntKind.i64.wrap (↑(BitVec.ofInt IntKind.i64.bits d &&& BitVec.ofInt IntKind.i64.bits 7).toNat : Int))) *
                            IntKind.i64.wrap (2 + IntKind.i64.wrap (↑(BitVec.ofInt IntKind.i64.bits h &&& BitVec.ofInt IntKind.i64.bits 7).toNat : Int)))).toNat ≤
                    (List.replicate
                        (IntKind.i64.wrap
                            (IntKind.i64.wrap
                                (IntKind.i64.wrap (2 + IntKind.i64.wrap (↑(BitVec.ofInt IntKind.i64.bits w &&& BitVec.ofInt IntKind.i64.bits 7).toNat : Int)) *
                                  IntKind.i64.wrap (2 + IntKind.i64.wrap (↑(BitVec.ofInt IntKind.i64.bits d &&& BitVec.ofInt IntKind.i64.bits 7).toNat : Int))) *
                              IntKind.i64.wrap (2 + IntKind.i64.wrap (↑(BitVec.ofInt IntKind.i64.bits h &&& BitVec.ofInt IntKind.i64.bits 7).toNat : Int)))).toNat
                        false).length)) then
          bif
              !(mpOf (IntKind.i64.wrap (2 + IntKind.i64.wrap (↑(BitVec.ofInt IntKind.i64.bits w &&& BitVec.ofInt IntKind.i64.bits 7).toNat : Int)))
                        (IntKind.i64.wrap (2 + IntKind.i64.wrap (↑(BitVec.ofInt IntKind.i64.bits d &&& BitVec.ofInt IntKind.i64.bits 7).toNat : Int)))
                        (IntKind.i64.wrap (2 + IntKind.i64.wrap (↑(BitVec.ofInt IntKind.i64.bits h &&& BitVec.ofInt IntKind.i64.bits 7).toNat : Int)))
                        (IntKind.i64.wrap
                            (IntKind.i64.wrap
                                (IntKind.i64.wrap (2 + IntKind.i64.wrap (↑(BitVec.ofInt IntKind.i64.bits w &&& BitVec.ofInt IntKind.i64.bits 7).toNat : Int)) *
                                  IntKind.i64.wrap (2 + IntKind.i64.wrap (↑(BitVec.ofInt IntKind.i64.bits d &&& BitVec.ofInt IntKind.i64.bits 7).toNat : Int))) *
                              IntKind.i64.wrap (2 + IntKind.i64.wrap (↑(BitVec.ofInt IntKind.i64.bits h &&& BitVec.ofInt IntKind.i64.bits 7).toNat : Int)))).toNat
                        fun j =>
                        (List.replicate
                              (IntKind.i64.wrap
                                  (IntKind.i64.wrap
                                      (IntKind.i64.wrap (2 + IntKind.i64.wrap (↑(BitVec.ofInt IntKind.i64.bits w &&& BitVec.ofInt IntKind.i64.bits 7).toNat : Int)) *
                                        IntKind.i64.wrap (2 + IntKind.i64.wrap (↑(BitVec.ofInt IntKind.i64.bits d &&& BitVec.ofInt IntKind.i64.bits 7).toNat : Int))) *
                                    IntKind.i64.wrap (2 + IntKind.i64.wrap (↑(BitVec.ofInt IntKind.i64.bits h &&& BitVec.ofInt IntKind.i64.bits 7).toNat : Int)))).toNat
                              false).getD
                          (0 + j) false).free
                    { x := px, y := py, z := pz } ==
                  false then
            some (SV.bool false, [])
          else some (SV.bool true, [])
        else none
    else
      bif
          mapOk (IntKind.i64.wrap (2 + IntKind.i64.wrap (↑(BitVec.ofInt IntKind.i64.bits w &&& BitVec.ofInt IntKind.i64.bits 7).toNat : Int)))
              (IntKind.i64.wrap (2 + IntKind.i64.wrap (↑(BitVec.ofInt IntKind.i64.bits d &&& BitVec.ofInt IntKind.i64.bits 7).toNat : Int)))
              (IntKind.i64.wrap (2 + IntKind.i64.wrap (↑(BitVec.ofInt IntKind.i64.bits h &&& BitVec.ofInt IntKind.i64.bits 7).toNat : Int)))
              (IntKind.i64.wrap
                  (IntKind.i64.wrap
                      (IntKind.i64.wrap (2 + IntKind.i64.wrap (↑(BitVec.ofInt IntKind.i64.bits w &&& BitVec.ofInt IntKind.i64.bits 7).toNat : Int)) *
                        IntKind.i64.wrap (2 + IntKind.i64.wrap (↑(BitVec.ofInt IntKind.i64.bits d &&& BitVec.ofInt IntKind.i64.bits 7).toNat : Int))) *
                    IntKind.i64.wrap (2 + IntKind.i64.wrap (↑(BitVec.ofInt IntKind.i64.bits h &&& BitVec.ofInt IntKind.i64.bits 7).toNat : Int)))).toNat &&
            (fitsB { x := px, y := py, z := pz } &&
              decide
                (0 +
                    (IntKind.i64.wrap
                        (IntKind.i64.wrap
                            (IntKind.i64.wrap (2 + IntKind.i64.wrap (↑(BitVec.ofInt IntKind.i64.bits w &&& BitVec.ofInt IntKind.i64.bits 7).toNat : Int)) *
                              IntKind.i64.wrap (2 + IntKind.i64.wrap (↑(BitVec.ofInt IntKind.i64.bits d &&& BitVec.ofInt IntKind.i64.bits 7).toNat : Int))) *
                          IntKind.i64.wrap (2 + IntKind.i64.wrap (↑(BitVec.ofInt IntKind.i64.bits h &&& BitVec.ofInt IntKind.i64.bits 7).toNat : Int)))).toNat ≤
                  (List.replicate
                      (IntKind.i64.wrap
                          (IntKind.i64.wrap
                              (IntKind.i64.wrap (2 + IntKind.i64.wrap (↑(BitVec.ofInt IntKind.i64.bits w &&& BitVec.ofInt IntKind.i64.bits 7).toNat : Int)) *
                                IntKind.i64.wrap (2 + IntKind.i64.wrap (↑(BitVec.ofInt IntKind.i64.bits d &&& BitVec.ofInt IntKind.i64.bits 7).toNat : Int))) *
                            IntKind.i64.wrap (2 + IntKind.i64.wrap (↑(BitVec.ofInt IntKind.i64.bits h &&& BitVec.ofInt IntKind.i64.bits 7).toNat : Int)))).toNat
                      false).length)) then
        bif
            !(mpOf (IntKind.i64.wrap (2 + IntKind.i64.wrap (↑(BitVec.ofInt IntKind.i64.bits w &&& BitVec.ofInt IntKind.i64.bits 7).toNat : Int)))
                      (IntKind.i64.wrap (2 + IntKind.i64.wrap (↑(BitVec.ofInt IntKind.i64.bits d &&& BitVec.ofInt IntKind.i64.bits 7).toNat : Int)))
                      (IntKind.i64.wrap (2 + IntKind.i64.wrap (↑(BitVec.ofInt IntKind.i64.bits h &&& BitVec.ofInt IntKind.i64.bits 7).toNat : Int)))
                      (IntKind.i64.wrap
                          (IntKind.i64.wrap
                              (IntKind.i64.wrap (2 + IntKind.i64.wrap (↑(BitVec.ofInt IntKind.i64.bits w &&& BitVec.ofInt IntKind.i64.bits 7).toNat : Int)) *
                                IntKind.i64.wrap (2 + IntKind.i64.wrap (↑(BitVec.ofInt IntKind.i64.bits d &&& BitVec.ofInt IntKind.i64.bits 7).toNat : Int))) *
                            IntKind.i64.wrap (2 + IntKind.i64.wrap (↑(BitVec.ofInt IntKind.i64.bits h &&& BitVec.ofInt IntKind.i64.bits 7).toNat : Int)))).toNat
                      fun j =>
                      (List.replicate
                            (IntKind.i64.wrap
                                (IntKind.i64.wrap
                                    (IntKind.i64.wrap (2 + IntKind.i64.wrap (↑(BitVec.ofInt IntKind.i64.bits w &&& BitVec.ofInt IntKind.i64.bits 7).toNat : Int)) *
                                      IntKind.i64.wrap (2 + IntKind.i64.wrap (↑(BitVec.ofInt IntKind.i64.bits d &&& BitVec.ofInt IntKind.i64.bits 7).toNat : Int))) *
                                  IntKind.i64.wrap (2 + IntKind.i64.wrap (↑(BitVec.ofInt IntKind.i64.bits h &&& BitVec.ofInt IntKind.i64.bits 7).toNat : Int)))).toNat
                            false).getD
                        (0 + j) false).free
                  { x := px, y := py, z := pz } ==
                false then
          some (SV.bool false, [])
        else some (SV.bool true, [])
      else none
  else none := by kernel_rfl


theorem rep_getD (n j : Nat) : (List.replicate n false).getD j false = false := by
  rw [List.getD_eq_getElem?_getD, List.getElem?_replicate]
  split <;> rfl

theorem hall_law {w d h : Int} {p b : V3} (hp : p.fits) :
    runK x10b (fun _ _ => none) 200 7 Try.f7 0 [.int .i64 w, .int .i64 d, .int .i64 h, .agg [.int .i64 p.x, .int .i64 p.y, .int .i64 p.z], .agg [.int .i64 b.x, .int .i64 b.y, .int .i64 b.z]] [] = some (.bool true, []) := by
  rw [hall_tree]
  have sW := seven (w := w)
  have sD := seven (w := d)
  have sH := seven (w := h)
  generalize IntKind.i64.wrap (2 + IntKind.i64.wrap ((BitVec.ofInt IntKind.i64.bits w &&& BitVec.ofInt IntKind.i64.bits 7).toNat : Int)) = W at sW ⊢
  generalize IntKind.i64.wrap (2 + IntKind.i64.wrap ((BitVec.ofInt IntKind.i64.bits d &&& BitVec.ofInt IntKind.i64.bits 7).toNat : Int)) = D at sD ⊢
  generalize IntKind.i64.wrap (2 + IntKind.i64.wrap ((BitVec.ofInt IntKind.i64.bits h &&& BitVec.ofInt IntKind.i64.bits 7).toNat : Int)) = H at sH ⊢
  have h3 := prod3 sW sD sH
  have v1 : IntKind.i64.wrap (W * D) = W * D := IntWalk.i64_in _ (by omega)
  have v2 : IntKind.i64.wrap (W * D * H) = W * D * H := IntWalk.i64_in _ (by omega)
  have hfr := hall_free sW sD sH (s := fun j => (List.replicate (W * D * H).toNat false).getD (0 + j) false) (fun j => rep_getD _ _) hp
  have hsl := hall_slide sW sD sH (s := fun j => (List.replicate (W * D * H).toNat false).getD (0 + j) false) (fun j => rep_getD _ _) (p := p) b
  have k1 : IntKind.i64.wrap (W * 65536) = W * 65536 := IntWalk.i64_in _ (by omega)
  have k2 : IntKind.i64.wrap (D * 65536) = D * 65536 := IntWalk.i64_in _ (by omega)
  have k3 : IntKind.i64.wrap (H * 65536) = H * 65536 := IntWalk.i64_in _ (by omega)
  have k4 : IntKind.i64.wrap (W * 65536 - 26214) = W * 65536 - 26214 := IntWalk.i64_in _ (by omega)
  have k5 : IntKind.i64.wrap (D * 65536 - 26214) = D * 65536 - 26214 := IntWalk.i64_in _ (by omega)
  have k6 : IntKind.i64.wrap (H * 65536 - 58982) = H * 65536 - 58982 := IntWalk.i64_in _ (by omega)
  have c1 : (decide (0 ≤ W * D * H) && (decide (W * D * H ≤ 9223372036854775807) && (decide ((1 : Int) * (W * D * H) ≤ 2 ^ 48) && decide (W * D * H = W * D * H)))) = true := by
    rw [Int.one_mul]
    simp only [Bool.and_eq_true, decide_eq_true_eq]
    have e48 : (2 : Int) ^ 48 = 281474976710656 := by decide
    rw [e48]
    refine ⟨by omega, by omega, by omega, by trivial⟩
  have c2 : (mapOk W D H (W * D * H).toNat && (fitsB { x := p.x, y := p.y, z := p.z } && decide (0 + (W * D * H).toNat ≤ (List.replicate (W * D * H).toNat false).length))) = true := by
    unfold mapOk
    simp only [Bool.and_eq_true, in64B_iff, decide_eq_true_eq, List.length_replicate, Nat.zero_add, Nat.le_refl, and_true]
    refine ⟨⟨?_, ?_, ?_, by omega⟩, fitsB_iff.2 hp⟩ <;> (unfold In64; omega)
  have ep : (⟨p.x, p.y, p.z⟩ : V3) = p := rfl
  have eb : (⟨b.x, b.y, b.z⟩ : V3) = b := rfl
  rw [v1, v2, c1]
  simp only [c2, k1, k2, k3, k4, k5, k6, cond_true, ep, eb, clampN_eq, ge_iff_le]
  rw [hfr]
  unfold inX
  have q1 : ∀ r s x, inX r s x = (decide (r ≤ x) && decide (x ≤ s * 65536 - r)) := fun _ _ _ => rfl
  cases t1 : decide (26214 ≤ p.x)
  · rfl
  cases t2 : decide (p.x ≤ W * 65536 - 26214)
  · rfl
  cases t3 : decide (26214 ≤ p.y)
  · rfl
  cases t4 : decide (p.y ≤ D * 65536 - 26214)
  · rfl
  cases t5 : decide (58982 ≤ p.z)
  · rfl
  cases t6 : decide (p.z ≤ H * 65536 - 58982)
  · rfl
  have gx : inX 26214 W p.x = true := by rw [q1, t1, t2]; rfl
  have gy : inX 26214 D p.y = true := by rw [q1, t3, t4]; rfl
  have gz : inX 58982 H p.z = true := by rw [q1, t5, t6]; rfl
  rw [hsl gx gy gz]
  have ix := inX_le (by omega) (by omega) gx
  have iy := inX_le (by omega) (by omega) gy
  have iz := inX_le (by omega) (by omega) gz
  have cx := clampN_in b.x
  have cy := clampN_in b.y
  have cz := clampN_in b.z
  have w1 : IntKind.i64.wrap (p.x + clampN 32768 b.x) = p.x + clampN 32768 b.x := IntWalk.i64_in _ (by omega)
  have w2 : IntKind.i64.wrap (p.y + clampN 32768 b.y) = p.y + clampN 32768 b.y := IntWalk.i64_in _ (by omega)
  have w3 : IntKind.i64.wrap (p.z + clampN 32768 b.z) = p.z + clampN 32768 b.z := IntWalk.i64_in _ (by omega)
  simp only [w1, w2, w3]
  unfold inX
  cases decide (26214 ≤ p.x + clampN 32768 b.x) <;> cases decide (p.x + clampN 32768 b.x ≤ W * 65536 - 26214) <;> cases decide (26214 ≤ p.y + clampN 32768 b.y) <;> cases decide (p.y + clampN 32768 b.y ≤ D * 65536 - 26214) <;> cases decide (58982 ≤ p.z + clampN 32768 b.z) <;> cases decide (p.z + clampN 32768 b.z ≤ H * 65536 - 58982) <;> rfl

end Go.Proofs.Ytnfhlfmcgeaagaa
