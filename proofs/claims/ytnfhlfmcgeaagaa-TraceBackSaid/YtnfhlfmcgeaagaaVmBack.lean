/- TraceBack: the law's call returns true. -/
import Derived.Test.YtnfhlfmcgeaagaaVmHall
namespace Go.Proofs.Ytnfhlfmcgeaagaa
set_option linter.unusedSimpArgs false
set_option linter.unusedVariables false
open Go.RowKit

set_option maxRecDepth 100000 in
set_option maxHeartbeats 0 in
theorem back_tree (w d h px py pz bx b_y bz : Int) : runK x10b (fun _ _ => none) 200 8 Try.f8 0 [.int .i64 w, .int .i64 d, .int .i64 h, .agg [.int .i64 px, .int .i64 py, .int .i64 pz], .agg [.int .i64 bx, .int .i64 b_y, .int .i64 bz]] [] =
  bif
      decide
          (0 ≤
            IntKind.i64.wrap
              (IntKind.i64.wrap
                  (IntKind.i64.wrap (2 + IntKind.i64.wrap (↑(BitVec.ofInt IntKind.i64.bits w &&& BitVec.ofInt IntKind.i64.bits 7).toNat : Int)) *
                    IntKind.i64.wrap (2 + IntKind.i64.wrap (↑(BitVec.ofInt IntKind.i64.bits d &&& BitVec.ofInt IntKind.i64.bits 7).toNat : Int))) *
                IntKind.i64.wrap (2 + IntKind.i64.wrap (↑(BitVec.ofInt IntKind.i64.bits h &&& BitVec.ofInt IntKind.i64.bits 7).toNat : Int)))) &&
        (decide
            (IntKind.i64.wrap
                (IntKind.i64.wrap
                    (IntKind.i64.wrap (2 + IntKind.i64.wrap (↑(BitVec.ofInt IntKind.i64.bits w &&& BitVec.ofInt IntKind.i64.bits 7).toNat : Int)) *
                      IntKind.i64.wrap (2 + IntKind.i64.wrap (↑(BitVec.ofInt IntKind.i64.bits d &&& BitVec.ofInt IntKind.i64.bits 7).toNat : Int))) *
                  IntKind.i64.wrap (2 + IntKind.i64.wrap (↑(BitVec.ofInt IntKind.i64.bits h &&& BitVec.ofInt IntKind.i64.bits 7).toNat : Int))) ≤
              9223372036854775807) &&
          (decide
              ((↑1 : Int) *
                  IntKind.i64.wrap
                    (IntKind.i64.wrap
                        (IntKind.i64.wrap (2 + IntKind.i64.wrap (↑(BitVec.ofInt IntKind.i64.bits w &&& BitVec.ofInt IntKind.i64.bits 7).toNat : Int)) *
                          IntKind.i64.wrap (2 + IntKind.i64.wrap (↑(BitVec.ofInt IntKind.i64.bits d &&& BitVec.ofInt IntKind.i64.bits 7).toNat : Int))) *
                      IntKind.i64.wrap (2 + IntKind.i64.wrap (↑(BitVec.ofInt IntKind.i64.bits h &&& BitVec.ofInt IntKind.i64.bits 7).toNat : Int))) ≤
                2 ^ 48) &&
            decide
              (IntKind.i64.wrap
                  (IntKind.i64.wrap
                      (IntKind.i64.wrap (2 + IntKind.i64.wrap (↑(BitVec.ofInt IntKind.i64.bits w &&& BitVec.ofInt IntKind.i64.bits 7).toNat : Int)) *
                        IntKind.i64.wrap (2 + IntKind.i64.wrap (↑(BitVec.ofInt IntKind.i64.bits d &&& BitVec.ofInt IntKind.i64.bits 7).toNat : Int))) *
                    IntKind.i64.wrap (2 + IntKind.i64.wrap (↑(BitVec.ofInt IntKind.i64.bits h &&& BitVec.ofInt IntKind.i64.bits 7).toNat : Int))) =
                IntKind.i64.wrap
                  (IntKind.i64.wrap
                      (IntKind.i64.wrap (2 + IntKind.i64.wrap (↑(BitVec.ofInt IntKind.i64.bits w &&& BitVec.ofInt IntKind.i64.bits 7).toNat : Int)) *
                        IntKind.i64.wrap (2 + IntKind.i64.wrap (↑(BitVec.ofInt IntKind.i64.bits d &&& BitVec.ofInt IntKind.i64.bits 7).toNat : Int))) *
                    IntKind.i64.wrap (2 + IntKind.i64.wrap (↑(BitVec.ofInt IntKind.i64.bits h &&& BitVec.ofInt IntKind.i64.bits 7).toNat : Int)))))) then
    bif
        mapOk (IntKind.i64.wrap (2 + IntKind.i64.wrap (↑(BitVec.ofInt IntKind.i64.bits w &&& BitVec.ofInt IntKind.i64.bits 7).toNat : Int)))
            (IntKind.i64.wrap (2 + IntKind.i64.wrap (↑(BitVec.ofInt IntKind.i64.bits d &&& BitVec.ofInt IntKind.i64.bits 7).toNat : Int)))
            (IntKind.i64.wrap (2 + IntKind.i64.wrap (↑(BitVec.ofInt IntKind.i64.bits h &&& BitVec.ofInt IntKind.i64.bits 7).toNat : Int)))
            (IntKind.i64.wrap
                (IntKind.i64.wrap
                    (IntKind.i64.wrap (2 + IntKind.i64.wrap (↑(BitVec.ofInt IntKind.i64.bits w &&& BitVec.ofInt IntKind.i64.bits 7).toNat : Int)) *
                      IntKind.i64.wrap (2 + IntKind.i64.wrap (↑(BitVec.ofInt IntKind.i64.bits d &&& BitVec.ofInt IntKind.i64.bits 7).toNat : Int))) *
                  IntKind.i64.wrap (2 + IntKind.i64.wrap (↑(BitVec.ofInt IntKind.i64.bits h &&& BitVec.ofInt IntKind.i64.bits 7).toNat : Int)))).toNat &&
          (fitsB { x := px, y := py, z := pz } &&
            decide
              (0 +
                  (IntKind.i64.wrap
                      (IntKind.i64.wrap
                          (IntKind.i64.wrap (2 + IntKind.i64.wrap (↑(BitVec.ofInt IntKind.i64.bits w &&& BitVec.ofInt IntKind.i64.bits 7).toNat : Int)) *
                            IntKind.i64.wrap (2 + IntKind.i64.wrap (↑(BitVec.ofInt IntKind.i64.bits d &&& BitVec.ofInt IntKind.i64.bits 7).toNat : Int))) *
                        IntKind.i64.wrap (2 + IntKind.i64.wrap (↑(BitVec.ofInt IntKind.i64.bits h &&& BitVec.ofInt IntKind.i64.bits 7).toNat : Int)))).toNat ≤
                (List.replicate
                    (IntKind.i64.wrap
                        (IntKind.i64.wrap
                            (IntKind.i64.wrap (2 + IntKind.i64.wrap (↑(BitVec.ofInt IntKind.i64.bits w &&& BitVec.ofInt IntKind.i64.bits 7).toNat : Int)) *
                              IntKind.i64.wrap (2 + IntKind.i64.wrap (↑(BitVec.ofInt IntKind.i64.bits d &&& BitVec.ofInt IntKind.i64.bits 7).toNat : Int))) *
                          IntKind.i64.wrap (2 + IntKind.i64.wrap (↑(BitVec.ofInt IntKind.i64.bits h &&& BitVec.ofInt IntKind.i64.bits 7).toNat : Int)))).toNat
                    false).length)) then
      bif
          !(mpOf (IntKind.i64.wrap (2 + IntKind.i64.wrap (↑(BitVec.ofInt IntKind.i64.bits w &&& BitVec.ofInt IntKind.i64.bits 7).toNat : Int)))
                  (IntKind.i64.wrap (2 + IntKind.i64.wrap (↑(BitVec.ofInt IntKind.i64.bits d &&& BitVec.ofInt IntKind.i64.bits 7).toNat : Int)))
                  (IntKind.i64.wrap (2 + IntKind.i64.wrap (↑(BitVec.ofInt IntKind.i64.bits h &&& BitVec.ofInt IntKind.i64.bits 7).toNat : Int)))
                  (IntKind.i64.wrap
                      (IntKind.i64.wrap
                          (IntKind.i64.wrap (2 + IntKind.i64.wrap (↑(BitVec.ofInt IntKind.i64.bits w &&& BitVec.ofInt IntKind.i64.bits 7).toNat : Int)) *
                            IntKind.i64.wrap (2 + IntKind.i64.wrap (↑(BitVec.ofInt IntKind.i64.bits d &&& BitVec.ofInt IntKind.i64.bits 7).toNat : Int))) *
                        IntKind.i64.wrap (2 + IntKind.i64.wrap (↑(BitVec.ofInt IntKind.i64.bits h &&& BitVec.ofInt IntKind.i64.bits 7).toNat : Int)))).toNat
                  fun j =>
                  (List.replicate
                        (IntKind.i64.wrap
                            (IntKind.i64.wrap
                                (IntKind.i64.wrap (2 + IntKind.i64.wrap (↑(BitVec.ofInt IntKind.i64.bits w &&& BitVec.ofInt IntKind.i64.bits 7).toNat : Int)) *
                                  IntKind.i64.wrap (2 + IntKind.i64.wrap (↑(BitVec.ofInt IntKind.i64.bits d &&& BitVec.ofInt IntKind.i64.bits 7).toNat : Int))) *
                              IntKind.i64.wrap (2 + IntKind.i64.wrap (↑(BitVec.ofInt IntKind.i64.bits h &&& BitVec.ofInt IntKind.i64.bits 7).toNat : Int)))).toNat
                        false).getD
                    (0 + j) false).free
              { x := px, y := py, z := pz } then
        some (SV.bool true, [])
      else
        bif
            mapOk (IntKind.i64.wrap (2 + IntKind.i64.wrap (↑(BitVec.ofInt IntKind.i64.bits w &&& BitVec.ofInt IntKind.i64.bits 7).toNat : Int)))
                (IntKind.i64.wrap (2 + IntKind.i64.wrap (↑(BitVec.ofInt IntKind.i64.bits d &&& BitVec.ofInt IntKind.i64.bits 7).toNat : Int)))
                (IntKind.i64.wrap (2 + IntKind.i64.wrap (↑(BitVec.ofInt IntKind.i64.bits h &&& BitVec.ofInt IntKind.i64.bits 7).toNat : Int)))
                (IntKind.i64.wrap
                    (IntKind.i64.wrap
                        (IntKind.i64.wrap (2 + IntKind.i64.wrap (↑(BitVec.ofInt IntKind.i64.bits w &&& BitVec.ofInt IntKind.i64.bits 7).toNat : Int)) *
                          IntKind.i64.wrap (2 + IntKind.i64.wrap (↑(BitVec.ofInt IntKind.i64.bits d &&& BitVec.ofInt IntKind.i64.bits 7).toNat : Int))) *
                      IntKind.i64.wrap (2 + IntKind.i64.wrap (↑(BitVec.ofInt IntKind.i64.bits h &&& BitVec.ofInt IntKind.i64.bits 7).toNat : Int)))).toNat &&
              (fitsB { x := px, y := py, z := pz } &&
                decide
                  (0 +
                      (IntKind.i64.wrap
                          (IntKind.i64.wrap
                              (IntKind.i64.wrap (2 + IntKind.i64.wrap (↑(BitVec.ofInt IntKind.i64.bits w &&& BitVec.ofInt IntKind.i64.bits 7).toNat : Int)) *
                                IntKind.i64.wrap (2 + IntKind.i64.wrap (↑(BitVec.ofInt IntKind.i64.bits d &&& BitVec.ofInt IntKind.i64.bits 7).toNat : Int))) *
                            IntKind.i64.wrap (2 + IntKind.i64.wrap (↑(BitVec.ofInt IntKind.i64.bits h &&& BitVec.ofInt IntKind.i64.bits 7).toNat : Int)))).toNat ≤
                    (List.replicate
                        (IntKind.i64.wrap
                            (IntKind.i64.wrap
                                (IntKind.i64.wrap (2 + IntKind.i64.wrap (↑(BitVec.ofInt IntKind.i64.bits w &&& BitVec.ofInt IntKind.i64.bits 7).toNat : Int)) *
                                  IntKind.i64.wrap (2 + IntKind.i64.wrap (↑(BitVec.ofInt IntKind.i64.bits d &&& BitVec.ofInt IntKind.i64.bits 7).toNat : Int))) *
                              IntKind.i64.wrap (2 + IntKind.i64.wrap (↑(BitVec.ofInt IntKind.i64.bits h &&& BitVec.ofInt IntKind.i64.bits 7).toNat : Int)))).toNat
                        false).length)) then
          bif
              ((mpOf (IntKind.i64.wrap (2 + IntKind.i64.wrap (↑(BitVec.ofInt IntKind.i64.bits w &&& BitVec.ofInt IntKind.i64.bits 7).toNat : Int)))
                        (IntKind.i64.wrap (2 + IntKind.i64.wrap (↑(BitVec.ofInt IntKind.i64.bits d &&& BitVec.ofInt IntKind.i64.bits 7).toNat : Int)))
                        (IntKind.i64.wrap (2 + IntKind.i64.wrap (↑(BitVec.ofInt IntKind.i64.bits h &&& BitVec.ofInt IntKind.i64.bits 7).toNat : Int)))
                        (IntKind.i64.wrap
                            (IntKind.i64.wrap
                                (IntKind.i64.wrap (2 + IntKind.i64.wrap (↑(BitVec.ofInt IntKind.i64.bits w &&& BitVec.ofInt IntKind.i64.bits 7).toNat : Int)) *
                                  IntKind.i64.wrap (2 + IntKind.i64.wrap (↑(BitVec.ofInt IntKind.i64.bits d &&& BitVec.ofInt IntKind.i64.bits 7).toNat : Int))) *
                              IntKind.i64.wrap (2 + IntKind.i64.wrap (↑(BitVec.ofInt IntKind.i64.bits h &&& BitVec.ofInt IntKind.i64.bits 7).toNat : Int)))).toNat
                        fun j =>
                        (List.replicate
                              (IntKind.i64.wrap
                                  (IntKind.i64.wrap
                                      (IntKind.i64.wrap (2 + IntKind.i64.wrap (↑(BitVec.ofInt IntKind.i64.bits w &&& BitVec.ofInt IntKind.i64.bits 7).toNat : Int)) *
                                        IntKind.i64.wrap (2 + IntKind.i64.wrap (↑(BitVec.ofInt IntKind.i64.bits d &&& BitVec.ofInt IntKind.i64.bits 7).toNat : Int))) *
                                    IntKind.i64.wrap (2 + IntKind.i64.wrap (↑(BitVec.ofInt IntKind.i64.bits h &&& BitVec.ofInt IntKind.i64.bits 7).toNat : Int)))).toNat
                              false).getD
                          (0 + j) false).slide
                    { x := px, y := py, z := pz } { x := max (-32768) (min 32768 bx), y := max (-32768) (min 32768 b_y), z := max (-32768) (min 32768 bz) }).snd.fst then
            bif
                ((mpOf (IntKind.i64.wrap (2 + IntKind.i64.wrap (↑(BitVec.ofInt IntKind.i64.bits w &&& BitVec.ofInt IntKind.i64.bits 7).toNat : Int)))
                            (IntKind.i64.wrap (2 + IntKind.i64.wrap (↑(BitVec.ofInt IntKind.i64.bits d &&& BitVec.ofInt IntKind.i64.bits 7).toNat : Int)))
                            (IntKind.i64.wrap (2 + IntKind.i64.wrap (↑(BitVec.ofInt IntKind.i64.bits h &&& BitVec.ofInt IntKind.i64.bits 7).toNat : Int)))
                            (IntKind.i64.wrap
                                (IntKind.i64.wrap
                                    (IntKind.i64.wrap (2 + IntKind.i64.wrap (↑(BitVec.ofInt IntKind.i64.bits w &&& BitVec.ofInt IntKind.i64.bits 7).toNat : Int)) *
                                      IntKind.i64.wrap (2 + IntKind.i64.wrap (↑(BitVec.ofInt IntKind.i64.bits d &&& BitVec.ofInt IntKind.i64.bits 7).toNat : Int))) *
                                  IntKind.i64.wrap (2 + IntKind.i64.wrap (↑(BitVec.ofInt IntKind.i64.bits h &&& BitVec.ofInt IntKind.i64.bits 7).toNat : Int)))).toNat
                            fun j =>
                            (List.replicate
                                  (IntKind.i64.wrap
                                      (IntKind.i64.wrap
                                          (IntKind.i64.wrap (2 + IntKind.i64.wrap (↑(BitVec.ofInt IntKind.i64.bits w &&& BitVec.ofInt IntKind.i64.bits 7).toNat : Int)) *
                                            IntKind.i64.wrap (2 + IntKind.i64.wrap (↑(BitVec.ofInt IntKind.i64.bits d &&& BitVec.ofInt IntKind.i64.bits 7).toNat : Int))) *
                                        IntKind.i64.wrap (2 + IntKind.i64.wrap (↑(BitVec.ofInt IntKind.i64.bits h &&& BitVec.ofInt IntKind.i64.bits 7).toNat : Int)))).toNat
                                  false).getD
                              (0 + j) false).slide
                        { x := px, y := py, z := pz } { x := max (-32768) (min 32768 bx), y := max (-32768) (min 32768 b_y), z := max (-32768) (min 32768 bz) }).fst.x ==
                  px then
              bif
                  ((mpOf (IntKind.i64.wrap (2 + IntKind.i64.wrap (↑(BitVec.ofInt IntKind.i64.bits w &&& BitVec.ofInt IntKind.i64.bits 7).toNat : Int)))
                              (IntKind.i64.wrap (2 + IntKind.i64.wrap (↑(BitVec.ofInt IntKind.i64.bits d &&& BitVec.ofInt IntKind.i64.bits 7).toNat : Int)))
                              (IntKind.i64.wrap (2 + IntKind.i64.wrap (↑(BitVec.ofInt IntKind.i64.bits h &&& BitVec.ofInt IntKind.i64.bits 7).toNat : Int)))
                              (IntKind.i64.wrap
                                  (IntKind.i64.wrap
                                      (IntKind.i64.wrap (2 + IntKind.i64.wrap (↑(BitVec.ofInt IntKind.i64.bits w &&& BitVec.ofInt IntKind.i64.bits 7).toNat : Int)) *
                                        IntKind.i64.wrap (2 + IntKind.i64.wrap (↑(BitVec.ofInt IntKind.i64.bits d &&& BitVec.ofInt IntKind.i64.bits 7).toNat : Int))) *
                                    IntKind.i64.wrap (2 + IntKind.i64.wrap (↑(BitVec.ofInt IntKind.i64.bits h &&& BitVec.ofInt IntKind.i64.bits 7).toNat : Int)))).toNat
                              fun j =>
                              (List.replicate
                                    (IntKind.i64.wrap
                                        (IntKind.i64.wrap
                                            (IntKind.i64.wrap (2 + IntKind.i64.wrap (↑(BitVec.ofInt IntKind.i64.bits w &&& BitVec.ofInt IntKind.i64.bits 7).toNat : Int)) *
                                              IntKind.i64.wrap (2 + IntKind.i64.wrap (↑(BitVec.ofInt IntKind.i64.bits d &&& BitVec.ofInt IntKind.i64.bits 7).toNat : Int))) *
                                          IntKind.i64.wrap (2 + IntKind.i64.wrap (↑(BitVec.ofInt IntKind.i64.bits h &&& BitVec.ofInt IntKind.i64.bits 7).toNat : Int)))).toNat
                                    false).getD
                                (0 + j) false).slide
                          { x := px, y := py, z := pz } { x := max (-32768) (min 32768 bx), y := max (-32768) (min 32768 b_y), z := max (-32768) (min 32768 bz) }).fst.y ==
                    py then
                bif
                    ((mpOf (IntKind.i64.wrap (2 + IntKind.i64.wrap (↑(BitVec.ofInt IntKind.i64.bits w &&& BitVec.ofInt IntKind.i64.bits 7).toNat : Int)))
                                (IntKind.i64.wrap (2 + IntKind.i64.wrap (↑(BitVec.ofInt IntKind.i64.bits d &&& BitVec.ofInt IntKind.i64.bits 7).toNat : Int)))
                                (IntKind.i64.wrap (2 + IntKind.i64.wrap (↑(BitVec.ofInt IntKind.i64.bits h &&& BitVec.ofInt IntKind.i64.bits 7).toNat : Int)))
                                (IntKind.i64.wrap
                                    (IntKind.i64.wrap
                                        (IntKind.i64.wrap (2 + IntKind.i64.wrap (↑(BitVec.ofInt IntKind.i64.bits w &&& BitVec.ofInt IntKind.i64.bits 7).toNat : Int)) *
                                          IntKind.i64.wrap (2 + IntKind.i64.wrap (↑(BitVec.ofInt IntKind.i64.bits d &&& BitVec.ofInt IntKind.i64.bits 7).toNat : Int))) *
                                      IntKind.i64.wrap (2 + IntKind.i64.wrap (↑(BitVec.ofInt IntKind.i64.bits h &&& BitVec.ofInt IntKind.i64.bits 7).toNat : Int)))).toNat
                                fun j =>
                                (List.replicate
                                      (IntKind.i64.wrap
                                          (IntKind.i64.wrap
                                              (IntKind.i64.wrap (2 + IntKind.i64.wrap (↑(BitVec.ofInt IntKind.i64.bits w &&& BitVec.ofInt IntKind.i64.bits 7).toNat : Int)) *
                                                IntKind.i64.wrap (2 + IntKind.i64.wrap (↑(BitVec.ofInt IntKind.i64.bits d &&& BitVec.ofInt IntKind.i64.bits 7).toNat : Int))) *
                                            IntKind.i64.wrap (2 + IntKind.i64.wrap (↑(BitVec.ofInt IntKind.i64.bits h &&& BitVec.ofInt IntKind.i64.bits 7).toNat : Int)))).toNat
                                      false).getD
                                  (0 + j) false).slide
                            { x := px, y := py, z := pz } { x := max (-32768) (min 32768 bx), y := max (-32768) (min 32768 b_y), z := max (-32768) (min 32768 bz) }).fst.z ==
                      pz then
                  some (SV.bool true, [])
                else
                  some
                    (SV.bool
                        !((mpOf (IntKind.i64.wrap (2 + IntKind.i64.wrap (↑(BitVec.ofInt IntKind.i64.bits w &&& BitVec.ofInt IntKind.i64.bits 7).toNat : Int)))
                                      (IntKind.i64.wrap (2 + IntKind.i64.wrap (↑(BitVec.ofInt IntKind.i64.bits d &&& BitVec.ofInt IntKind.i64.bits 7).toNat : Int)))
                                      (IntKind.i64.wrap (2 + IntKind.i64.wrap (↑(BitVec.ofInt IntKind.i64.bits h &&& BitVec.ofInt IntKind.i64.bits 7).toNat : Int)))
                                      (IntKind.i64.wrap
                                          (IntKind.i64.wrap
                                              (IntKind.i64.wrap (2 + IntKind.i64.wrap (↑(BitVec.ofInt IntKind.i64.bits w &&& BitVec.ofInt IntKind.i64.bits 7).toNat : Int)) *
                                                IntKind.i64.wrap (2 + IntKind.i64.wrap (↑(BitVec.ofInt IntKind.i64.bits d &&& BitVec.ofInt IntKind.i64.bits 7).toNat : Int))) *
                                            IntKind.i64.wrap (2 + IntKind.i64.wrap (↑(BitVec.ofInt IntKind.i64.bits h &&& BitVec.ofInt IntKind.i64.bits 7).toNat : Int)))).toNat
                                      fun j =>
                                      (List.replicate
                                            (IntKind.i64.wrap
                                                (IntKind.i64.wrap
                                                    (IntKind.i64.wrap (2 + IntKind.i64.wrap (↑(BitVec.ofInt IntKind.i64.bits w &&& BitVec.ofInt IntKind.i64.bits 7).toNat : Int)) *
                                                      IntKind.i64.wrap (2 + IntKind.i64.wrap (↑(BitVec.ofInt IntKind.i64.bits d &&& BitVec.ofInt IntKind.i64.bits 7).toNat : Int))) *
                                                  IntKind.i64.wrap (2 + IntKind.i64.wrap (↑(BitVec.ofInt IntKind.i64.bits h &&& BitVec.ofInt IntKind.i64.bits 7).toNat : Int)))).toNat
                                            false).getD
                                        (0 + j) false).slide
                                  { x := px, y := py, z := pz } { x := max (-32768) (min 32768 bx), y := max (-32768) (min 32768 b_y), z := max (-32768) (min 32768 bz) }).snd.snd.snd,
                      [])
              else
                bif
                    !((mpOf (IntKind.i64.wrap (2 + IntKind.i64.wrap (↑(BitVec.ofInt IntKind.i64.bits w &&& BitVec.ofInt IntKind.i64.bits 7).toNat : Int)))
                                  (IntKind.i64.wrap (2 + IntKind.i64.wrap (↑(BitVec.ofInt IntKind.i64.bits d &&& BitVec.ofInt IntKind.i64.bits 7).toNat : Int)))
                                  (IntKind.i64.wrap (2 + IntKind.i64.wrap (↑(BitVec.ofInt IntKind.i64.bits h &&& BitVec.ofInt IntKind.i64.bits 7).toNat : Int)))
                                  (IntKind.i64.wrap
                                      (IntKind.i64.wrap
                                          (IntKind.i64.wrap (2 + IntKind.i64.wrap (↑(BitVec.ofInt IntKind.i64.bits w &&& BitVec.ofInt IntKind.i64.bits 7).toNat : Int)) *
                                            IntKind.i64.wrap (2 + IntKind.i64.wrap (↑(BitVec.ofInt IntKind.i64.bits d &&& BitVec.ofInt IntKind.i64.bits 7).toNat : Int))) *
                                        IntKind.i64.wrap (2 + IntKind.i64.wrap (↑(BitVec.ofInt IntKind.i64.bits h &&& BitVec.ofInt IntKind.i64.bits 7).toNat : Int)))).toNat
                                  fun j =>
                                  (List.replicate
                                        (IntKind.i64.wrap
                                            (IntKind.i64.wrap
                                                (IntKind.i64.wrap (2 + IntKind.i64.wrap (↑(BitVec.ofInt IntKind.i64.bits w &&& BitVec.ofInt IntKind.i64.bits 7).toNat : Int)) *
                                                  IntKind.i64.wrap (2 + IntKind.i64.wrap (↑(BitVec.ofInt IntKind.i64.bits d &&& BitVec.ofInt IntKind.i64.bits 7).toNat : Int))) *
                                              IntKind.i64.wrap (2 + IntKind.i64.wrap (↑(BitVec.ofInt IntKind.i64.bits h &&& BitVec.ofInt IntKind.i64.bits 7).toNat : Int)))).toNat
                                        false).getD
                                    (0 + j) false).slide
                              { x := px, y := py, z := pz } { x := max (-32768) (min 32768 bx), y := max (-32768) (min 32768 b_y), z := max (-32768) (min 32768 bz) }).snd.snd.fst then
                  bif
                      ((mpOf (IntKind.i64.wrap (2 + IntKind.i64.wrap (↑(BitVec.ofInt IntKind.i64.bits w &&& BitVec.ofInt IntKind.i64.bits 7).toNat : Int)))
                                  (IntKind.i64.wrap (2 + IntKind.i64.wrap (↑(BitVec.ofInt IntKind.i64.bits d &&& BitVec.ofInt IntKind.i64.bits 7).toNat : Int)))
                                  (IntKind.i64.wrap (2 + IntKind.i64.wrap (↑(BitVec.ofInt IntKind.i64.bits h &&& BitVec.ofInt IntKind.i64.bits 7).toNat : Int)))
                                  (IntKind.i64.wrap
                                      (IntKind.i64.wrap
                                          (IntKind.i64.wrap (2 + IntKind.i64.wrap (↑(BitVec.ofInt IntKind.i64.bits w &&& BitVec.ofInt IntKind.i64.bits 7).toNat : Int)) *
                                            IntKind.i64.wrap (2 + IntKind.i64.wrap (↑(BitVec.ofInt IntKind.i64.bits d &&& BitVec.ofInt IntKind.i64.bits 7).toNat : Int))) *
                                        IntKind.i64.wrap (2 + IntKind.i64.wrap (↑(BitVec.ofInt IntKind.i64.bits h &&& BitVec.ofInt IntKind.i64.bits 7).toNat : Int)))).toNat
                                  fun j =>
                                  (List.replicate
                                        (IntKind.i64.wrap
                                            (IntKind.i64.wrap
                                                (IntKind.i64.wrap (2 + IntKind.i64.wrap (↑(BitVec.ofInt IntKind.i64.bits w &&& BitVec.ofInt IntKind.i64.bits 7).toNat : Int)) *
                                                  IntKind.i64.wrap (2 + IntKind.i64.wrap (↑(BitVec.ofInt IntKind.i64.bits d &&& BitVec.ofInt IntKind.i64.bits 7).toNat : Int))) *
                                              IntKind.i64.wrap (2 + IntKind.i64.wrap (↑(BitVec.ofInt IntKind.i64.bits h &&& BitVec.ofInt IntKind.i64.bits 7).toNat : Int)))).toNat
                                        false).getD
                                    (0 + j) false).slide
                              { x := px, y := py, z := pz } { x := max (-32768) (min 32768 bx), y := max (-32768) (min 32768 b_y), z := max (-32768) (min 32768 bz) }).fst.z ==
                        pz then
                    some (SV.bool true, [])
                  else
                    some
                      (SV.bool
                          !((mpOf (IntKind.i64.wrap (2 + IntKind.i64.wrap (↑(BitVec.ofInt IntKind.i64.bits w &&& BitVec.ofInt IntKind.i64.bits 7).toNat : Int)))
                                        (IntKind.i64.wrap (2 + IntKind.i64.wrap (↑(BitVec.ofInt IntKind.i64.bits d &&& BitVec.ofInt IntKind.i64.bits 7).toNat : Int)))
                                        (IntKind.i64.wrap (2 + IntKind.i64.wrap (↑(BitVec.ofInt IntKind.i64.bits h &&& BitVec.ofInt IntKind.i64.bits 7).toNat : Int)))
                                        (IntKind.i64.wrap
                                            (IntKind.i64.wrap
                                                (IntKind.i64.wrap (2 + IntKind.i64.wrap (↑(BitVec.ofInt IntKind.i64.bits w &&& BitVec.ofInt IntKind.i64.bits 7).toNat : Int)) *
                                                  IntKind.i64.wrap (2 + IntKind.i64.wrap (↑(BitVec.ofInt IntKind.i64.bits d &&& BitVec.ofInt IntKind.i64.bits 7).toNat : Int))) *
                                              IntKind.i64.wrap (2 + IntKind.i64.wrap (↑(BitVec.ofInt IntKind.i64.bits h &&& BitVec.ofInt IntKind.i64.bits 7).toNat : Int)))).toNat
                                        fun j =>
                                        (List.replicate
                                              (IntKind.i64.wrap
                                                  (IntKind.i64.wrap
                                                      (IntKind.i64.wrap (2 + IntKind.i64.wrap (↑(BitVec.ofInt IntKind.i64.bits w &&& BitVec.ofInt IntKind.i64.bits 7).toNat : Int)) *
                                                        IntKind.i64.wrap (2 + IntKind.i64.wrap (↑(BitVec.ofInt IntKind.i64.bits d &&& BitVec.ofInt IntKind.i64.bits 7).toNat : Int))) *
                                                    IntKind.i64.wrap (2 + IntKind.i64.wrap (↑(BitVec.ofInt IntKind.i64.bits h &&& BitVec.ofInt IntKind.i64.bits 7).toNat : Int)))).toNat
                                              false).getD
                                          (0 + j) false).slide
                                    { x := px, y := py, z := pz } { x := max (-32768) (min 32768 bx), y := max (-32768) (min 32768 b_y), z := max (-32768) (min 32768 bz) }).snd.snd.snd,
                        [])
                else some (SV.bool false, [])
            else
              bif
                  !((mpOf (IntKind.i64.wrap (2 + IntKind.i64.wrap (↑(BitVec.ofInt IntKind.i64.bits w &&& BitVec.ofInt IntKind.i64.bits 7).toNat : Int)))
                              (IntKind.i64.wrap (2 + IntKind.i64.wrap (↑(BitVec.ofInt IntKind.i64.bits d &&& BitVec.ofInt IntKind.i64.bits 7).toNat : Int)))
                              (IntKind.i64.wrap (2 + IntKind.i64.wrap (↑(BitVec.ofInt IntKind.i64.bits h &&& BitVec.ofInt IntKind.i64.bits 7).toNat : Int)))
                              (IntKind.i64.wrap
                                  (IntKind.i64.wrap
                                      (IntKind.i64.wrap (2 + IntKind.i64.wrap (↑(BitVec.ofInt IntKind.i64.bits w &&& BitVec.ofInt IntKind.i64.bits 7).toNat : Int)) *
                                        IntKind.i64.wrap (2 + IntKind.i64.wrap (↑(BitVec.ofInt IntKind.i64.bits d &&& BitVec.ofInt IntKind.i64.bits 7).toNat : Int))) *
                                    IntKind.i64.wrap (2 + IntKind.i64.wrap (↑(BitVec.ofInt IntKind.i64.bits h &&& BitVec.ofInt IntKind.i64.bits 7).toNat : Int)))).toNat
                              fun j =>
                              (List.replicate
                                    (IntKind.i64.wrap
                                        (IntKind.i64.wrap
                                            (IntKind.i64.wrap (2 + IntKind.i64.wrap (↑(BitVec.ofInt IntKind.i64.bits w &&& BitVec.ofInt IntKind.i64.bits 7).toNat : Int)) *
                                              IntKind.i64.wrap (2 + IntKind.i64.wrap (↑(BitVec.ofInt IntKind.i64.bits d &&& BitVec.ofInt IntKind.i64.bits 7).toNat : Int))) *
                                          IntKind.i64.wrap (2 + IntKind.i64.wrap (↑(BitVec.ofInt IntKind.i64.bits h &&& BitVec.ofInt IntKind.i64.bits 7).toNat : Int)))).toNat
                                    false).getD
                                (0 + j) false).slide
                          { x := px, y := py, z := pz } { x := max (-32768) (min 32768 bx), y := max (-32768) (min 32768 b_y), z := max (-32768) (min 32768 bz) }).snd.fst then
                bif
                    ((mpOf (IntKind.i64.wrap (2 + IntKind.i64.wrap (↑(BitVec.ofInt IntKind.i64.bits w &&& BitVec.ofInt IntKind.i64.bits 7).toNat : Int)))
                                (IntKind.i64.wrap (2 + IntKind.i64.wrap (↑(BitVec.ofInt IntKind.i64.bits d &&& BitVec.ofInt IntKind.i64.bits 7).toNat : Int)))
                                (IntKind.i64.wrap (2 + IntKind.i64.wrap (↑(BitVec.ofInt IntKind.i64.bits h &&& BitVec.ofInt IntKind.i64.bits 7).toNat : Int)))
                                (IntKind.i64.wrap
                                    (IntKind.i64.wrap
                                        (IntKind.i64.wrap (2 + IntKind.i64.wrap (↑(BitVec.ofInt IntKind.i64.bits w &&& BitVec.ofInt IntKind.i64.bits 7).toNat : Int)) *
                                          IntKind.i64.wrap (2 + IntKind.i64.wrap (↑(BitVec.ofInt IntKind.i64.bits d &&& BitVec.ofInt IntKind.i64.bits 7).toNat : Int))) *
                                      IntKind.i64.wrap (2 + IntKind.i64.wrap (↑(BitVec.ofInt IntKind.i64.bits h &&& BitVec.ofInt IntKind.i64.bits 7).toNat : Int)))).toNat
                                fun j =>
                                (List.replicate
                                      (IntKind.i64.wrap
                                          (IntKind.i64.wrap
                                              (IntKind.i64.wrap (2 + IntKind.i64.wrap (↑(BitVec.ofInt IntKind.i64.bits w &&& BitVec.ofInt IntKind.i64.bits 7).toNat : Int)) *
                                                IntKind.i64.wrap (2 + IntKind.i64.wrap (↑(BitVec.ofInt IntKind.i64.bits d &&& BitVec.ofInt IntKind.i64.bits 7).toNat : Int))) *
                                            IntKind.i64.wrap (2 + IntKind.i64.wrap (↑(BitVec.ofInt IntKind.i64.bits h &&& BitVec.ofInt IntKind.i64.bits 7).toNat : Int)))).toNat
                                      false).getD
                                  (0 + j) false).slide
                            { x := px, y := py, z := pz } { x := max (-32768) (min 32768 bx), y := max (-32768) (min 32768 b_y), z := max (-32768) (min 32768 bz) }).fst.y ==
                      py then
                  bif
                      ((mpOf (IntKind.i64.wrap (2 + IntKind.i64.wrap (↑(BitVec.ofInt IntKind.i64.bits w &&& BitVec.ofInt IntKind.i64.bits 7).toNat : Int)))
                                  (IntKind.i64.wrap (2 + IntKind.i64.wrap (↑(BitVec.ofInt IntKind.i64.bits d &&& BitVec.ofInt IntKind.i64.bits 7).toNat : Int)))
                                  (IntKind.i64.wrap (2 + IntKind.i64.wrap (↑(BitVec.ofInt IntKind.i64.bits h &&& BitVec.ofInt IntKind.i64.bits 7).toNat : Int)))
                                  (IntKind.i64.wrap
                                      (IntKind.i64.wrap
                                          (IntKind.i64.wrap (2 + IntKind.i64.wrap (↑(BitVec.ofInt IntKind.i64.bits w &&& BitVec.ofInt IntKind.i64.bits 7).toNat : Int)) *
                                            IntKind.i64.wrap (2 + IntKind.i64.wrap (↑(BitVec.ofInt IntKind.i64.bits d &&& BitVec.ofInt IntKind.i64.bits 7).toNat : Int))) *
                                        IntKind.i64.wrap (2 + IntKind.i64.wrap (↑(BitVec.ofInt IntKind.i64.bits h &&& BitVec.ofInt IntKind.i64.bits 7).toNat : Int)))).toNat
                                  fun j =>
                                  (List.replicate
                                        (IntKind.i64.wrap
                                            (IntKind.i64.wrap
                                                (IntKind.i64.wrap (2 + IntKind.i64.wrap (↑(BitVec.ofInt IntKind.i64.bits w &&& BitVec.ofInt IntKind.i64.bits 7).toNat : Int)) *
                                                  IntKind.i64.wrap (2 + IntKind.i64.wrap (↑(BitVec.ofInt IntKind.i64.bits d &&& BitVec.ofInt IntKind.i64.bits 7).toNat : Int))) *
                                              IntKind.i64.wrap (2 + IntKind.i64.wrap (↑(BitVec.ofInt IntKind.i64.bits h &&& BitVec.ofInt IntKind.i64.bits 7).toNat : Int)))).toNat
                                        false).getD
                                    (0 + j) false).slide
                              { x := px, y := py, z := pz } { x := max (-32768) (min 32768 bx), y := max (-32768) (min 32768 b_y), z := max (-32768) (min 32768 bz) }).fst.z ==
                        pz then
                    some (SV.bool true, [])
                  else
                    some
                      (SV.bool
                          !((mpOf (IntKind.i64.wrap (2 + IntKind.i64.wrap (↑(BitVec.ofInt IntKind.i64.bits w &&& BitVec.ofInt IntKind.i64.bits 7).toNat : Int)))
                                        (IntKind.i64.wrap (2 + IntKind.i64.wrap (↑(BitVec.ofInt IntKind.i64.bits d &&& BitVec.ofInt IntKind.i64.bits 7).toNat : Int)))
                                        (IntKind.i64.wrap (2 + IntKind.i64.wrap (↑(BitVec.ofInt IntKind.i64.bits h &&& BitVec.ofInt IntKind.i64.bits 7).toNat : Int)))
                                        (IntKind.i64.wrap
                                            (IntKind.i64.wrap
                                                (IntKind.i64.wrap (2 + IntKind.i64.wrap (↑(BitVec.ofInt IntKind.i64.bits w &&& BitVec.ofInt IntKind.i64.bits 7).toNat : Int)) *
                                                  IntKind.i64.wrap (2 + IntKind.i64.wrap (↑(BitVec.ofInt IntKind.i64.bits d &&& BitVec.ofInt IntKind.i64.bits 7).toNat : Int))) *
                                              IntKind.i64.wrap (2 + IntKind.i64.wrap (↑(BitVec.ofInt IntKind.i64.bits h &&& BitVec.ofInt IntKind.i64.bits 7).toNat : Int)))).toNat
                                        fun j =>
                                        (List.replicate
                                              (IntKind.i64.wrap
                                                  (IntKind.i64.wrap
                                                      (IntKind.i64.wrap (2 + IntKind.i64.wrap (↑(BitVec.ofInt IntKind.i64.bits w &&& BitVec.ofInt IntKind.i64.bits 7).toNat : Int)) *
                                                        IntKind.i64.wrap (2 + IntKind.i64.wrap (↑(BitVec.ofInt IntKind.i64.bits d &&& BitVec.ofInt IntKind.i64.bits 7).toNat : Int))) *
                                                    IntKind.i64.wrap (2 + IntKind.i64.wrap (↑(BitVec.ofInt IntKind.i64.bits h &&& BitVec.ofInt IntKind.i64.bits 7).toNat : Int)))).toNat
                                              false).getD
                                          (0 + j) false).slide
                                    { x := px, y := py, z := pz } { x := max (-32768) (min 32768 bx), y := max (-32768) (min 32768 b_y), z := max (-32768) (min 32768 bz) }).snd.snd.snd,
                        [])
                else
                  bif
                      !((mpOf (IntKind.i64.wrap (2 + IntKind.i64.wrap (↑(BitVec.ofInt IntKind.i64.bits w &&& BitVec.ofInt IntKind.i64.bits 7).toNat : Int)))
                                    (IntKind.i64.wrap (2 + IntKind.i64.wrap (↑(BitVec.ofInt IntKind.i64.bits d &&& BitVec.ofInt IntKind.i64.bits 7).toNat : Int)))
                                    (IntKind.i64.wrap (2 + IntKind.i64.wrap (↑(BitVec.ofInt IntKind.i64.bits h &&& BitVec.ofInt IntKind.i64.bits 7).toNat : Int)))
                                    (IntKind.i64.wrap
                                        (IntKind.i64.wrap
                                            (IntKind.i64.wrap (2 + IntKind.i64.wrap (↑(BitVec.ofInt IntKind.i64.bits w &&& BitVec.ofInt IntKind.i64.bits 7).toNat : Int)) *
                                              IntKind.i64.wrap (2 + IntKind.i64.wrap (↑(BitVec.ofInt IntKind.i64.bits d &&& BitVec.ofInt IntKind.i64.bits 7).toNat : Int))) *
                                          IntKind.i64.wrap (2 + IntKind.i64.wrap (↑(BitVec.ofInt IntKind.i64.bits h &&& BitVec.ofInt IntKind.i64.bits 7).toNat : Int)))).toNat
                                    fun j =>
                                    (List.replicate
                                          (IntKind.i64.wrap
                                              (IntKind.i64.wrap
                                                  (IntKind.i64.wrap (2 + IntKind.i64.wrap (↑(BitVec.ofInt IntKind.i64.bits w &&& BitVec.ofInt IntKind.i64.bits 7).toNat : Int)) *
                                                    IntKind.i64.wrap (2 + IntKind.i64.wrap (↑(BitVec.ofInt IntKind.i64.bits d &&& BitVec.ofInt IntKind.i64.bits 7).toNat : Int))) *
                                                IntKind.i64.wrap (2 + IntKind.i64.wrap (↑(BitVec.ofInt IntKind.i64.bits h &&& BitVec.ofInt IntKind.i64.bits 7).toNat : Int)))).toNat
                                          false).getD
                                      (0 + j) false).slide
                                { x := px, y := py, z := pz } { x := max (-32768) (min 32768 bx), y := max (-32768) (min 32768 b_y), z := max (-32768) (min 32768 bz) }).snd.snd.fst then
                    bif
                        ((mpOf (IntKind.i64.wrap (2 + IntKind.i64.wrap (↑(BitVec.ofInt IntKind.i64.bits w &&& BitVec.ofInt IntKind.i64.bits 7).toNat : Int)))
                                    (IntKind.i64.wrap (2 + IntKind.i64.wrap (↑(BitVec.ofInt IntKind.i64.bits d &&& BitVec.ofInt IntKind.i64.bits 7).toNat : Int)))
                                    (IntKind.i64.wrap (2 + IntKind.i64.wrap (↑(BitVec.ofInt IntKind.i64.bits h &&& BitVec.ofInt IntKind.i64.bits 7).toNat : Int)))
                                    (IntKind.i64.wrap
                                        (IntKind.i64.wrap
                                            (IntKind.i64.wrap (2 + IntKind.i64.wrap (↑(BitVec.ofInt IntKind.i64.bits w &&& BitVec.ofInt IntKind.i64.bits 7).toNat : Int)) *
                                              IntKind.i64.wrap (2 + IntKind.i64.wrap (↑(BitVec.ofInt IntKind.i64.bits d &&& BitVec.ofInt IntKind.i64.bits 7).toNat : Int))) *
                                          IntKind.i64.wrap (2 + IntKind.i64.wrap (↑(BitVec.ofInt IntKind.i64.bits h &&& BitVec.ofInt IntKind.i64.bits 7).toNat : Int)))).toNat
                                    fun j =>
                                    (List.replicate
                                          (IntKind.i64.wrap
                                              (IntKind.i64.wrap
                                                  (IntKind.i64.wrap (2 + IntKind.i64.wrap (↑(BitVec.ofInt IntKind.i64.bits w &&& BitVec.ofInt IntKind.i64.bits 7).toNat : Int)) *
                                                    IntKind.i64.wrap (2 + IntKind.i64.wrap (↑(BitVec.ofInt IntKind.i64.bits d &&& BitVec.ofInt IntKind.i64.bits 7).toNat : Int))) *
                                                IntKind.i64.wrap (2 + IntKind.i64.wrap (↑(BitVec.ofInt IntKind.i64.bits h &&& BitVec.ofInt IntKind.i64.bits 7).toNat : Int)))).toNat
                                          false).getD
                                      (0 + j) false).slide
                                { x := px, y := py, z := pz } { x := max (-32768) (min 32768 bx), y := max (-32768) (min 32768 b_y), z := max (-32768) (min 32768 bz) }).fst.z ==
                          pz then
                      some (SV.bool true, [])
                    else
                      some
                        (SV.bool
                            !((mpOf (IntKind.i64.wrap (2 + IntKind.i64.wrap (↑(BitVec.ofInt IntKind.i64.bits w &&& BitVec.ofInt IntKind.i64.bits 7).toNat : Int)))
                                          (IntKind.i64.wrap (2 + IntKind.i64.wrap (↑(BitVec.ofInt IntKind.i64.bits d &&& BitVec.ofInt IntKind.i64.bits 7).toNat : Int)))
                                          (IntKind.i64.wrap (2 + IntKind.i64.wrap (↑(BitVec.ofInt IntKind.i64.bits h &&& BitVec.ofInt IntKind.i64.bits 7).toNat : Int)))
                                          (IntKind.i64.wrap
                                              (IntKind.i64.wrap
                                                  (IntKind.i64.wrap (2 + IntKind.i64.wrap (↑(BitVec.ofInt IntKind.i64.bits w &&& BitVec.ofInt IntKind.i64.bits 7).toNat : Int)) *
                                                    IntKind.i64.wrap (2 + IntKind.i64.wrap (↑(BitVec.ofInt IntKind.i64.bits d &&& BitVec.ofInt IntKind.i64.bits 7).toNat : Int))) *
                                                IntKind.i64.wrap (2 + IntKind.i64.wrap (↑(BitVec.ofInt IntKind.i64.bits h &&& BitVec.ofInt IntKind.i64.bits 7).toNat : Int)))).toNat
                                          fun j =>
                                          (List.replicate
                                                (IntKind.i64.wrap
                                                    (IntKind.i64.wrap
                                                        (IntKind.i64.wrap (2 + IntKind.i64.wrap (↑(BitVec.ofInt IntKind.i64.bits w &&& BitVec.ofInt IntKind.i64.bits 7).toNat : Int)) *
                                                          IntKind.i64.wrap (2 + IntKind.i64.wrap (↑(BitVec.ofInt IntKind.i64.bits d &&& BitVec.ofInt IntKind.i64.bits 7).toNat : Int))) *
                                                      IntKind.i64.wrap (2 + IntKind.i64.wrap (↑(BitVec.ofInt IntKind.i64.bits h &&& BitVec.ofInt IntKind.i64.bits 7).toNat : Int)))).toNat
                                                false).getD
                                            (0 + j) false).slide
                                      { x := px, y := py, z := pz } { x := max (-32768) (min 32768 bx), y := max (-32768) (min 32768 b_y), z := max (-32768) (min 32768 bz) }).snd.snd.snd,
                          [])
                  else some (SV.bool false, [])
              else some (SV.bool false, [])
          else
            bif
                ((mpOf (IntKind.i64.wrap (2 + IntKind.i64.wrap (↑(BitVec.ofInt IntKind.i64.bits w &&& BitVec.ofInt IntKind.i64.bits 7).toNat : Int)))
                            (IntKind.i64.wrap (2 + IntKind.i64.wrap (↑(BitVec.ofInt IntKind.i64.bits d &&& BitVec.ofInt IntKind.i64.bits 7).toNat : Int)))
                            (IntKind.i64.wrap (2 + IntKind.i64.wrap (↑(BitVec.ofInt IntKind.i64.bits h &&& BitVec.ofInt IntKind.i64.bits 7).toNat : Int)))
                            (IntKind.i64.wrap
                                (IntKind.i64.wrap
                                    (IntKind.i64.wrap (2 + IntKind.i64.wrap (↑(BitVec.ofInt IntKind.i64.bits w &&& BitVec.ofInt IntKind.i64.bits 7).toNat : Int)) *
                                      IntKind.i64.wrap (2 + IntKind.i64.wrap (↑(BitVec.ofInt IntKind.i64.bits d &&& BitVec.ofInt IntKind.i64.bits 7).toNat : Int))) *
                                  IntKind.i64.wrap (2 + IntKind.i64.wrap (↑(BitVec.ofInt IntKind.i64.bits h &&& BitVec.ofInt IntKind.i64.bits 7).toNat : Int)))).toNat
                            fun j =>
                            (List.replicate
                                  (IntKind.i64.wrap
                                      (IntKind.i64.wrap
                                          (IntKind.i64.wrap (2 + IntKind.i64.wrap (↑(BitVec.ofInt IntKind.i64.bits w &&& BitVec.ofInt IntKind.i64.bits 7).toNat : Int)) *
                                            IntKind.i64.wrap (2 + IntKind.i64.wrap (↑(BitVec.ofInt IntKind.i64.bits d &&& BitVec.ofInt IntKind.i64.bits 7).toNat : Int))) *
                                        IntKind.i64.wrap (2 + IntKind.i64.wrap (↑(BitVec.ofInt IntKind.i64.bits h &&& BitVec.ofInt IntKind.i64.bits 7).toNat : Int)))).toNat
                                  false).getD
                              (0 + j) false).slide
                        { x := px, y := py, z := pz } { x := max (-32768) (min 32768 bx), y := max (-32768) (min 32768 b_y), z := max (-32768) (min 32768 bz) }).snd.snd.fst then
              bif
                  ((mpOf (IntKind.i64.wrap (2 + IntKind.i64.wrap (↑(BitVec.ofInt IntKind.i64.bits w &&& BitVec.ofInt IntKind.i64.bits 7).toNat : Int)))
                              (IntKind.i64.wrap (2 + IntKind.i64.wrap (↑(BitVec.ofInt IntKind.i64.bits d &&& BitVec.ofInt IntKind.i64.bits 7).toNat : Int)))
                              (IntKind.i64.wrap (2 + IntKind.i64.wrap (↑(BitVec.ofInt IntKind.i64.bits h &&& BitVec.ofInt IntKind.i64.bits 7).toNat : Int)))
                              (IntKind.i64.wrap
                                  (IntKind.i64.wrap
                                      (IntKind.i64.wrap (2 + IntKind.i64.wrap (↑(BitVec.ofInt IntKind.i64.bits w &&& BitVec.ofInt IntKind.i64.bits 7).toNat : Int)) *
                                        IntKind.i64.wrap (2 + IntKind.i64.wrap (↑(BitVec.ofInt IntKind.i64.bits d &&& BitVec.ofInt IntKind.i64.bits 7).toNat : Int))) *
                                    IntKind.i64.wrap (2 + IntKind.i64.wrap (↑(BitVec.ofInt IntKind.i64.bits h &&& BitVec.ofInt IntKind.i64.bits 7).toNat : Int)))).toNat
                              fun j =>
                              (List.replicate
                                    (IntKind.i64.wrap
                                        (IntKind.i64.wrap
                                            (IntKind.i64.wrap (2 + IntKind.i64.wrap (↑(BitVec.ofInt IntKind.i64.bits w &&& BitVec.ofInt IntKind.i64.bits 7).toNat : Int)) *
                                              IntKind.i64.wrap (2 + IntKind.i64.wrap (↑(BitVec.ofInt IntKind.i64.bits d &&& BitVec.ofInt IntKind.i64.bits 7).toNat : Int))) *
                                          IntKind.i64.wrap (2 + IntKind.i64.wrap (↑(BitVec.ofInt IntKind.i64.bits h &&& BitVec.ofInt IntKind.i64.bits 7).toNat : Int)))).toNat
                                    false).getD
                                (0 + j) false).slide
                          { x := px, y := py, z := pz } { x := max (-32768) (min 32768 bx), y := max (-32768) (min 32768 b_y), z := max (-32768) (min 32768 bz) }).fst.x ==
                    px then
                bif
                    ((mpOf (IntKind.i64.wrap (2 + IntKind.i64.wrap (↑(BitVec.ofInt IntKind.i64.bits w &&& BitVec.ofInt IntKind.i64.bits 7).toNat : Int)))
                                (IntKind.i64.wrap (2 + IntKind.i64.wrap (↑(BitVec.ofInt IntKind.i64.bits d &&& BitVec.ofInt IntKind.i64.bits 7).toNat : Int)))
                                (IntKind.i64.wrap (2 + IntKind.i64.wrap (↑(BitVec.ofInt IntKind.i64.bits h &&& BitVec.ofInt IntKind.i64.bits 7).toNat : Int)))
                                (IntKind.i64.wrap
                                    (IntKind.i64.wrap
                                        (IntKind.i64.wrap (2 + IntKind.i64.wrap (↑(BitVec.ofInt IntKind.i64.bits w &&& BitVec.ofInt IntKind.i64.bits 7).toNat : Int)) *
                                          IntKind.i64.wrap (2 + IntKind.i64.wrap (↑(BitVec.ofInt IntKind.i64.bits d &&& BitVec.ofInt IntKind.i64.bits 7).toNat : Int))) *
                                      IntKind.i64.wrap (2 + IntKind.i64.wrap (↑(BitVec.ofInt IntKind.i64.bits h &&& BitVec.ofInt IntKind.i64.bits 7).toNat : Int)))).toNat
                                fun j =>
                                (List.replicate
                                      (IntKind.i64.wrap
                                          (IntKind.i64.wrap
                                              (IntKind.i64.wrap (2 + IntKind.i64.wrap (↑(BitVec.ofInt IntKind.i64.bits w &&& BitVec.ofInt IntKind.i64.bits 7).toNat : Int)) *
                                                IntKind.i64.wrap (2 + IntKind.i64.wrap (↑(BitVec.ofInt IntKind.i64.bits d &&& BitVec.ofInt IntKind.i64.bits 7).toNat : Int))) *
                                            IntKind.i64.wrap (2 + IntKind.i64.wrap (↑(BitVec.ofInt IntKind.i64.bits h &&& BitVec.ofInt IntKind.i64.bits 7).toNat : Int)))).toNat
                                      false).getD
                                  (0 + j) false).slide
                            { x := px, y := py, z := pz } { x := max (-32768) (min 32768 bx), y := max (-32768) (min 32768 b_y), z := max (-32768) (min 32768 bz) }).fst.y ==
                      py then
                  bif
                      ((mpOf (IntKind.i64.wrap (2 + IntKind.i64.wrap (↑(BitVec.ofInt IntKind.i64.bits w &&& BitVec.ofInt IntKind.i64.bits 7).toNat : Int)))
                                  (IntKind.i64.wrap (2 + IntKind.i64.wrap (↑(BitVec.ofInt IntKind.i64.bits d &&& BitVec.ofInt IntKind.i64.bits 7).toNat : Int)))
                                  (IntKind.i64.wrap (2 + IntKind.i64.wrap (↑(BitVec.ofInt IntKind.i64.bits h &&& BitVec.ofInt IntKind.i64.bits 7).toNat : Int)))
                                  (IntKind.i64.wrap
                                      (IntKind.i64.wrap
                                          (IntKind.i64.wrap (2 + IntKind.i64.wrap (↑(BitVec.ofInt IntKind.i64.bits w &&& BitVec.ofInt IntKind.i64.bits 7).toNat : Int)) *
                                            IntKind.i64.wrap (2 + IntKind.i64.wrap (↑(BitVec.ofInt IntKind.i64.bits d &&& BitVec.ofInt IntKind.i64.bits 7).toNat : Int))) *
                                        IntKind.i64.wrap (2 + IntKind.i64.wrap (↑(BitVec.ofInt IntKind.i64.bits h &&& BitVec.ofInt IntKind.i64.bits 7).toNat : Int)))).toNat
                                  fun j =>
                                  (List.replicate
                                        (IntKind.i64.wrap
                                            (IntKind.i64.wrap
                                                (IntKind.i64.wrap (2 + IntKind.i64.wrap (↑(BitVec.ofInt IntKind.i64.bits w &&& BitVec.ofInt IntKind.i64.bits 7).toNat : Int)) *
                                                  IntKind.i64.wrap (2 + IntKind.i64.wrap (↑(BitVec.ofInt IntKind.i64.bits d &&& BitVec.ofInt IntKind.i64.bits 7).toNat : Int))) *
                                              IntKind.i64.wrap (2 + IntKind.i64.wrap (↑(BitVec.ofInt IntKind.i64.bits h &&& BitVec.ofInt IntKind.i64.bits 7).toNat : Int)))).toNat
                                        false).getD
                                    (0 + j) false).slide
                              { x := px, y := py, z := pz } { x := max (-32768) (min 32768 bx), y := max (-32768) (min 32768 b_y), z := max (-32768) (min 32768 bz) }).fst.z ==
                        pz then
                    some (SV.bool true, [])
                  else
                    some
                      (SV.bool
                          !((mpOf (IntKind.i64.wrap (2 + IntKind.i64.wrap (↑(BitVec.ofInt IntKind.i64.bits w &&& BitVec.ofInt IntKind.i64.bits 7).toNat : Int)))
                                        (IntKind.i64.wrap (2 + IntKind.i64.wrap (↑(BitVec.ofInt IntKind.i64.bits d &&& BitVec.ofInt IntKind.i64.bits 7).toNat : Int)))
                                        (IntKind.i64.wrap (2 + IntKind.i64.wrap (↑(BitVec.ofInt IntKind.i64.bits h &&& BitVec.ofInt IntKind.i64.bits 7).toNat : Int)))
                                        (IntKind.i64.wrap
                                            (IntKind.i64.wrap
                                                (IntKind.i64.wrap (2 + IntKind.i64.wrap (↑(BitVec.ofInt IntKind.i64.bits w &&& BitVec.ofInt IntKind.i64.bits 7).toNat : Int)) *
                                                  IntKind.i64.wrap (2 + IntKind.i64.wrap (↑(BitVec.ofInt IntKind.i64.bits d &&& BitVec.ofInt IntKind.i64.bits 7).toNat : Int))) *
                                              IntKind.i64.wrap (2 + IntKind.i64.wrap (↑(BitVec.ofInt IntKind.i64.bits h &&& BitVec.ofInt IntKind.i64.bits 7).toNat : Int)))).toNat
                                        fun j =>
                                        (List.replicate
                                              (IntKind.i64.wrap
                                                  (IntKind.i64.wrap
                                                      (IntKind.i64.wrap (2 + IntKind.i64.wrap (↑(BitVec.ofInt IntKind.i64.bits w &&& BitVec.ofInt IntKind.i64.bits 7).toNat : Int)) *
                                                        IntKind.i64.wrap (2 + IntKind.i64.wrap (↑(BitVec.ofInt IntKind.i64.bits d &&& BitVec.ofInt IntKind.i64.bits 7).toNat : Int))) *
                                                    IntKind.i64.wrap (2 + IntKind.i64.wrap (↑(BitVec.ofInt IntKind.i64.bits h &&& BitVec.ofInt IntKind.i64.bits 7).toNat : Int)))).toNat
                                              false).getD
                                          (0 + j) false).slide
                                    { x := px, y := py, z := pz } { x := max (-32768) (min 32768 bx), y := max (-32768) (min 32768 b_y), z := max (-32768) (min 32768 bz) }).snd.snd.snd,
                        [])
                else
                  bif
                      !((mpOf (IntKind.i64.wrap (2 + IntKind.i64.wrap (↑(BitVec.ofInt IntKind.i64.bits w &&& BitVec.ofInt IntKind.i64.bits 7).toNat : Int)))
                                    (IntKind.i64.wrap (2 + IntKind.i64.wrap (↑(BitVec.ofInt IntKind.i64.bits d &&& BitVec.ofInt IntKind.i64.bits 7).toNat : Int)))
                                    (IntKind.i64.wrap (2 + IntKind.i64.wrap (↑(BitVec.ofInt IntKind.i64.bits h &&& BitVec.ofInt IntKind.i64.bits 7).toNat : Int)))
                                    (IntKind.i64.wrap
                                        (IntKind.i64.wrap
                                            (IntKind.i64.wrap (2 + IntKind.i64.wrap (↑(BitVec.ofInt IntKind.i64.bits w &&& BitVec.ofInt IntKind.i64.bits 7).toNat : Int)) *
                                              IntKind.i64.wrap (2 + IntKind.i64.wrap (↑(BitVec.ofInt IntKind.i64.bits d &&& BitVec.ofInt IntKind.i64.bits 7).toNat : Int))) *
                                          IntKind.i64.wrap (2 + IntKind.i64.wrap (↑(BitVec.ofInt IntKind.i64.bits h &&& BitVec.ofInt IntKind.i64.bits 7).toNat : Int)))).toNat
                                    fun j =>
                                    (List.replicate
                                          (IntKind.i64.wrap
                                              (IntKind.i64.wrap
                                                  (IntKind.i64.wrap (2 + IntKind.i64.wrap (↑(BitVec.ofInt IntKind.i64.bits w &&& BitVec.ofInt IntKind.i64.bits 7).toNat : Int)) *
                                                    IntKind.i64.wrap (2 + IntKind.i64.wrap (↑(BitVec.ofInt IntKind.i64.bits d &&& BitVec.ofInt IntKind.i64.bits 7).toNat : Int))) *
                                                IntKind.i64.wrap (2 + IntKind.i64.wrap (↑(BitVec.ofInt IntKind.i64.bits h &&& BitVec.ofInt IntKind.i64.bits 7).toNat : Int)))).toNat
                                          false).getD
                                      (0 + j) false).slide
                                { x := px, y := py, z := pz } { x := max (-32768) (min 32768 bx), y := max (-32768) (min 32768 b_y), z := max (-32768) (min 32768 bz) }).snd.snd.fst then
                    bif
                        ((mpOf (IntKind.i64.wrap (2 + IntKind.i64.wrap (↑(BitVec.ofInt IntKind.i64.bits w &&& BitVec.ofInt IntKind.i64.bits 7).toNat : Int)))
                                    (IntKind.i64.wrap (2 + IntKind.i64.wrap (↑(BitVec.ofInt IntKind.i64.bits d &&& BitVec.ofInt IntKind.i64.bits 7).toNat : Int)))
                                    (IntKind.i64.wrap (2 + IntKind.i64.wrap (↑(BitVec.ofInt IntKind.i64.bits h &&& BitVec.ofInt IntKind.i64.bits 7).toNat : Int)))
                                    (IntKind.i64.wrap
                                        (IntKind.i64.wrap
                                            (IntKind.i64.wrap (2 + IntKind.i64.wrap (↑(BitVec.ofInt IntKind.i64.bits w &&& BitVec.ofInt IntKind.i64.bits 7).toNat : Int)) *
                                              IntKind.i64.wrap (2 + IntKind.i64.wrap (↑(BitVec.ofInt IntKind.i64.bits d &&& BitVec.ofInt IntKind.i64.bits 7).toNat : Int))) *
                                          IntKind.i64.wrap (2 + IntKind.i64.wrap (↑(BitVec.ofInt IntKind.i64.bits h &&& BitVec.ofInt IntKind.i64.bits 7).toNat : Int)))).toNat
                                    fun j =>
                                    (List.replicate
                                          (IntKind.i64.wrap
                                              (IntKind.i64.wrap
                                                  (IntKind.i64.wrap (2 + IntKind.i64.wrap (↑(BitVec.ofInt IntKind.i64.bits w &&& BitVec.ofInt IntKind.i64.bits 7).toNat : Int)) *
                                                    IntKind.i64.wrap (2 + IntKind.i64.wrap (↑(BitVec.ofInt IntKind.i64.bits d &&& BitVec.ofInt IntKind.i64.bits 7).toNat : Int))) *
                                                IntKind.i64.wrap (2 + IntKind.i64.wrap (↑(BitVec.ofInt IntKind.i64.bits h &&& BitVec.ofInt IntKind.i64.bits 7).toNat : Int)))).toNat
                                          false).getD
                                      (0 + j) false).slide
                                { x := px, y := py, z := pz } { x := max (-32768) (min 32768 bx), y := max (-32768) (min 32768 b_y), z := max (-32768) (min 32768 bz) }).fst.z ==
                          pz then
                      some (SV.bool true, [])
                    else
                      some
                        (SV.bool
                            !((mpOf (IntKind.i64.wrap (2 + IntKind.i64.wrap (↑(BitVec.ofInt IntKind.i64.bits w &&& BitVec.ofInt IntKind.i64.bits 7).toNat : Int)))
                                          (IntKind.i64.wrap (2 + IntKind.i64.wrap (↑(BitVec.ofInt IntKind.i64.bits d &&& BitVec.ofInt IntKind.i64.bits 7).toNat : Int)))
                                          (IntKind.i64.wrap (2 + IntKind.i64.wrap (↑(BitVec.ofInt IntKind.i64.bits h &&& BitVec.ofInt IntKind.i64.bits 7).toNat : Int)))
                                          (IntKind.i64.wrap
                                              (IntKind.i64.wrap
                                                  (IntKind.i64.wrap (2 + IntKind.i64.wrap (↑(BitVec.ofInt IntKind.i64.bits w &&& BitVec.ofInt IntKind.i64.bits 7).toNat : Int)) *
                                                    IntKind.i64.wrap (2 + IntKind.i64.wrap (↑(BitVec.ofInt IntKind.i64.bits d &&& BitVec.ofInt IntKind.i64.bits 7).toNat : Int))) *
                                                IntKind.i64.wrap (2 + IntKind.i64.wrap (↑(BitVec.ofInt IntKind.i64.bits h &&& BitVec.ofInt IntKind.i64.bits 7).toNat : Int)))).toNat
                                          fun j =>
                                          (List.replicate
                                                (IntKind.i64.wrap
                                                    (IntKind.i64.wrap
                                                        (IntKind.i64.wrap (2 + IntKind.i64.wrap (↑(BitVec.ofInt IntKind.i64.bits w &&& BitVec.ofInt IntKind.i64.bits 7).toNat : Int)) *
                                                          IntKind.i64.wrap (2 + IntKind.i64.wrap (↑(BitVec.ofInt IntKind.i64.bits d &&& BitVec.ofInt IntKind.i64.bits 7).toNat : Int))) *
                                                      IntKind.i64.wrap (2 + IntKind.i64.wrap (↑(BitVec.ofInt IntKind.i64.bits h &&& BitVec.ofInt IntKind.i64.bits 7).toNat : Int)))).toNat
                                                false).getD
                                            (0 + j) false).slide
                                      { x := px, y := py, z := pz } { x := max (-32768) (min 32768 bx), y := max (-32768) (min 32768 b_y), z := max (-32768) (min 32768 bz) }).snd.snd.snd,
                          [])
                  else some (SV.bool false, [])
              else
                bif
                    !((mpOf (IntKind.i64.wrap (2 + IntKind.i64.wrap (↑(BitVec.ofInt IntKind.i64.bits w &&& BitVec.ofInt IntKind.i64.bits 7).toNat : Int)))
                                (IntKind.i64.wrap (2 + IntKind.i64.wrap (↑(BitVec.ofInt IntKind.i64.bits d &&& BitVec.ofInt IntKind.i64.bits 7).toNat : Int)))
                                (IntKind.i64.wrap (2 + IntKind.i64.wrap (↑(BitVec.ofInt IntKind.i64.bits h &&& BitVec.ofInt IntKind.i64.bits 7).toNat : Int)))
                                (IntKind.i64.wrap
                                    (IntKind.i64.wrap
                                        (IntKind.i64.wrap (2 + IntKind.i64.wrap (↑(BitVec.ofInt IntKind.i64.bits w &&& BitVec.ofInt IntKind.i64.bits 7).toNat : Int)) *
                                          IntKind.i64.wrap (2 + IntKind.i64.wrap (↑(BitVec.ofInt IntKind.i64.bits d &&& BitVec.ofInt IntKind.i64.bits 7).toNat : Int))) *
                                      IntKind.i64.wrap (2 + IntKind.i64.wrap (↑(BitVec.ofInt IntKind.i64.bits h &&& BitVec.ofInt IntKind.i64.bits 7).toNat : Int)))).toNat
                                fun j =>
                                (List.replicate
                                      (IntKind.i64.wrap
                                          (IntKind.i64.wrap
                                              (IntKind.i64.wrap (2 + IntKind.i64.wrap (↑(BitVec.ofInt IntKind.i64.bits w &&& BitVec.ofInt IntKind.i64.bits 7).toNat : Int)) *
                                                IntKind.i64.wrap (2 + IntKind.i64.wrap (↑(BitVec.ofInt IntKind.i64.bits d &&& BitVec.ofInt IntKind.i64.bits 7).toNat : Int))) *
                                            IntKind.i64.wrap (2 + IntKind.i64.wrap (↑(BitVec.ofInt IntKind.i64.bits h &&& BitVec.ofInt IntKind.i64.bits 7).toNat : Int)))).toNat
                                      false).getD
                                  (0 + j) false).slide
                            { x := px, y := py, z := pz } { x := max (-32768) (min 32768 bx), y := max (-32768) (min 32768 b_y), z := max (-32768) (min 32768 bz) }).snd.fst then
                  bif
                      ((mpOf (IntKind.i64.wrap (2 + IntKind.i64.wrap (↑(BitVec.ofInt IntKind.i64.bits w &&& BitVec.ofInt IntKind.i64.bits 7).toNat : Int)))
                                  (IntKind.i64.wrap (2 + IntKind.i64.wrap (↑(BitVec.ofInt IntKind.i64.bits d &&& BitVec.ofInt IntKind.i64.bits 7).toNat : Int)))
                                  (IntKind.i64.wrap (2 + IntKind.i64.wrap (↑(BitVec.ofInt IntKind.i64.bits h &&& BitVec.ofInt IntKind.i64.bits 7).toNat : Int)))
                                  (IntKind.i64.wrap
                                      (IntKind.i64.wrap
                                          (IntKind.i64.wrap (2 + IntKind.i64.wrap (↑(BitVec.ofInt IntKind.i64.bits w &&& BitVec.ofInt IntKind.i64.bits 7).toNat : Int)) *
                                            IntKind.i64.wrap (2 + IntKind.i64.wrap (↑(BitVec.ofInt IntKind.i64.bits d &&& BitVec.ofInt IntKind.i64.bits 7).toNat : Int))) *
                                        IntKind.i64.wrap (2 + IntKind.i64.wrap (↑(BitVec.ofInt IntKind.i64.bits h &&& BitVec.ofInt IntKind.i64.bits 7).toNat : Int)))).toNat
                                  fun j =>
                                  (List.replicate
                                        (IntKind.i64.wrap
                                            (IntKind.i64.wrap
                                                (IntKind.i64.wrap (2 + IntKind.i64.wrap (↑(BitVec.ofInt IntKind.i64.bits w &&& BitVec.ofInt IntKind.i64.bits 7).toNat : Int)) *
                                                  IntKind.i64.wrap (2 + IntKind.i64.wrap (↑(BitVec.ofInt IntKind.i64.bits d &&& BitVec.ofInt IntKind.i64.bits 7).toNat : Int))) *
                                              IntKind.i64.wrap (2 + IntKind.i64.wrap (↑(BitVec.ofInt IntKind.i64.bits h &&& BitVec.ofInt IntKind.i64.bits 7).toNat : Int)))).toNat
                                        false).getD
                                    (0 + j) false).slide
                              { x := px, y := py, z := pz } { x := max (-32768) (min 32768 bx), y := max (-32768) (min 32768 b_y), z := max (-32768) (min 32768 bz) }).fst.y ==
                        py then
                    bif
                        ((mpOf (IntKind.i64.wrap (2 + IntKind.i64.wrap (↑(BitVec.ofInt IntKind.i64.bits w &&& BitVec.ofInt IntKind.i64.bits 7).toNat : Int)))
                                    (IntKind.i64.wrap (2 + IntKind.i64.wrap (↑(BitVec.ofInt IntKind.i64.bits d &&& BitVec.ofInt IntKind.i64.bits 7).toNat : Int)))
                                    (IntKind.i64.wrap (2 + IntKind.i64.wrap (↑(BitVec.ofInt IntKind.i64.bits h &&& BitVec.ofInt IntKind.i64.bits 7).toNat : Int)))
                                    (IntKind.i64.wrap
                                        (IntKind.i64.wrap
                                            (IntKind.i64.wrap (2 + IntKind.i64.wrap (↑(BitVec.ofInt IntKind.i64.bits w &&& BitVec.ofInt IntKind.i64.bits 7).toNat : Int)) *
                                              IntKind.i64.wrap (2 + IntKind.i64.wrap (↑(BitVec.ofInt IntKind.i64.bits d &&& BitVec.ofInt IntKind.i64.bits 7).toNat : Int))) *
                                          IntKind.i64.wrap (2 + IntKind.i64.wrap (↑(BitVec.ofInt IntKind.i64.bits h &&& BitVec.ofInt IntKind.i64.bits 7).toNat : Int)))).toNat
                                    fun j =>
                                    (List.replicate
                                          (IntKind.i64.wrap
                                              (IntKind.i64.wrap
                                                  (IntKind.i64.wrap (2 + IntKind.i64.wrap (↑(BitVec.ofInt IntKind.i64.bits w &&& BitVec.ofInt IntKind.i64.bits 7).toNat : Int)) *
                                                    IntKind.i64.wrap (2 + IntKind.i64.wrap (↑(BitVec.ofInt IntKind.i64.bits d &&& BitVec.ofInt IntKind.i64.bits 7).toNat : Int))) *
                                                IntKind.i64.wrap (2 + IntKind.i64.wrap (↑(BitVec.ofInt IntKind.i64.bits h &&& BitVec.ofInt IntKind.i64.bits 7).toNat : Int)))).toNat
                                          false).getD
                                      (0 + j) false).slide
                                { x := px, y := py, z := pz } { x := max (-32768) (min 32768 bx), y := max (-32768) (min 32768 b_y), z := max (-32768) (min 32768 bz) }).fst.z ==
                          pz then
                      some (SV.bool true, [])
                    else
                      some
                        (SV.bool
                            !((mpOf (IntKind.i64.wrap (2 + IntKind.i64.wrap (↑(BitVec.ofInt IntKind.i64.bits w &&& BitVec.ofInt IntKind.i64.bits 7).toNat : Int)))
                                          (IntKind.i64.wrap (2 + IntKind.i64.wrap (↑(BitVec.ofInt IntKind.i64.bits d &&& BitVec.ofInt IntKind.i64.bits 7).toNat : Int)))
                                          (IntKind.i64.wrap (2 + IntKind.i64.wrap (↑(BitVec.ofInt IntKind.i64.bits h &&& BitVec.ofInt IntKind.i64.bits 7).toNat : Int)))
                                          (IntKind.i64.wrap
                                              (IntKind.i64.wrap
                                                  (IntKind.i64.wrap (2 + IntKind.i64.wrap (↑(BitVec.ofInt IntKind.i64.bits w &&& BitVec.ofInt IntKind.i64.bits 7).toNat : Int)) *
                                                    IntKind.i64.wrap (2 + IntKind.i64.wrap (↑(BitVec.ofInt IntKind.i64.bits d &&& BitVec.ofInt IntKind.i64.bits 7).toNat : Int))) *
                                                IntKind.i64.wrap (2 + IntKind.i64.wrap (↑(BitVec.ofInt IntKind.i64.bits h &&& BitVec.ofInt IntKind.i64.bits 7).toNat : Int)))).toNat
                                          fun j =>
                                          (List.replicate
                                                (IntKind.i64.wrap
                                                    (IntKind.i64.wrap
                                                        (IntKind.i64.wrap (2 + IntKind.i64.wrap (↑(BitVec.ofInt IntKind.i64.bits w &&& BitVec.ofInt IntKind.i64.bits 7).toNat : Int)) *
                                                          IntKind.i64.wrap (2 + IntKind.i64.wrap (↑(BitVec.ofInt IntKind.i64.bits d &&& BitVec.ofInt IntKind.i64.bits 7).toNat : Int))) *
                                                      IntKind.i64.wrap (2 + IntKind.i64.wrap (↑(BitVec.ofInt IntKind.i64.bits h &&& BitVec.ofInt IntKind.i64.bits 7).toNat : Int)))).toNat
                                                false).getD
                                            (0 + j) false).slide
                                      { x := px, y := py, z := pz } { x := max (-32768) (min 32768 bx), y := max (-32768) (min 32768 b_y), z := max (-32768) (min 32768 bz) }).snd.snd.snd,
                          [])
                  else
                    bif
                        !((mpOf (IntKind.i64.wrap (2 + IntKind.i64.wrap (↑(BitVec.ofInt IntKind.i64.bits w &&& BitVec.ofInt IntKind.i64.bits 7).toNat : Int)))
                                      (IntKind.i64.wrap (2 + IntKind.i64.wrap (↑(BitVec.ofInt IntKind.i64.bits d &&& BitVec.ofInt IntKind.i64.bits 7).toNat : Int)))
                                      (IntKind.i64.wrap (2 + IntKind.i64.wrap (↑(BitVec.ofInt IntKind.i64.bits h &&& BitVec.ofInt IntKind.i64.bits 7).toNat : Int)))
                                      (IntKind.i64.wrap
                                          (IntKind.i64.wrap
                                              (IntKind.i64.wrap (2 + IntKind.i64.wrap (↑(BitVec.ofInt IntKind.i64.bits w &&& BitVec.ofInt IntKind.i64.bits 7).toNat : Int)) *
                                                IntKind.i64.wrap (2 + IntKind.i64.wrap (↑(BitVec.ofInt IntKind.i64.bits d &&& BitVec.ofInt IntKind.i64.bits 7).toNat : Int))) *
                                            IntKind.i64.wrap (2 + IntKind.i64.wrap (↑(BitVec.ofInt IntKind.i64.bits h &&& BitVec.ofInt IntKind.i64.bits 7).toNat : Int)))).toNat
                                      fun j =>
                                      (List.replicate
                                            (IntKind.i64.wrap
                                                (IntKind.i64.wrap
                                                    (IntKind.i64.wrap (2 + IntKind.i64.wrap (↑(BitVec.ofInt IntKind.i64.bits w &&& BitVec.ofInt IntKind.i64.bits 7).toNat : Int)) *
                                                      IntKind.i64.wrap (2 + IntKind.i64.wrap (↑(BitVec.ofInt IntKind.i64.bits d &&& BitVec.ofInt IntKind.i64.bits 7).toNat : Int))) *
                                                  IntKind.i64.wrap (2 + IntKind.i64.wrap (↑(BitVec.ofInt IntKind.i64.bits h &&& BitVec.ofInt IntKind.i64.bits 7).toNat : Int)))).toNat
                                            false).getD
                                        (0 + j) false).slide
                                  { x := px, y := py, z := pz } { x := max (-32768) (min 32768 bx), y := max (-32768) (min 32768 b_y), z := max (-32768) (min 32768 bz) }).snd.snd.fst then
                      bif
                          ((mpOf (IntKind.i64.wrap (2 + IntKind.i64.wrap (↑(BitVec.ofInt IntKind.i64.bits w &&& BitVec.ofInt IntKind.i64.bits 7).toNat : Int)))
                                      (IntKind.i64.wrap (2 + IntKind.i64.wrap (↑(BitVec.ofInt IntKind.i64.bits d &&& BitVec.ofInt IntKind.i64.bits 7).toNat : Int)))
                                      (IntKind.i64.wrap (2 + IntKind.i64.wrap (↑(BitVec.ofInt IntKind.i64.bits h &&& BitVec.ofInt IntKind.i64.bits 7).toNat : Int)))
                                      (IntKind.i64.wrap
                                          (IntKind.i64.wrap
                                              (IntKind.i64.wrap (2 + IntKind.i64.wrap (↑(BitVec.ofInt IntKind.i64.bits w &&& BitVec.ofInt IntKind.i64.bits 7).toNat : Int)) *
                                                IntKind.i64.wrap (2 + IntKind.i64.wrap (↑(BitVec.ofInt IntKind.i64.bits d &&& BitVec.ofInt IntKind.i64.bits 7).toNat : Int))) *
                                            IntKind.i64.wrap (2 + IntKind.i64.wrap (↑(BitVec.ofInt IntKind.i64.bits h &&& BitVec.ofInt IntKind.i64.bits 7).toNat : Int)))).toNat
                                      fun j =>
                                      (List.replicate
                                            (IntKind.i64.wrap
                                                (IntKind.i64.wrap
                                                    (IntKind.i64.wrap (2 + IntKind.i64.wrap (↑(BitVec.ofInt IntKind.i64.bits w &&& BitVec.ofInt IntKind.i64.bits 7).toNat : Int)) *
                                                      IntKind.i64.wrap (2 + IntKind.i64.wrap (↑(BitVec.ofInt IntKind.i64.bits d &&& BitVec.ofInt IntKind.i64.bits 7).toNat : Int))) *
                                                  IntKind.i64.wrap (2 + IntKind.i64.wrap (↑(BitVec.ofInt IntKind.i64.bits h &&& BitVec.ofInt IntKind.i64.bits 7).toNat : Int)))).toNat
                                            false).getD
                                        (0 + j) false).slide
                                  { x := px, y := py, z := pz } { x := max (-32768) (min 32768 bx), y := max (-32768) (min 32768 b_y), z := max (-32768) (min 32768 bz) }).fst.z ==
                            pz then
                        some (SV.bool true, [])
                      else
                        some
                          (SV.bool
                              !((mpOf (IntKind.i64.wrap (2 + IntKind.i64.wrap (↑(BitVec.ofInt IntKind.i64.bits w &&& BitVec.ofInt IntKind.i64.bits 7).toNat : Int)))
                                            (IntKind.i64.wrap (2 + IntKind.i64.wrap (↑(BitVec.ofInt IntKind.i64.bits d &&& BitVec.ofInt IntKind.i64.bits 7).toNat : Int)))
                                            (IntKind.i64.wrap (2 + IntKind.i64.wrap (↑(BitVec.ofInt IntKind.i64.bits h &&& BitVec.ofInt IntKind.i64.bits 7).toNat : Int)))
                                            (IntKind.i64.wrap
                                                (IntKind.i64.wrap
                                                    (IntKind.i64.wrap (2 + IntKind.i64.wrap (↑(BitVec.ofInt IntKind.i64.bits w &&& BitVec.ofInt IntKind.i64.bits 7).toNat : Int)) *
                                                      IntKind.i64.wrap (2 + IntKind.i64.wrap (↑(BitVec.ofInt IntKind.i64.bits d &&& BitVec.ofInt IntKind.i64.bits 7).toNat : Int))) *
                                                  IntKind.i64.wrap (2 + IntKind.i64.wrap (↑(BitVec.ofInt IntKind.i64.bits h &&& BitVec.ofInt IntKind.i64.bits 7).toNat : Int)))).toNat
                                            fun j =>
                                            (List.replicate
                                                  (IntKind.i64.wrap
                                                      (IntKind.i64.wrap
                                                          (IntKind.i64.wrap (2 + IntKind.i64.wrap (↑(BitVec.ofInt IntKind.i64.bits w &&& BitVec.ofInt IntKind.i64.bits 7).toNat : Int)) *
                                                            IntKind.i64.wrap (2 + IntKind.i64.wrap (↑(BitVec.ofInt IntKind.i64.bits d &&& BitVec.ofInt IntKind.i64.bits 7).toNat : Int))) *
                                                        IntKind.i64.wrap (2 + IntKind.i64.wrap (↑(BitVec.ofInt IntKind.i64.bits h &&& BitVec.ofInt IntKind.i64.bits 7).toNat : Int)))).toNat
                                                  false).getD
                                              (0 + j) false).slide
                                        { x := px, y := py, z := pz } { x := max (-32768) (min 32768 bx), y := max (-32768) (min 32768 b_y), z := max (-32768) (min 32768 bz) }).snd.snd.snd,
                            [])
                    else some (SV.bool false, [])
                else some (SV.bool false, [])
            else
              bif
                  ((mpOf (IntKind.i64.wrap (2 + IntKind.i64.wrap (↑(BitVec.ofInt IntKind.i64.bits w &&& BitVec.ofInt IntKind.i64.bits 7).toNat : Int)))
                              (IntKind.i64.wrap (2 + IntKind.i64.wrap (↑(BitVec.ofInt IntKind.i64.bits d &&& BitVec.ofInt IntKind.i64.bits 7).toNat : Int)))
                              (IntKind.i64.wrap (2 + IntKind.i64.wrap (↑(BitVec.ofInt IntKind.i64.bits h &&& BitVec.ofInt IntKind.i64.bits 7).toNat : Int)))
                              (IntKind.i64.wrap
                                  (IntKind.i64.wrap
                                      (IntKind.i64.wrap (2 + IntKind.i64.wrap (↑(BitVec.ofInt IntKind.i64.bits w &&& BitVec.ofInt IntKind.i64.bits 7).toNat : Int)) *
                                        IntKind.i64.wrap (2 + IntKind.i64.wrap (↑(BitVec.ofInt IntKind.i64.bits d &&& BitVec.ofInt IntKind.i64.bits 7).toNat : Int))) *
                                    IntKind.i64.wrap (2 + IntKind.i64.wrap (↑(BitVec.ofInt IntKind.i64.bits h &&& BitVec.ofInt IntKind.i64.bits 7).toNat : Int)))).toNat
                              fun j =>
                              (List.replicate
                                    (IntKind.i64.wrap
                                        (IntKind.i64.wrap
                                            (IntKind.i64.wrap (2 + IntKind.i64.wrap (↑(BitVec.ofInt IntKind.i64.bits w &&& BitVec.ofInt IntKind.i64.bits 7).toNat : Int)) *
                                              IntKind.i64.wrap (2 + IntKind.i64.wrap (↑(BitVec.ofInt IntKind.i64.bits d &&& BitVec.ofInt IntKind.i64.bits 7).toNat : Int))) *
                                          IntKind.i64.wrap (2 + IntKind.i64.wrap (↑(BitVec.ofInt IntKind.i64.bits h &&& BitVec.ofInt IntKind.i64.bits 7).toNat : Int)))).toNat
                                    false).getD
                                (0 + j) false).slide
                          { x := px, y := py, z := pz } { x := max (-32768) (min 32768 bx), y := max (-32768) (min 32768 b_y), z := max (-32768) (min 32768 bz) }).snd.snd.snd then
                bif
                    ((mpOf (IntKind.i64.wrap (2 + IntKind.i64.wrap (↑(BitVec.ofInt IntKind.i64.bits w &&& BitVec.ofInt IntKind.i64.bits 7).toNat : Int)))
                                (IntKind.i64.wrap (2 + IntKind.i64.wrap (↑(BitVec.ofInt IntKind.i64.bits d &&& BitVec.ofInt IntKind.i64.bits 7).toNat : Int)))
                                (IntKind.i64.wrap (2 + IntKind.i64.wrap (↑(BitVec.ofInt IntKind.i64.bits h &&& BitVec.ofInt IntKind.i64.bits 7).toNat : Int)))
                                (IntKind.i64.wrap
                                    (IntKind.i64.wrap
                                        (IntKind.i64.wrap (2 + IntKind.i64.wrap (↑(BitVec.ofInt IntKind.i64.bits w &&& BitVec.ofInt IntKind.i64.bits 7).toNat : Int)) *
                                          IntKind.i64.wrap (2 + IntKind.i64.wrap (↑(BitVec.ofInt IntKind.i64.bits d &&& BitVec.ofInt IntKind.i64.bits 7).toNat : Int))) *
                                      IntKind.i64.wrap (2 + IntKind.i64.wrap (↑(BitVec.ofInt IntKind.i64.bits h &&& BitVec.ofInt IntKind.i64.bits 7).toNat : Int)))).toNat
                                fun j =>
                                (List.replicate
                                      (IntKind.i64.wrap
                                          (IntKind.i64.wrap
                                              (IntKind.i64.wrap (2 + IntKind.i64.wrap (↑(BitVec.ofInt IntKind.i64.bits w &&& BitVec.ofInt IntKind.i64.bits 7).toNat : Int)) *
                                                IntKind.i64.wrap (2 + IntKind.i64.wrap (↑(BitVec.ofInt IntKind.i64.bits d &&& BitVec.ofInt IntKind.i64.bits 7).toNat : Int))) *
                                            IntKind.i64.wrap (2 + IntKind.i64.wrap (↑(BitVec.ofInt IntKind.i64.bits h &&& BitVec.ofInt IntKind.i64.bits 7).toNat : Int)))).toNat
                                      false).getD
                                  (0 + j) false).slide
                            { x := px, y := py, z := pz } { x := max (-32768) (min 32768 bx), y := max (-32768) (min 32768 b_y), z := max (-32768) (min 32768 bz) }).fst.x ==
                      px then
                  bif
                      ((mpOf (IntKind.i64.wrap (2 + IntKind.i64.wrap (↑(BitVec.ofInt IntKind.i64.bits w &&& BitVec.ofInt IntKind.i64.bits 7).toNat : Int)))
                                  (IntKind.i64.wrap (2 + IntKind.i64.wrap (↑(BitVec.ofInt IntKind.i64.bits d &&& BitVec.ofInt IntKind.i64.bits 7).toNat : Int)))
                                  (IntKind.i64.wrap (2 + IntKind.i64.wrap (↑(BitVec.ofInt IntKind.i64.bits h &&& BitVec.ofInt IntKind.i64.bits 7).toNat : Int)))
                                  (IntKind.i64.wrap
                                      (IntKind.i64.wrap
                                          (IntKind.i64.wrap (2 + IntKind.i64.wrap (↑(BitVec.ofInt IntKind.i64.bits w &&& BitVec.ofInt IntKind.i64.bits 7).toNat : Int)) *
                                            IntKind.i64.wrap (2 + IntKind.i64.wrap (↑(BitVec.ofInt IntKind.i64.bits d &&& BitVec.ofInt IntKind.i64.bits 7).toNat : Int))) *
                                        IntKind.i64.wrap (2 + IntKind.i64.wrap (↑(BitVec.ofInt IntKind.i64.bits h &&& BitVec.ofInt IntKind.i64.bits 7).toNat : Int)))).toNat
                                  fun j =>
                                  (List.replicate
                                        (IntKind.i64.wrap
                                            (IntKind.i64.wrap
                                                (IntKind.i64.wrap (2 + IntKind.i64.wrap (↑(BitVec.ofInt IntKind.i64.bits w &&& BitVec.ofInt IntKind.i64.bits 7).toNat : Int)) *
                                                  IntKind.i64.wrap (2 + IntKind.i64.wrap (↑(BitVec.ofInt IntKind.i64.bits d &&& BitVec.ofInt IntKind.i64.bits 7).toNat : Int))) *
                                              IntKind.i64.wrap (2 + IntKind.i64.wrap (↑(BitVec.ofInt IntKind.i64.bits h &&& BitVec.ofInt IntKind.i64.bits 7).toNat : Int)))).toNat
                                        false).getD
                                    (0 + j) false).slide
                              { x := px, y := py, z := pz } { x := max (-32768) (min 32768 bx), y := max (-32768) (min 32768 b_y), z := max (-32768) (min 32768 bz) }).fst.y ==
                        py then
                    bif
                        ((mpOf (IntKind.i64.wrap (2 + IntKind.i64.wrap (↑(BitVec.ofInt IntKind.i64.bits w &&& BitVec.ofInt IntKind.i64.bits 7).toNat : Int)))
                                    (IntKind.i64.wrap (2 + IntKind.i64.wrap (↑(BitVec.ofInt IntKind.i64.bits d &&& BitVec.ofInt IntKind.i64.bits 7).toNat : Int)))
                                    (IntKind.i64.wrap (2 + IntKind.i64.wrap (↑(BitVec.ofInt IntKind.i64.bits h &&& BitVec.ofInt IntKind.i64.bits 7).toNat : Int)))
                                    (IntKind.i64.wrap
                                        (IntKind.i64.wrap
                                            (IntKind.i64.wrap (2 + IntKind.i64.wrap (↑(BitVec.ofInt IntKind.i64.bits w &&& BitVec.ofInt IntKind.i64.bits 7).toNat : Int)) *
                                              IntKind.i64.wrap (2 + IntKind.i64.wrap (↑(BitVec.ofInt IntKind.i64.bits d &&& BitVec.ofInt IntKind.i64.bits 7).toNat : Int))) *
                                          IntKind.i64.wrap (2 + IntKind.i64.wrap (↑(BitVec.ofInt IntKind.i64.bits h &&& BitVec.ofInt IntKind.i64.bits 7).toNat : Int)))).toNat
                                    fun j =>
                                    (List.replicate
                                          (IntKind.i64.wrap
                                              (IntKind.i64.wrap
                                                  (IntKind.i64.wrap (2 + IntKind.i64.wrap (↑(BitVec.ofInt IntKind.i64.bits w &&& BitVec.ofInt IntKind.i64.bits 7).toNat : Int)) *
                                                    IntKind.i64.wrap (2 + IntKind.i64.wrap (↑(BitVec.ofInt IntKind.i64.bits d &&& BitVec.ofInt IntKind.i64.bits 7).toNat : Int))) *
                                                IntKind.i64.wrap (2 + IntKind.i64.wrap (↑(BitVec.ofInt IntKind.i64.bits h &&& BitVec.ofInt IntKind.i64.bits 7).toNat : Int)))).toNat
                                          false).getD
                                      (0 + j) false).slide
                                { x := px, y := py, z := pz } { x := max (-32768) (min 32768 bx), y := max (-32768) (min 32768 b_y), z := max (-32768) (min 32768 bz) }).fst.z ==
                          pz then
                      some (SV.bool true, [])
                    else
                      some
                        (SV.bool
                            !((mpOf (IntKind.i64.wrap (2 + IntKind.i64.wrap (↑(BitVec.ofInt IntKind.i64.bits w &&& BitVec.ofInt IntKind.i64.bits 7).toNat : Int)))
                                          (IntKind.i64.wrap (2 + IntKind.i64.wrap (↑(BitVec.ofInt IntKind.i64.bits d &&& BitVec.ofInt IntKind.i64.bits 7).toNat : Int)))
                                          (IntKind.i64.wrap (2 + IntKind.i64.wrap (↑(BitVec.ofInt IntKind.i64.bits h &&& BitVec.ofInt IntKind.i64.bits 7).toNat : Int)))
                                          (IntKind.i64.wrap
                                              (IntKind.i64.wrap
                                                  (IntKind.i64.wrap (2 + IntKind.i64.wrap (↑(BitVec.ofInt IntKind.i64.bits w &&& BitVec.ofInt IntKind.i64.bits 7).toNat : Int)) *
                                                    IntKind.i64.wrap (2 + IntKind.i64.wrap (↑(BitVec.ofInt IntKind.i64.bits d &&& BitVec.ofInt IntKind.i64.bits 7).toNat : Int))) *
                                                IntKind.i64.wrap (2 + IntKind.i64.wrap (↑(BitVec.ofInt IntKind.i64.bits h &&& BitVec.ofInt IntKind.i64.bits 7).toNat : Int)))).toNat
                                          fun j =>
                                          (List.replicate
                                                (IntKind.i64.wrap
                                                    (IntKind.i64.wrap
                                                        (IntKind.i64.wrap (2 + IntKind.i64.wrap (↑(BitVec.ofInt IntKind.i64.bits w &&& BitVec.ofInt IntKind.i64.bits 7).toNat : Int)) *
                                                          IntKind.i64.wrap (2 + IntKind.i64.wrap (↑(BitVec.ofInt IntKind.i64.bits d &&& BitVec.ofInt IntKind.i64.bits 7).toNat : Int))) *
                                                      IntKind.i64.wrap (2 + IntKind.i64.wrap (↑(BitVec.ofInt IntKind.i64.bits h &&& BitVec.ofInt IntKind.i64.bits 7).toNat : Int)))).toNat
                                                false).getD
                                            (0 + j) false).slide
                                      { x := px, y := py, z := pz } { x := max (-32768) (min 32768 bx), y := max (-32768) (min 32768 b_y), z := max (-32768) (min 32768 bz) }).snd.snd.snd,
                          [])
                  else
                    bif
                        !((mpOf (IntKind.i64.wrap (2 + IntKind.i64.wrap (↑(BitVec.ofInt IntKind.i64.bits w &&& BitVec.ofInt IntKind.i64.bits 7).toNat : Int)))
                                      (IntKind.i64.wrap (2 + IntKind.i64.wrap (↑(BitVec.ofInt IntKind.i64.bits d &&& BitVec.ofInt IntKind.i64.bits 7).toNat : Int)))
                                      (IntKind.i64.wrap (2 + IntKind.i64.wrap (↑(BitVec.ofInt IntKind.i64.bits h &&& BitVec.ofInt IntKind.i64.bits 7).toNat : Int)))
                                      (IntKind.i64.wrap
                                          (IntKind.i64.wrap
                                              (IntKind.i64.wrap (2 + IntKind.i64.wrap (↑(BitVec.ofInt IntKind.i64.bits w &&& BitVec.ofInt IntKind.i64.bits 7).toNat : Int)) *
                                                IntKind.i64.wrap (2 + IntKind.i64.wrap (↑(BitVec.ofInt IntKind.i64.bits d &&& BitVec.ofInt IntKind.i64.bits 7).toNat : Int))) *
                                            IntKind.i64.wrap (2 + IntKind.i64.wrap (↑(BitVec.ofInt IntKind.i64.bits h &&& BitVec.ofInt IntKind.i64.bits 7).toNat : Int)))).toNat
                                      fun j =>
                                      (List.replicate
                                            (IntKind.i64.wrap
                                                (IntKind.i64.wrap
                                                    (IntKind.i64.wrap (2 + IntKind.i64.wrap (↑(BitVec.ofInt IntKind.i64.bits w &&& BitVec.ofInt IntKind.i64.bits 7).toNat : Int)) *
                                                      IntKind.i64.wrap (2 + IntKind.i64.wrap (↑(BitVec.ofInt IntKind.i64.bits d &&& BitVec.ofInt IntKind.i64.bits 7).toNat : Int))) *
                                                  IntKind.i64.wrap (2 + IntKind.i64.wrap (↑(BitVec.ofInt IntKind.i64.bits h &&& BitVec.ofInt IntKind.i64.bits 7).toNat : Int)))).toNat
                                            false).getD
                                        (0 + j) false).slide
                                  { x := px, y := py, z := pz } { x := max (-32768) (min 32768 bx), y := max (-32768) (min 32768 b_y), z := max (-32768) (min 32768 bz) }).snd.snd.fst then
                      bif
                          ((mpOf (IntKind.i64.wrap (2 + IntKind.i64.wrap (↑(BitVec.ofInt IntKind.i64.bits w &&& BitVec.ofInt IntKind.i64.bits 7).toNat : Int)))
                                      (IntKind.i64.wrap (2 + IntKind.i64.wrap (↑(BitVec.ofInt IntKind.i64.bits d &&& BitVec.ofInt IntKind.i64.bits 7).toNat : Int)))
                                      (IntKind.i64.wrap (2 + IntKind.i64.wrap (↑(BitVec.ofInt IntKind.i64.bits h &&& BitVec.ofInt IntKind.i64.bits 7).toNat : Int)))
                                      (IntKind.i64.wrap
                                          (IntKind.i64.wrap
                                              (IntKind.i64.wrap (2 + IntKind.i64.wrap (↑(BitVec.ofInt IntKind.i64.bits w &&& BitVec.ofInt IntKind.i64.bits 7).toNat : Int)) *
                                                IntKind.i64.wrap (2 + IntKind.i64.wrap (↑(BitVec.ofInt IntKind.i64.bits d &&& BitVec.ofInt IntKind.i64.bits 7).toNat : Int))) *
                                            IntKind.i64.wrap (2 + IntKind.i64.wrap (↑(BitVec.ofInt IntKind.i64.bits h &&& BitVec.ofInt IntKind.i64.bits 7).toNat : Int)))).toNat
                                      fun j =>
                                      (List.replicate
                                            (IntKind.i64.wrap
                                                (IntKind.i64.wrap
                                                    (IntKind.i64.wrap (2 + IntKind.i64.wrap (↑(BitVec.ofInt IntKind.i64.bits w &&& BitVec.ofInt IntKind.i64.bits 7).toNat : Int)) *
                                                      IntKind.i64.wrap (2 + IntKind.i64.wrap (↑(BitVec.ofInt IntKind.i64.bits d &&& BitVec.ofInt IntKind.i64.bits 7).toNat : Int))) *
                                                  IntKind.i64.wrap (2 + IntKind.i64.wrap (↑(BitVec.ofInt IntKind.i64.bits h &&& BitVec.ofInt IntKind.i64.bits 7).toNat : Int)))).toNat
                                            false).getD
                                        (0 + j) false).slide
                                  { x := px, y := py, z := pz } { x := max (-32768) (min 32768 bx), y := max (-32768) (min 32768 b_y), z := max (-32768) (min 32768 bz) }).fst.z ==
                            pz then
                        some (SV.bool true, [])
                      else
                        some
                          (SV.bool
                              !((mpOf (IntKind.i64.wrap (2 + IntKind.i64.wrap (↑(BitVec.ofInt IntKind.i64.bits w &&& BitVec.ofInt IntKind.i64.bits 7).toNat : Int)))
                                            (IntKind.i64.wrap (2 + IntKind.i64.wrap (↑(BitVec.ofInt IntKind.i64.bits d &&& BitVec.ofInt IntKind.i64.bits 7).toNat : Int)))
                                            (IntKind.i64.wrap (2 + IntKind.i64.wrap (↑(BitVec.ofInt IntKind.i64.bits h &&& BitVec.ofInt IntKind.i64.bits 7).toNat : Int)))
                                            (IntKind.i64.wrap
                                                (IntKind.i64.wrap
                                                    (IntKind.i64.wrap (2 + IntKind.i64.wrap (↑(BitVec.ofInt IntKind.i64.bits w &&& BitVec.ofInt IntKind.i64.bits 7).toNat : Int)) *
                                                      IntKind.i64.wrap (2 + IntKind.i64.wrap (↑(BitVec.ofInt IntKind.i64.bits d &&& BitVec.ofInt IntKind.i64.bits 7).toNat : Int))) *
                                                  IntKind.i64.wrap (2 + IntKind.i64.wrap (↑(BitVec.ofInt IntKind.i64.bits h &&& BitVec.ofInt IntKind.i64.bits 7).toNat : Int)))).toNat
                                            fun j =>
                                            (List.replicate
                                                  (IntKind.i64.wrap
                                                      (IntKind.i64.wrap
                                                          (IntKind.i64.wrap (2 + IntKind.i64.wrap (↑(BitVec.ofInt IntKind.i64.bits w &&& BitVec.ofInt IntKind.i64.bits 7).toNat : Int)) *
                                                            IntKind.i64.wrap (2 + IntKind.i64.wrap (↑(BitVec.ofInt IntKind.i64.bits d &&& BitVec.ofInt IntKind.i64.bits 7).toNat : Int))) *
                                                        IntKind.i64.wrap (2 + IntKind.i64.wrap (↑(BitVec.ofInt IntKind.i64.bits h &&& BitVec.ofInt IntKind.i64.bits 7).toNat : Int)))).toNat
                                                  false).getD
                                              (0 + j) false).slide
                                        { x := px, y := py, z := pz } { x := max (-32768) (min 32768 bx), y := max (-32768) (min 32768 b_y), z := max (-32768) (min 32768 bz) }).snd.snd.snd,
                            [])
                    else some (SV.bool false, [])
                else
                  bif
                      !((mpOf (IntKind.i64.wrap (2 + IntKind.i64.wrap (↑(BitVec.ofInt IntKind.i64.bits w &&& BitVec.ofInt IntKind.i64.bits 7).toNat : Int)))
                                  (IntKind.i64.wrap (2 + IntKind.i64.wrap (↑(BitVec.ofInt IntKind.i64.bits d &&& BitVec.ofInt IntKind.i64.bits 7).toNat : Int)))
                                  (IntKind.i64.wrap (2 + IntKind.i64.wrap (↑(BitVec.ofInt IntKind.i64.bits h &&& BitVec.ofInt IntKind.i64.bits 7).toNat : Int)))
                                  (IntKind.i64.wrap
                                      (IntKind.i64.wrap
                                          (IntKind.i64.wrap (2 + IntKind.i64.wrap (↑(BitVec.ofInt IntKind.i64.bits w &&& BitVec.ofInt IntKind.i64.bits 7).toNat : Int)) *
                                            IntKind.i64.wrap (2 + IntKind.i64.wrap (↑(BitVec.ofInt IntKind.i64.bits d &&& BitVec.ofInt IntKind.i64.bits 7).toNat : Int))) *
                                        IntKind.i64.wrap (2 + IntKind.i64.wrap (↑(BitVec.ofInt IntKind.i64.bits h &&& BitVec.ofInt IntKind.i64.bits 7).toNat : Int)))).toNat
                                  fun j =>
                                  (List.replicate
                                        (IntKind.i64.wrap
                                            (IntKind.i64.wrap
                                                (IntKind.i64.wrap (2 + IntKind.i64.wrap (↑(BitVec.ofInt IntKind.i64.bits w &&& BitVec.ofInt IntKind.i64.bits 7).toNat : Int)) *
                                                  IntKind.i64.wrap (2 + IntKind.i64.wrap (↑(BitVec.ofInt IntKind.i64.bits d &&& BitVec.ofInt IntKind.i64.bits 7).toNat : Int))) *
                                              IntKind.i64.wrap (2 + IntKind.i64.wrap (↑(BitVec.ofInt IntKind.i64.bits h &&& BitVec.ofInt IntKind.i64.bits 7).toNat : Int)))).toNat
                                        false).getD
                                    (0 + j) false).slide
                              { x := px, y := py, z := pz } { x := max (-32768) (min 32768 bx), y := max (-32768) (min 32768 b_y), z := max (-32768) (min 32768 bz) }).snd.fst then
                    bif
                        ((mpOf (IntKind.i64.wrap (2 + IntKind.i64.wrap (↑(BitVec.ofInt IntKind.i64.bits w &&& BitVec.ofInt IntKind.i64.bits 7).toNat : Int)))
                                    (IntKind.i64.wrap (2 + IntKind.i64.wrap (↑(BitVec.ofInt IntKind.i64.bits d &&& BitVec.ofInt IntKind.i64.bits 7).toNat : Int)))
                                    (IntKind.i64.wrap (2 + IntKind.i64.wrap (↑(BitVec.ofInt IntKind.i64.bits h &&& BitVec.ofInt IntKind.i64.bits 7).toNat : Int)))
                                    (IntKind.i64.wrap
                                        (IntKind.i64.wrap
                                            (IntKind.i64.wrap (2 + IntKind.i64.wrap (↑(BitVec.ofInt IntKind.i64.bits w &&& BitVec.ofInt IntKind.i64.bits 7).toNat : Int)) *
                                              IntKind.i64.wrap (2 + IntKind.i64.wrap (↑(BitVec.ofInt IntKind.i64.bits d &&& BitVec.ofInt IntKind.i64.bits 7).toNat : Int))) *
                                          IntKind.i64.wrap (2 + IntKind.i64.wrap (↑(BitVec.ofInt IntKind.i64.bits h &&& BitVec.ofInt IntKind.i64.bits 7).toNat : Int)))).toNat
                                    fun j =>
                                    (List.replicate
                                          (IntKind.i64.wrap
                                              (IntKind.i64.wrap
                                                  (IntKind.i64.wrap (2 + IntKind.i64.wrap (↑(BitVec.ofInt IntKind.i64.bits w &&& BitVec.ofInt IntKind.i64.bits 7).toNat : Int)) *
                                                    IntKind.i64.wrap (2 + IntKind.i64.wrap (↑(BitVec.ofInt IntKind.i64.bits d &&& BitVec.ofInt IntKind.i64.bits 7).toNat : Int))) *
                                                IntKind.i64.wrap (2 + IntKind.i64.wrap (↑(BitVec.ofInt IntKind.i64.bits h &&& BitVec.ofInt IntKind.i64.bits 7).toNat : Int)))).toNat
                                          false).getD
                                      (0 + j) false).slide
                                { x := px, y := py, z := pz } { x := max (-32768) (min 32768 bx), y := max (-32768) (min 32768 b_y), z := max (-32768) (min 32768 bz) }).fst.y ==
                          py then
                      bif
                          ((mpOf (IntKind.i64.wrap (2 + IntKind.i64.wrap (↑(BitVec.ofInt IntKind.i64.bits w &&& BitVec.ofInt IntKind.i64.bits 7).toNat : Int)))
                                      (IntKind.i64.wrap (2 + IntKind.i64.wrap (↑(BitVec.ofInt IntKind.i64.bits d &&& BitVec.ofInt IntKind.i64.bits 7).toNat : Int)))
                                      (IntKind.i64.wrap (2 + IntKind.i64.wrap (↑(BitVec.ofInt IntKind.i64.bits h &&& BitVec.ofInt IntKind.i64.bits 7).toNat : Int)))
                                      (IntKind.i64.wrap
                                          (IntKind.i64.wrap
                                              (IntKind.i64.wrap (2 + IntKind.i64.wrap (↑(BitVec.ofInt IntKind.i64.bits w &&& BitVec.ofInt IntKind.i64.bits 7).toNat : Int)) *
                                                IntKind.i64.wrap (2 + IntKind.i64.wrap (↑(BitVec.ofInt IntKind.i64.bits d &&& BitVec.ofInt IntKind.i64.bits 7).toNat : Int))) *
                                            IntKind.i64.wrap (2 + IntKind.i64.wrap (↑(BitVec.ofInt IntKind.i64.bits h &&& BitVec.ofInt IntKind.i64.bits 7).toNat : Int)))).toNat
                                      fun j =>
                                      (List.replicate
                                            (IntKind.i64.wrap
                                                (IntKind.i64.wrap
                                                    (IntKind.i64.wrap (2 + IntKind.i64.wrap (↑(BitVec.ofInt IntKind.i64.bits w &&& BitVec.ofInt IntKind.i64.bits 7).toNat : Int)) *
                                                      IntKind.i64.wrap (2 + IntKind.i64.wrap (↑(BitVec.ofInt IntKind.i64.bits d &&& BitVec.ofInt IntKind.i64.bits 7).toNat : Int))) *
                                                  IntKind.i64.wrap (2 + IntKind.i64.wrap (↑(BitVec.ofInt IntKind.i64.bits h &&& BitVec.ofInt IntKind.i64.bits 7).toNat : Int)))).toNat
                                            false).getD
                                        (0 + j) false).slide
                                  { x := px, y := py, z := pz } { x := max (-32768) (min 32768 bx), y := max (-32768) (min 32768 b_y), z := max (-32768) (min 32768 bz) }).fst.z ==
                            pz then
                        some (SV.bool true, [])
                      else
                        some
                          (SV.bool
                              !((mpOf (IntKind.i64.wrap (2 + IntKind.i64.wrap (↑(BitVec.ofInt IntKind.i64.bits w &&& BitVec.ofInt IntKind.i64.bits 7).toNat : Int)))
                                            (IntKind.i64.wrap (2 + IntKind.i64.wrap (↑(BitVec.ofInt IntKind.i64.bits d &&& BitVec.ofInt IntKind.i64.bits 7).toNat : Int)))
                                            (IntKind.i64.wrap (2 + IntKind.i64.wrap (↑(BitVec.ofInt IntKind.i64.bits h &&& BitVec.ofInt IntKind.i64.bits 7).toNat : Int)))
                                            (IntKind.i64.wrap
                                                (IntKind.i64.wrap
                                                    (IntKind.i64.wrap (2 + IntKind.i64.wrap (↑(BitVec.ofInt IntKind.i64.bits w &&& BitVec.ofInt IntKind.i64.bits 7).toNat : Int)) *
                                                      IntKind.i64.wrap (2 + IntKind.i64.wrap (↑(BitVec.ofInt IntKind.i64.bits d &&& BitVec.ofInt IntKind.i64.bits 7).toNat : Int))) *
                                                  IntKind.i64.wrap (2 + IntKind.i64.wrap (↑(BitVec.ofInt IntKind.i64.bits h &&& BitVec.ofInt IntKind.i64.bits 7).toNat : Int)))).toNat
                                            fun j =>
                                            (List.replicate
                                                  (IntKind.i64.wrap
                                                      (IntKind.i64.wrap
                                                          (IntKind.i64.wrap (2 + IntKind.i64.wrap (↑(BitVec.ofInt IntKind.i64.bits w &&& BitVec.ofInt IntKind.i64.bits 7).toNat : Int)) *
                                                            IntKind.i64.wrap (2 + IntKind.i64.wrap (↑(BitVec.ofInt IntKind.i64.bits d &&& BitVec.ofInt IntKind.i64.bits 7).toNat : Int))) *
                                                        IntKind.i64.wrap (2 + IntKind.i64.wrap (↑(BitVec.ofInt IntKind.i64.bits h &&& BitVec.ofInt IntKind.i64.bits 7).toNat : Int)))).toNat
                                                  false).getD
                                              (0 + j) false).slide
                                        { x := px, y := py, z := pz } { x := max (-32768) (min 32768 bx), y := max (-32768) (min 32768 b_y), z := max (-32768) (min 32768 bz) }).snd.snd.snd,
                            [])
                    else
                      bif
                          !((mpOf (IntKind.i64.wrap (2 + IntKind.i64.wrap (↑(BitVec.ofInt IntKind.i64.bits w &&& BitVec.ofInt IntKind.i64.bits 7).toNat : Int)))
                                        (IntKind.i64.wrap (2 + IntKind.i64.wrap (↑(BitVec.ofInt IntKind.i64.bits d &&& BitVec.ofInt IntKind.i64.bits 7).toNat : Int)))
                                        (IntKind.i64.wrap (2 + IntKind.i64.wrap (↑(BitVec.ofInt IntKind.i64.bits h &&& BitVec.ofInt IntKind.i64.bits 7).toNat : Int)))
                                        (IntKind.i64.wrap
                                            (IntKind.i64.wrap
                                                (IntKind.i64.wrap (2 + IntKind.i64.wrap (↑(BitVec.ofInt IntKind.i64.bits w &&& BitVec.ofInt IntKind.i64.bits 7).toNat : Int)) *
                                                  IntKind.i64.wrap (2 + IntKind.i64.wrap (↑(BitVec.ofInt IntKind.i64.bits d &&& BitVec.ofInt IntKind.i64.bits 7).toNat : Int))) *
                                              IntKind.i64.wrap (2 + IntKind.i64.wrap (↑(BitVec.ofInt IntKind.i64.bits h &&& BitVec.ofInt IntKind.i64.bits 7).toNat : Int)))).toNat
                                        fun j =>
                                        (List.replicate
                                              (IntKind.i64.wrap
                                                  (IntKind.i64.wrap
                                                      (IntKind.i64.wrap (2 + IntKind.i64.wrap (↑(BitVec.ofInt IntKind.i64.bits w &&& BitVec.ofInt IntKind.i64.bits 7).toNat : Int)) *
                                                        IntKind.i64.wrap (2 + IntKind.i64.wrap (↑(BitVec.ofInt IntKind.i64.bits d &&& BitVec.ofInt IntKind.i64.bits 7).toNat : Int))) *
                                                    IntKind.i64.wrap (2 + IntKind.i64.wrap (↑(BitVec.ofInt IntKind.i64.bits h &&& BitVec.ofInt IntKind.i64.bits 7).toNat : Int)))).toNat
                                              false).getD
                                          (0 + j) false).slide
                                    { x := px, y := py, z := pz } { x := max (-32768) (min 32768 bx), y := max (-32768) (min 32768 b_y), z := max (-32768) (min 32768 bz) }).snd.snd.fst then
                        bif
                            ((mpOf (IntKind.i64.wrap (2 + IntKind.i64.wrap (↑(BitVec.ofInt IntKind.i64.bits w &&& BitVec.ofInt IntKind.i64.bits 7).toNat : Int)))
                                        (IntKind.i64.wrap (2 + IntKind.i64.wrap (↑(BitVec.ofInt IntKind.i64.bits d &&& BitVec.ofInt IntKind.i64.bits 7).toNat : Int)))
                                        (IntKind.i64.wrap (2 + IntKind.i64.wrap (↑(BitVec.ofInt IntKind.i64.bits h &&& BitVec.ofInt IntKind.i64.bits 7).toNat : Int)))
                                        (IntKind.i64.wrap
                                            (IntKind.i64.wrap
                                                (IntKind.i64.wrap (2 + IntKind.i64.wrap (↑(BitVec.ofInt IntKind.i64.bits w &&& BitVec.ofInt IntKind.i64.bits 7).toNat : Int)) *
                                                  IntKind.i64.wrap (2 + IntKind.i64.wrap (↑(BitVec.ofInt IntKind.i64.bits d &&& BitVec.ofInt IntKind.i64.bits 7).toNat : Int))) *
                                              IntKind.i64.wrap (2 + IntKind.i64.wrap (↑(BitVec.ofInt IntKind.i64.bits h &&& BitVec.ofInt IntKind.i64.bits 7).toNat : Int)))).toNat
                                        fun j =>
                                        (List.replicate
                                              (IntKind.i64.wrap
                                                  (IntKind.i64.wrap
                                                      (IntKind.i64.wrap (2 + IntKind.i64.wrap (↑(BitVec.ofInt IntKind.i64.bits w &&& BitVec.ofInt IntKind.i64.bits 7).toNat : Int)) *
                                                        IntKind.i64.wrap (2 + IntKind.i64.wrap (↑(BitVec.ofInt IntKind.i64.bits d &&& BitVec.ofInt IntKind.i64.bits 7).toNat : Int))) *
                                                    IntKind.i64.wrap (2 + IntKind.i64.wrap (↑(BitVec.ofInt IntKind.i64.bits h &&& BitVec.ofInt IntKind.i64.bits 7).toNat : Int)))).toNat
                                              false).getD
                                          (0 + j) false).slide
                                    { x := px, y := py, z := pz } { x := max (-32768) (min 32768 bx), y := max (-32768) (min 32768 b_y), z := max (-32768) (min 32768 bz) }).fst.z ==
                              pz then
                          some (SV.bool true, [])
                        else
                          some
                            (SV.bool
                                !((mpOf (IntKind.i64.wrap (2 + IntKind.i64.wrap (↑(BitVec.ofInt IntKind.i64.bits w &&& BitVec.ofInt IntKind.i64.bits 7).toNat : Int)))
                                              (IntKind.i64.wrap (2 + IntKind.i64.wrap (↑(BitVec.ofInt IntKind.i64.bits d &&& BitVec.ofInt IntKind.i64.bits 7).toNat : Int)))
                                              (IntKind.i64.wrap (2 + IntKind.i64.wrap (↑(BitVec.ofInt IntKind.i64.bits h &&& BitVec.ofInt IntKind.i64.bits 7).toNat : Int)))
                                              (IntKind.i64.wrap
                                                  (IntKind.i64.wrap
                                                      (IntKind.i64.wrap (2 + IntKind.i64.wrap (↑(BitVec.ofInt IntKind.i64.bits w &&& BitVec.ofInt IntKind.i64.bits 7).toNat : Int)) *
                                                        IntKind.i64.wrap (2 + IntKind.i64.wrap (↑(BitVec.ofInt IntKind.i64.bits d &&& BitVec.ofInt IntKind.i64.bits 7).toNat : Int))) *
                                                    IntKind.i64.wrap (2 + IntKind.i64.wrap (↑(BitVec.ofInt IntKind.i64.bits h &&& BitVec.ofInt IntKind.i64.bits 7).toNat : Int)))).toNat
                                              fun j =>
                                              (List.replicate
                                                    (IntKind.i64.wrap
                                                        (IntKind.i64.wrap
                                                            (IntKind.i64.wrap (2 + IntKind.i64.wrap (↑(BitVec.ofInt IntKind.i64.bits w &&& BitVec.ofInt IntKind.i64.bits 7).toNat : Int)) *
                                                              IntKind.i64.wrap (2 + IntKind.i64.wrap (↑(BitVec.ofInt IntKind.i64.bits d &&& BitVec.ofInt IntKind.i64.bits 7).toNat : Int))) *
                                                          IntKind.i64.wrap (2 + IntKind.i64.wrap (↑(BitVec.ofInt IntKind.i64.bits h &&& BitVec.ofInt IntKind.i64.bits 7).toNat : Int)))).toNat
                                                    false).getD
                                                (0 + j) false).slide
                                          { x := px, y := py, z := pz } { x := max (-32768) (min 32768 bx), y := max (-32768) (min 32768 b_y), z := max (-32768) (min 32768 bz) }).snd.snd.snd,
                              [])
                      else some (SV.bool false, [])
                  else some (SV.bool false, [])
              else
                bif
                    mapOk (IntKind.i64.wrap (2 + IntKind.i64.wrap (↑(BitVec.ofInt IntKind.i64.bits w &&& BitVec.ofInt IntKind.i64.bits 7).toNat : Int)))
                        (IntKind.i64.wrap (2 + IntKind.i64.wrap (↑(BitVec.ofInt IntKind.i64.bits d &&& BitVec.ofInt IntKind.i64.bits 7).toNat : Int)))
                        (IntKind.i64.wrap (2 + IntKind.i64.wrap (↑(BitVec.ofInt IntKind.i64.bits h &&& BitVec.ofInt IntKind.i64.bits 7).toNat : Int)))
                        (IntKind.i64.wrap
                            (IntKind.i64.wrap
                                (IntKind.i64.wrap (2 + IntKind.i64.wrap (↑(BitVec.ofInt IntKind.i64.bits w &&& BitVec.ofInt IntKind.i64.bits 7).toNat : Int)) *
                                  IntKind.i64.wrap (2 + IntKind.i64.wrap (↑(BitVec.ofInt IntKind.i64.bits d &&& BitVec.ofInt IntKind.i64.bits 7).toNat : Int))) *
                              IntKind.i64.wrap (2 + IntKind.i64.wrap (↑(BitVec.ofInt IntKind.i64.bits h &&& BitVec.ofInt IntKind.i64.bits 7).toNat : Int)))).toNat &&
                      (fitsB
                          {
                            x :=
                              ((mpOf (IntKind.i64.wrap (2 + IntKind.i64.wrap (↑(BitVec.ofInt IntKind.i64.bits w &&& BitVec.ofInt IntKind.i64.bits 7).toNat : Int)))
                                        (IntKind.i64.wrap (2 + IntKind.i64.wrap (↑(BitVec.ofInt IntKind.i64.bits d &&& BitVec.ofInt IntKind.i64.bits 7).toNat : Int)))
                                        (IntKind.i64.wrap (2 + IntKind.i64.wrap (↑(BitVec.ofInt IntKind.i64.bits h &&& BitVec.ofInt IntKind.i64.bits 7).toNat : Int)))
                                        (IntKind.i64.wrap
                                            (IntKind.i64.wrap
                                                (IntKind.i64.wrap (2 + IntKind.i64.wrap (↑(BitVec.ofInt IntKind.i64.bits w &&& BitVec.ofInt IntKind.i64.bits 7).toNat : Int)) *
                                                  IntKind.i64.wrap (2 + IntKind.i64.wrap (↑(BitVec.ofInt IntKind.i64.bits d &&& BitVec.ofInt IntKind.i64.bits 7).toNat : Int))) *
                                              IntKind.i64.wrap (2 + IntKind.i64.wrap (↑(BitVec.ofInt IntKind.i64.bits h &&& BitVec.ofInt IntKind.i64.bits 7).toNat : Int)))).toNat
                                        fun j =>
                                        (List.replicate
                                              (IntKind.i64.wrap
                                                  (IntKind.i64.wrap
                                                      (IntKind.i64.wrap (2 + IntKind.i64.wrap (↑(BitVec.ofInt IntKind.i64.bits w &&& BitVec.ofInt IntKind.i64.bits 7).toNat : Int)) *
                                                        IntKind.i64.wrap (2 + IntKind.i64.wrap (↑(BitVec.ofInt IntKind.i64.bits d &&& BitVec.ofInt IntKind.i64.bits 7).toNat : Int))) *
                                                    IntKind.i64.wrap (2 + IntKind.i64.wrap (↑(BitVec.ofInt IntKind.i64.bits h &&& BitVec.ofInt IntKind.i64.bits 7).toNat : Int)))).toNat
                                              false).getD
                                          (0 + j) false).slide
                                    { x := px, y := py, z := pz } { x := max (-32768) (min 32768 bx), y := max (-32768) (min 32768 b_y), z := max (-32768) (min 32768 bz) }).fst.x,
                            y :=
                              ((mpOf (IntKind.i64.wrap (2 + IntKind.i64.wrap (↑(BitVec.ofInt IntKind.i64.bits w &&& BitVec.ofInt IntKind.i64.bits 7).toNat : Int)))
                                        (IntKind.i64.wrap (2 + IntKind.i64.wrap (↑(BitVec.ofInt IntKind.i64.bits d &&& BitVec.ofInt IntKind.i64.bits 7).toNat : Int)))
                                        (IntKind.i64.wrap (2 + IntKind.i64.wrap (↑(BitVec.ofInt IntKind.i64.bits h &&& BitVec.ofInt IntKind.i64.bits 7).toNat : Int)))
                                        (IntKind.i64.wrap
                                            (IntKind.i64.wrap
                                                (IntKind.i64.wrap (2 + IntKind.i64.wrap (↑(BitVec.ofInt IntKind.i64.bits w &&& BitVec.ofInt IntKind.i64.bits 7).toNat : Int)) *
                                                  IntKind.i64.wrap (2 + IntKind.i64.wrap (↑(BitVec.ofInt IntKind.i64.bits d &&& BitVec.ofInt IntKind.i64.bits 7).toNat : Int))) *
                                              IntKind.i64.wrap (2 + IntKind.i64.wrap (↑(BitVec.ofInt IntKind.i64.bits h &&& BitVec.ofInt IntKind.i64.bits 7).toNat : Int)))).toNat
                                        fun j =>
                                        (List.replicate
                                              (IntKind.i64.wrap
                                                  (IntKind.i64.wrap
                                                      (IntKind.i64.wrap (2 + IntKind.i64.wrap (↑(BitVec.ofInt IntKind.i64.bits w &&& BitVec.ofInt IntKind.i64.bits 7).toNat : Int)) *
                                                        IntKind.i64.wrap (2 + IntKind.i64.wrap (↑(BitVec.ofInt IntKind.i64.bits d &&& BitVec.ofInt IntKind.i64.bits 7).toNat : Int))) *
                                                    IntKind.i64.wrap (2 + IntKind.i64.wrap (↑(BitVec.ofInt IntKind.i64.bits h &&& BitVec.ofInt IntKind.i64.bits 7).toNat : Int)))).toNat
                                              false).getD
                                          (0 + j) false).slide
                                    { x := px, y := py, z := pz } { x := max (-32768) (min 32768 bx), y := max (-32768) (min 32768 b_y), z := max (-32768) (min 32768 bz) }).fst.y,
                            z :=
                              ((mpOf (IntKind.i64.wrap (2 + IntKind.i64.wrap (↑(BitVec.ofInt IntKind.i64.bits w &&& BitVec.ofInt IntKind.i64.bits 7).toNat : Int)))
                                        (IntKind.i64.wrap (2 + IntKind.i64.wrap (↑(BitVec.ofInt IntKind.i64.bits d &&& BitVec.ofInt IntKind.i64.bits 7).toNat : Int)))
                                        (IntKind.i64.wrap (2 + IntKind.i64.wrap (↑(BitVec.ofInt IntKind.i64.bits h &&& BitVec.ofInt IntKind.i64.bits 7).toNat : Int)))
                                        (IntKind.i64.wrap
                                            (IntKind.i64.wrap
                                                (IntKind.i64.wrap (2 + IntKind.i64.wrap (↑(BitVec.ofInt IntKind.i64.bits w &&& BitVec.ofInt IntKind.i64.bits 7).toNat : Int)) *
                                                  IntKind.i64.wrap (2 + IntKind.i64.wrap (↑(BitVec.ofInt IntKind.i64.bits d &&& BitVec.ofInt IntKind.i64.bits 7).toNat : Int))) *
                                              IntKind.i64.wrap (2 + IntKind.i64.wrap (↑(BitVec.ofInt IntKind.i64.bits h &&& BitVec.ofInt IntKind.i64.bits 7).toNat : Int)))).toNat
                                        fun j =>
                                        (List.replicate
                                              (IntKind.i64.wrap
                                                  (IntKind.i64.wrap
                                                      (IntKind.i64.wrap (2 + IntKind.i64.wrap (↑(BitVec.ofInt IntKind.i64.bits w &&& BitVec.ofInt IntKind.i64.bits 7).toNat : Int)) *
                                                        IntKind.i64.wrap (2 + IntKind.i64.wrap (↑(BitVec.ofInt IntKind.i64.bits d &&& BitVec.ofInt IntKind.i64.bits 7).toNat : Int))) *
                                                    IntKind.i64.wrap (2 + IntKind.i64.wrap (↑(BitVec.ofInt IntKind.i64.bits h &&& BitVec.ofInt IntKind.i64.bits 7).toNat : Int)))).toNat
                                              false).getD
                                          (0 + j) false).slide
                                    { x := px, y := py, z := pz } { x := max (-32768) (min 32768 bx), y := max (-32768) (min 32768 b_y), z := max (-32768) (min 32768 bz) }).fst.z } &&
                        decide
                          (0 +
                              (IntKind.i64.wrap
                                  (IntKind.i64.wrap
                                      (IntKind.i64.wrap (2 + IntKind.i64.wrap (↑(BitVec.ofInt IntKind.i64.bits w &&& BitVec.ofInt IntKind.i64.bits 7).toNat : Int)) *
                                        IntKind.i64.wrap (2 + IntKind.i64.wrap (↑(BitVec.ofInt IntKind.i64.bits d &&& BitVec.ofInt IntKind.i64.bits 7).toNat : Int))) *
                                    IntKind.i64.wrap (2 + IntKind.i64.wrap (↑(BitVec.ofInt IntKind.i64.bits h &&& BitVec.ofInt IntKind.i64.bits 7).toNat : Int)))).toNat ≤
                            (List.replicate
                                (IntKind.i64.wrap
                                    (IntKind.i64.wrap
                                        (IntKind.i64.wrap (2 + IntKind.i64.wrap (↑(BitVec.ofInt IntKind.i64.bits w &&& BitVec.ofInt IntKind.i64.bits 7).toNat : Int)) *
                                          IntKind.i64.wrap (2 + IntKind.i64.wrap (↑(BitVec.ofInt IntKind.i64.bits d &&& BitVec.ofInt IntKind.i64.bits 7).toNat : Int))) *
                                      IntKind.i64.wrap (2 + IntKind.i64.wrap (↑(BitVec.ofInt IntKind.i64.bits h &&& BitVec.ofInt IntKind.i64.bits 7).toNat : Int)))).toNat
                                false).length)) then
                  bif
                      ((mpOf (IntKind.i64.wrap (2 + IntKind.i64.wrap (↑(BitVec.ofInt IntKind.i64.bits w &&& BitVec.ofInt IntKind.i64.bits 7).toNat : Int)))
                                  (IntKind.i64.wrap (2 + IntKind.i64.wrap (↑(BitVec.ofInt IntKind.i64.bits d &&& BitVec.ofInt IntKind.i64.bits 7).toNat : Int)))
                                  (IntKind.i64.wrap (2 + IntKind.i64.wrap (↑(BitVec.ofInt IntKind.i64.bits h &&& BitVec.ofInt IntKind.i64.bits 7).toNat : Int)))
                                  (IntKind.i64.wrap
                                      (IntKind.i64.wrap
                                          (IntKind.i64.wrap (2 + IntKind.i64.wrap (↑(BitVec.ofInt IntKind.i64.bits w &&& BitVec.ofInt IntKind.i64.bits 7).toNat : Int)) *
                                            IntKind.i64.wrap (2 + IntKind.i64.wrap (↑(BitVec.ofInt IntKind.i64.bits d &&& BitVec.ofInt IntKind.i64.bits 7).toNat : Int))) *
                                        IntKind.i64.wrap (2 + IntKind.i64.wrap (↑(BitVec.ofInt IntKind.i64.bits h &&& BitVec.ofInt IntKind.i64.bits 7).toNat : Int)))).toNat
                                  fun j =>
                                  (List.replicate
                                        (IntKind.i64.wrap
                                            (IntKind.i64.wrap
                                                (IntKind.i64.wrap (2 + IntKind.i64.wrap (↑(BitVec.ofInt IntKind.i64.bits w &&& BitVec.ofInt IntKind.i64.bits 7).toNat : Int)) *
                                                  IntKind.i64.wrap (2 + IntKind.i64.wrap (↑(BitVec.ofInt IntKind.i64.bits d &&& BitVec.ofInt IntKind.i64.bits 7).toNat : Int))) *
                                              IntKind.i64.wrap (2 + IntKind.i64.wrap (↑(BitVec.ofInt IntKind.i64.bits h &&& BitVec.ofInt IntKind.i64.bits 7).toNat : Int)))).toNat
                                        false).getD
                                    (0 + j) false).slide
                              { x := px, y := py, z := pz } { x := max (-32768) (min 32768 bx), y := max (-32768) (min 32768 b_y), z := max (-32768) (min 32768 bz) }).fst.x ==
                        IntKind.i64.wrap (px + max (-32768) (min 32768 bx)) then
                    bif
                        ((mpOf (IntKind.i64.wrap (2 + IntKind.i64.wrap (↑(BitVec.ofInt IntKind.i64.bits w &&& BitVec.ofInt IntKind.i64.bits 7).toNat : Int)))
                                    (IntKind.i64.wrap (2 + IntKind.i64.wrap (↑(BitVec.ofInt IntKind.i64.bits d &&& BitVec.ofInt IntKind.i64.bits 7).toNat : Int)))
                                    (IntKind.i64.wrap (2 + IntKind.i64.wrap (↑(BitVec.ofInt IntKind.i64.bits h &&& BitVec.ofInt IntKind.i64.bits 7).toNat : Int)))
                                    (IntKind.i64.wrap
                                        (IntKind.i64.wrap
                                            (IntKind.i64.wrap (2 + IntKind.i64.wrap (↑(BitVec.ofInt IntKind.i64.bits w &&& BitVec.ofInt IntKind.i64.bits 7).toNat : Int)) *
                                              IntKind.i64.wrap (2 + IntKind.i64.wrap (↑(BitVec.ofInt IntKind.i64.bits d &&& BitVec.ofInt IntKind.i64.bits 7).toNat : Int))) *
                                          IntKind.i64.wrap (2 + IntKind.i64.wrap (↑(BitVec.ofInt IntKind.i64.bits h &&& BitVec.ofInt IntKind.i64.bits 7).toNat : Int)))).toNat
                                    fun j =>
                                    (List.replicate
                                          (IntKind.i64.wrap
                                              (IntKind.i64.wrap
                                                  (IntKind.i64.wrap (2 + IntKind.i64.wrap (↑(BitVec.ofInt IntKind.i64.bits w &&& BitVec.ofInt IntKind.i64.bits 7).toNat : Int)) *
                                                    IntKind.i64.wrap (2 + IntKind.i64.wrap (↑(BitVec.ofInt IntKind.i64.bits d &&& BitVec.ofInt IntKind.i64.bits 7).toNat : Int))) *
                                                IntKind.i64.wrap (2 + IntKind.i64.wrap (↑(BitVec.ofInt IntKind.i64.bits h &&& BitVec.ofInt IntKind.i64.bits 7).toNat : Int)))).toNat
                                          false).getD
                                      (0 + j) false).slide
                                { x := px, y := py, z := pz } { x := max (-32768) (min 32768 bx), y := max (-32768) (min 32768 b_y), z := max (-32768) (min 32768 bz) }).fst.y ==
                          IntKind.i64.wrap (py + max (-32768) (min 32768 b_y)) then
                      bif
                          ((mpOf (IntKind.i64.wrap (2 + IntKind.i64.wrap (↑(BitVec.ofInt IntKind.i64.bits w &&& BitVec.ofInt IntKind.i64.bits 7).toNat : Int)))
                                      (IntKind.i64.wrap (2 + IntKind.i64.wrap (↑(BitVec.ofInt IntKind.i64.bits d &&& BitVec.ofInt IntKind.i64.bits 7).toNat : Int)))
                                      (IntKind.i64.wrap (2 + IntKind.i64.wrap (↑(BitVec.ofInt IntKind.i64.bits h &&& BitVec.ofInt IntKind.i64.bits 7).toNat : Int)))
                                      (IntKind.i64.wrap
                                          (IntKind.i64.wrap
                                              (IntKind.i64.wrap (2 + IntKind.i64.wrap (↑(BitVec.ofInt IntKind.i64.bits w &&& BitVec.ofInt IntKind.i64.bits 7).toNat : Int)) *
                                                IntKind.i64.wrap (2 + IntKind.i64.wrap (↑(BitVec.ofInt IntKind.i64.bits d &&& BitVec.ofInt IntKind.i64.bits 7).toNat : Int))) *
                                            IntKind.i64.wrap (2 + IntKind.i64.wrap (↑(BitVec.ofInt IntKind.i64.bits h &&& BitVec.ofInt IntKind.i64.bits 7).toNat : Int)))).toNat
                                      fun j =>
                                      (List.replicate
                                            (IntKind.i64.wrap
                                                (IntKind.i64.wrap
                                                    (IntKind.i64.wrap (2 + IntKind.i64.wrap (↑(BitVec.ofInt IntKind.i64.bits w &&& BitVec.ofInt IntKind.i64.bits 7).toNat : Int)) *
                                                      IntKind.i64.wrap (2 + IntKind.i64.wrap (↑(BitVec.ofInt IntKind.i64.bits d &&& BitVec.ofInt IntKind.i64.bits 7).toNat : Int))) *
                                                  IntKind.i64.wrap (2 + IntKind.i64.wrap (↑(BitVec.ofInt IntKind.i64.bits h &&& BitVec.ofInt IntKind.i64.bits 7).toNat : Int)))).toNat
                                            false).getD
                                        (0 + j) false).slide
                                  { x := px, y := py, z := pz } { x := max (-32768) (min 32768 bx), y := max (-32768) (min 32768 b_y), z := max (-32768) (min 32768 bz) }).fst.z ==
                            IntKind.i64.wrap (pz + max (-32768) (min 32768 bz)) then
                        bif
                            ((mpOf (IntKind.i64.wrap (2 + IntKind.i64.wrap (↑(BitVec.ofInt IntKind.i64.bits w &&& BitVec.ofInt IntKind.i64.bits 7).toNat : Int)))
                                          (IntKind.i64.wrap (2 + IntKind.i64.wrap (↑(BitVec.ofInt IntKind.i64.bits d &&& BitVec.ofInt IntKind.i64.bits 7).toNat : Int)))
                                          (IntKind.i64.wrap (2 + IntKind.i64.wrap (↑(BitVec.ofInt IntKind.i64.bits h &&& BitVec.ofInt IntKind.i64.bits 7).toNat : Int)))
                                          (IntKind.i64.wrap
                                              (IntKind.i64.wrap
                                                  (IntKind.i64.wrap (2 + IntKind.i64.wrap (↑(BitVec.ofInt IntKind.i64.bits w &&& BitVec.ofInt IntKind.i64.bits 7).toNat : Int)) *
                                                    IntKind.i64.wrap (2 + IntKind.i64.wrap (↑(BitVec.ofInt IntKind.i64.bits d &&& BitVec.ofInt IntKind.i64.bits 7).toNat : Int))) *
                                                IntKind.i64.wrap (2 + IntKind.i64.wrap (↑(BitVec.ofInt IntKind.i64.bits h &&& BitVec.ofInt IntKind.i64.bits 7).toNat : Int)))).toNat
                                          fun j =>
                                          (List.replicate
                                                (IntKind.i64.wrap
                                                    (IntKind.i64.wrap
                                                        (IntKind.i64.wrap (2 + IntKind.i64.wrap (↑(BitVec.ofInt IntKind.i64.bits w &&& BitVec.ofInt IntKind.i64.bits 7).toNat : Int)) *
                                                          IntKind.i64.wrap (2 + IntKind.i64.wrap (↑(BitVec.ofInt IntKind.i64.bits d &&& BitVec.ofInt IntKind.i64.bits 7).toNat : Int))) *
                                                      IntKind.i64.wrap (2 + IntKind.i64.wrap (↑(BitVec.ofInt IntKind.i64.bits h &&& BitVec.ofInt IntKind.i64.bits 7).toNat : Int)))).toNat
                                                false).getD
                                            (0 + j) false).slide
                                      {
                                        x :=
                                          ((mpOf (IntKind.i64.wrap (2 + IntKind.i64.wrap (↑(BitVec.ofInt IntKind.i64.bits w &&& BitVec.ofInt IntKind.i64.bits 7).toNat : Int)))
                                                    (IntKind.i64.wrap (2 + IntKind.i64.wrap (↑(BitVec.ofInt IntKind.i64.bits d &&& BitVec.ofInt IntKind.i64.bits 7).toNat : Int)))
                                                    (IntKind.i64.wrap (2 + IntKind.i64.wrap (↑(BitVec.ofInt IntKind.i64.bits h &&& BitVec.ofInt IntKind.i64.bits 7).toNat : Int)))
                                                    (IntKind.i64.wrap
                                                        (IntKind.i64.wrap
                                                            (IntKind.i64.wrap (2 + IntKind.i64.wrap (↑(BitVec.ofInt IntKind.i64.bits w &&& BitVec.ofInt IntKind.i64.bits 7).toNat : Int)) *
                                                              IntKind.i64.wrap (2 + IntKind.i64.wrap (↑(BitVec.ofInt IntKind.i64.bits d &&& BitVec.ofInt IntKind.i64.bits 7).toNat : Int))) *
                                                          IntKind.i64.wrap (2 + IntKind.i64.wrap (↑(BitVec.ofInt IntKind.i64.bits h &&& BitVec.ofInt IntKind.i64.bits 7).toNat : Int)))).toNat
                                                    fun j =>
                                                    (List.replicate
                                                          (IntKind.i64.wrap
                                                              (IntKind.i64.wrap
                                                                  (IntKind.i64.wrap (2 + IntKind.i64.wrap (↑(BitVec.ofInt IntKind.i64.bits w &&& BitVec.ofInt IntKind.i64.bits 7).toNat : Int)) *
                                                                    IntKind.i64.wrap (2 + IntKind.i64.wrap (↑(BitVec.ofInt IntKind.i64.bits d &&& BitVec.ofInt IntKind.i64.bits 7).toNat : Int))) *
                                                                IntKind.i64.wrap (2 + IntKind.i64.wrap (↑(BitVec.ofInt IntKind.i64.bits h &&& BitVec.ofInt IntKind.i64.bits 7).toNat : Int)))).toNat
                                                          false).getD
                                                      (0 + j) false).slide
                                                { x := px, y := py, z := pz } { x := max (-32768) (min 32768 bx), y := max (-32768) (min 32768 b_y), z := max (-32768) (min 32768 bz) }).fst.x,
                                        y :=
                                          ((mpOf (IntKind.i64.wrap (2 + IntKind.i64.wrap (↑(BitVec.ofInt IntKind.i64.bits w &&& BitVec.ofInt IntKind.i64.bits 7).toNat : Int)))
                                                    (IntKind.i64.wrap (2 + IntKind.i64.wrap (↑(BitVec.ofInt IntKind.i64.bits d &&& BitVec.ofInt IntKind.i64.bits 7).toNat : Int)))
                                                    (IntKind.i64.wrap (2 + IntKind.i64.wrap (↑(BitVec.ofInt IntKind.i64.bits h &&& BitVec.ofInt IntKind.i64.bits 7).toNat : Int)))
                                                    (IntKind.i64.wrap
                                                        (IntKind.i64.wrap
                                                            (IntKind.i64.wrap (2 + IntKind.i64.wrap (↑(BitVec.ofInt IntKind.i64.bits w &&& BitVec.ofInt IntKind.i64.bits 7).toNat : Int)) *
                                                              IntKind.i64.wrap (2 + IntKind.i64.wrap (↑(BitVec.ofInt IntKind.i64.bits d &&& BitVec.ofInt IntKind.i64.bits 7).toNat : Int))) *
                                                          IntKind.i64.wrap (2 + IntKind.i64.wrap (↑(BitVec.ofInt IntKind.i64.bits h &&& BitVec.ofInt IntKind.i64.bits 7).toNat : Int)))).toNat
                                                    fun j =>
                                                    (List.replicate
                                                          (IntKind.i64.wrap
                                                              (IntKind.i64.wrap
                                                                  (IntKind.i64.wrap (2 + IntKind.i64.wrap (↑(BitVec.ofInt IntKind.i64.bits w &&& BitVec.ofInt IntKind.i64.bits 7).toNat : Int)) *
                                                                    IntKind.i64.wrap (2 + IntKind.i64.wrap (↑(BitVec.ofInt IntKind.i64.bits d &&& BitVec.ofInt IntKind.i64.bits 7).toNat : Int))) *
                                                                IntKind.i64.wrap (2 + IntKind.i64.wrap (↑(BitVec.ofInt IntKind.i64.bits h &&& BitVec.ofInt IntKind.i64.bits 7).toNat : Int)))).toNat
                                                          false).getD
                                                      (0 + j) false).slide
                                                { x := px, y := py, z := pz } { x := max (-32768) (min 32768 bx), y := max (-32768) (min 32768 b_y), z := max (-32768) (min 32768 bz) }).fst.y,
                                        z :=
                                          ((mpOf (IntKind.i64.wrap (2 + IntKind.i64.wrap (↑(BitVec.ofInt IntKind.i64.bits w &&& BitVec.ofInt IntKind.i64.bits 7).toNat : Int)))
                                                    (IntKind.i64.wrap (2 + IntKind.i64.wrap (↑(BitVec.ofInt IntKind.i64.bits d &&& BitVec.ofInt IntKind.i64.bits 7).toNat : Int)))
                                                    (IntKind.i64.wrap (2 + IntKind.i64.wrap (↑(BitVec.ofInt IntKind.i64.bits h &&& BitVec.ofInt IntKind.i64.bits 7).toNat : Int)))
                                                    (IntKind.i64.wrap
                                                        (IntKind.i64.wrap
                                                            (IntKind.i64.wrap (2 + IntKind.i64.wrap (↑(BitVec.ofInt IntKind.i64.bits w &&& BitVec.ofInt IntKind.i64.bits 7).toNat : Int)) *
                                                              IntKind.i64.wrap (2 + IntKind.i64.wrap (↑(BitVec.ofInt IntKind.i64.bits d &&& BitVec.ofInt IntKind.i64.bits 7).toNat : Int))) *
                                                          IntKind.i64.wrap (2 + IntKind.i64.wrap (↑(BitVec.ofInt IntKind.i64.bits h &&& BitVec.ofInt IntKind.i64.bits 7).toNat : Int)))).toNat
                                                    fun j =>
                                                    (List.replicate
                                                          (IntKind.i64.wrap
                                                              (IntKind.i64.wrap
                                                                  (IntKind.i64.wrap (2 + IntKind.i64.wrap (↑(BitVec.ofInt IntKind.i64.bits w &&& BitVec.ofInt IntKind.i64.bits 7).toNat : Int)) *
                                                                    IntKind.i64.wrap (2 + IntKind.i64.wrap (↑(BitVec.ofInt IntKind.i64.bits d &&& BitVec.ofInt IntKind.i64.bits 7).toNat : Int))) *
                                                                IntKind.i64.wrap (2 + IntKind.i64.wrap (↑(BitVec.ofInt IntKind.i64.bits h &&& BitVec.ofInt IntKind.i64.bits 7).toNat : Int)))).toNat
                                                          false).getD
                                                      (0 + j) false).slide
                                                { x := px, y := py, z := pz } { x := max (-32768) (min 32768 bx), y := max (-32768) (min 32768 b_y), z := max (-32768) (min 32768 bz) }).fst.z }
                                      { x := IntKind.i64.wrap (0 - max (-32768) (min 32768 bx)), y := IntKind.i64.wrap (0 - max (-32768) (min 32768 b_y)),
                                        z := IntKind.i64.wrap (0 - max (-32768) (min 32768 bz)) }).fst.x ==
                                px &&
                              (((mpOf (IntKind.i64.wrap (2 + IntKind.i64.wrap (↑(BitVec.ofInt IntKind.i64.bits w &&& BitVec.ofInt IntKind.i64.bits 7).toNat : Int)))
                                            (IntKind.i64.wrap (2 + IntKind.i64.wrap (↑(BitVec.ofInt IntKind.i64.bits d &&& BitVec.ofInt IntKind.i64.bits 7).toNat : Int)))
                                            (IntKind.i64.wrap (2 + IntKind.i64.wrap (↑(BitVec.ofInt IntKind.i64.bits h &&& BitVec.ofInt IntKind.i64.bits 7).toNat : Int)))
                                            (IntKind.i64.wrap
                                                (IntKind.i64.wrap
                                                    (IntKind.i64.wrap (2 + IntKind.i64.wrap (↑(BitVec.ofInt IntKind.i64.bits w &&& BitVec.ofInt IntKind.i64.bits 7).toNat : Int)) *
                                                      IntKind.i64.wrap (2 + IntKind.i64.wrap (↑(BitVec.ofInt IntKind.i64.bits d &&& BitVec.ofInt IntKind.i64.bits 7).toNat : Int))) *
                                                  IntKind.i64.wrap (2 + IntKind.i64.wrap (↑(BitVec.ofInt IntKind.i64.bits h &&& BitVec.ofInt IntKind.i64.bits 7).toNat : Int)))).toNat
                                            fun j =>
                                            (List.replicate
                                                  (IntKind.i64.wrap
                                                      (IntKind.i64.wrap
                                                          (IntKind.i64.wrap (2 + IntKind.i64.wrap (↑(BitVec.ofInt IntKind.i64.bits w &&& BitVec.ofInt IntKind.i64.bits 7).toNat : Int)) *
                                                            IntKind.i64.wrap (2 + IntKind.i64.wrap (↑(BitVec.ofInt IntKind.i64.bits d &&& BitVec.ofInt IntKind.i64.bits 7).toNat : Int))) *
                                                        IntKind.i64.wrap (2 + IntKind.i64.wrap (↑(BitVec.ofInt IntKind.i64.bits h &&& BitVec.ofInt IntKind.i64.bits 7).toNat : Int)))).toNat
                                                  false).getD
                                              (0 + j) false).slide
                                        {
                                          x :=
                                            ((mpOf (IntKind.i64.wrap (2 + IntKind.i64.wrap (↑(BitVec.ofInt IntKind.i64.bits w &&& BitVec.ofInt IntKind.i64.bits 7).toNat : Int)))
                                                      (IntKind.i64.wrap (2 + IntKind.i64.wrap (↑(BitVec.ofInt IntKind.i64.bits d &&& BitVec.ofInt IntKind.i64.bits 7).toNat : Int)))
                                                      (IntKind.i64.wrap (2 + IntKind.i64.wrap (↑(BitVec.ofInt IntKind.i64.bits h &&& BitVec.ofInt IntKind.i64.bits 7).toNat : Int)))
                                                      (IntKind.i64.wrap
                                                          (IntKind.i64.wrap
                                                              (IntKind.i64.wrap (2 + IntKind.i64.wrap (↑(BitVec.ofInt IntKind.i64.bits w &&& BitVec.ofInt IntKind.i64.bits 7).toNat : Int)) *
                                                                IntKind.i64.wrap (2 + IntKind.i64.wrap (↑(BitVec.ofInt IntKind.i64.bits d &&& BitVec.ofInt IntKind.i64.bits 7).toNat : Int))) *
                                                            IntKind.i64.wrap (2 + IntKind.i64.wrap (↑(BitVec.ofInt IntKind.i64.bits h &&& BitVec.ofInt IntKind.i64.bits 7).toNat : Int)))).toNat
                                                      fun j =>
                                                      (List.replicate
                                                            (IntKind.i64.wrap
                                                                (IntKind.i64.wrap
                                                                    (IntKind.i64.wrap (2 + IntKind.i64.wrap (↑(BitVec.ofInt IntKind.i64.bits w &&& BitVec.ofInt IntKind.i64.bits 7).toNat : Int)) *
                                                                      IntKind.i64.wrap (2 + IntKind.i64.wrap (↑(BitVec.ofInt IntKind.i64.bits d &&& BitVec.ofInt IntKind.i64.bits 7).toNat : Int))) *
                                                                  IntKind.i64.wrap (2 + IntKind.i64.wrap (↑(BitVec.ofInt IntKind.i64.bits h &&& BitVec.ofInt IntKind.i64.bits 7).toNat : Int)))).toNat
                                                            false).getD
                                                        (0 + j) false).slide
                                                  { x := px, y := py, z := pz } { x := max (-32768) (min 32768 bx), y := max (-32768) (min 32768 b_y), z := max (-32768) (min 32768 bz) }).fst.x,
                                          y :=
                                            ((mpOf (IntKind.i64.wrap (2 + IntKind.i64.wrap (↑(BitVec.ofInt IntKind.i64.bits w &&& BitVec.ofInt IntKind.i64.bits 7).toNat : Int)))
                                                      (IntKind.i64.wrap (2 + IntKind.i64.wrap (↑(BitVec.ofInt IntKind.i64.bits d &&& BitVec.ofInt IntKind.i64.bits 7).toNat : Int)))
                                                      (IntKind.i64.wrap (2 + IntKind.i64.wrap (↑(BitVec.ofInt IntKind.i64.bits h &&& BitVec.ofInt IntKind.i64.bits 7).toNat : Int)))
                                                      (IntKind.i64.wrap
                                                          (IntKind.i64.wrap
                                                              (IntKind.i64.wrap (2 + IntKind.i64.wrap (↑(BitVec.ofInt IntKind.i64.bits w &&& BitVec.ofInt IntKind.i64.bits 7).toNat : Int)) *
                                                                IntKind.i64.wrap (2 + IntKind.i64.wrap (↑(BitVec.ofInt IntKind.i64.bits d &&& BitVec.ofInt IntKind.i64.bits 7).toNat : Int))) *
                                                            IntKind.i64.wrap (2 + IntKind.i64.wrap (↑(BitVec.ofInt IntKind.i64.bits h &&& BitVec.ofInt IntKind.i64.bits 7).toNat : Int)))).toNat
                                                      fun j =>
                                                      (List.replicate
                                                            (IntKind.i64.wrap
                                                                (IntKind.i64.wrap
                                                                    (IntKind.i64.wrap (2 + IntKind.i64.wrap (↑(BitVec.ofInt IntKind.i64.bits w &&& BitVec.ofInt IntKind.i64.bits 7).toNat : Int)) *
                                                                      IntKind.i64.wrap (2 + IntKind.i64.wrap (↑(BitVec.ofInt IntKind.i64.bits d &&& BitVec.ofInt IntKind.i64.bits 7).toNat : Int))) *
                                                                  IntKind.i64.wrap (2 + IntKind.i64.wrap (↑(BitVec.ofInt IntKind.i64.bits h &&& BitVec.ofInt IntKind.i64.bits 7).toNat : Int)))).toNat
                                                            false).getD
                                                        (0 + j) false).slide
                                                  { x := px, y := py, z := pz } { x := max (-32768) (min 32768 bx), y := max (-32768) (min 32768 b_y), z := max (-32768) (min 32768 bz) }).fst.y,
                                          z :=
                                            ((mpOf (IntKind.i64.wrap (2 + IntKind.i64.wrap (↑(BitVec.ofInt IntKind.i64.bits w &&& BitVec.ofInt IntKind.i64.bits 7).toNat : Int)))
                                                      (IntKind.i64.wrap (2 + IntKind.i64.wrap (↑(BitVec.ofInt IntKind.i64.bits d &&& BitVec.ofInt IntKind.i64.bits 7).toNat : Int)))
                                                      (IntKind.i64.wrap (2 + IntKind.i64.wrap (↑(BitVec.ofInt IntKind.i64.bits h &&& BitVec.ofInt IntKind.i64.bits 7).toNat : Int)))
                                                      (IntKind.i64.wrap
                                                          (IntKind.i64.wrap
                                                              (IntKind.i64.wrap (2 + IntKind.i64.wrap (↑(BitVec.ofInt IntKind.i64.bits w &&& BitVec.ofInt IntKind.i64.bits 7).toNat : Int)) *
                                                                IntKind.i64.wrap (2 + IntKind.i64.wrap (↑(BitVec.ofInt IntKind.i64.bits d &&& BitVec.ofInt IntKind.i64.bits 7).toNat : Int))) *
                                                            IntKind.i64.wrap (2 + IntKind.i64.wrap (↑(BitVec.ofInt IntKind.i64.bits h &&& BitVec.ofInt IntKind.i64.bits 7).toNat : Int)))).toNat
                                                      fun j =>
                                                      (List.replicate
                                                            (IntKind.i64.wrap
                                                                (IntKind.i64.wrap
                                                                    (IntKind.i64.wrap (2 + IntKind.i64.wrap (↑(BitVec.ofInt IntKind.i64.bits w &&& BitVec.ofInt IntKind.i64.bits 7).toNat : Int)) *
                                                                      IntKind.i64.wrap (2 + IntKind.i64.wrap (↑(BitVec.ofInt IntKind.i64.bits d &&& BitVec.ofInt IntKind.i64.bits 7).toNat : Int))) *
                                                                  IntKind.i64.wrap (2 + IntKind.i64.wrap (↑(BitVec.ofInt IntKind.i64.bits h &&& BitVec.ofInt IntKind.i64.bits 7).toNat : Int)))).toNat
                                                            false).getD
                                                        (0 + j) false).slide
                                                  { x := px, y := py, z := pz } { x := max (-32768) (min 32768 bx), y := max (-32768) (min 32768 b_y), z := max (-32768) (min 32768 bz) }).fst.z }
                                        { x := IntKind.i64.wrap (0 - max (-32768) (min 32768 bx)), y := IntKind.i64.wrap (0 - max (-32768) (min 32768 b_y)),
                                          z := IntKind.i64.wrap (0 - max (-32768) (min 32768 bz)) }).fst.y ==
                                  py &&
                                (((mpOf (IntKind.i64.wrap (2 + IntKind.i64.wrap (↑(BitVec.ofInt IntKind.i64.bits w &&& BitVec.ofInt IntKind.i64.bits 7).toNat : Int)))
                                              (IntKind.i64.wrap (2 + IntKind.i64.wrap (↑(BitVec.ofInt IntKind.i64.bits d &&& BitVec.ofInt IntKind.i64.bits 7).toNat : Int)))
                                              (IntKind.i64.wrap (2 + IntKind.i64.wrap (↑(BitVec.ofInt IntKind.i64.bits h &&& BitVec.ofInt IntKind.i64.bits 7).toNat : Int)))
                                              (IntKind.i64.wrap
                                                  (IntKind.i64.wrap
                                                      (IntKind.i64.wrap (2 + IntKind.i64.wrap (↑(BitVec.ofInt IntKind.i64.bits w &&& BitVec.ofInt IntKind.i64.bits 7).toNat : Int)) *
                                                        IntKind.i64.wrap (2 + IntKind.i64.wrap (↑(BitVec.ofInt IntKind.i64.bits d &&& BitVec.ofInt IntKind.i64.bits 7).toNat : Int))) *
                                                    IntKind.i64.wrap (2 + IntKind.i64.wrap (↑(BitVec.ofInt IntKind.i64.bits h &&& BitVec.ofInt IntKind.i64.bits 7).toNat : Int)))).toNat
                                              fun j =>
                                              (List.replicate
                                                    (IntKind.i64.wrap
                                                        (IntKind.i64.wrap
                                                            (IntKind.i64.wrap (2 + IntKind.i64.wrap (↑(BitVec.ofInt IntKind.i64.bits w &&& BitVec.ofInt IntKind.i64.bits 7).toNat : Int)) *
                                                              IntKind.i64.wrap (2 + IntKind.i64.wrap (↑(BitVec.ofInt IntKind.i64.bits d &&& BitVec.ofInt IntKind.i64.bits 7).toNat : Int))) *
                                                          IntKind.i64.wrap (2 + IntKind.i64.wrap (↑(BitVec.ofInt IntKind.i64.bits h &&& BitVec.ofInt IntKind.i64.bits 7).toNat : Int)))).toNat
                                                    false).getD
                                                (0 + j) false).slide
                                          {
                                            x :=
                                              ((mpOf (IntKind.i64.wrap (2 + IntKind.i64.wrap (↑(BitVec.ofInt IntKind.i64.bits w &&& BitVec.ofInt IntKind.i64.bits 7).toNat : Int)))
                                                        (IntKind.i64.wrap (2 + IntKind.i64.wrap (↑(BitVec.ofInt IntKind.i64.bits d &&& BitVec.ofInt IntKind.i64.bits 7).toNat : Int)))
                                                        (IntKind.i64.wrap (2 + IntKind.i64.wrap (↑(BitVec.ofInt IntKind.i64.bits h &&& BitVec.ofInt IntKind.i64.bits 7).toNat : Int)))
                                                        (IntKind.i64.wrap
                                                            (IntKind.i64.wrap
                                                                (IntKind.i64.wrap (2 + IntKind.i64.wrap (↑(BitVec.ofInt IntKind.i64.bits w &&& BitVec.ofInt IntKind.i64.bits 7).toNat : Int)) *
                                                                  IntKind.i64.wrap (2 + IntKind.i64.wrap (↑(BitVec.ofInt IntKind.i64.bits d &&& BitVec.ofInt IntKind.i64.bits 7).toNat : Int))) *
                                                              IntKind.i64.wrap (2 + IntKind.i64.wrap (↑(BitVec.ofInt IntKind.i64.bits h &&& BitVec.ofInt IntKind.i64.bits 7).toNat : Int)))).toNat
                                                        fun j =>
                                                        (List.replicate
                                                              (IntKind.i64.wrap
                                                                  (IntKind.i64.wrap
                                                                      (IntKind.i64.wrap (2 + IntKind.i64.wrap (↑(BitVec.ofInt IntKind.i64.bits w &&& BitVec.ofInt IntKind.i64.bits 7).toNat : Int)) *
                                                                        IntKind.i64.wrap (2 + IntKind.i64.wrap (↑(BitVec.ofInt IntKind.i64.bits d &&& BitVec.ofInt IntKind.i64.bits 7).toNat : Int))) *
                                                                    IntKind.i64.wrap (2 + IntKind.i64.wrap (↑(BitVec.ofInt IntKind.i64.bits h &&& BitVec.ofInt IntKind.i64.bits 7).toNat : Int)))).toNat
                                                              false).getD
                                                          (0 + j) false).slide
                                                    { x := px, y := py, z := pz } { x := max (-32768) (min 32768 bx), y := max (-32768) (min 32768 b_y), z := max (-32768) (min 32768 bz) }).fst.x,
                                            y :=
                                              ((mpOf (IntKind.i64.wrap (2 + IntKind.i64.wrap (↑(BitVec.ofInt IntKind.i64.bits w &&& BitVec.ofInt IntKind.i64.bits 7).toNat : Int)))
                                                        (IntKind.i64.wrap (2 + IntKind.i64.wrap (↑(BitVec.ofInt IntKind.i64.bits d &&& BitVec.ofInt IntKind.i64.bits 7).toNat : Int)))
                                                        (IntKind.i64.wrap (2 + IntKind.i64.wrap (↑(BitVec.ofInt IntKind.i64.bits h &&& BitVec.ofInt IntKind.i64.bits 7).toNat : Int)))
                                                        (IntKind.i64.wrap
                                                            (IntKind.i64.wrap
                                                                (IntKind.i64.wrap (2 + IntKind.i64.wrap (↑(BitVec.ofInt IntKind.i64.bits w &&& BitVec.ofInt IntKind.i64.bits 7).toNat : Int)) *
                                                                  IntKind.i64.wrap (2 + IntKind.i64.wrap (↑(BitVec.ofInt IntKind.i64.bits d &&& BitVec.ofInt IntKind.i64.bits 7).toNat : Int))) *
                                                              IntKind.i64.wrap (2 + IntKind.i64.wrap (↑(BitVec.ofInt IntKind.i64.bits h &&& BitVec.ofInt IntKind.i64.bits 7).toNat : Int)))).toNat
                                                        fun j =>
                                                        (List.replicate
                                                              (IntKind.i64.wrap
                                                                  (IntKind.i64.wrap
                                                                      (IntKind.i64.wrap (2 + IntKind.i64.wrap (↑(BitVec.ofInt IntKind.i64.bits w &&& BitVec.ofInt IntKind.i64.bits 7).toNat : Int)) *
                                                                        IntKind.i64.wrap (2 + IntKind.i64.wrap (↑(BitVec.ofInt IntKind.i64.bits d &&& BitVec.ofInt IntKind.i64.bits 7).toNat : Int))) *
                                                                    IntKind.i64.wrap (2 + IntKind.i64.wrap (↑(BitVec.ofInt IntKind.i64.bits h &&& BitVec.ofInt IntKind.i64.bits 7).toNat : Int)))).toNat
                                                              false).getD
                                                          (0 + j) false).slide
                                                    { x := px, y := py, z := pz } { x := max (-32768) (min 32768 bx), y := max (-32768) (min 32768 b_y), z := max (-32768) (min 32768 bz) }).fst.y,
                                            z :=
                                              ((mpOf (IntKind.i64.wrap (2 + IntKind.i64.wrap (↑(BitVec.ofInt IntKind.i64.bits w &&& BitVec.ofInt IntKind.i64.bits 7).toNat : Int)))
                                                        (IntKind.i64.wrap (2 + IntKind.i64.wrap (↑(BitVec.ofInt IntKind.i64.bits d &&& BitVec.ofInt IntKind.i64.bits 7).toNat : Int)))
                                                        (IntKind.i64.wrap (2 + IntKind.i64.wrap (↑(BitVec.ofInt IntKind.i64.bits h &&& BitVec.ofInt IntKind.i64.bits 7).toNat : Int)))
                                                        (IntKind.i64.wrap
                                                            (IntKind.i64.wrap
                                                                (IntKind.i64.wrap (2 + IntKind.i64.wrap (↑(BitVec.ofInt IntKind.i64.bits w &&& BitVec.ofInt IntKind.i64.bits 7).toNat : Int)) *
                                                                  IntKind.i64.wrap (2 + IntKind.i64.wrap (↑(BitVec.ofInt IntKind.i64.bits d &&& BitVec.ofInt IntKind.i64.bits 7).toNat : Int))) *
                                                              IntKind.i64.wrap (2 + IntKind.i64.wrap (↑(BitVec.ofInt IntKind.i64.bits h &&& BitVec.ofInt IntKind.i64.bits 7).toNat : Int)))).toNat
                                                        fun j =>
                                                        (List.replicate
                                                              (IntKind.i64.wrap
                                                                  (IntKind.i64.wrap
                                                                      (IntKind.i64.wrap (2 + IntKind.i64.wrap (↑(BitVec.ofInt IntKind.i64.bits w &&& BitVec.ofInt IntKind.i64.bits 7).toNat : Int)) *
                                                                        IntKind.i64.wrap (2 + IntKind.i64.wrap (↑(BitVec.ofInt IntKind.i64.bits d &&& BitVec.ofInt IntKind.i64.bits 7).toNat : Int))) *
                                                                    IntKind.i64.wrap (2 + IntKind.i64.wrap (↑(BitVec.ofInt IntKind.i64.bits h &&& BitVec.ofInt IntKind.i64.bits 7).toNat : Int)))).toNat
                                                              false).getD
                                                          (0 + j) false).slide
                                                    { x := px, y := py, z := pz } { x := max (-32768) (min 32768 bx), y := max (-32768) (min 32768 b_y), z := max (-32768) (min 32768 bz) }).fst.z }
                                          { x := IntKind.i64.wrap (0 - max (-32768) (min 32768 bx)), y := IntKind.i64.wrap (0 - max (-32768) (min 32768 b_y)),
                                            z := IntKind.i64.wrap (0 - max (-32768) (min 32768 bz)) }).fst.z ==
                                    pz &&
                                  true)) then
                          bif
                              !((mpOf (IntKind.i64.wrap (2 + IntKind.i64.wrap (↑(BitVec.ofInt IntKind.i64.bits w &&& BitVec.ofInt IntKind.i64.bits 7).toNat : Int)))
                                          (IntKind.i64.wrap (2 + IntKind.i64.wrap (↑(BitVec.ofInt IntKind.i64.bits d &&& BitVec.ofInt IntKind.i64.bits 7).toNat : Int)))
                                          (IntKind.i64.wrap (2 + IntKind.i64.wrap (↑(BitVec.ofInt IntKind.i64.bits h &&& BitVec.ofInt IntKind.i64.bits 7).toNat : Int)))
                                          (IntKind.i64.wrap
                                              (IntKind.i64.wrap
                                                  (IntKind.i64.wrap (2 + IntKind.i64.wrap (↑(BitVec.ofInt IntKind.i64.bits w &&& BitVec.ofInt IntKind.i64.bits 7).toNat : Int)) *
                                                    IntKind.i64.wrap (2 + IntKind.i64.wrap (↑(BitVec.ofInt IntKind.i64.bits d &&& BitVec.ofInt IntKind.i64.bits 7).toNat : Int))) *
                                                IntKind.i64.wrap (2 + IntKind.i64.wrap (↑(BitVec.ofInt IntKind.i64.bits h &&& BitVec.ofInt IntKind.i64.bits 7).toNat : Int)))).toNat
                                          fun j =>
                                          (List.replicate
                                                (IntKind.i64.wrap
                                                    (IntKind.i64.wrap
                                                        (IntKind.i64.wrap (2 + IntKind.i64.wrap (↑(BitVec.ofInt IntKind.i64.bits w &&& BitVec.ofInt IntKind.i64.bits 7).toNat : Int)) *
                                                          IntKind.i64.wrap (2 + IntKind.i64.wrap (↑(BitVec.ofInt IntKind.i64.bits d &&& BitVec.ofInt IntKind.i64.bits 7).toNat : Int))) *
                                                      IntKind.i64.wrap (2 + IntKind.i64.wrap (↑(BitVec.ofInt IntKind.i64.bits h &&& BitVec.ofInt IntKind.i64.bits 7).toNat : Int)))).toNat
                                                false).getD
                                            (0 + j) false).slide
                                      {
                                        x :=
                                          ((mpOf (IntKind.i64.wrap (2 + IntKind.i64.wrap (↑(BitVec.ofInt IntKind.i64.bits w &&& BitVec.ofInt IntKind.i64.bits 7).toNat : Int)))
                                                    (IntKind.i64.wrap (2 + IntKind.i64.wrap (↑(BitVec.ofInt IntKind.i64.bits d &&& BitVec.ofInt IntKind.i64.bits 7).toNat : Int)))
                                                    (IntKind.i64.wrap (2 + IntKind.i64.wrap (↑(BitVec.ofInt IntKind.i64.bits h &&& BitVec.ofInt IntKind.i64.bits 7).toNat : Int)))
                                                    (IntKind.i64.wrap
                                                        (IntKind.i64.wrap
                                                            (IntKind.i64.wrap (2 + IntKind.i64.wrap (↑(BitVec.ofInt IntKind.i64.bits w &&& BitVec.ofInt IntKind.i64.bits 7).toNat : Int)) *
                                                              IntKind.i64.wrap (2 + IntKind.i64.wrap (↑(BitVec.ofInt IntKind.i64.bits d &&& BitVec.ofInt IntKind.i64.bits 7).toNat : Int))) *
                                                          IntKind.i64.wrap (2 + IntKind.i64.wrap (↑(BitVec.ofInt IntKind.i64.bits h &&& BitVec.ofInt IntKind.i64.bits 7).toNat : Int)))).toNat
                                                    fun j =>
                                                    (List.replicate
                                                          (IntKind.i64.wrap
                                                              (IntKind.i64.wrap
                                                                  (IntKind.i64.wrap (2 + IntKind.i64.wrap (↑(BitVec.ofInt IntKind.i64.bits w &&& BitVec.ofInt IntKind.i64.bits 7).toNat : Int)) *
                                                                    IntKind.i64.wrap (2 + IntKind.i64.wrap (↑(BitVec.ofInt IntKind.i64.bits d &&& BitVec.ofInt IntKind.i64.bits 7).toNat : Int))) *
                                                                IntKind.i64.wrap (2 + IntKind.i64.wrap (↑(BitVec.ofInt IntKind.i64.bits h &&& BitVec.ofInt IntKind.i64.bits 7).toNat : Int)))).toNat
                                                          false).getD
                                                      (0 + j) false).slide
                                                { x := px, y := py, z := pz } { x := max (-32768) (min 32768 bx), y := max (-32768) (min 32768 b_y), z := max (-32768) (min 32768 bz) }).fst.x,
                                        y :=
                                          ((mpOf (IntKind.i64.wrap (2 + IntKind.i64.wrap (↑(BitVec.ofInt IntKind.i64.bits w &&& BitVec.ofInt IntKind.i64.bits 7).toNat : Int)))
                                                    (IntKind.i64.wrap (2 + IntKind.i64.wrap (↑(BitVec.ofInt IntKind.i64.bits d &&& BitVec.ofInt IntKind.i64.bits 7).toNat : Int)))
                                                    (IntKind.i64.wrap (2 + IntKind.i64.wrap (↑(BitVec.ofInt IntKind.i64.bits h &&& BitVec.ofInt IntKind.i64.bits 7).toNat : Int)))
                                                    (IntKind.i64.wrap
                                                        (IntKind.i64.wrap
                                                            (IntKind.i64.wrap (2 + IntKind.i64.wrap (↑(BitVec.ofInt IntKind.i64.bits w &&& BitVec.ofInt IntKind.i64.bits 7).toNat : Int)) *
                                                              IntKind.i64.wrap (2 + IntKind.i64.wrap (↑(BitVec.ofInt IntKind.i64.bits d &&& BitVec.ofInt IntKind.i64.bits 7).toNat : Int))) *
                                                          IntKind.i64.wrap (2 + IntKind.i64.wrap (↑(BitVec.ofInt IntKind.i64.bits h &&& BitVec.ofInt IntKind.i64.bits 7).toNat : Int)))).toNat
                                                    fun j =>
                                                    (List.replicate
                                                          (IntKind.i64.wrap
                                                              (IntKind.i64.wrap
                                                                  (IntKind.i64.wrap (2 + IntKind.i64.wrap (↑(BitVec.ofInt IntKind.i64.bits w &&& BitVec.ofInt IntKind.i64.bits 7).toNat : Int)) *
                                                                    IntKind.i64.wrap (2 + IntKind.i64.wrap (↑(BitVec.ofInt IntKind.i64.bits d &&& BitVec.ofInt IntKind.i64.bits 7).toNat : Int))) *
                                                                IntKind.i64.wrap (2 + IntKind.i64.wrap (↑(BitVec.ofInt IntKind.i64.bits h &&& BitVec.ofInt IntKind.i64.bits 7).toNat : Int)))).toNat
                                                          false).getD
                                                      (0 + j) false).slide
                                                { x := px, y := py, z := pz } { x := max (-32768) (min 32768 bx), y := max (-32768) (min 32768 b_y), z := max (-32768) (min 32768 bz) }).fst.y,
                                        z :=
                                          ((mpOf (IntKind.i64.wrap (2 + IntKind.i64.wrap (↑(BitVec.ofInt IntKind.i64.bits w &&& BitVec.ofInt IntKind.i64.bits 7).toNat : Int)))
                                                    (IntKind.i64.wrap (2 + IntKind.i64.wrap (↑(BitVec.ofInt IntKind.i64.bits d &&& BitVec.ofInt IntKind.i64.bits 7).toNat : Int)))
                                                    (IntKind.i64.wrap (2 + IntKind.i64.wrap (↑(BitVec.ofInt IntKind.i64.bits h &&& BitVec.ofInt IntKind.i64.bits 7).toNat : Int)))
                                                    (IntKind.i64.wrap
                                                        (IntKind.i64.wrap
                                                            (IntKind.i64.wrap (2 + IntKind.i64.wrap (↑(BitVec.ofInt IntKind.i64.bits w &&& BitVec.ofInt IntKind.i64.bits 7).toNat : Int)) *
                                                              IntKind.i64.wrap (2 + IntKind.i64.wrap (↑(BitVec.ofInt IntKind.i64.bits d &&& BitVec.ofInt IntKind.i64.bits 7).toNat : Int))) *
                                                          IntKind.i64.wrap (2 + IntKind.i64.wrap (↑(BitVec.ofInt IntKind.i64.bits h &&& BitVec.ofInt IntKind.i64.bits 7).toNat : Int)))).toNat
                                                    fun j =>
                                                    (List.replicate
                                                          (IntKind.i64.wrap
                                                              (IntKind.i64.wrap
                                                                  (IntKind.i64.wrap (2 + IntKind.i64.wrap (↑(BitVec.ofInt IntKind.i64.bits w &&& BitVec.ofInt IntKind.i64.bits 7).toNat : Int)) *
                                                                    IntKind.i64.wrap (2 + IntKind.i64.wrap (↑(BitVec.ofInt IntKind.i64.bits d &&& BitVec.ofInt IntKind.i64.bits 7).toNat : Int))) *
                                                                IntKind.i64.wrap (2 + IntKind.i64.wrap (↑(BitVec.ofInt IntKind.i64.bits h &&& BitVec.ofInt IntKind.i64.bits 7).toNat : Int)))).toNat
                                                          false).getD
                                                      (0 + j) false).slide
                                                { x := px, y := py, z := pz } { x := max (-32768) (min 32768 bx), y := max (-32768) (min 32768 b_y), z := max (-32768) (min 32768 bz) }).fst.z }
                                      { x := IntKind.i64.wrap (0 - max (-32768) (min 32768 bx)), y := IntKind.i64.wrap (0 - max (-32768) (min 32768 b_y)),
                                        z := IntKind.i64.wrap (0 - max (-32768) (min 32768 bz)) }).snd.fst then
                            bif
                                !((mpOf (IntKind.i64.wrap (2 + IntKind.i64.wrap (↑(BitVec.ofInt IntKind.i64.bits w &&& BitVec.ofInt IntKind.i64.bits 7).toNat : Int)))
                                              (IntKind.i64.wrap (2 + IntKind.i64.wrap (↑(BitVec.ofInt IntKind.i64.bits d &&& BitVec.ofInt IntKind.i64.bits 7).toNat : Int)))
                                              (IntKind.i64.wrap (2 + IntKind.i64.wrap (↑(BitVec.ofInt IntKind.i64.bits h &&& BitVec.ofInt IntKind.i64.bits 7).toNat : Int)))
                                              (IntKind.i64.wrap
                                                  (IntKind.i64.wrap
                                                      (IntKind.i64.wrap (2 + IntKind.i64.wrap (↑(BitVec.ofInt IntKind.i64.bits w &&& BitVec.ofInt IntKind.i64.bits 7).toNat : Int)) *
                                                        IntKind.i64.wrap (2 + IntKind.i64.wrap (↑(BitVec.ofInt IntKind.i64.bits d &&& BitVec.ofInt IntKind.i64.bits 7).toNat : Int))) *
                                                    IntKind.i64.wrap (2 + IntKind.i64.wrap (↑(BitVec.ofInt IntKind.i64.bits h &&& BitVec.ofInt IntKind.i64.bits 7).toNat : Int)))).toNat
                                              fun j =>
                                              (List.replicate
                                                    (IntKind.i64.wrap
                                                        (IntKind.i64.wrap
                                                            (IntKind.i64.wrap (2 + IntKind.i64.wrap (↑(BitVec.ofInt IntKind.i64.bits w &&& BitVec.ofInt IntKind.i64.bits 7).toNat : Int)) *
                                                              IntKind.i64.wrap (2 + IntKind.i64.wrap (↑(BitVec.ofInt IntKind.i64.bits d &&& BitVec.ofInt IntKind.i64.bits 7).toNat : Int))) *
                                                          IntKind.i64.wrap (2 + IntKind.i64.wrap (↑(BitVec.ofInt IntKind.i64.bits h &&& BitVec.ofInt IntKind.i64.bits 7).toNat : Int)))).toNat
                                                    false).getD
                                                (0 + j) false).slide
                                          {
                                            x :=
                                              ((mpOf (IntKind.i64.wrap (2 + IntKind.i64.wrap (↑(BitVec.ofInt IntKind.i64.bits w &&& BitVec.ofInt IntKind.i64.bits 7).toNat : Int)))
                                                        (IntKind.i64.wrap (2 + IntKind.i64.wrap (↑(BitVec.ofInt IntKind.i64.bits d &&& BitVec.ofInt IntKind.i64.bits 7).toNat : Int)))
                                                        (IntKind.i64.wrap (2 + IntKind.i64.wrap (↑(BitVec.ofInt IntKind.i64.bits h &&& BitVec.ofInt IntKind.i64.bits 7).toNat : Int)))
                                                        (IntKind.i64.wrap
                                                            (IntKind.i64.wrap
                                                                (IntKind.i64.wrap (2 + IntKind.i64.wrap (↑(BitVec.ofInt IntKind.i64.bits w &&& BitVec.ofInt IntKind.i64.bits 7).toNat : Int)) *
                                                                  IntKind.i64.wrap (2 + IntKind.i64.wrap (↑(BitVec.ofInt IntKind.i64.bits d &&& BitVec.ofInt IntKind.i64.bits 7).toNat : Int))) *
                                                              IntKind.i64.wrap (2 + IntKind.i64.wrap (↑(BitVec.ofInt IntKind.i64.bits h &&& BitVec.ofInt IntKind.i64.bits 7).toNat : Int)))).toNat
                                                        fun j =>
                                                        (List.replicate
                                                              (IntKind.i64.wrap
                                                                  (IntKind.i64.wrap
                                                                      (IntKind.i64.wrap (2 + IntKind.i64.wrap (↑(BitVec.ofInt IntKind.i64.bits w &&& BitVec.ofInt IntKind.i64.bits 7).toNat : Int)) *
                                                                        IntKind.i64.wrap (2 + IntKind.i64.wrap (↑(BitVec.ofInt IntKind.i64.bits d &&& BitVec.ofInt IntKind.i64.bits 7).toNat : Int))) *
                                                                    IntKind.i64.wrap (2 + IntKind.i64.wrap (↑(BitVec.ofInt IntKind.i64.bits h &&& BitVec.ofInt IntKind.i64.bits 7).toNat : Int)))).toNat
                                                              false).getD
                                                          (0 + j) false).slide
                                                    { x := px, y := py, z := pz } { x := max (-32768) (min 32768 bx), y := max (-32768) (min 32768 b_y), z := max (-32768) (min 32768 bz) }).fst.x,
                                            y :=
                                              ((mpOf (IntKind.i64.wrap (2 + IntKind.i64.wrap (↑(BitVec.ofInt IntKind.i64.bits w &&& BitVec.ofInt IntKind.i64.bits 7).toNat : Int)))
                                                        (IntKind.i64.wrap (2 + IntKind.i64.wrap (↑(BitVec.ofInt IntKind.i64.bits d &&& BitVec.ofInt IntKind.i64.bits 7).toNat : Int)))
                                                        (IntKind.i64.wrap (2 + IntKind.i64.wrap (↑(BitVec.ofInt IntKind.i64.bits h &&& BitVec.ofInt IntKind.i64.bits 7).toNat : Int)))
                                                        (IntKind.i64.wrap
                                                            (IntKind.i64.wrap
                                                                (IntKind.i64.wrap (2 + IntKind.i64.wrap (↑(BitVec.ofInt IntKind.i64.bits w &&& BitVec.ofInt IntKind.i64.bits 7).toNat : Int)) *
                                                                  IntKind.i64.wrap (2 + IntKind.i64.wrap (↑(BitVec.ofInt IntKind.i64.bits d &&& BitVec.ofInt IntKind.i64.bits 7).toNat : Int))) *
                                                              IntKind.i64.wrap (2 + IntKind.i64.wrap (↑(BitVec.ofInt IntKind.i64.bits h &&& BitVec.ofInt IntKind.i64.bits 7).toNat : Int)))).toNat
                                                        fun j =>
                                                        (List.replicate
                                                              (IntKind.i64.wrap
                                                                  (IntKind.i64.wrap
                                                                      (IntKind.i64.wrap (2 + IntKind.i64.wrap (↑(BitVec.ofInt IntKind.i64.bits w &&& BitVec.ofInt IntKind.i64.bits 7).toNat : Int)) *
                                                                        IntKind.i64.wrap (2 + IntKind.i64.wrap (↑(BitVec.ofInt IntKind.i64.bits d &&& BitVec.ofInt IntKind.i64.bits 7).toNat : Int))) *
                                                                    IntKind.i64.wrap (2 + IntKind.i64.wrap (↑(BitVec.ofInt IntKind.i64.bits h &&& BitVec.ofInt IntKind.i64.bits 7).toNat : Int)))).toNat
                                                              false).getD
                                                          (0 + j) false).slide
                                                    { x := px, y := py, z := pz } { x := max (-32768) (min 32768 bx), y := max (-32768) (min 32768 b_y), z := max (-32768) (min 32768 bz) }).fst.y,
                                            z :=
                                              ((mpOf (IntKind.i64.wrap (2 + IntKind.i64.wrap (↑(BitVec.ofInt IntKind.i64.bits w &&& BitVec.ofInt IntKind.i64.bits 7).toNat : Int)))
                                                        (IntKind.i64.wrap (2 + IntKind.i64.wrap (↑(BitVec.ofInt IntKind.i64.bits d &&& BitVec.ofInt IntKind.i64.bits 7).toNat : Int)))
                                                        (IntKind.i64.wrap (2 + IntKind.i64.wrap (↑(BitVec.ofInt IntKind.i64.bits h &&& BitVec.ofInt IntKind.i64.bits 7).toNat : Int)))
                                                        (IntKind.i64.wrap
                                                            (IntKind.i64.wrap
                                                                (IntKind.i64.wrap (2 + IntKind.i64.wrap (↑(BitVec.ofInt IntKind.i64.bits w &&& BitVec.ofInt IntKind.i64.bits 7).toNat : Int)) *
                                                                  IntKind.i64.wrap (2 + IntKind.i64.wrap (↑(BitVec.ofInt IntKind.i64.bits d &&& BitVec.ofInt IntKind.i64.bits 7).toNat : Int))) *
                                                              IntKind.i64.wrap (2 + IntKind.i64.wrap (↑(BitVec.ofInt IntKind.i64.bits h &&& BitVec.ofInt IntKind.i64.bits 7).toNat : Int)))).toNat
                                                        fun j =>
                                                        (List.replicate
                                                              (IntKind.i64.wrap
                                                                  (IntKind.i64.wrap
                                                                      (IntKind.i64.wrap (2 + IntKind.i64.wrap (↑(BitVec.ofInt IntKind.i64.bits w &&& BitVec.ofInt IntKind.i64.bits 7).toNat : Int)) *
                                                                        IntKind.i64.wrap (2 + IntKind.i64.wrap (↑(BitVec.ofInt IntKind.i64.bits d &&& BitVec.ofInt IntKind.i64.bits 7).toNat : Int))) *
                                                                    IntKind.i64.wrap (2 + IntKind.i64.wrap (↑(BitVec.ofInt IntKind.i64.bits h &&& BitVec.ofInt IntKind.i64.bits 7).toNat : Int)))).toNat
                                                              false).getD
                                                          (0 + j) false).slide
                                                    { x := px, y := py, z := pz } { x := max (-32768) (min 32768 bx), y := max (-32768) (min 32768 b_y), z := max (-32768) (min 32768 bz) }).fst.z }
                                          { x := IntKind.i64.wrap (0 - max (-32768) (min 32768 bx)), y := IntKind.i64.wrap (0 - max (-32768) (min 32768 b_y)),
                                            z := IntKind.i64.wrap (0 - max (-32768) (min 32768 bz)) }).snd.snd.fst then
                              some
                                (SV.bool
                                    !((mpOf (IntKind.i64.wrap (2 + IntKind.i64.wrap (↑(BitVec.ofInt IntKind.i64.bits w &&& BitVec.ofInt IntKind.i64.bits 7).toNat : Int)))
                                                  (IntKind.i64.wrap (2 + IntKind.i64.wrap (↑(BitVec.ofInt IntKind.i64.bits d &&& BitVec.ofInt IntKind.i64.bits 7).toNat : Int)))
                                                  (IntKind.i64.wrap (2 + IntKind.i64.wrap (↑(BitVec.ofInt IntKind.i64.bits h &&& BitVec.ofInt IntKind.i64.bits 7).toNat : Int)))
                                                  (IntKind.i64.wrap
                                                      (IntKind.i64.wrap
                                                          (IntKind.i64.wrap (2 + IntKind.i64.wrap (↑(BitVec.ofInt IntKind.i64.bits w &&& BitVec.ofInt IntKind.i64.bits 7).toNat : Int)) *
                                                            IntKind.i64.wrap (2 + IntKind.i64.wrap (↑(BitVec.ofInt IntKind.i64.bits d &&& BitVec.ofInt IntKind.i64.bits 7).toNat : Int))) *
                                                        IntKind.i64.wrap (2 + IntKind.i64.wrap (↑(BitVec.ofInt IntKind.i64.bits h &&& BitVec.ofInt IntKind.i64.bits 7).toNat : Int)))).toNat
                                                  fun j =>
                                                  (List.replicate
                                                        (IntKind.i64.wrap
                                                            (IntKind.i64.wrap
                                                                (IntKind.i64.wrap (2 + IntKind.i64.wrap (↑(BitVec.ofInt IntKind.i64.bits w &&& BitVec.ofInt IntKind.i64.bits 7).toNat : Int)) *
                                                                  IntKind.i64.wrap (2 + IntKind.i64.wrap (↑(BitVec.ofInt IntKind.i64.bits d &&& BitVec.ofInt IntKind.i64.bits 7).toNat : Int))) *
                                                              IntKind.i64.wrap (2 + IntKind.i64.wrap (↑(BitVec.ofInt IntKind.i64.bits h &&& BitVec.ofInt IntKind.i64.bits 7).toNat : Int)))).toNat
                                                        false).getD
                                                    (0 + j) false).slide
                                              {
                                                x :=
                                                  ((mpOf (IntKind.i64.wrap (2 + IntKind.i64.wrap (↑(BitVec.ofInt IntKind.i64.bits w &&& BitVec.ofInt IntKind.i64.bits 7).toNat : Int)))
                                                            (IntKind.i64.wrap (2 + IntKind.i64.wrap (↑(BitVec.ofInt IntKind.i64.bits d &&& BitVec.ofInt IntKind.i64.bits 7).toNat : Int)))
                                                            (IntKind.i64.wrap (2 + IntKind.i64.wrap (↑(BitVec.ofInt IntKind.i64.bits h &&& BitVec.ofInt IntKind.i64.bits 7).toNat : Int)))
                                                            (IntKind.i64.wrap
                                                                (IntKind.i64.wrap
                                                                    (IntKind.i64.wrap (2 + IntKind.i64.wrap (↑(BitVec.ofInt IntKind.i64.bits w &&& BitVec.ofInt IntKind.i64.bits 7).toNat : Int)) *
                                                                      IntKind.i64.wrap (2 + IntKind.i64.wrap (↑(BitVec.ofInt IntKind.i64.bits d &&& BitVec.ofInt IntKind.i64.bits 7).toNat : Int))) *
                                                                  IntKind.i64.wrap (2 + IntKind.i64.wrap (↑(BitVec.ofInt IntKind.i64.bits h &&& BitVec.ofInt IntKind.i64.bits 7).toNat : Int)))).toNat
                                                            fun j =>
                                                            (List.replicate
                                                                  (IntKind.i64.wrap
                                                                      (IntKind.i64.wrap
                                                                          (IntKind.i64.wrap (2 + IntKind.i64.wrap (↑(BitVec.ofInt IntKind.i64.bits w &&& BitVec.ofInt IntKind.i64.bits 7).toNat : Int)) *
                                                                            IntKind.i64.wrap
                                                                              (2 + IntKind.i64.wrap (↑(BitVec.ofInt IntKind.i64.bits d &&& BitVec.ofInt IntKind.i64.bits 7).toNat : Int))) *
                                                                        IntKind.i64.wrap
                                                                          (2 + IntKind.i64.wrap (↑(BitVec.ofInt IntKind.i64.bits h &&& BitVec.ofInt IntKind.i64.bits 7).toNat : Int)))).toNat
                                                                  false).getD
                                                              (0 + j) false).slide
                                                        { x := px, y := py, z := pz } { x := max (-32768) (min 32768 bx), y := max (-32768) (min 32768 b_y), z := max (-32768) (min 32768 bz) }).fst.x,
                                                y :=
                                                  ((mpOf (IntKind.i64.wrap (2 + IntKind.i64.wrap (↑(BitVec.ofInt IntKind.i64.bits w &&& BitVec.ofInt IntKind.i64.bits 7).toNat : Int)))
                                                            (IntKind.i64.wrap (2 + IntKind.i64.wrap (↑(BitVec.ofInt IntKind.i64.bits d &&& BitVec.ofInt IntKind.i64.bits 7).toNat : Int)))
                                                            (IntKind.i64.wrap (2 + IntKind.i64.wrap (↑(BitVec.ofInt IntKind.i64.bits h &&& BitVec.ofInt IntKind.i64.bits 7).toNat : Int)))
                                                            (IntKind.i64.wrap
                                                                (IntKind.i64.wrap
                                                                    (IntKind.i64.wrap (2 + IntKind.i64.wrap (↑(BitVec.ofInt IntKind.i64.bits w &&& BitVec.ofInt IntKind.i64.bits 7).toNat : Int)) *
                                                                      IntKind.i64.wrap (2 + IntKind.i64.wrap (↑(BitVec.ofInt IntKind.i64.bits d &&& BitVec.ofInt IntKind.i64.bits 7).toNat : Int))) *
                                                                  IntKind.i64.wrap (2 + IntKind.i64.wrap (↑(BitVec.ofInt IntKind.i64.bits h &&& BitVec.ofInt IntKind.i64.bits 7).toNat : Int)))).toNat
                                                            fun j =>
                                                            (List.replicate
                                                                  (IntKind.i64.wrap
                                                                      (IntKind.i64.wrap
                                                                          (IntKind.i64.wrap (2 + IntKind.i64.wrap (↑(BitVec.ofInt IntKind.i64.bits w &&& BitVec.ofInt IntKind.i64.bits 7).toNat : Int)) *
                                                                            IntKind.i64.wrap
                                                                              (2 + IntKind.i64.wrap (↑(BitVec.ofInt IntKind.i64.bits d &&& BitVec.ofInt IntKind.i64.bits 7).toNat : Int))) *
                                                                        IntKind.i64.wrap
                                                                          (2 + IntKind.i64.wrap (↑(BitVec.ofInt IntKind.i64.bits h &&& BitVec.ofInt IntKind.i64.bits 7).toNat : Int)))).toNat
                                                                  false).getD
                                                              (0 + j) false).slide
                                                        { x := px, y := py, z := pz } { x := max (-32768) (min 32768 bx), y := max (-32768) (min 32768 b_y), z := max (-32768) (min 32768 bz) }).fst.y,
                                                z :=
                                                  ((mpOf (IntKind.i64.wrap (2 + IntKind.i64.wrap (↑(BitVec.ofInt IntKind.i64.bits w &&& BitVec.ofInt IntKind.i64.bits 7).toNat : Int)))
                                                            (IntKind.i64.wrap (2 + IntKind.i64.wrap (↑(BitVec.ofInt IntKind.i64.bits d &&& BitVec.ofInt IntKind.i64.bits 7).toNat : Int)))
                                                            (IntKind.i64.wrap (2 + IntKind.i64.wrap (↑(BitVec.ofInt IntKind.i64.bits h &&& BitVec.ofInt IntKind.i64.bits 7).toNat : Int)))
                                                            (IntKind.i64.wrap
                                                                (IntKind.i64.wrap
                                                                    (IntKind.i64.wrap (2 + IntKind.i64.wrap (↑(BitVec.ofInt IntKind.i64.bits w &&& BitVec.ofInt IntKind.i64.bits 7).toNat : Int)) *
                                                                      IntKind.i64.wrap (2 + IntKind.i64.wrap (↑(BitVec.ofInt IntKind.i64.bits d &&& BitVec.ofInt IntKind.i64.bits 7).toNat : Int))) *
                                                                  IntKind.i64.wrap (2 + IntKind.i64.wrap (↑(BitVec.ofInt IntKind.i64.bits h &&& BitVec.ofInt IntKind.i64.bits 7).toNat : Int)))).toNat
                                                            fun j =>
                                                            (List.replicate
                                                                  (IntKind.i64.wrap
                                                                      (IntKind.i64.wrap
                                                                          (IntKind.i64.wrap (2 + IntKind.i64.wrap (↑(BitVec.ofInt IntKind.i64.bits w &&& BitVec.ofInt IntKind.i64.bits 7).toNat : Int)) *
                                                                            IntKind.i64.wrap
                                                                              (2 + IntKind.i64.wrap (↑(BitVec.ofInt IntKind.i64.bits d &&& BitVec.ofInt IntKind.i64.bits 7).toNat : Int))) *
                                                                        IntKind.i64.wrap
                                                                          (2 + IntKind.i64.wrap (↑(BitVec.ofInt IntKind.i64.bits h &&& BitVec.ofInt IntKind.i64.bits 7).toNat : Int)))).toNat
                                                                  false).getD
                                                              (0 + j) false).slide
                                                        { x := px, y := py, z := pz } { x := max (-32768) (min 32768 bx), y := max (-32768) (min 32768 b_y), z := max (-32768) (min 32768 bz) }).fst.z }
                                              { x := IntKind.i64.wrap (0 - max (-32768) (min 32768 bx)), y := IntKind.i64.wrap (0 - max (-32768) (min 32768 b_y)),
                                                z := IntKind.i64.wrap (0 - max (-32768) (min 32768 bz)) }).snd.snd.snd,
                                  [])
                            else some (SV.bool false, [])
                          else some (SV.bool false, [])
                        else some (SV.bool false, [])
                      else some (SV.bool false, [])
                    else some (SV.bool false, [])
                  else some (SV.bool false, [])
                else none
        else none
    else none
  else none := by kernel_rfl


theorem clampN_twice (a : Int) : clampN 32768 (clampN 32768 a) = clampN 32768 a := by unfold clampN; omega

theorem back_law {w d h : Int} {p b : V3} (hp : p.fits) :
    runK x10b (fun _ _ => none) 200 8 Try.f8 0 [.int .i64 w, .int .i64 d, .int .i64 h, .agg [.int .i64 p.x, .int .i64 p.y, .int .i64 p.z], .agg [.int .i64 b.x, .int .i64 b.y, .int .i64 b.z]] [] = some (.bool true, []) := by
  rw [back_tree]
  have sW := seven (w := w)
  have sD := seven (w := d)
  have sH := seven (w := h)
  generalize IntKind.i64.wrap (2 + IntKind.i64.wrap ((BitVec.ofInt IntKind.i64.bits w &&& BitVec.ofInt IntKind.i64.bits 7).toNat : Int)) = W at sW ⊢
  generalize IntKind.i64.wrap (2 + IntKind.i64.wrap ((BitVec.ofInt IntKind.i64.bits d &&& BitVec.ofInt IntKind.i64.bits 7).toNat : Int)) = D at sD ⊢
  generalize IntKind.i64.wrap (2 + IntKind.i64.wrap ((BitVec.ofInt IntKind.i64.bits h &&& BitVec.ofInt IntKind.i64.bits 7).toNat : Int)) = H at sH ⊢
  have h3 := prod3 sW sD sH
  have v1 : IntKind.i64.wrap (W * D) = W * D := IntWalk.i64_in _ (by omega)
  have v2 : IntKind.i64.wrap (W * D * H) = W * D * H := IntWalk.i64_in _ (by omega)
  have hfr := hall_free sW sD sH (s := fun j => (List.replicate (W * D * H).toNat false).getD (0 + j) false) (fun j => rep_getD _ _) hp
  have hsl := hall_slide sW sD sH (s := fun j => (List.replicate (W * D * H).toNat false).getD (0 + j) false) (fun j => rep_getD _ _) (p := p) ⟨clampN 32768 b.x, clampN 32768 b.y, clampN 32768 b.z⟩
  have c1 : (decide (0 ≤ W * D * H) && (decide (W * D * H ≤ 9223372036854775807) && (decide ((1 : Int) * (W * D * H) ≤ 2 ^ 48) && decide (W * D * H = W * D * H)))) = true := by
    rw [Int.one_mul]
    simp only [Bool.and_eq_true, decide_eq_true_eq]
    have e48 : (2 : Int) ^ 48 = 281474976710656 := by decide
    rw [e48]
    refine ⟨by omega, by omega, by omega, by trivial⟩
  have c2 : (mapOk W D H (W * D * H).toNat && (fitsB { x := p.x, y := p.y, z := p.z } && decide (0 + (W * D * H).toNat ≤ (List.replicate (W * D * H).toNat false).length))) = true := by
    unfold mapOk
    simp only [Bool.and_eq_true, in64B_iff, decide_eq_true_eq, List.length_replicate, Nat.zero_add, Nat.le_refl, and_true]
    refine ⟨⟨?_, ?_, ?_, by omega⟩, fitsB_iff.2 hp⟩ <;> (unfold In64; omega)
  have ep : (⟨p.x, p.y, p.z⟩ : V3) = p := rfl
  have eb : (⟨b.x, b.y, b.z⟩ : V3) = b := rfl
  rw [v1, v2, c1]
  simp only [c2, cond_true, ep, clampN_eq]
  rw [hfr]
  cases gx : inX 26214 W p.x
  · rfl
  cases gy : inX 26214 D p.y
  · rfl
  cases gz : inX 58982 H p.z
  · rfl
  rw [hsl gx gy gz]
  have ix := inX_le (by omega) (by omega) gx
  have iy := inX_le (by omega) (by omega) gy
  have iz := inX_le (by omega) (by omega) gz
  have cx := clampN_in b.x
  have cy := clampN_in b.y
  have cz := clampN_in b.z
  have hsl2 := fun (q u : V3) => hall_slide sW sD sH (s := fun j => (List.replicate (W * D * H).toNat false).getD (0 + j) false) (fun j => rep_getD _ _) (p := q) u
  clear hsl hfr
  simp only [clampN_twice]
  generalize clampN 32768 b.x = x at *
  generalize clampN 32768 b.y = y at *
  generalize clampN 32768 b.z = z at *
  have w1 : IntKind.i64.wrap (p.x + x) = p.x + x := IntWalk.i64_in _ (by omega)
  have w2 : IntKind.i64.wrap (p.y + y) = p.y + y := IntWalk.i64_in _ (by omega)
  have w3 : IntKind.i64.wrap (p.z + z) = p.z + z := IntWalk.i64_in _ (by omega)
  have n1 : IntKind.i64.wrap (0 - x) = 0 - x := IntWalk.i64_in _ (by omega)
  have n2 : IntKind.i64.wrap (0 - y) = 0 - y := IntWalk.i64_in _ (by omega)
  have n3 : IntKind.i64.wrap (0 - z) = 0 - z := IntWalk.i64_in _ (by omega)
  have m1 : clampN 32768 (0 - x) = -x := by unfold clampN; omega
  have m2 : clampN 32768 (0 - y) = -y := by unfold clampN; omega
  have m3 : clampN 32768 (0 - z) = -z := by unfold clampN; omega
  have o1 : p.x + x + -x = p.x := by omega
  have o2 : p.y + y + -y = p.y := by omega
  have o3 : p.z + z + -z = p.z := by omega
  simp only [w1, w2, w3, n1, n2, n3]
  unfold mvX
  cases ex : inX 26214 W (p.x + x) <;> cases ey : inX 26214 D (p.y + y) <;> cases ez : inX 58982 H (p.z + z) <;> simp only [cond_true, cond_false, beq_self_eq_true, Bool.not_true, Bool.not_false]
  case true.true.true =>
    have f1 := inX_fits (by omega) (by omega) ex
    have f2 := inX_fits (by omega) (by omega) ey
    have f3 := inX_fits (by omega) (by omega) ez
    have c3 : (mapOk W D H (W * D * H).toNat && (fitsB { x := p.x + x, y := p.y + y, z := p.z + z } && decide (0 + (W * D * H).toNat ≤ (List.replicate (W * D * H).toNat false).length))) = true := by
      unfold mapOk
      simp only [Bool.and_eq_true, in64B_iff, decide_eq_true_eq, List.length_replicate, Nat.zero_add, Nat.le_refl, and_true]
      refine ⟨⟨?_, ?_, ?_, by omega⟩, fitsB_iff.2 ⟨f1, f2, f3⟩⟩ <;> (unfold In64; omega)
    rw [c3, hsl2 ⟨p.x + x, p.y + y, p.z + z⟩ ⟨0 - x, 0 - y, 0 - z⟩ ex ey ez]
    simp only [m1, m2, m3, o1, o2, o3, mvX, gx, gy, gz, cond_true, cond_false, beq_self_eq_true, Bool.not_true, Bool.not_false, Bool.and_self]
  all_goals (cases (p.x + x == p.x) <;> cases (p.y + y == p.y) <;> cases (p.z + z == p.z) <;> rfl)

end Go.Proofs.Ytnfhlfmcgeaagaa
