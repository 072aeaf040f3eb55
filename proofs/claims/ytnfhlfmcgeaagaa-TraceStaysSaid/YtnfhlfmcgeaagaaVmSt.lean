/- TraceStays: the loop. -/
import Derived.Test.YtnfhlfmcgeaagaaVmStP
namespace Go.Proofs.Ytnfhlfmcgeaagaa
set_option linter.unusedSimpArgs false
set_option linter.unusedVariables false
open Go.RowKit

set_option maxRecDepth 100000 in
set_option maxHeartbeats 0 in
theorem stays_round (w d h : Int) (L : Nat) (xs : List Bool) (px py pz i : Int) (l : List V3) (ll : Nat) : roundS x10b (fun _ _ => none) 100 4 [0, 1, 0, 1, 1, 1, 1] (bodyAt Try.f4 [0, 1, 0, 1, 1, 1, 1]) 161 4 [6, 7, 2, 3, 4, 8] [.bool false, .bool true, .slice 1 3 0 ll none, .ptr 2 0 0 0, .ptr 3 0 0 0, .int .i64 i] [.vec true .bool xs, .vec true .vec l, .own [.int .i64 w, .int .i64 d, .int .i64 h, .slice 0 1 0 L none, .unk], .own [.int .i64 px, .int .i64 py, .int .i64 pz]] =
  bif bif decide (i < (↑ll : Int)) == true then decide (i < 20) else false then
    bif decide (0 ≤ i) && decide (i < (↑ll : Int)) then
      bif decide (0 + i.toNat < l.length) then
        bif mapOk w d h L && (fitsB { x := px, y := py, z := pz } && decide (0 + L ≤ xs.length)) then
          bif decide (0 ≤ i) && decide (i < (↑ll : Int)) then
            bif decide (0 + i.toNat < l.length) then
              bif
                  (mapOk w d h L &&
                              (fitsB
                                  {
                                    x :=
                                      ((mpOf w d h L fun j => xs.getD (0 + j) false).slide { x := px, y := py, z := pz }
                                            { x := (l.getD (0 + i.toNat) Knd.vec.dflt).x, y := (l.getD (0 + i.toNat) Knd.vec.dflt).y, z := (l.getD (0 + i.toNat) Knd.vec.dflt).z }).fst.x,
                                    y :=
                                      ((mpOf w d h L fun j => xs.getD (0 + j) false).slide { x := px, y := py, z := pz }
                                            { x := (l.getD (0 + i.toNat) Knd.vec.dflt).x, y := (l.getD (0 + i.toNat) Knd.vec.dflt).y, z := (l.getD (0 + i.toNat) Knd.vec.dflt).z }).fst.y,
                                    z :=
                                      ((mpOf w d h L fun j => xs.getD (0 + j) false).slide { x := px, y := py, z := pz }
                                            { x := (l.getD (0 + i.toNat) Knd.vec.dflt).x, y := (l.getD (0 + i.toNat) Knd.vec.dflt).y, z := (l.getD (0 + i.toNat) Knd.vec.dflt).z }).fst.z } &&
                                decide (0 + L ≤ xs.length)) &&
                            true &&
                          true ||
                        (bif
                              (bif
                                    (!bif
                                            (bif
                                                  (((mpOf w d h L fun j => xs.getD (0 + j) false).slide { x := px, y := py, z := pz }
                                                            { x := (l.getD (0 + i.toNat) Knd.vec.dflt).x, y := (l.getD (0 + i.toNat) Knd.vec.dflt).y,
                                                              z := (l.getD (0 + i.toNat) Knd.vec.dflt).z }).fst.x ==
                                                      IntKind.i64.wrap (px + max (-32768) (min 32768 (l.getD (0 + i.toNat) Knd.vec.dflt).x))) ==
                                                    true then
                                                !((mpOf w d h L fun j => xs.getD (0 + j) false).slide { x := px, y := py, z := pz }
                                                        { x := (l.getD (0 + i.toNat) Knd.vec.dflt).x, y := (l.getD (0 + i.toNat) Knd.vec.dflt).y, z := (l.getD (0 + i.toNat) Knd.vec.dflt).z }).snd.fst
                                              else false) ==
                                              false then
                                          bif
                                              (bif
                                                    (((mpOf w d h L fun j => xs.getD (0 + j) false).slide { x := px, y := py, z := pz }
                                                              { x := (l.getD (0 + i.toNat) Knd.vec.dflt).x, y := (l.getD (0 + i.toNat) Knd.vec.dflt).y,
                                                                z := (l.getD (0 + i.toNat) Knd.vec.dflt).z }).fst.x ==
                                                        px) ==
                                                      true then
                                                  ((mpOf w d h L fun j => xs.getD (0 + j) false).slide { x := px, y := py, z := pz }
                                                        { x := (l.getD (0 + i.toNat) Knd.vec.dflt).x, y := (l.getD (0 + i.toNat) Knd.vec.dflt).y, z := (l.getD (0 + i.toNat) Knd.vec.dflt).z }).snd.fst
                                                else false) ==
                                                true then
                                            max (-32768) (min 32768 (l.getD (0 + i.toNat) Knd.vec.dflt).x) != 0
                                          else false
                                        else true) ==
                                      false then
                                  !bif
                                        (bif
                                              (((mpOf w d h L fun j => xs.getD (0 + j) false).slide { x := px, y := py, z := pz }
                                                        { x := (l.getD (0 + i.toNat) Knd.vec.dflt).x, y := (l.getD (0 + i.toNat) Knd.vec.dflt).y, z := (l.getD (0 + i.toNat) Knd.vec.dflt).z }).fst.y ==
                                                  IntKind.i64.wrap (py + max (-32768) (min 32768 (l.getD (0 + i.toNat) Knd.vec.dflt).y))) ==
                                                true then
                                            !((mpOf w d h L fun j => xs.getD (0 + j) false).slide { x := px, y := py, z := pz }
                                                      { x := (l.getD (0 + i.toNat) Knd.vec.dflt).x, y := (l.getD (0 + i.toNat) Knd.vec.dflt).y, z := (l.getD (0 + i.toNat) Knd.vec.dflt).z }).snd.snd.fst
                                          else false) ==
                                          false then
                                      bif
                                          (bif
                                                (((mpOf w d h L fun j => xs.getD (0 + j) false).slide { x := px, y := py, z := pz }
                                                          { x := (l.getD (0 + i.toNat) Knd.vec.dflt).x, y := (l.getD (0 + i.toNat) Knd.vec.dflt).y, z := (l.getD (0 + i.toNat) Knd.vec.dflt).z }).fst.y ==
                                                    py) ==
                                                  true then
                                              ((mpOf w d h L fun j => xs.getD (0 + j) false).slide { x := px, y := py, z := pz }
                                                      { x := (l.getD (0 + i.toNat) Knd.vec.dflt).x, y := (l.getD (0 + i.toNat) Knd.vec.dflt).y, z := (l.getD (0 + i.toNat) Knd.vec.dflt).z }).snd.snd.fst
                                            else false) ==
                                            true then
                                        max (-32768) (min 32768 (l.getD (0 + i.toNat) Knd.vec.dflt).y) != 0
                                      else false
                                    else true
                                else true) ==
                                false then
                            !bif
                                  (bif
                                        (((mpOf w d h L fun j => xs.getD (0 + j) false).slide { x := px, y := py, z := pz }
                                                  { x := (l.getD (0 + i.toNat) Knd.vec.dflt).x, y := (l.getD (0 + i.toNat) Knd.vec.dflt).y, z := (l.getD (0 + i.toNat) Knd.vec.dflt).z }).fst.z ==
                                            IntKind.i64.wrap (pz + max (-32768) (min 32768 (l.getD (0 + i.toNat) Knd.vec.dflt).z))) ==
                                          true then
                                      !((mpOf w d h L fun j => xs.getD (0 + j) false).slide { x := px, y := py, z := pz }
                                                { x := (l.getD (0 + i.toNat) Knd.vec.dflt).x, y := (l.getD (0 + i.toNat) Knd.vec.dflt).y, z := (l.getD (0 + i.toNat) Knd.vec.dflt).z }).snd.snd.snd
                                    else false) ==
                                    false then
                                bif
                                    (bif
                                          (((mpOf w d h L fun j => xs.getD (0 + j) false).slide { x := px, y := py, z := pz }
                                                    { x := (l.getD (0 + i.toNat) Knd.vec.dflt).x, y := (l.getD (0 + i.toNat) Knd.vec.dflt).y, z := (l.getD (0 + i.toNat) Knd.vec.dflt).z }).fst.z ==
                                              pz) ==
                                            true then
                                        ((mpOf w d h L fun j => xs.getD (0 + j) false).slide { x := px, y := py, z := pz }
                                                { x := (l.getD (0 + i.toNat) Knd.vec.dflt).x, y := (l.getD (0 + i.toNat) Knd.vec.dflt).y, z := (l.getD (0 + i.toNat) Knd.vec.dflt).z }).snd.snd.snd
                                      else false) ==
                                      true then
                                  max (-32768) (min 32768 (l.getD (0 + i.toNat) Knd.vec.dflt).z) != 0
                                else false
                              else true
                          else true) !=
                          false) &&
                      (true ||
                        (bif
                              (bif
                                    (!bif
                                            (bif
                                                  (((mpOf w d h L fun j => xs.getD (0 + j) false).slide { x := px, y := py, z := pz }
                                                            { x := (l.getD (0 + i.toNat) Knd.vec.dflt).x, y := (l.getD (0 + i.toNat) Knd.vec.dflt).y,
                                                              z := (l.getD (0 + i.toNat) Knd.vec.dflt).z }).fst.x ==
                                                      IntKind.i64.wrap (px + max (-32768) (min 32768 (l.getD (0 + i.toNat) Knd.vec.dflt).x))) ==
                                                    true then
                                                !((mpOf w d h L fun j => xs.getD (0 + j) false).slide { x := px, y := py, z := pz }
                                                        { x := (l.getD (0 + i.toNat) Knd.vec.dflt).x, y := (l.getD (0 + i.toNat) Knd.vec.dflt).y, z := (l.getD (0 + i.toNat) Knd.vec.dflt).z }).snd.fst
                                              else false) ==
                                              false then
                                          bif
                                              (bif
                                                    (((mpOf w d h L fun j => xs.getD (0 + j) false).slide { x := px, y := py, z := pz }
                                                              { x := (l.getD (0 + i.toNat) Knd.vec.dflt).x, y := (l.getD (0 + i.toNat) Knd.vec.dflt).y,
                                                                z := (l.getD (0 + i.toNat) Knd.vec.dflt).z }).fst.x ==
                                                        px) ==
                                                      true then
                                                  ((mpOf w d h L fun j => xs.getD (0 + j) false).slide { x := px, y := py, z := pz }
                                                        { x := (l.getD (0 + i.toNat) Knd.vec.dflt).x, y := (l.getD (0 + i.toNat) Knd.vec.dflt).y, z := (l.getD (0 + i.toNat) Knd.vec.dflt).z }).snd.fst
                                                else false) ==
                                                true then
                                            max (-32768) (min 32768 (l.getD (0 + i.toNat) Knd.vec.dflt).x) != 0
                                          else false
                                        else true) ==
                                      false then
                                  !bif
                                        (bif
                                              (((mpOf w d h L fun j => xs.getD (0 + j) false).slide { x := px, y := py, z := pz }
                                                        { x := (l.getD (0 + i.toNat) Knd.vec.dflt).x, y := (l.getD (0 + i.toNat) Knd.vec.dflt).y, z := (l.getD (0 + i.toNat) Knd.vec.dflt).z }).fst.y ==
                                                  IntKind.i64.wrap (py + max (-32768) (min 32768 (l.getD (0 + i.toNat) Knd.vec.dflt).y))) ==
                                                true then
                                            !((mpOf w d h L fun j => xs.getD (0 + j) false).slide { x := px, y := py, z := pz }
                                                      { x := (l.getD (0 + i.toNat) Knd.vec.dflt).x, y := (l.getD (0 + i.toNat) Knd.vec.dflt).y, z := (l.getD (0 + i.toNat) Knd.vec.dflt).z }).snd.snd.fst
                                          else false) ==
                                          false then
                                      bif
                                          (bif
                                                (((mpOf w d h L fun j => xs.getD (0 + j) false).slide { x := px, y := py, z := pz }
                                                          { x := (l.getD (0 + i.toNat) Knd.vec.dflt).x, y := (l.getD (0 + i.toNat) Knd.vec.dflt).y, z := (l.getD (0 + i.toNat) Knd.vec.dflt).z }).fst.y ==
                                                    py) ==
                                                  true then
                                              ((mpOf w d h L fun j => xs.getD (0 + j) false).slide { x := px, y := py, z := pz }
                                                      { x := (l.getD (0 + i.toNat) Knd.vec.dflt).x, y := (l.getD (0 + i.toNat) Knd.vec.dflt).y, z := (l.getD (0 + i.toNat) Knd.vec.dflt).z }).snd.snd.fst
                                            else false) ==
                                            true then
                                        max (-32768) (min 32768 (l.getD (0 + i.toNat) Knd.vec.dflt).y) != 0
                                      else false
                                    else true
                                else true) ==
                                false then
                            !bif
                                  (bif
                                        (((mpOf w d h L fun j => xs.getD (0 + j) false).slide { x := px, y := py, z := pz }
                                                  { x := (l.getD (0 + i.toNat) Knd.vec.dflt).x, y := (l.getD (0 + i.toNat) Knd.vec.dflt).y, z := (l.getD (0 + i.toNat) Knd.vec.dflt).z }).fst.z ==
                                            IntKind.i64.wrap (pz + max (-32768) (min 32768 (l.getD (0 + i.toNat) Knd.vec.dflt).z))) ==
                                          true then
                                      !((mpOf w d h L fun j => xs.getD (0 + j) false).slide { x := px, y := py, z := pz }
                                                { x := (l.getD (0 + i.toNat) Knd.vec.dflt).x, y := (l.getD (0 + i.toNat) Knd.vec.dflt).y, z := (l.getD (0 + i.toNat) Knd.vec.dflt).z }).snd.snd.snd
                                    else false) ==
                                    false then
                                bif
                                    (bif
                                          (((mpOf w d h L fun j => xs.getD (0 + j) false).slide { x := px, y := py, z := pz }
                                                    { x := (l.getD (0 + i.toNat) Knd.vec.dflt).x, y := (l.getD (0 + i.toNat) Knd.vec.dflt).y, z := (l.getD (0 + i.toNat) Knd.vec.dflt).z }).fst.z ==
                                              pz) ==
                                            true then
                                        ((mpOf w d h L fun j => xs.getD (0 + j) false).slide { x := px, y := py, z := pz }
                                                { x := (l.getD (0 + i.toNat) Knd.vec.dflt).x, y := (l.getD (0 + i.toNat) Knd.vec.dflt).y, z := (l.getD (0 + i.toNat) Knd.vec.dflt).z }).snd.snd.snd
                                      else false) ==
                                      true then
                                  max (-32768) (min 32768 (l.getD (0 + i.toNat) Knd.vec.dflt).z) != 0
                                else false
                              else true
                          else true) ==
                          false) &&
                    true then
                bif
                    bif
                        (bif
                              (bif
                                    (!bif
                                            (bif
                                                  (((mpOf w d h L fun j => xs.getD (0 + j) false).slide { x := px, y := py, z := pz }
                                                            { x := (l.getD (0 + i.toNat) Knd.vec.dflt).x, y := (l.getD (0 + i.toNat) Knd.vec.dflt).y,
                                                              z := (l.getD (0 + i.toNat) Knd.vec.dflt).z }).fst.x ==
                                                      IntKind.i64.wrap (px + max (-32768) (min 32768 (l.getD (0 + i.toNat) Knd.vec.dflt).x))) ==
                                                    true then
                                                !((mpOf w d h L fun j => xs.getD (0 + j) false).slide { x := px, y := py, z := pz }
                                                        { x := (l.getD (0 + i.toNat) Knd.vec.dflt).x, y := (l.getD (0 + i.toNat) Knd.vec.dflt).y, z := (l.getD (0 + i.toNat) Knd.vec.dflt).z }).snd.fst
                                              else false) ==
                                              false then
                                          bif
                                              (bif
                                                    (((mpOf w d h L fun j => xs.getD (0 + j) false).slide { x := px, y := py, z := pz }
                                                              { x := (l.getD (0 + i.toNat) Knd.vec.dflt).x, y := (l.getD (0 + i.toNat) Knd.vec.dflt).y,
                                                                z := (l.getD (0 + i.toNat) Knd.vec.dflt).z }).fst.x ==
                                                        px) ==
                                                      true then
                                                  ((mpOf w d h L fun j => xs.getD (0 + j) false).slide { x := px, y := py, z := pz }
                                                        { x := (l.getD (0 + i.toNat) Knd.vec.dflt).x, y := (l.getD (0 + i.toNat) Knd.vec.dflt).y, z := (l.getD (0 + i.toNat) Knd.vec.dflt).z }).snd.fst
                                                else false) ==
                                                true then
                                            max (-32768) (min 32768 (l.getD (0 + i.toNat) Knd.vec.dflt).x) != 0
                                          else false
                                        else true) ==
                                      false then
                                  !bif
                                        (bif
                                              (((mpOf w d h L fun j => xs.getD (0 + j) false).slide { x := px, y := py, z := pz }
                                                        { x := (l.getD (0 + i.toNat) Knd.vec.dflt).x, y := (l.getD (0 + i.toNat) Knd.vec.dflt).y, z := (l.getD (0 + i.toNat) Knd.vec.dflt).z }).fst.y ==
                                                  IntKind.i64.wrap (py + max (-32768) (min 32768 (l.getD (0 + i.toNat) Knd.vec.dflt).y))) ==
                                                true then
                                            !((mpOf w d h L fun j => xs.getD (0 + j) false).slide { x := px, y := py, z := pz }
                                                      { x := (l.getD (0 + i.toNat) Knd.vec.dflt).x, y := (l.getD (0 + i.toNat) Knd.vec.dflt).y, z := (l.getD (0 + i.toNat) Knd.vec.dflt).z }).snd.snd.fst
                                          else false) ==
                                          false then
                                      bif
                                          (bif
                                                (((mpOf w d h L fun j => xs.getD (0 + j) false).slide { x := px, y := py, z := pz }
                                                          { x := (l.getD (0 + i.toNat) Knd.vec.dflt).x, y := (l.getD (0 + i.toNat) Knd.vec.dflt).y, z := (l.getD (0 + i.toNat) Knd.vec.dflt).z }).fst.y ==
                                                    py) ==
                                                  true then
                                              ((mpOf w d h L fun j => xs.getD (0 + j) false).slide { x := px, y := py, z := pz }
                                                      { x := (l.getD (0 + i.toNat) Knd.vec.dflt).x, y := (l.getD (0 + i.toNat) Knd.vec.dflt).y, z := (l.getD (0 + i.toNat) Knd.vec.dflt).z }).snd.snd.fst
                                            else false) ==
                                            true then
                                        max (-32768) (min 32768 (l.getD (0 + i.toNat) Knd.vec.dflt).y) != 0
                                      else false
                                    else true
                                else true) ==
                                false then
                            !bif
                                  (bif
                                        (((mpOf w d h L fun j => xs.getD (0 + j) false).slide { x := px, y := py, z := pz }
                                                  { x := (l.getD (0 + i.toNat) Knd.vec.dflt).x, y := (l.getD (0 + i.toNat) Knd.vec.dflt).y, z := (l.getD (0 + i.toNat) Knd.vec.dflt).z }).fst.z ==
                                            IntKind.i64.wrap (pz + max (-32768) (min 32768 (l.getD (0 + i.toNat) Knd.vec.dflt).z))) ==
                                          true then
                                      !((mpOf w d h L fun j => xs.getD (0 + j) false).slide { x := px, y := py, z := pz }
                                                { x := (l.getD (0 + i.toNat) Knd.vec.dflt).x, y := (l.getD (0 + i.toNat) Knd.vec.dflt).y, z := (l.getD (0 + i.toNat) Knd.vec.dflt).z }).snd.snd.snd
                                    else false) ==
                                    false then
                                bif
                                    (bif
                                          (((mpOf w d h L fun j => xs.getD (0 + j) false).slide { x := px, y := py, z := pz }
                                                    { x := (l.getD (0 + i.toNat) Knd.vec.dflt).x, y := (l.getD (0 + i.toNat) Knd.vec.dflt).y, z := (l.getD (0 + i.toNat) Knd.vec.dflt).z }).fst.z ==
                                              pz) ==
                                            true then
                                        ((mpOf w d h L fun j => xs.getD (0 + j) false).slide { x := px, y := py, z := pz }
                                                { x := (l.getD (0 + i.toNat) Knd.vec.dflt).x, y := (l.getD (0 + i.toNat) Knd.vec.dflt).y, z := (l.getD (0 + i.toNat) Knd.vec.dflt).z }).snd.snd.snd
                                      else false) ==
                                      true then
                                  max (-32768) (min 32768 (l.getD (0 + i.toNat) Knd.vec.dflt).z) != 0
                                else false
                              else true
                          else true) ==
                          false then
                      !(mpOf w d h L fun j => xs.getD (0 + j) false).free
                          {
                            x :=
                              ((mpOf w d h L fun j => xs.getD (0 + j) false).slide { x := px, y := py, z := pz }
                                    { x := (l.getD (0 + i.toNat) Knd.vec.dflt).x, y := (l.getD (0 + i.toNat) Knd.vec.dflt).y, z := (l.getD (0 + i.toNat) Knd.vec.dflt).z }).fst.x,
                            y :=
                              ((mpOf w d h L fun j => xs.getD (0 + j) false).slide { x := px, y := py, z := pz }
                                    { x := (l.getD (0 + i.toNat) Knd.vec.dflt).x, y := (l.getD (0 + i.toNat) Knd.vec.dflt).y, z := (l.getD (0 + i.toNat) Knd.vec.dflt).z }).fst.y,
                            z :=
                              ((mpOf w d h L fun j => xs.getD (0 + j) false).slide { x := px, y := py, z := pz }
                                    { x := (l.getD (0 + i.toNat) Knd.vec.dflt).x, y := (l.getD (0 + i.toNat) Knd.vec.dflt).y, z := (l.getD (0 + i.toNat) Knd.vec.dflt).z }).fst.z }
                    else true then
                  some
                    (SV.tuple [SV.nils, SV.tuple [SV.bool false, SV.bool true, SV.slice 1 3 0 ll none, SV.ptr 2 0 0 0, SV.ptr 3 0 0 0, SV.int IntKind.i64 i]],
                      [Row.vec true Knd.bool xs, Row.vec true Knd.vec l, Row.own [SV.int IntKind.i64 w, SV.int IntKind.i64 d, SV.int IntKind.i64 h, SV.slice 0 1 0 L none, SV.unk],
                        Row.own [SV.int IntKind.i64 px, SV.int IntKind.i64 py, SV.int IntKind.i64 pz]])
                else
                  some
                    (SV.tuple [SV.nilp, SV.tuple [SV.bool false, SV.bool true, SV.slice 1 3 0 ll none, SV.ptr 2 0 0 0, SV.ptr 3 0 0 0, SV.int IntKind.i64 (IntKind.i64.wrap (i + 1))]],
                      [Row.vec true Knd.bool xs, Row.vec true Knd.vec l, Row.own [SV.int IntKind.i64 w, SV.int IntKind.i64 d, SV.int IntKind.i64 h, SV.slice 0 1 0 L none, SV.unk],
                        Row.own
                          [SV.int IntKind.i64
                              ((mpOf w d h L fun j => xs.getD (0 + j) false).slide { x := px, y := py, z := pz }
                                    { x := (l.getD (0 + i.toNat) Knd.vec.dflt).x, y := (l.getD (0 + i.toNat) Knd.vec.dflt).y, z := (l.getD (0 + i.toNat) Knd.vec.dflt).z }).fst.x,
                            SV.int IntKind.i64
                              ((mpOf w d h L fun j => xs.getD (0 + j) false).slide { x := px, y := py, z := pz }
                                    { x := (l.getD (0 + i.toNat) Knd.vec.dflt).x, y := (l.getD (0 + i.toNat) Knd.vec.dflt).y, z := (l.getD (0 + i.toNat) Knd.vec.dflt).z }).fst.y,
                            SV.int IntKind.i64
                              ((mpOf w d h L fun j => xs.getD (0 + j) false).slide { x := px, y := py, z := pz }
                                    { x := (l.getD (0 + i.toNat) Knd.vec.dflt).x, y := (l.getD (0 + i.toNat) Knd.vec.dflt).y, z := (l.getD (0 + i.toNat) Knd.vec.dflt).z }).fst.z]])
              else none
            else none
          else none
        else none
      else none
    else none
  else
    some
      (SV.tuple [SV.ptr 0 0 0 0, SV.tuple [SV.bool false, SV.bool true, SV.slice 1 3 0 ll none, SV.ptr 2 0 0 0, SV.ptr 3 0 0 0, SV.int IntKind.i64 i]],
        [Row.vec true Knd.bool xs, Row.vec true Knd.vec l, Row.own [SV.int IntKind.i64 w, SV.int IntKind.i64 d, SV.int IntKind.i64 h, SV.slice 0 1 0 L none, SV.unk],
          Row.own [SV.int IntKind.i64 px, SV.int IntKind.i64 py, SV.int IntKind.i64 pz]]) := by kernel_rfl

def valSt (ll : Nat) (i : Int) : List SV := [.bool false, .bool true, .slice 1 3 0 ll none, .ptr 2 0 0 0, .ptr 3 0 0 0, .int .i64 i]
def rowSt (w d h : Int) (L : Nat) (xs : List Bool) (l : List V3) (p : V3) : List Row := [.vec true .bool xs, .vec true .vec l, .own [.int .i64 w, .int .i64 d, .int .i64 h, .slice 0 1 0 L none, .unk], .own [.int .i64 p.x, .int .i64 p.y, .int .i64 p.z]]
noncomputable def rdSt : List SV → List Row → Option Res2 := roundS x10b (fun _ _ => none) 100 4 [0, 1, 0, 1, 1, 1, 1] (bodyAt Try.f4 [0, 1, 0, 1, 1, 1, 1]) 161 4 [6, 7, 2, 3, 4, 8]

theorem stays_done {w d h : Int} {L : Nat} {xs : List Bool} {l : List V3} {ll : Nat} {i : Int} {p : V3} (hi : ¬ (i < ll ∧ i < 20)) : rdSt (valSt ll i) (rowSt w d h L xs l p) = some (.tuple [exS (.exit 0), .tuple (valSt ll i)], rowSt w d h L xs l p) := by
  unfold rdSt valSt rowSt
  rw [stays_round]
  have c : (bif decide (i < (ll : Int)) == true then decide (i < 20) else false) = false := by
    cases h1 : decide (i < (ll : Int))
    · rfl
    · have : ¬ i < 20 := fun h2 => hi ⟨by simpa using h1, h2⟩
      simp [this]
  rw [c]
  rfl

theorem stays_more {w d h : Int} {L : Nat} {xs : List Bool} {l : List V3} {ll : Nat} {i : Int} {p : V3} (hi : i < ll ∧ i < 20) (h0 : 0 ≤ i) (hll : ll ≤ l.length) (hm : mapOk w d h L = true) (hL : L ≤ xs.length) (hp : p.fits)
    (hf : (mpOf w d h L fun j => xs.getD (0 + j) false).free p = true) : rdSt (valSt ll i) (rowSt w d h L xs l p) = some (.tuple [.nilp, .tuple (valSt ll (i + 1))], rowSt w d h L xs l ((mpOf w d h L fun j => xs.getD (0 + j) false).slide p (l.getD (0 + i.toNat) Knd.vec.dflt)).1) := by
  unfold rdSt valSt rowSt
  rw [stays_round]
  have ep : (⟨p.x, p.y, p.z⟩ : V3) = p := rfl
  have eb : (⟨(l.getD (0 + i.toNat) Knd.vec.dflt).x, (l.getD (0 + i.toNat) Knd.vec.dflt).y, (l.getD (0 + i.toNat) Knd.vec.dflt).z⟩ : V3) = l.getD (0 + i.toNat) Knd.vec.dflt := rfl
  have hs := slide_stays (l.getD (0 + i.toNat) Knd.vec.dflt) hf hp
  have c1 : decide (i < (ll : Int)) = true := by simp [hi.1]
  have c2 : decide (i < 20) = true := by simp [hi.2]
  have c3 : decide (0 ≤ i) = true := by simp [h0]
  have c4 : decide (0 + i.toNat < l.length) = true := by rw [decide_eq_true_eq]; omega
  have c5 : decide (0 + L ≤ xs.length) = true := by rw [decide_eq_true_eq]; omega
  have c6 : IntKind.i64.wrap (i + 1) = i + 1 := IntWalk.i64_in _ (by omega)
  have bd := free_bound hp hf
  have kx := clampN_in (l.getD (0 + i.toNat) Knd.vec.dflt).x
  have ky := clampN_in (l.getD (0 + i.toNat) Knd.vec.dflt).y
  have kz := clampN_in (l.getD (0 + i.toNat) Knd.vec.dflt).z
  simp only [ep, eb, clampN_eq, c1, c2, c3, c4, c5, c6, hm, fitsB_iff.2 hp, Bool.and_true, cond_true]
  generalize (mpOf w d h L fun j => xs.getD (0 + j) false) = M at hs hf ⊢
  generalize M.slide p (l.getD (0 + i.toNat) Knd.vec.dflt) = r at hs ⊢
  generalize clampN 32768 (l.getD (0 + i.toNat) Knd.vec.dflt).x = cx at hs kx ⊢
  generalize clampN 32768 (l.getD (0 + i.toNat) Knd.vec.dflt).y = cy at hs ky ⊢
  generalize clampN 32768 (l.getD (0 + i.toNat) Knd.vec.dflt).z = cz at hs kz ⊢
  obtain ⟨q, b0, b1, b2⟩ := r
  obtain ⟨hq, hfq, hx, hy, hz⟩ := hs
  have eq : (⟨q.x, q.y, q.z⟩ : V3) = q := rfl
  have w1 : IntKind.i64.wrap (p.x + cx) = p.x + cx := IntWalk.i64_in _ (by omega)
  have w2 : IntKind.i64.wrap (p.y + cy) = p.y + cy := IntWalk.i64_in _ (by omega)
  have w3 : IntKind.i64.wrap (p.z + cz) = p.z + cz := IntWalk.i64_in _ (by omega)
  simp only [eq, fitsB_iff.2 hq, hfq, w1, w2, w3, Bool.and_true, Bool.true_or, Bool.true_and, cond_true, Bool.not_true]
  have key : ∀ (x x' c : Int) (b : Bool), axisOk x x' c b → (bif (bif (x' == x + c) == true then !b else false) == false then (bif (bif (x' == x) == true then b else false) == true then c != 0 else false) else true) = true := by
    rintro x x' c b (⟨rfl, rfl⟩ | ⟨rfl, rfl, hc⟩)
    · simp
    · have : (c != 0) = true := by simpa using hc
      rw [this]
      cases (x' == x' + c) <;> simp
  rw [key _ _ _ _ hx, key _ _ _ _ hy, key _ _ _ _ hz]
  rfl

noncomputable def iterS (m : Mp) (l : List V3) (ll : Nat) : Nat → Int → V3 → Int × V3
  | 0, i, p => (i, p)
  | n + 1, i, p => if i < ll ∧ i < 20 then iterS m l ll n (i + 1) (m.slide p (l.getD (0 + i.toNat) Knd.vec.dflt)).1 else (i, p)

theorem stays_loop {w d h : Int} {L : Nat} {xs : List Bool} {l : List V3} {ll : Nat} (hll : ll ≤ l.length) (hm : mapOk w d h L = true) (hL : L ≤ xs.length) : ∀ (n : Nat) (i : Int) (p : V3), 20 - i < n → 0 ≤ i → p.fits → (mpOf w d h L fun j => xs.getD (0 + j) false).free p = true →
    LoopTo rdSt (valSt ll i) (rowSt w d h L xs l p) (.exit 0) (valSt ll (iterS (mpOf w d h L fun j => xs.getD (0 + j) false) l ll n i p).1) (rowSt w d h L xs l (iterS (mpOf w d h L fun j => xs.getD (0 + j) false) l ll n i p).2)
  | 0, i, p, hn, h0, hp, hf => by
    have : ¬ (i < ll ∧ i < 20) := by omega
    exact .done (stays_done this) (by simp)
  | n + 1, i, p, hn, h0, hp, hf => by
    unfold iterS
    by_cases hi : i < ll ∧ i < 20
    · rw [if_pos hi]
      have hs := slide_stays (l.getD (0 + i.toNat) Knd.vec.dflt) hf hp
      exact .more (stays_more hi h0 hll hm hL hp hf) (stays_loop hll hm hL n (i + 1) _ (by omega) (by omega) hs.1 hs.2.1)
    · rw [if_neg hi]
      exact .done (stays_done hi) (by simp)

noncomputable def outSt (v : List SV) (R : List Row) (k : Ex → List SV → List Row → Option Res2) : Option Res2 := match v, R with
  | [.bool false, .bool true, .slice 1 3 0 ll none, .ptr 2 0 0 0, .ptr 3 0 0 0, .int .i64 i], [.vec true .bool xs, .vec true .vec l, .own [.int .i64 w, .int .i64 d, .int .i64 h, .slice 0 1 0 L none, .unk], .own [.int .i64 px, .int .i64 py, .int .i64 pz]] =>
    bif mapOk w d h L && (fitsB ⟨px, py, pz⟩ && (decide (L ≤ xs.length) && (decide (ll ≤ l.length) && (decide (0 ≤ i) && (mpOf w d h L fun j => xs.getD (0 + j) false).free ⟨px, py, pz⟩)))) then
      k (.exit 0) (valSt ll (iterS (mpOf w d h L fun j => xs.getD (0 + j) false) l ll 30 i ⟨px, py, pz⟩).1) (rowSt w d h L xs l (iterS (mpOf w d h L fun j => xs.getD (0 + j) false) l ll 30 i ⟨px, py, pz⟩).2) else none
  | _, _ => none

noncomputable def lSt : Nat → List Nat → Option LoopF := fun f p => bif Nat.beq f 4 && decide (p = [0, 1, 0, 1, 1, 1, 1]) then some (loopF 161 [6, 7, 2, 3, 4, 8] outSt) else none

theorem lSt_ok : LOk Try.prog lSt := by
  intro f p F hF b hat s K r h
  unfold lSt at hF
  cases hb : Nat.beq f 4 && decide (p = [0, 1, 0, 1, 1, 1, 1]) with
  | false => simp [hb] at hF
  | true =>
    simp only [hb, cond_true, Option.some.injEq] at hF
    rw [Bool.and_eq_true, decide_eq_true_eq] at hb
    obtain ⟨h1, rfl⟩ := hb
    obtain rfl := Nat.eq_of_beq_eq_true h1
    subst hF
    refine loopF_ok (fuel := 100) x10b_ok lok_none hat (fun v R k r hr => ?_) h
    have hbody := at_body Try.func4 hat
    subst hbody
    unfold outSt at hr
    split at hr
    · rename_i ll i xs l w d h L px py pz
      obtain ⟨hc, hr⟩ := cond_some hr
      simp only [Bool.and_eq_true, decide_eq_true_eq] at hc
      obtain ⟨c1, c2, c3, c4, c5, c6⟩ := hc
      exact ⟨_, _, _, hr, stays_loop c4 c1 c3 30 i ⟨px, py, pz⟩ (by omega) c5 (fitsB_iff.1 c2) c6⟩
    · cases hr

end Go.Proofs.Ytnfhlfmcgeaagaa
