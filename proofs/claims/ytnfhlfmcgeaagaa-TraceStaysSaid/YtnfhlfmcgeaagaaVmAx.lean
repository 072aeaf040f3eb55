/- TraceAxes: the law's call returns true. -/
import Derived.Test.YtnfhlfmcgeaagaaVmL10
import Derived.Test.YtnfhlfmcgeaagaaVmM
namespace Go.Proofs.Ytnfhlfmcgeaagaa
set_option linter.unusedSimpArgs false
set_option linter.unusedVariables false
open Go.RowKit

set_option maxRecDepth 100000 in
set_option maxHeartbeats 0 in
theorem axes_tree (w d h : Int) (len off : Nat) (cap : Option Nat) (xs : List Bool) (px py pz bx b_y bz : Int) : runK x10b (fun _ _ => none) 200 5 Try.f5 0 [mapS w d h (.slice 0 1 off len cap) .unk, .agg [.int .i64 px, .int .i64 py, .int .i64 pz], .agg [.int .i64 bx, .int .i64 b_y, .int .i64 bz]] [.vec true .bool xs] =
  bif decide (0 ≤ min (↑len : Int) 32768) && decide (min (↑len : Int) 32768 ≤ (↑(capOr cap len) : Int)) then
    bif mapOk w d h (min (↑len : Int) 32768).toNat && (fitsB { x := px, y := py, z := pz } && decide (off + (min (↑len : Int) 32768).toNat ≤ xs.length)) then
      bif mapOk w d h (min (↑len : Int) 32768).toNat && (fitsB { x := px, y := py, z := pz } && decide (off + (min (↑len : Int) 32768).toNat ≤ xs.length)) then
        bif
            mapOk w d h (min (↑len : Int) 32768).toNat &&
              (fitsB
                  { x := ((mpOf w d h (min (↑len : Int) 32768).toNat fun j => xs.getD (off + j) false).slide { x := px, y := py, z := pz } { x := bx, y := 0, z := 0 }).fst.x,
                    y := ((mpOf w d h (min (↑len : Int) 32768).toNat fun j => xs.getD (off + j) false).slide { x := px, y := py, z := pz } { x := bx, y := 0, z := 0 }).fst.y,
                    z := ((mpOf w d h (min (↑len : Int) 32768).toNat fun j => xs.getD (off + j) false).slide { x := px, y := py, z := pz } { x := bx, y := 0, z := 0 }).fst.z } &&
                decide (off + (min (↑len : Int) 32768).toNat ≤ xs.length)) then
          bif
              mapOk w d h (min (↑len : Int) 32768).toNat &&
                (fitsB
                    {
                      x :=
                        ((mpOf w d h (min (↑len : Int) 32768).toNat fun j => xs.getD (off + j) false).slide
                              { x := ((mpOf w d h (min (↑len : Int) 32768).toNat fun j => xs.getD (off + j) false).slide { x := px, y := py, z := pz } { x := bx, y := 0, z := 0 }).fst.x,
                                y := ((mpOf w d h (min (↑len : Int) 32768).toNat fun j => xs.getD (off + j) false).slide { x := px, y := py, z := pz } { x := bx, y := 0, z := 0 }).fst.y,
                                z := ((mpOf w d h (min (↑len : Int) 32768).toNat fun j => xs.getD (off + j) false).slide { x := px, y := py, z := pz } { x := bx, y := 0, z := 0 }).fst.z }
                              { x := 0, y := b_y, z := 0 }).fst.x,
                      y :=
                        ((mpOf w d h (min (↑len : Int) 32768).toNat fun j => xs.getD (off + j) false).slide
                              { x := ((mpOf w d h (min (↑len : Int) 32768).toNat fun j => xs.getD (off + j) false).slide { x := px, y := py, z := pz } { x := bx, y := 0, z := 0 }).fst.x,
                                y := ((mpOf w d h (min (↑len : Int) 32768).toNat fun j => xs.getD (off + j) false).slide { x := px, y := py, z := pz } { x := bx, y := 0, z := 0 }).fst.y,
                                z := ((mpOf w d h (min (↑len : Int) 32768).toNat fun j => xs.getD (off + j) false).slide { x := px, y := py, z := pz } { x := bx, y := 0, z := 0 }).fst.z }
                              { x := 0, y := b_y, z := 0 }).fst.y,
                      z :=
                        ((mpOf w d h (min (↑len : Int) 32768).toNat fun j => xs.getD (off + j) false).slide
                              { x := ((mpOf w d h (min (↑len : Int) 32768).toNat fun j => xs.getD (off + j) false).slide { x := px, y := py, z := pz } { x := bx, y := 0, z := 0 }).fst.x,
                                y := ((mpOf w d h (min (↑len : Int) 32768).toNat fun j => xs.getD (off + j) false).slide { x := px, y := py, z := pz } { x := bx, y := 0, z := 0 }).fst.y,
                                z := ((mpOf w d h (min (↑len : Int) 32768).toNat fun j => xs.getD (off + j) false).slide { x := px, y := py, z := pz } { x := bx, y := 0, z := 0 }).fst.z }
                              { x := 0, y := b_y, z := 0 }).fst.z } &&
                  decide (off + (min (↑len : Int) 32768).toNat ≤ xs.length)) then
            bif mapOk w d h (min (↑len : Int) 32768).toNat && (fitsB { x := px, y := py, z := pz } && decide (off + (min (↑len : Int) 32768).toNat ≤ xs.length)) then
              some
                (SV.bool
                    (bif
                        (bif
                              (bif
                                    (bif true == true then
                                        ((mpOf w d h (min (↑len : Int) 32768).toNat fun j => xs.getD (off + j) false).slide
                                                  {
                                                    x :=
                                                      ((mpOf w d h (min (↑len : Int) 32768).toNat fun j => xs.getD (off + j) false).slide
                                                            {
                                                              x :=
                                                                ((mpOf w d h (min (↑len : Int) 32768).toNat fun j => xs.getD (off + j) false).slide { x := px, y := py, z := pz }
                                                                      { x := bx, y := 0, z := 0 }).fst.x,
                                                              y :=
                                                                ((mpOf w d h (min (↑len : Int) 32768).toNat fun j => xs.getD (off + j) false).slide { x := px, y := py, z := pz }
                                                                      { x := bx, y := 0, z := 0 }).fst.y,
                                                              z :=
                                                                ((mpOf w d h (min (↑len : Int) 32768).toNat fun j => xs.getD (off + j) false).slide { x := px, y := py, z := pz }
                                                                      { x := bx, y := 0, z := 0 }).fst.z }
                                                            { x := 0, y := b_y, z := 0 }).fst.x,
                                                    y :=
                                                      ((mpOf w d h (min (↑len : Int) 32768).toNat fun j => xs.getD (off + j) false).slide
                                                            {
                                                              x :=
                                                                ((mpOf w d h (min (↑len : Int) 32768).toNat fun j => xs.getD (off + j) false).slide { x := px, y := py, z := pz }
                                                                      { x := bx, y := 0, z := 0 }).fst.x,
                                                              y :=
                                                                ((mpOf w d h (min (↑len : Int) 32768).toNat fun j => xs.getD (off + j) false).slide { x := px, y := py, z := pz }
                                                                      { x := bx, y := 0, z := 0 }).fst.y,
                                                              z :=
                                                                ((mpOf w d h (min (↑len : Int) 32768).toNat fun j => xs.getD (off + j) false).slide { x := px, y := py, z := pz }
                                                                      { x := bx, y := 0, z := 0 }).fst.z }
                                                            { x := 0, y := b_y, z := 0 }).fst.y,
                                                    z :=
                                                      ((mpOf w d h (min (↑len : Int) 32768).toNat fun j => xs.getD (off + j) false).slide
                                                            {
                                                              x :=
                                                                ((mpOf w d h (min (↑len : Int) 32768).toNat fun j => xs.getD (off + j) false).slide { x := px, y := py, z := pz }
                                                                      { x := bx, y := 0, z := 0 }).fst.x,
                                                              y :=
                                                                ((mpOf w d h (min (↑len : Int) 32768).toNat fun j => xs.getD (off + j) false).slide { x := px, y := py, z := pz }
                                                                      { x := bx, y := 0, z := 0 }).fst.y,
                                                              z :=
                                                                ((mpOf w d h (min (↑len : Int) 32768).toNat fun j => xs.getD (off + j) false).slide { x := px, y := py, z := pz }
                                                                      { x := bx, y := 0, z := 0 }).fst.z }
                                                            { x := 0, y := b_y, z := 0 }).fst.z }
                                                  { x := 0, y := 0, z := bz }).fst.x ==
                                            ((mpOf w d h (min (↑len : Int) 32768).toNat fun j => xs.getD (off + j) false).slide { x := px, y := py, z := pz } { x := bx, y := b_y, z := bz }).fst.x &&
                                          (((mpOf w d h (min (↑len : Int) 32768).toNat fun j => xs.getD (off + j) false).slide
                                                    {
                                                      x :=
                                                        ((mpOf w d h (min (↑len : Int) 32768).toNat fun j => xs.getD (off + j) false).slide
                                                              {
                                                                x :=
                                                                  ((mpOf w d h (min (↑len : Int) 32768).toNat fun j => xs.getD (off + j) false).slide { x := px, y := py, z := pz }
                                                                        { x := bx, y := 0, z := 0 }).fst.x,
                                                                y :=
                                                                  ((mpOf w d h (min (↑len : Int) 32768).toNat fun j => xs.getD (off + j) false).slide { x := px, y := py, z := pz }
                                                                        { x := bx, y := 0, z := 0 }).fst.y,
                                                                z :=
                                                                  ((mpOf w d h (min (↑len : Int) 32768).toNat fun j => xs.getD (off + j) false).slide { x := px, y := py, z := pz }
                                                                        { x := bx, y := 0, z := 0 }).fst.z }
                                                              { x := 0, y := b_y, z := 0 }).fst.x,
                                                      y :=
                                                        ((mpOf w d h (min (↑len : Int) 32768).toNat fun j => xs.getD (off + j) false).slide
                                                              {
                                                                x :=
                                                                  ((mpOf w d h (min (↑len : Int) 32768).toNat fun j => xs.getD (off + j) false).slide { x := px, y := py, z := pz }
                                                                        { x := bx, y := 0, z := 0 }).fst.x,
                                                                y :=
                                                                  ((mpOf w d h (min (↑len : Int) 32768).toNat fun j => xs.getD (off + j) false).slide { x := px, y := py, z := pz }
                                                                        { x := bx, y := 0, z := 0 }).fst.y,
                                                                z :=
                                                                  ((mpOf w d h (min (↑len : Int) 32768).toNat fun j => xs.getD (off + j) false).slide { x := px, y := py, z := pz }
                                                                        { x := bx, y := 0, z := 0 }).fst.z }
                                                              { x := 0, y := b_y, z := 0 }).fst.y,
                                                      z :=
                                                        ((mpOf w d h (min (↑len : Int) 32768).toNat fun j => xs.getD (off + j) false).slide
                                                              {
                                                                x :=
                                                                  ((mpOf w d h (min (↑len : Int) 32768).toNat fun j => xs.getD (off + j) false).slide { x := px, y := py, z := pz }
                                                                        { x := bx, y := 0, z := 0 }).fst.x,
                                                                y :=
                                                                  ((mpOf w d h (min (↑len : Int) 32768).toNat fun j => xs.getD (off + j) false).slide { x := px, y := py, z := pz }
                                                                        { x := bx, y := 0, z := 0 }).fst.y,
                                                                z :=
                                                                  ((mpOf w d h (min (↑len : Int) 32768).toNat fun j => xs.getD (off + j) false).slide { x := px, y := py, z := pz }
                                                                        { x := bx, y := 0, z := 0 }).fst.z }
                                                              { x := 0, y := b_y, z := 0 }).fst.z }
                                                    { x := 0, y := 0, z := bz }).fst.y ==
                                              ((mpOf w d h (min (↑len : Int) 32768).toNat fun j => xs.getD (off + j) false).slide { x := px, y := py, z := pz } { x := bx, y := b_y, z := bz }).fst.y &&
                                            (((mpOf w d h (min (↑len : Int) 32768).toNat fun j => xs.getD (off + j) false).slide
                                                      {
                                                        x :=
                                                          ((mpOf w d h (min (↑len : Int) 32768).toNat fun j => xs.getD (off + j) false).slide
                                                                {
                                                                  x :=
                                                                    ((mpOf w d h (min (↑len : Int) 32768).toNat fun j => xs.getD (off + j) false).slide { x := px, y := py, z := pz }
                                                                          { x := bx, y := 0, z := 0 }).fst.x,
                                                                  y :=
                                                                    ((mpOf w d h (min (↑len : Int) 32768).toNat fun j => xs.getD (off + j) false).slide { x := px, y := py, z := pz }
                                                                          { x := bx, y := 0, z := 0 }).fst.y,
                                                                  z :=
                                                                    ((mpOf w d h (min (↑len : Int) 32768).toNat fun j => xs.getD (off + j) false).slide { x := px, y := py, z := pz }
                                                                          { x := bx, y := 0, z := 0 }).fst.z }
                                                                { x := 0, y := b_y, z := 0 }).fst.x,
                                                        y :=
                                                          ((mpOf w d h (min (↑len : Int) 32768).toNat fun j => xs.getD (off + j) false).slide
                                                                {
                                                                  x :=
                                                                    ((mpOf w d h (min (↑len : Int) 32768).toNat fun j => xs.getD (off + j) false).slide { x := px, y := py, z := pz }
                                                                          { x := bx, y := 0, z := 0 }).fst.x,
                                                                  y :=
                                                                    ((mpOf w d h (min (↑len : Int) 32768).toNat fun j => xs.getD (off + j) false).slide { x := px, y := py, z := pz }
                                                                          { x := bx, y := 0, z := 0 }).fst.y,
                                                                  z :=
                                                                    ((mpOf w d h (min (↑len : Int) 32768).toNat fun j => xs.getD (off + j) false).slide { x := px, y := py, z := pz }
                                                                          { x := bx, y := 0, z := 0 }).fst.z }
                                                                { x := 0, y := b_y, z := 0 }).fst.y,
                                                        z :=
                                                          ((mpOf w d h (min (↑len : Int) 32768).toNat fun j => xs.getD (off + j) false).slide
                                                                {
                                                                  x :=
                                                                    ((mpOf w d h (min (↑len : Int) 32768).toNat fun j => xs.getD (off + j) false).slide { x := px, y := py, z := pz }
                                                                          { x := bx, y := 0, z := 0 }).fst.x,
                                                                  y :=
                                                                    ((mpOf w d h (min (↑len : Int) 32768).toNat fun j => xs.getD (off + j) false).slide { x := px, y := py, z := pz }
                                                                          { x := bx, y := 0, z := 0 }).fst.y,
                                                                  z :=
                                                                    ((mpOf w d h (min (↑len : Int) 32768).toNat fun j => xs.getD (off + j) false).slide { x := px, y := py, z := pz }
                                                                          { x := bx, y := 0, z := 0 }).fst.z }
                                                                { x := 0, y := b_y, z := 0 }).fst.z }
                                                      { x := 0, y := 0, z := bz }).fst.z ==
                                                ((mpOf w d h (min (↑len : Int) 32768).toNat fun j => xs.getD (off + j) false).slide { x := px, y := py, z := pz } { x := bx, y := b_y, z := bz }).fst.z &&
                                              true))
                                      else false) ==
                                      true then
                                  ((mpOf w d h (min (↑len : Int) 32768).toNat fun j => xs.getD (off + j) false).slide { x := px, y := py, z := pz } { x := bx, y := b_y, z := bz }).snd.fst ==
                                      ((mpOf w d h (min (↑len : Int) 32768).toNat fun j => xs.getD (off + j) false).slide { x := px, y := py, z := pz } { x := bx, y := 0, z := 0 }).snd.fst &&
                                    (((mpOf w d h (min (↑len : Int) 32768).toNat fun j => xs.getD (off + j) false).slide { x := px, y := py, z := pz } { x := bx, y := b_y, z := bz }).snd.snd.fst ==
                                        ((mpOf w d h (min (↑len : Int) 32768).toNat fun j => xs.getD (off + j) false).slide
                                                {
                                                  x :=
                                                    ((mpOf w d h (min (↑len : Int) 32768).toNat fun j => xs.getD (off + j) false).slide { x := px, y := py, z := pz } { x := bx, y := 0, z := 0 }).fst.x,
                                                  y :=
                                                    ((mpOf w d h (min (↑len : Int) 32768).toNat fun j => xs.getD (off + j) false).slide { x := px, y := py, z := pz } { x := bx, y := 0, z := 0 }).fst.y,
                                                  z :=
                                                    ((mpOf w d h (min (↑len : Int) 32768).toNat fun j => xs.getD (off + j) false).slide { x := px, y := py, z := pz } { x := bx, y := 0, z := 0 }).fst.z }
                                                { x := 0, y := b_y, z := 0 }).snd.snd.fst &&
                                      (((mpOf w d h (min (↑len : Int) 32768).toNat fun j => xs.getD (off + j) false).slide { x := px, y := py, z := pz } { x := bx, y := b_y, z := bz }).snd.snd.snd ==
                                          ((mpOf w d h (min (↑len : Int) 32768).toNat fun j => xs.getD (off + j) false).slide
                                                  {
                                                    x :=
                                                      ((mpOf w d h (min (↑len : Int) 32768).toNat fun j => xs.getD (off + j) false).slide
                                                            {
                                                              x :=
                                                                ((mpOf w d h (min (↑len : Int) 32768).toNat fun j => xs.getD (off + j) false).slide { x := px, y := py, z := pz }
                                                                      { x := bx, y := 0, z := 0 }).fst.x,
                                                              y :=
                                                                ((mpOf w d h (min (↑len : Int) 32768).toNat fun j => xs.getD (off + j) false).slide { x := px, y := py, z := pz }
                                                                      { x := bx, y := 0, z := 0 }).fst.y,
                                                              z :=
                                                                ((mpOf w d h (min (↑len : Int) 32768).toNat fun j => xs.getD (off + j) false).slide { x := px, y := py, z := pz }
                                                                      { x := bx, y := 0, z := 0 }).fst.z }
                                                            { x := 0, y := b_y, z := 0 }).fst.x,
                                                    y :=
                                                      ((mpOf w d h (min (↑len : Int) 32768).toNat fun j => xs.getD (off + j) false).slide
                                                            {
                                                              x :=
                                                                ((mpOf w d h (min (↑len : Int) 32768).toNat fun j => xs.getD (off + j) false).slide { x := px, y := py, z := pz }
                                                                      { x := bx, y := 0, z := 0 }).fst.x,
                                                              y :=
                                                                ((mpOf w d h (min (↑len : Int) 32768).toNat fun j => xs.getD (off + j) false).slide { x := px, y := py, z := pz }
                                                                      { x := bx, y := 0, z := 0 }).fst.y,
                                                              z :=
                                                                ((mpOf w d h (min (↑len : Int) 32768).toNat fun j => xs.getD (off + j) false).slide { x := px, y := py, z := pz }
                                                                      { x := bx, y := 0, z := 0 }).fst.z }
                                                            { x := 0, y := b_y, z := 0 }).fst.y,
                                                    z :=
                                                      ((mpOf w d h (min (↑len : Int) 32768).toNat fun j => xs.getD (off + j) false).slide
                                                            {
                                                              x :=
                                                                ((mpOf w d h (min (↑len : Int) 32768).toNat fun j => xs.getD (off + j) false).slide { x := px, y := py, z := pz }
                                                                      { x := bx, y := 0, z := 0 }).fst.x,
                                                              y :=
                                                                ((mpOf w d h (min (↑len : Int) 32768).toNat fun j => xs.getD (off + j) false).slide { x := px, y := py, z := pz }
                                                                      { x := bx, y := 0, z := 0 }).fst.y,
                                                              z :=
                                                                ((mpOf w d h (min (↑len : Int) 32768).toNat fun j => xs.getD (off + j) false).slide { x := px, y := py, z := pz }
                                                                      { x := bx, y := 0, z := 0 }).fst.z }
                                                            { x := 0, y := b_y, z := 0 }).fst.z }
                                                  { x := 0, y := 0, z := bz }).snd.snd.snd &&
                                        true))
                                else false) ==
                                true then
                            ((mpOf w d h (min (↑len : Int) 32768).toNat fun j => xs.getD (off + j) false).slide { x := px, y := py, z := pz } { x := 0, y := 0, z := 0 }).fst.x == px &&
                              (((mpOf w d h (min (↑len : Int) 32768).toNat fun j => xs.getD (off + j) false).slide { x := px, y := py, z := pz } { x := 0, y := 0, z := 0 }).fst.y == py &&
                                (((mpOf w d h (min (↑len : Int) 32768).toNat fun j => xs.getD (off + j) false).slide { x := px, y := py, z := pz } { x := 0, y := 0, z := 0 }).fst.z == pz && true))
                          else false) ==
                          true then
                      ((mpOf w d h (min (↑len : Int) 32768).toNat fun j => xs.getD (off + j) false).slide { x := px, y := py, z := pz } { x := 0, y := 0, z := 0 }).snd.fst == false &&
                        (((mpOf w d h (min (↑len : Int) 32768).toNat fun j => xs.getD (off + j) false).slide { x := px, y := py, z := pz } { x := 0, y := 0, z := 0 }).snd.snd.fst == false &&
                          (((mpOf w d h (min (↑len : Int) 32768).toNat fun j => xs.getD (off + j) false).slide { x := px, y := py, z := pz } { x := 0, y := 0, z := 0 }).snd.snd.snd == false && true))
                    else false),
                  [])
            else none
          else none
        else none
      else none
    else none
  else none := by kernel_rfl


theorem clamp0 : clampN 32768 0 = 0 := rfl
theorem cut64_id {z : Int} (h : In64 z) : cut64 z = z := by unfold In64 at h; unfold cut64; omega
theorem step_stay (m : Mp) (p : V3) : m.stepB p p 0 = (p, false) := by
  unfold Mp.stepB
  cases m.free p <;> rfl
theorem step_x (m : Mp) (p b : V3) (hp : p.fits) : (m.slide p ⟨b.x, 0, 0⟩) = ((m.stepB p ⟨cut64 (p.x + clampN 32768 b.x), p.y, p.z⟩ (clampN 32768 b.x)).1, (m.stepB p ⟨cut64 (p.x + clampN 32768 b.x), p.y, p.z⟩ (clampN 32768 b.x)).2, false, false) := by
  unfold Mp.slide
  dsimp only
  generalize hr : m.stepB p ⟨cut64 (p.x + clampN 32768 b.x), p.y, p.z⟩ (clampN 32768 b.x) = r1
  have hf : r1.1.y = p.y ∧ r1.1.z = p.z := by
    subst hr
    unfold Mp.stepB
    cases m.free ⟨cut64 (p.x + clampN 32768 b.x), p.y, p.z⟩ <;> exact ⟨rfl, rfl⟩
  rw [clamp0, Int.add_zero, Int.add_zero]
  have e1 : cut64 r1.1.y = r1.1.y := by rw [hf.1]; exact cut64_id hp.2.1
  have e2 : cut64 r1.1.z = r1.1.z := by rw [hf.2]; exact cut64_id hp.2.2
  rw [e1, show (⟨r1.1.x, r1.1.y, r1.1.z⟩ : V3) = r1.1 from rfl, step_stay, e2, show (⟨r1.1.x, r1.1.y, r1.1.z⟩ : V3) = r1.1 from rfl, step_stay]
theorem step_y (m : Mp) (p b : V3) (hp : p.fits) : (m.slide p ⟨0, b.y, 0⟩) = ((m.stepB p ⟨p.x, cut64 (p.y + clampN 32768 b.y), p.z⟩ (clampN 32768 b.y)).1, false, (m.stepB p ⟨p.x, cut64 (p.y + clampN 32768 b.y), p.z⟩ (clampN 32768 b.y)).2, false) := by
  unfold Mp.slide
  dsimp only
  rw [clamp0, Int.add_zero, Int.add_zero, cut64_id hp.1, show (⟨p.x, p.y, p.z⟩ : V3) = p from rfl, step_stay]
  dsimp only
  generalize hr : m.stepB p ⟨p.x, cut64 (p.y + clampN 32768 b.y), p.z⟩ (clampN 32768 b.y) = r2
  have hf : r2.1.z = p.z := by
    subst hr
    unfold Mp.stepB
    cases m.free ⟨p.x, cut64 (p.y + clampN 32768 b.y), p.z⟩ <;> rfl
  have e2 : cut64 r2.1.z = r2.1.z := by rw [hf]; exact cut64_id hp.2.2
  rw [e2, show (⟨r2.1.x, r2.1.y, r2.1.z⟩ : V3) = r2.1 from rfl, step_stay]
theorem step_z (m : Mp) (p b : V3) (hp : p.fits) : (m.slide p ⟨0, 0, b.z⟩) = ((m.stepB p ⟨p.x, p.y, cut64 (p.z + clampN 32768 b.z)⟩ (clampN 32768 b.z)).1, false, false, (m.stepB p ⟨p.x, p.y, cut64 (p.z + clampN 32768 b.z)⟩ (clampN 32768 b.z)).2) := by
  unfold Mp.slide
  dsimp only
  rw [clamp0, Int.add_zero, Int.add_zero, cut64_id hp.1, show (⟨p.x, p.y, p.z⟩ : V3) = p from rfl, step_stay]
  dsimp only
  rw [cut64_id hp.2.1, show (⟨p.x, p.y, p.z⟩ : V3) = p from rfl, step_stay]
theorem step_still (m : Mp) (p : V3) (hp : p.fits) : m.slide p ⟨0, 0, 0⟩ = (p, false, false, false) := by
  rw [step_x m p ⟨0, 0, 0⟩ hp]
  dsimp only
  rw [clamp0, Int.add_zero, cut64_id hp.1, show (⟨p.x, p.y, p.z⟩ : V3) = p from rfl, step_stay]

theorem step_fits (m : Mp) (p q : V3) (d : Int) (hp : p.fits) (hq : q.fits) : (m.stepB p q d).1.fits := by
  unfold Mp.stepB
  cases m.free q
  · exact hp
  · exact hq
theorem slide_fits (m : Mp) (p b : V3) (hp : p.fits) : (m.slide p b).1.fits := by
  unfold Mp.slide
  dsimp only
  have h1 := step_fits m p ⟨cut64 (p.x + clampN 32768 b.x), p.y, p.z⟩ (clampN 32768 b.x) hp ⟨cut64_fits _, hp.2.1, hp.2.2⟩
  have h2 := step_fits m _ ⟨(m.stepB p ⟨cut64 (p.x + clampN 32768 b.x), p.y, p.z⟩ (clampN 32768 b.x)).1.x, cut64 ((m.stepB p ⟨cut64 (p.x + clampN 32768 b.x), p.y, p.z⟩ (clampN 32768 b.x)).1.y + clampN 32768 b.y), (m.stepB p ⟨cut64 (p.x + clampN 32768 b.x), p.y, p.z⟩ (clampN 32768 b.x)).1.z⟩ (clampN 32768 b.y) h1 ⟨h1.1, cut64_fits _, h1.2.2⟩
  exact step_fits m _ _ _ h2 ⟨h2.1, h2.2.1, cut64_fits _⟩

theorem axes_law {w d h : Int} {len : Nat} {xs : List Bool} {p b : V3} (hw : In64 w) (hd : In64 d) (hh : In64 h) (hl : len ≤ 9223372036854775807) (hx : xs.length = len) (hp : p.fits) :
    runK x10b (fun _ _ => none) 200 5 Try.f5 0 [mapS w d h (.slice 0 1 0 len none) .unk, .agg [.int .i64 p.x, .int .i64 p.y, .int .i64 p.z], .agg [.int .i64 b.x, .int .i64 b.y, .int .i64 b.z]] [.vec true .bool xs] = some (.bool true, []) := by
  rw [axes_tree]
  have c1 : (decide (0 ≤ min (len : Int) 32768) && decide (min (len : Int) 32768 ≤ ((capOr none len : Nat) : Int))) = true := by
    simp only [show capOr none len = len from rfl, Bool.and_eq_true, decide_eq_true_eq]; omega
  have c2 : mapOk w d h (min (len : Int) 32768).toNat = true := by
    unfold mapOk
    simp only [Bool.and_eq_true, in64B_iff, decide_eq_true_eq]
    exact ⟨hw, hd, hh, by omega⟩
  have c3 : decide (0 + (min (len : Int) 32768).toNat ≤ xs.length) = true := by simp only [decide_eq_true_eq]; omega
  simp only [c1, c2, c3, cond_true, Bool.true_and]
  generalize (mpOf w d h (min (len : Int) 32768).toNat fun j => xs.getD (0 + j) false) = m
  have f1 : fitsB ⟨p.x, p.y, p.z⟩ = true := fitsB_iff.2 hp
  have f : ∀ q : V3, q.fits → fitsB ⟨q.x, q.y, q.z⟩ = true := fun q hq => fitsB_iff.2 hq
  have g1 := slide_fits m p ⟨b.x, 0, 0⟩ hp
  have g2 := slide_fits m _ ⟨0, b.y, 0⟩ g1
  have s3 := step_still m p hp
  have k1 := step_x m p b hp
  have k2 := step_y m _ b g1
  have k3 := step_z m _ b g2
  have ep : (⟨p.x, p.y, p.z⟩ : V3) = p := rfl
  have eb : (⟨b.x, b.y, b.z⟩ : V3) = b := rfl
  have ev : ∀ q : V3, (⟨q.x, q.y, q.z⟩ : V3) = q := fun _ => rfl
  simp only [ep, eb, ev, f _ g1, f _ g2, fitsB_iff.2 hp, fitsB_iff.2 g1, fitsB_iff.2 g2, Bool.and_true, cond_true, s3]
  rw [k3, k2, k1]
  have e : m.slide p b = ((m.stepB (m.stepB (m.stepB p ⟨cut64 (p.x + clampN 32768 b.x), p.y, p.z⟩ (clampN 32768 b.x)).1 ⟨(m.stepB p ⟨cut64 (p.x + clampN 32768 b.x), p.y, p.z⟩ (clampN 32768 b.x)).1.x, cut64 ((m.stepB p ⟨cut64 (p.x + clampN 32768 b.x), p.y, p.z⟩ (clampN 32768 b.x)).1.y + clampN 32768 b.y), (m.stepB p ⟨cut64 (p.x + clampN 32768 b.x), p.y, p.z⟩ (clampN 32768 b.x)).1.z⟩ (clampN 32768 b.y)).1 _ (clampN 32768 b.z)).1, _, _, _) := rfl
  rw [e]
  simp

end Go.Proofs.Ytnfhlfmcgeaagaa
