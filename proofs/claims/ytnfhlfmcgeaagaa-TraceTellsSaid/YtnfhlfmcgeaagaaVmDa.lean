/- The reference's digits: Add, Sub. -/
import Derived.Test.YtnfhlfmcgeaagaaVmDp
namespace Go.Proofs.Ytnfhlfmcgeaagaa
set_option linter.unusedSimpArgs false
set_option linter.unusedVariables false
open Go.RowKit

set_option maxRecDepth 100000 in
set_option maxHeartbeats 0 in
theorem add_tree (a b : Int) : runK xDa (fun _ _ => none) 300 21 Try.f21 0 [.int .i64 a, .int .i64 b] [] =
  bif in64B a then
  bif in64B b then
  bif
  digsB (digs 5 a.natAbs) && digsB (digs 5 b.natAbs) &&
  (decide (0 + (digs 5 a.natAbs).length ≤ (digs 5 a.natAbs).length) && decide (0 + (digs 5 b.natAbs).length ≤ (digs 5 b.natAbs).length) &&
  decide (max (digs 5 a.natAbs).length (digs 5 b.natAbs).length + 1 ≤ 1000)) then
  bif
  digsB (plusS (decide (a < 0)) (decide (b < 0)) (digs 5 a.natAbs) (digs 5 b.natAbs) 0 (digs 5 a.natAbs).length 0 (digs 5 b.natAbs).length).snd &&
  (decide
  (0 + (plusS (decide (a < 0)) (decide (b < 0)) (digs 5 a.natAbs) (digs 5 b.natAbs) 0 (digs 5 a.natAbs).length 0 (digs 5 b.natAbs).length).snd.length ≤
  (plusS (decide (a < 0)) (decide (b < 0)) (digs 5 a.natAbs) (digs 5 b.natAbs) 0 (digs 5 a.natAbs).length 0 (digs 5 b.natAbs).length).snd.length) &&
  decide ((plusS (decide (a < 0)) (decide (b < 0)) (digs 5 a.natAbs) (digs 5 b.natAbs) 0 (digs 5 a.natAbs).length 0 (digs 5 b.natAbs).length).snd.length ≤ 9223372036854775807)) then
  some
  (SV.int IntKind.i64
  (bigN (plusS (decide (a < 0)) (decide (b < 0)) (digs 5 a.natAbs) (digs 5 b.natAbs) 0 (digs 5 a.natAbs).length 0 (digs 5 b.natAbs).length).fst
  (valF (dig (plusS (decide (a < 0)) (decide (b < 0)) (digs 5 a.natAbs) (digs 5 b.natAbs) 0 (digs 5 a.natAbs).length 0 (digs 5 b.natAbs).length).snd 0)
  (plusS (decide (a < 0)) (decide (b < 0)) (digs 5 a.natAbs) (digs 5 b.natAbs) 0 (digs 5 a.natAbs).length 0 (digs 5 b.natAbs).length).snd.length 0)),
  [])
  else none
  else none
  else none
  else none := by kernel_rfl

set_option maxRecDepth 100000 in
set_option maxHeartbeats 0 in
theorem sub_tree (a b : Int) : runK xDa (fun _ _ => none) 300 49 Try.f49 0 [.int .i64 a, .int .i64 b] [] =
  bif in64B b then
  bif in64B a then
  bif
  digsB (digs 5 a.natAbs) && digsB (digs 5 b.natAbs) &&
  (decide (0 + (digs 5 a.natAbs).length ≤ (digs 5 a.natAbs).length) && decide (0 + (digs 5 b.natAbs).length ≤ (digs 5 b.natAbs).length) &&
  decide (max (digs 5 a.natAbs).length (digs 5 b.natAbs).length + 1 ≤ 1000)) then
  bif
  digsB (plusS (decide (a < 0)) (!decide (b < 0)) (digs 5 a.natAbs) (digs 5 b.natAbs) 0 (digs 5 a.natAbs).length 0 (digs 5 b.natAbs).length).snd &&
  (decide
  (0 + (plusS (decide (a < 0)) (!decide (b < 0)) (digs 5 a.natAbs) (digs 5 b.natAbs) 0 (digs 5 a.natAbs).length 0 (digs 5 b.natAbs).length).snd.length ≤
  (plusS (decide (a < 0)) (!decide (b < 0)) (digs 5 a.natAbs) (digs 5 b.natAbs) 0 (digs 5 a.natAbs).length 0 (digs 5 b.natAbs).length).snd.length) &&
  decide ((plusS (decide (a < 0)) (!decide (b < 0)) (digs 5 a.natAbs) (digs 5 b.natAbs) 0 (digs 5 a.natAbs).length 0 (digs 5 b.natAbs).length).snd.length ≤ 9223372036854775807)) then
  some
  (SV.int IntKind.i64
  (bigN (plusS (decide (a < 0)) (!decide (b < 0)) (digs 5 a.natAbs) (digs 5 b.natAbs) 0 (digs 5 a.natAbs).length 0 (digs 5 b.natAbs).length).fst
  (valF (dig (plusS (decide (a < 0)) (!decide (b < 0)) (digs 5 a.natAbs) (digs 5 b.natAbs) 0 (digs 5 a.natAbs).length 0 (digs 5 b.natAbs).length).snd 0)
  (plusS (decide (a < 0)) (!decide (b < 0)) (digs 5 a.natAbs) (digs 5 b.natAbs) 0 (digs 5 a.natAbs).length 0 (digs 5 b.natAbs).length).snd.length 0)),
  [])
  else none
  else none
  else none
  else none := by kernel_rfl

end Go.Proofs.Ytnfhlfmcgeaagaa
