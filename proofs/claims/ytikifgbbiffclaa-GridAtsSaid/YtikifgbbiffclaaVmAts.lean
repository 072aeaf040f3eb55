/- GridAts: the law's call returns true. -/
import Derived.Test.YtikifgbbiffclaaVmG9
namespace Go.Proofs.Ytikifgbbiffclaa
set_option linter.unusedSimpArgs false
set_option linter.unusedVariables false
open Go.RowKit

set_option maxRecDepth 100000 in
set_option maxHeartbeats 0 in
theorem ats_tree (px py pz n : Int) : runK xGb (fun _ _ => none) 200 11 Try.f11 0 [.agg [.int .i64 px, .int .i64 py, .int .i64 pz], .int .i16 n] [] =
  bif
      bif decide (px ≥ IntKind.i64.wrap (px.fdiv (2 ^ min (Int.toNat 16) IntKind.i64.bits) * 65536)) == true then
        decide (IntKind.i64.wrap (px - IntKind.i64.wrap (px.fdiv (2 ^ min (Int.toNat 16) IntKind.i64.bits) * 65536)) < 65536)
      else false then
    bif
        bif decide (py ≥ IntKind.i64.wrap (py.fdiv (2 ^ min (Int.toNat 16) IntKind.i64.bits) * 65536)) == true then
          decide (IntKind.i64.wrap (py - IntKind.i64.wrap (py.fdiv (2 ^ min (Int.toNat 16) IntKind.i64.bits) * 65536)) < 65536)
        else false then
      bif bif decide (max (max px py) pz > 1152921504606846976) == false then decide (min (min px py) pz < -1152921504606846976) else true then
        some
          (SV.bool
              (bif true == true then
                bif decide (pz ≥ IntKind.i64.wrap (pz.fdiv (2 ^ min (Int.toNat 16) IntKind.i64.bits) * 65536)) == true then
                  decide (IntKind.i64.wrap (pz - IntKind.i64.wrap (pz.fdiv (2 ^ min (Int.toNat 16) IntKind.i64.bits) * 65536)) < 65536)
                else false
              else false),
            [])
      else
        some
          (SV.bool
              (bif
                  (bif
                        (bif
                              (bif true == true then
                                  bif decide (pz ≥ IntKind.i64.wrap (pz.fdiv (2 ^ min (Int.toNat 16) IntKind.i64.bits) * 65536)) == true then
                                    decide (IntKind.i64.wrap (pz - IntKind.i64.wrap (pz.fdiv (2 ^ min (Int.toNat 16) IntKind.i64.bits) * 65536)) < 65536)
                                  else false
                                else false) ==
                                true then
                            (IntKind.i64.wrap (px + IntKind.i64.wrap (IntKind.i64.wrap n * 65536))).fdiv (2 ^ min (Int.toNat 16) IntKind.i64.bits) ==
                              IntKind.i64.wrap (px.fdiv (2 ^ min (Int.toNat 16) IntKind.i64.bits) + IntKind.i64.wrap n)
                          else false) ==
                          true then
                      (IntKind.i64.wrap (py + IntKind.i64.wrap (IntKind.i64.wrap n * 65536))).fdiv (2 ^ min (Int.toNat 16) IntKind.i64.bits) ==
                        IntKind.i64.wrap (py.fdiv (2 ^ min (Int.toNat 16) IntKind.i64.bits) + IntKind.i64.wrap n)
                    else false) ==
                    true then
                (IntKind.i64.wrap (pz + IntKind.i64.wrap (IntKind.i64.wrap n * 65536))).fdiv (2 ^ min (Int.toNat 16) IntKind.i64.bits) ==
                  IntKind.i64.wrap (pz.fdiv (2 ^ min (Int.toNat 16) IntKind.i64.bits) + IntKind.i64.wrap n)
              else false),
            [])
    else
      bif bif decide (max (max px py) pz > 1152921504606846976) == false then decide (min (min px py) pz < -1152921504606846976) else true then
        some (SV.bool (bif true == true then false else false), [])
      else
        some
          (SV.bool
              (bif
                  (bif
                        (bif (bif true == true then false else false) == true then
                            (IntKind.i64.wrap (px + IntKind.i64.wrap (IntKind.i64.wrap n * 65536))).fdiv (2 ^ min (Int.toNat 16) IntKind.i64.bits) ==
                              IntKind.i64.wrap (px.fdiv (2 ^ min (Int.toNat 16) IntKind.i64.bits) + IntKind.i64.wrap n)
                          else false) ==
                          true then
                      (IntKind.i64.wrap (py + IntKind.i64.wrap (IntKind.i64.wrap n * 65536))).fdiv (2 ^ min (Int.toNat 16) IntKind.i64.bits) ==
                        IntKind.i64.wrap (py.fdiv (2 ^ min (Int.toNat 16) IntKind.i64.bits) + IntKind.i64.wrap n)
                    else false) ==
                    true then
                (IntKind.i64.wrap (pz + IntKind.i64.wrap (IntKind.i64.wrap n * 65536))).fdiv (2 ^ min (Int.toNat 16) IntKind.i64.bits) ==
                  IntKind.i64.wrap (pz.fdiv (2 ^ min (Int.toNat 16) IntKind.i64.bits) + IntKind.i64.wrap n)
              else false),
            [])
  else
    bif bif decide (max (max px py) pz > 1152921504606846976) == false then decide (min (min px py) pz < -1152921504606846976) else true then some (SV.bool (bif true == true then false else false), [])
    else
      some
        (SV.bool
            (bif
                (bif
                      (bif (bif true == true then false else false) == true then
                          (IntKind.i64.wrap (px + IntKind.i64.wrap (IntKind.i64.wrap n * 65536))).fdiv (2 ^ min (Int.toNat 16) IntKind.i64.bits) ==
                            IntKind.i64.wrap (px.fdiv (2 ^ min (Int.toNat 16) IntKind.i64.bits) + IntKind.i64.wrap n)
                        else false) ==
                        true then
                    (IntKind.i64.wrap (py + IntKind.i64.wrap (IntKind.i64.wrap n * 65536))).fdiv (2 ^ min (Int.toNat 16) IntKind.i64.bits) ==
                      IntKind.i64.wrap (py.fdiv (2 ^ min (Int.toNat 16) IntKind.i64.bits) + IntKind.i64.wrap n)
                  else false) ==
                  true then
              (IntKind.i64.wrap (pz + IntKind.i64.wrap (IntKind.i64.wrap n * 65536))).fdiv (2 ^ min (Int.toNat 16) IntKind.i64.bits) ==
                IntKind.i64.wrap (pz.fdiv (2 ^ min (Int.toNat 16) IntKind.i64.bits) + IntKind.i64.wrap n)
            else false),
          []) := by kernel_rfl

theorem p16 : (2 ^ min (Int.toNat 16) IntKind.i64.bits : Int) = 65536 := by decide
theorem fdiv16 (x : Int) : x.fdiv 65536 = x / 65536 := Int.fdiv_eq_ediv_of_nonneg x (by omega)

theorem ats_in {x : Int} (hx : In64 x) : (bif decide (x ≥ IntKind.i64.wrap (x.fdiv (2 ^ min (Int.toNat 16) IntKind.i64.bits) * 65536)) == true then
    decide (IntKind.i64.wrap (x - IntKind.i64.wrap (x.fdiv (2 ^ min (Int.toNat 16) IntKind.i64.bits) * 65536)) < 65536) else false) = true := by
  unfold In64 at hx
  rw [p16, fdiv16, IntWalk.i64_in (x / 65536 * 65536) (by omega), IntWalk.i64_in (x - x / 65536 * 65536) (by omega)]
  have h1 : decide (x ≥ x / 65536 * 65536) = true := by rw [decide_eq_true_eq]; omega
  have h2 : decide (x - x / 65536 * 65536 < 65536) = true := by rw [decide_eq_true_eq]; omega
  rw [h1, h2]
  rfl

theorem ats_by {x n : Int} (hx : -1152921504606846976 ≤ x ∧ x ≤ 1152921504606846976) (hn : -32768 ≤ n ∧ n ≤ 32767) : ((IntKind.i64.wrap (x + IntKind.i64.wrap (IntKind.i64.wrap n * 65536))).fdiv (2 ^ min (Int.toNat 16) IntKind.i64.bits) ==
    IntKind.i64.wrap (x.fdiv (2 ^ min (Int.toNat 16) IntKind.i64.bits) + IntKind.i64.wrap n)) = true := by
  rw [p16, fdiv16, fdiv16, IntWalk.i64_in n (by omega), IntWalk.i64_in (n * 65536) (by omega), IntWalk.i64_in (x + n * 65536) (by omega), IntWalk.i64_in (x / 65536 + n) (by omega), beq_iff_eq]
  omega

theorem ats_law {p : V3} {n : Int} (hp : p.fits) (hn : -32768 ≤ n ∧ n ≤ 32767) : runK xGb (fun _ _ => none) 200 11 Try.f11 0 [.agg [.int .i64 p.x, .int .i64 p.y, .int .i64 p.z], .int .i16 n] [] = some (.bool true, []) := by
  rw [ats_tree]
  rw [ats_in hp.1, ats_in hp.2.1, ats_in hp.2.2]
  simp only [cond_true]
  cases h : (bif decide (max (max p.x p.y) p.z > 1152921504606846976) == false then decide (min (min p.x p.y) p.z < -1152921504606846976) else true)
  · have hb : max (max p.x p.y) p.z ≤ 1152921504606846976 ∧ -1152921504606846976 ≤ min (min p.x p.y) p.z := by
      cases h1 : decide (max (max p.x p.y) p.z > 1152921504606846976) with
      | true => rw [h1] at h; simp at h
      | false =>
        rw [h1] at h
        simp only [beq_self_eq_true, cond_true, decide_eq_false_iff_not] at h h1
        omega
    rw [ats_by (x := p.x) (by omega) hn, ats_by (x := p.y) (by omega) hn, ats_by (x := p.z) (by omega) hn]
    rfl
  · rfl

end Go.Proofs.Ytikifgbbiffclaa
