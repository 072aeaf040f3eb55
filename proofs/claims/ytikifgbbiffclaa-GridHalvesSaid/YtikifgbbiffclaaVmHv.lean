/- GridHalves: the law's call. -/
import Derived.Test.YtikifgbbiffclaaVmX9
namespace Go.Proofs.Ytikifgbbiffclaa
set_option linter.unusedSimpArgs false
set_option linter.unusedVariables false
open Go.RowKit

set_option maxRecDepth 100000 in
set_option maxHeartbeats 0 in
theorem halves_tree (w d h : Int) (len ls : Nat) (xs : List Bool) (sp : List V3) (p q : V3) : runK x9 (fun _ _ => none) 200 6 Try.f6 0 [mapS w d h (.slice 0 1 0 len none) (.slice 1 3 0 ls none), .agg p.sv, .agg q.sv] [.vec true .bool xs, .vec true .vec sp] =
  bif decide (0 ≤ min (↑len : Int) 32768) && decide (min (↑len : Int) 32768 ≤ (↑(capOr none len) : Int)) then
    bif decide (0 ≤ min (↑ls : Int) 70) && decide (min (↑ls : Int) 70 ≤ (↑(capOr none ls) : Int)) then
      bif
          bif
              (bif
                    (bif
                          (bif decide (min (min (min (min (min p.x p.y) p.z) q.x) q.y) q.z < 0) == false then decide (max (max (max (max (max p.x p.y) p.z) q.x) q.y) q.z > 1099511627776) else true) ==
                            false then
                        (IntKind.i64.wrap (p.x + q.x)).tmod 2 != 0
                      else true) ==
                      false then
                  (IntKind.i64.wrap (p.y + q.y)).tmod 2 != 0
                else true) ==
                false then
            (IntKind.i64.wrap (p.z + q.z)).tmod 2 != 0
          else true then
        some (SV.bool true, [])
      else
        bif mapOk w d h (min (↑len : Int) 32768).toNat && (fitsB p && (fitsB q && decide (0 + (min (↑len : Int) 32768).toNat ≤ xs.length))) then
          bif
              mapOk w d h (min (↑len : Int) 32768).toNat &&
                (fitsB p &&
                  (fitsB
                      (V3.mk (IntKind.i64.wrap ((IntKind.i64.wrap (p.x + q.x)).tdiv 2)) (IntKind.i64.wrap ((IntKind.i64.wrap (p.y + q.y)).tdiv 2))
                        (IntKind.i64.wrap ((IntKind.i64.wrap (p.z + q.z)).tdiv 2))) &&
                    decide (0 + (min (↑len : Int) 32768).toNat ≤ xs.length))) then
            bif
                (mpOf w d h (min (↑len : Int) 32768).toNat fun j => xs.getD (0 + j) false).sight p
                  (V3.mk (IntKind.i64.wrap ((IntKind.i64.wrap (p.x + q.x)).tdiv 2)) (IntKind.i64.wrap ((IntKind.i64.wrap (p.y + q.y)).tdiv 2))
                    (IntKind.i64.wrap ((IntKind.i64.wrap (p.z + q.z)).tdiv 2))) then
              bif
                  mapOk w d h (min (↑len : Int) 32768).toNat &&
                    (fitsB
                        (V3.mk (IntKind.i64.wrap ((IntKind.i64.wrap (p.x + q.x)).tdiv 2)) (IntKind.i64.wrap ((IntKind.i64.wrap (p.y + q.y)).tdiv 2))
                          (IntKind.i64.wrap ((IntKind.i64.wrap (p.z + q.z)).tdiv 2))) &&
                      (fitsB q && decide (0 + (min (↑len : Int) 32768).toNat ≤ xs.length))) then
                some
                  (SV.bool
                      ((mpOf w d h (min (↑len : Int) 32768).toNat fun j => xs.getD (0 + j) false).sight p q ==
                        (mpOf w d h (min (↑len : Int) 32768).toNat fun j => xs.getD (0 + j) false).sight
                          (V3.mk (IntKind.i64.wrap ((IntKind.i64.wrap (p.x + q.x)).tdiv 2)) (IntKind.i64.wrap ((IntKind.i64.wrap (p.y + q.y)).tdiv 2))
                            (IntKind.i64.wrap ((IntKind.i64.wrap (p.z + q.z)).tdiv 2)))
                          q),
                    [])
              else none
            else some (SV.bool ((mpOf w d h (min (↑len : Int) 32768).toNat fun j => xs.getD (0 + j) false).sight p q == false), [])
          else none
        else none
    else none
  else none := by kernel_rfl

theorem halves_law {w d h : Int} {len ls : Nat} {xs : List Bool} {sp : List V3} {p q : V3} (hw : In64 w) (hd : In64 d) (hh : In64 h) (hl : len ≤ 9223372036854775807) (hx : xs.length = len) (hp : p.fits) (hq : q.fits) :
    runK x9 (fun _ _ => none) 200 6 Try.f6 0 [mapS w d h (.slice 0 1 0 len none) (.slice 1 3 0 ls none), .agg p.sv, .agg q.sv] [.vec true .bool xs, .vec true .vec sp] = some (.bool true, []) := by
  rw [halves_tree]
  obtain ⟨c1, c2, L, hL, c3, c4⟩ := small_facts (ls := ls) hw hd hh hl hx
  rw [hL]
  have hS := mp_inside (w := w) (d := d) (h := h) (len := L) (s := fun j => xs.getD (0 + j) false)
  have e1 := fun c => msight_halves (c := c) (a := p) (b := q) hS
  generalize (mpOf w d h L fun j => xs.getD (0 + j) false) = M at *
  simp only [c1, c2, c3, c4, fitsB_iff.2 hp, fitsB_iff.2 hq, Bool.true_and, Bool.and_true, cond_true, or_form]
  refine bif_law (fun _ => rfl) (fun hc => ?_)
  simp only [Bool.or_eq_false_iff, decide_eq_false_iff_not, bne_eq_false_iff_eq] at hc
  obtain ⟨⟨⟨⟨b1, b2⟩, m1⟩, m2⟩, m3⟩ := hc
  have hx' := hp.1; have hx2 := hq.1
  have mid : ∀ a b : Int, 0 ≤ a → 0 ≤ b → a ≤ 1099511627776 → b ≤ 1099511627776 → (IntKind.i64.wrap (a + b)).tmod 2 = 0 → 2 * IntKind.i64.wrap ((IntKind.i64.wrap (a + b)).tdiv 2) = a + b ∧ In64 (IntKind.i64.wrap ((IntKind.i64.wrap (a + b)).tdiv 2)) := by
    intro a b ha hb ha' hb' hm
    rw [IntWalk.i64_in (a + b) (by omega)] at hm ⊢
    rw [Int.tmod_eq_emod_of_nonneg (by omega)] at hm
    rw [Int.tdiv_eq_ediv_of_nonneg (by omega), IntWalk.i64_in ((a + b) / 2) (by omega)]
    unfold In64
    omega
  obtain ⟨n1, k1⟩ := mid p.x q.x (by omega) (by omega) (by omega) (by omega) m1
  obtain ⟨n2, k2⟩ := mid p.y q.y (by omega) (by omega) (by omega) (by omega) m2
  obtain ⟨n3, k3⟩ := mid p.z q.z (by omega) (by omega) (by omega) (by omega) m3
  generalize IntKind.i64.wrap ((IntKind.i64.wrap (p.x + q.x)).tdiv 2) = cx at *
  generalize IntKind.i64.wrap ((IntKind.i64.wrap (p.y + q.y)).tdiv 2) = cy at *
  generalize IntKind.i64.wrap ((IntKind.i64.wrap (p.z + q.z)).tdiv 2) = cz at *
  have e2 := e1 ⟨cx, cy, cz⟩ n1 n2 n3
  have k4 : fitsB ⟨cx, cy, cz⟩ = true := fitsB_iff.2 ⟨k1, k2, k3⟩
  generalize V3.mk cx cy cz = c at *
  rw [k4, e2]
  cases M.sight p c <;> cases M.sight c q <;> rfl

end Go.Proofs.Ytikifgbbiffclaa
