/- GridBoxes: the law's call. -/
import Derived.Test.YtikifgbbiffclaaVmX9
namespace Go.Proofs.Ytikifgbbiffclaa
set_option linter.unusedSimpArgs false
set_option linter.unusedVariables false
open Go.RowKit

set_option maxRecDepth 100000 in
set_option maxHeartbeats 0 in
theorem boxes_tree (w d h : Int) (len ls : Nat) (xs : List Bool) (sp : List V3) (p q : V3) (at_ : Int) : runK x9 (fun _ _ => none) 200 10 Try.f10 0 [mapS w d h (.slice 0 1 0 len none) (.slice 1 3 0 ls none), .agg p.sv, .agg q.sv, .int .i64 at_] [.vec true .bool xs, .vec true .vec sp] =
  bif decide (0 ≤ min (↑len : Int) 32768) && decide (min (↑len : Int) 32768 ≤ (↑(capOr none len) : Int)) then
    bif decide (0 ≤ min (↑ls : Int) 70) && decide (min (↑ls : Int) 70 ≤ (↑(capOr none ls) : Int)) then
      bif
          mapOk w d h (min (↑len : Int) 32768).toNat &&
            (fitsB (V3.mk (min p.x q.x) (min p.y q.y) (min p.z q.z)) && (fitsB (V3.mk (max p.x q.x) (max p.y q.y) (max p.z q.z)) && decide (0 + (min (↑len : Int) 32768).toNat ≤ xs.length))) then
        bif bif (bif decide (min p.x q.x < max p.x q.x) == true then decide (min p.y q.y < max p.y q.y) else false) == true then decide (min p.z q.z < max p.z q.z) else false then
          bif
              mapOk w d h (min (↑len : Int) 32768).toNat &&
                (fitsB (V3.mk (min p.x q.x) (min p.y q.y) (min p.z q.z)) &&
                  (fitsB (V3.mk (max (min p.x q.x) (min (max p.x q.x) at_)) (max p.y q.y) (max p.z q.z)) && decide (0 + (min (↑len : Int) 32768).toNat ≤ xs.length))) then
            bif
                (mapOk w d h (min (↑len : Int) 32768).toNat &&
                            (fitsB (V3.mk (max (min p.x q.x) (min (max p.x q.x) at_)) (min p.y q.y) (min p.z q.z)) &&
                              (fitsB (V3.mk (max p.x q.x) (max p.y q.y) (max p.z q.z)) && decide (0 + (min (↑len : Int) 32768).toNat ≤ xs.length))) &&
                          true &&
                        true ||
                      (mpOf w d h (min (↑len : Int) 32768).toNat fun j => xs.getD (0 + j) false).clear (V3.mk (min p.x q.x) (min p.y q.y) (min p.z q.z))
                          (V3.mk (max (min p.x q.x) (min (max p.x q.x) at_)) (max p.y q.y) (max p.z q.z)) !=
                        true) &&
                    (true ||
                      (mpOf w d h (min (↑len : Int) 32768).toNat fun j => xs.getD (0 + j) false).clear (V3.mk (min p.x q.x) (min p.y q.y) (min p.z q.z))
                          (V3.mk (max (min p.x q.x) (min (max p.x q.x) at_)) (max p.y q.y) (max p.z q.z)) ==
                        true) &&
                  true then
              bif
                  !(mpOf w d h (min (↑len : Int) 32768).toNat fun j => xs.getD (0 + j) false).clear (V3.mk (min p.x q.x) (min p.y q.y) (min p.z q.z)) (V3.mk (max p.x q.x) (max p.y q.y) (max p.z q.z)) ==
                      bif
                          (mpOf w d h (min (↑len : Int) 32768).toNat fun j => xs.getD (0 + j) false).clear (V3.mk (min p.x q.x) (min p.y q.y) (min p.z q.z))
                              (V3.mk (max (min p.x q.x) (min (max p.x q.x) at_)) (max p.y q.y) (max p.z q.z)) ==
                            true then
                        (mpOf w d h (min (↑len : Int) 32768).toNat fun j => xs.getD (0 + j) false).clear (V3.mk (max (min p.x q.x) (min (max p.x q.x) at_)) (min p.y q.y) (min p.z q.z))
                          (V3.mk (max p.x q.x) (max p.y q.y) (max p.z q.z))
                      else false then
                some (SV.bool false, [])
              else
                bif
                    (mapOk w d h (min (↑len : Int) 32768).toNat &&
                                (fitsB (V3.mk (min p.x q.x) (min p.y q.y) (min p.z q.z)) &&
                                  (fitsB (V3.mk (IntKind.i64.wrap (max p.x q.x - 1)) (IntKind.i64.wrap (max p.y q.y - 1)) (IntKind.i64.wrap (max p.z q.z - 1))) &&
                                    decide (0 + (min (↑len : Int) 32768).toNat ≤ xs.length))) &&
                              true &&
                            true ||
                          (mpOf w d h (min (↑len : Int) 32768).toNat fun j => xs.getD (0 + j) false).clear (V3.mk (min p.x q.x) (min p.y q.y) (min p.z q.z))
                              (V3.mk (max p.x q.x) (max p.y q.y) (max p.z q.z)) !=
                            true) &&
                        (true ||
                          (mpOf w d h (min (↑len : Int) 32768).toNat fun j => xs.getD (0 + j) false).clear (V3.mk (min p.x q.x) (min p.y q.y) (min p.z q.z))
                              (V3.mk (max p.x q.x) (max p.y q.y) (max p.z q.z)) ==
                            true) &&
                      true then
                  bif
                      bif
                          (mpOf w d h (min (↑len : Int) 32768).toNat fun j => xs.getD (0 + j) false).clear (V3.mk (min p.x q.x) (min p.y q.y) (min p.z q.z))
                              (V3.mk (max p.x q.x) (max p.y q.y) (max p.z q.z)) ==
                            true then
                        !(mpOf w d h (min (↑len : Int) 32768).toNat fun j => xs.getD (0 + j) false).sight (V3.mk (min p.x q.x) (min p.y q.y) (min p.z q.z))
                            (V3.mk (IntKind.i64.wrap (max p.x q.x - 1)) (IntKind.i64.wrap (max p.y q.y - 1)) (IntKind.i64.wrap (max p.z q.z - 1)))
                      else false then
                    some (SV.bool false, [])
                  else some (SV.bool true, [])
                else none
            else none
          else none
        else some (SV.bool true, [])
      else none
    else none
  else none := by kernel_rfl

theorem clear_halves {m : Mp} {lo hi : V3} {cut : Int} (h1 : lo.x < hi.x) (h2 : lo.y < hi.y) (h3 : lo.z < hi.z) (hc : lo.x ≤ cut ∧ cut ≤ hi.x) : m.clear lo hi = (m.clear lo ⟨cut, hi.y, hi.z⟩ && m.clear ⟨cut, lo.y, lo.z⟩ hi) := by
  rw [Bool.eq_iff_iff, Bool.and_eq_true, Mp.clear_iff, Mp.clear_iff, Mp.clear_iff]
  unfold Mp.Clear Mp.boxFree
  simp only
  constructor
  · rintro (h | h | h | h)
    · omega
    · omega
    · omega
    · refine ⟨?_, ?_⟩
      · by_cases hx : cut ≤ lo.x
        · exact .inl hx
        · refine .inr (.inr (.inr fun i j k i1 i2 j1 j2 k1 k2 => h i j k i1 (by omega) j1 j2 k1 k2))
      · by_cases hx : hi.x ≤ cut
        · exact .inl hx
        · refine .inr (.inr (.inr fun i j k i1 i2 j1 j2 k1 k2 => h i j k (by omega) i2 j1 j2 k1 k2))
  · rintro ⟨ha, hb⟩
    refine .inr (.inr (.inr fun i j k i1 i2 j1 j2 k1 k2 => ?_))
    by_cases hi1 : cut ≤ lo.x
    · rcases hb with h | h | h | h
      · omega
      · omega
      · omega
      · exact h i j k (by omega) i2 j1 j2 k1 k2
    · by_cases hic : i ≤ (cut - 1) / 65536
      · rcases ha with h | h | h | h
        · omega
        · omega
        · omega
        · exact h i j k i1 hic j1 j2 k1 k2
      · rcases hb with h | h | h | h
        · omega
        · omega
        · omega
        · exact h i j k (by omega) i2 j1 j2 k1 k2

theorem clear_sees {m : Mp} (hm : Inside m.solid) {lo hi : V3} (h1 : lo.x < hi.x) (h2 : lo.y < hi.y) (h3 : lo.z < hi.z) (hc : m.clear lo hi = true) : m.sight lo ⟨hi.x - 1, hi.y - 1, hi.z - 1⟩ = true := by
  rw [Mp.clear_iff] at hc
  rcases hc with h | h | h | h
  · omega
  · omega
  · omega
  · refine msight_box hm fun x y z hb => ?_
    unfold InBox at hb
    simp only at hb
    exact h x y z (by omega) (by omega) (by omega) (by omega) (by omega) (by omega)

theorem boxes_law {w d h : Int} {len ls : Nat} {xs : List Bool} {sp : List V3} {p q : V3} {at_ : Int} (hw : In64 w) (hd : In64 d) (hh : In64 h) (hl : len ≤ 9223372036854775807) (hx : xs.length = len) (hp : p.fits) (hq : q.fits) :
    runK x9 (fun _ _ => none) 200 10 Try.f10 0 [mapS w d h (.slice 0 1 0 len none) (.slice 1 3 0 ls none), .agg p.sv, .agg q.sv, .int .i64 at_] [.vec true .bool xs, .vec true .vec sp] = some (.bool true, []) := by
  rw [boxes_tree]
  obtain ⟨c1, c2, L, hL, c3, c4⟩ := small_facts (ls := ls) hw hd hh hl hx
  rw [hL]
  have hS := mp_inside (w := w) (d := d) (h := h) (len := L) (s := fun j => xs.getD (0 + j) false)
  generalize (mpOf w d h L fun j => xs.getD (0 + j) false) = M at *
  have g1 := hp.1; have g2 := hp.2.1; have g3 := hp.2.2
  have k1 := hq.1; have k2 := hq.2.1; have k3 := hq.2.2
  unfold In64 at g1 g2 g3 k1 k2 k3
  have fit : ∀ a b c : Int, -9223372036854775808 ≤ a ∧ a ≤ 9223372036854775807 → -9223372036854775808 ≤ b ∧ b ≤ 9223372036854775807 → -9223372036854775808 ≤ c ∧ c ≤ 9223372036854775807 → fitsB ⟨a, b, c⟩ = true := fun a b c h1 h2 h3 => fitsB_iff.2 ⟨h1, h2, h3⟩
  have f1 := fit (min p.x q.x) (min p.y q.y) (min p.z q.z) (by omega) (by omega) (by omega)
  have f2 := fit (max p.x q.x) (max p.y q.y) (max p.z q.z) (by omega) (by omega) (by omega)
  have f3 := fit (max (min p.x q.x) (min (max p.x q.x) at_)) (max p.y q.y) (max p.z q.z) (by omega) (by omega) (by omega)
  have f4 := fit (max (min p.x q.x) (min (max p.x q.x) at_)) (min p.y q.y) (min p.z q.z) (by omega) (by omega) (by omega)
  simp only [c1, c2, c3, c4, f1, f2, f3, f4, Bool.true_and, Bool.and_true, Bool.true_or, cond_true, and_form]
  refine bif_law (fun hc => ?_) (fun _ => rfl)
  simp only [Bool.and_eq_true, decide_eq_true_eq] at hc
  obtain ⟨⟨d1, d2⟩, d3⟩ := hc
  rw [IntWalk.i64_in (max p.x q.x - 1) (by omega), IntWalk.i64_in (max p.y q.y - 1) (by omega), IntWalk.i64_in (max p.z q.z - 1) (by omega)]
  have f5 := fit (max p.x q.x - 1) (max p.y q.y - 1) (max p.z q.z - 1) (by omega) (by omega) (by omega)
  have e1 := clear_halves (m := M) (lo := ⟨min p.x q.x, min p.y q.y, min p.z q.z⟩) (hi := ⟨max p.x q.x, max p.y q.y, max p.z q.z⟩) (cut := max (min p.x q.x) (min (max p.x q.x) at_)) d1 d2 d3 ⟨by simp only; omega, by simp only; omega⟩
  have e2 := clear_sees hS (lo := ⟨min p.x q.x, min p.y q.y, min p.z q.z⟩) (hi := ⟨max p.x q.x, max p.y q.y, max p.z q.z⟩) d1 d2 d3
  simp only at e1 e2
  rw [← e1, f5]
  simp only [Bool.true_or, Bool.and_true, beq_self_eq_true, Bool.not_true, cond_true, cond_false]
  cases hc : M.clear ⟨min p.x q.x, min p.y q.y, min p.z q.z⟩ ⟨max p.x q.x, max p.y q.y, max p.z q.z⟩ with
  | false => rfl
  | true => rw [e2 hc]; rfl

end Go.Proofs.Ytikifgbbiffclaa
