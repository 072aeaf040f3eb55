/- GridMore: the law's call. -/
import Derived.Test.YtikifgbbiffclaaVmX9
namespace Go.Proofs.Ytikifgbbiffclaa
set_option linter.unusedSimpArgs false
set_option linter.unusedVariables false
open Go.RowKit

set_option maxRecDepth 100000 in
set_option maxHeartbeats 0 in
theorem gmore_tree (w d h : Int) (len ls : Nat) (xs : List Bool) (sp : List V3) (p q : V3) (cell : Int) : runK x9 (fun _ _ => none) 200 7 Try.f7 0 [mapS w d h (.slice 0 1 0 len none) (.slice 1 3 0 ls none), .agg p.sv, .agg q.sv, .int .i64 cell] [.vec true .bool xs, .vec true .vec sp] =
  bif decide (0 ≤ min (↑len : Int) 32768) && decide (min (↑len : Int) 32768 ≤ (↑(capOr none len) : Int)) then
    bif decide (0 ≤ min (↑ls : Int) 70) && decide (min (↑ls : Int) 70 ≤ (↑(capOr none ls) : Int)) then
      bif (↑(min (↑len : Int) 32768).toNat : Int) == 0 then
        bif
            (mapOk w d h (min (↑len : Int) 32768).toNat && (fitsB p && (fitsB q && decide (0 + (min (↑len : Int) 32768).toNat ≤ xs.length))) && true && true || true != true) && (true || true == true) &&
              true then
          some (SV.bool (bif true == true then !(mpOf w d h (min (↑len : Int) 32768).toNat fun j => xs.getD (0 + j) false).sight p q else false), [])
        else none
      else
        bif
            decide (0 + (min (↑len : Int) 32768).toNat ≤ xs.length) &&
              ((false || (some 0).isSome) && (decide (0 + (min (↑len : Int) 32768).toNat ≤ 9223372036854775807) && decide ((0 + (min (↑len : Int) 32768).toNat) * 1 ≤ 140737488355328))) then
          bif !decide ((↑(min (↑len : Int) 32768).toNat : Int) = 0) then
            bif
                decide (0 ≤ (IntKind.i64.wrap (↑(BitVec.ofInt IntKind.i64.bits cell &&& BitVec.ofInt IntKind.i64.bits 16777215).toNat : Int)).tmod (↑(min (↑len : Int) 32768).toNat : Int)) &&
                  decide
                    ((IntKind.i64.wrap (↑(BitVec.ofInt IntKind.i64.bits cell &&& BitVec.ofInt IntKind.i64.bits 16777215).toNat : Int)).tmod (↑(min (↑len : Int) 32768).toNat : Int) <
                      (↑(0 + (min (↑len : Int) 32768).toNat) : Int)) then
              bif
                  decide
                    (0 + ((IntKind.i64.wrap (↑(BitVec.ofInt IntKind.i64.bits cell &&& BitVec.ofInt IntKind.i64.bits 16777215).toNat : Int)).tmod (↑(min (↑len : Int) 32768).toNat : Int)).toNat <
                      (List.take 0 [] ++ List.take (min (↑len : Int) 32768).toNat (List.drop 0 xs)).length) then
                bif
                    (mapOk w d h (0 + (min (↑len : Int) 32768).toNat) &&
                                (fitsB p &&
                                  (fitsB q &&
                                    decide
                                      (0 + (0 + (min (↑len : Int) 32768).toNat) ≤
                                        ((List.take 0 [] ++ List.take (min (↑len : Int) 32768).toNat (List.drop 0 xs)).set
                                            (0 +
                                              ((IntKind.i64.wrap (↑(BitVec.ofInt IntKind.i64.bits cell &&& BitVec.ofInt IntKind.i64.bits 16777215).toNat : Int)).tmod
                                                  (↑(min (↑len : Int) 32768).toNat : Int)).toNat)
                                            true).length))) &&
                              ((mapOk w d h (min (↑len : Int) 32768).toNat && (fitsB p && (fitsB q && decide (0 + (min (↑len : Int) 32768).toNat ≤ xs.length))) && true && true ||
                                    (!(mpOf w d h (0 + (min (↑len : Int) 32768).toNat) fun j =>
                                              ((List.take 0 [] ++ List.take (min (↑len : Int) 32768).toNat (List.drop 0 xs)).set
                                                    (0 +
                                                      ((IntKind.i64.wrap (↑(BitVec.ofInt IntKind.i64.bits cell &&& BitVec.ofInt IntKind.i64.bits 16777215).toNat : Int)).tmod
                                                          (↑(min (↑len : Int) 32768).toNat : Int)).toNat)
                                                    true).getD
                                                (0 + j) false).sight
                                          p q) !=
                                      false) &&
                                  (true ||
                                    (!(mpOf w d h (0 + (min (↑len : Int) 32768).toNat) fun j =>
                                              ((List.take 0 [] ++ List.take (min (↑len : Int) 32768).toNat (List.drop 0 xs)).set
                                                    (0 +
                                                      ((IntKind.i64.wrap (↑(BitVec.ofInt IntKind.i64.bits cell &&& BitVec.ofInt IntKind.i64.bits 16777215).toNat : Int)).tmod
                                                          (↑(min (↑len : Int) 32768).toNat : Int)).toNat)
                                                    true).getD
                                                (0 + j) false).sight
                                          p q) ==
                                      false) &&
                                true) &&
                            true ||
                          true != true) &&
                        (true || true == true) &&
                      true then
                  bif
                      (mapOk w d h (0 + (min (↑len : Int) 32768).toNat) &&
                                  (fitsB p &&
                                    (fitsB q &&
                                      decide
                                        (0 + (0 + (min (↑len : Int) 32768).toNat) ≤
                                          ((List.take 0 [] ++ List.take (min (↑len : Int) 32768).toNat (List.drop 0 xs)).set
                                              (0 +
                                                ((IntKind.i64.wrap (↑(BitVec.ofInt IntKind.i64.bits cell &&& BitVec.ofInt IntKind.i64.bits 16777215).toNat : Int)).tmod
                                                    (↑(min (↑len : Int) 32768).toNat : Int)).toNat)
                                              true).length))) &&
                                ((mapOk w d h (min (↑len : Int) 32768).toNat && (fitsB p && (fitsB q && decide (0 + (min (↑len : Int) 32768).toNat ≤ xs.length))) && true && true ||
                                      (!(mpOf w d h (0 + (min (↑len : Int) 32768).toNat) fun j =>
                                                ((List.take 0 [] ++ List.take (min (↑len : Int) 32768).toNat (List.drop 0 xs)).set
                                                      (0 +
                                                        ((IntKind.i64.wrap (↑(BitVec.ofInt IntKind.i64.bits cell &&& BitVec.ofInt IntKind.i64.bits 16777215).toNat : Int)).tmod
                                                            (↑(min (↑len : Int) 32768).toNat : Int)).toNat)
                                                      true).getD
                                                  (0 + j) false).clear
                                            p q) !=
                                        false) &&
                                    (true ||
                                      (!(mpOf w d h (0 + (min (↑len : Int) 32768).toNat) fun j =>
                                                ((List.take 0 [] ++ List.take (min (↑len : Int) 32768).toNat (List.drop 0 xs)).set
                                                      (0 +
                                                        ((IntKind.i64.wrap (↑(BitVec.ofInt IntKind.i64.bits cell &&& BitVec.ofInt IntKind.i64.bits 16777215).toNat : Int)).tmod
                                                            (↑(min (↑len : Int) 32768).toNat : Int)).toNat)
                                                      true).getD
                                                  (0 + j) false).clear
                                            p q) ==
                                        false) &&
                                  true) &&
                              true ||
                            (bif true == true then
                                bif
                                    (!(mpOf w d h (0 + (min (↑len : Int) 32768).toNat) fun j =>
                                              ((List.take 0 [] ++ List.take (min (↑len : Int) 32768).toNat (List.drop 0 xs)).set
                                                    (0 +
                                                      ((IntKind.i64.wrap (↑(BitVec.ofInt IntKind.i64.bits cell &&& BitVec.ofInt IntKind.i64.bits 16777215).toNat : Int)).tmod
                                                          (↑(min (↑len : Int) 32768).toNat : Int)).toNat)
                                                    true).getD
                                                (0 + j) false).sight
                                          p q) ==
                                      false then
                                  (mpOf w d h (min (↑len : Int) 32768).toNat fun j => xs.getD (0 + j) false).sight p q
                                else true
                              else false) !=
                              true) &&
                          (true ||
                            (bif true == true then
                                bif
                                    (!(mpOf w d h (0 + (min (↑len : Int) 32768).toNat) fun j =>
                                              ((List.take 0 [] ++ List.take (min (↑len : Int) 32768).toNat (List.drop 0 xs)).set
                                                    (0 +
                                                      ((IntKind.i64.wrap (↑(BitVec.ofInt IntKind.i64.bits cell &&& BitVec.ofInt IntKind.i64.bits 16777215).toNat : Int)).tmod
                                                          (↑(min (↑len : Int) 32768).toNat : Int)).toNat)
                                                    true).getD
                                                (0 + j) false).sight
                                          p q) ==
                                      false then
                                  (mpOf w d h (min (↑len : Int) 32768).toNat fun j => xs.getD (0 + j) false).sight p q
                                else true
                              else false) ==
                              true) &&
                        true then
                    some
                      (SV.bool
                          (bif
                              (bif true == true then
                                  bif
                                      (!(mpOf w d h (0 + (min (↑len : Int) 32768).toNat) fun j =>
                                                ((List.take 0 [] ++ List.take (min (↑len : Int) 32768).toNat (List.drop 0 xs)).set
                                                      (0 +
                                                        ((IntKind.i64.wrap (↑(BitVec.ofInt IntKind.i64.bits cell &&& BitVec.ofInt IntKind.i64.bits 16777215).toNat : Int)).tmod
                                                            (↑(min (↑len : Int) 32768).toNat : Int)).toNat)
                                                      true).getD
                                                  (0 + j) false).sight
                                            p q) ==
                                        false then
                                    (mpOf w d h (min (↑len : Int) 32768).toNat fun j => xs.getD (0 + j) false).sight p q
                                  else true
                                else false) ==
                                true then
                            bif
                                (!(mpOf w d h (0 + (min (↑len : Int) 32768).toNat) fun j =>
                                          ((List.take 0 [] ++ List.take (min (↑len : Int) 32768).toNat (List.drop 0 xs)).set
                                                (0 +
                                                  ((IntKind.i64.wrap (↑(BitVec.ofInt IntKind.i64.bits cell &&& BitVec.ofInt IntKind.i64.bits 16777215).toNat : Int)).tmod
                                                      (↑(min (↑len : Int) 32768).toNat : Int)).toNat)
                                                true).getD
                                            (0 + j) false).clear
                                      p q) ==
                                  false then
                              (mpOf w d h (min (↑len : Int) 32768).toNat fun j => xs.getD (0 + j) false).clear p q
                            else true
                          else false),
                        [])
                  else none
                else none
              else none
            else none
          else none
        else none
    else none
  else none := by kernel_rfl

theorem and_mask {a : Int} : 0 ≤ IntKind.i64.wrap ((BitVec.ofInt IntKind.i64.bits a &&& BitVec.ofInt IntKind.i64.bits 16777215).toNat : Int) := by
  have h : (BitVec.ofInt IntKind.i64.bits a &&& BitVec.ofInt IntKind.i64.bits 16777215).toNat ≤ 16777215 := by
    rw [BitVec.toNat_and]
    exact Nat.le_trans Nat.and_le_right (by decide)
  generalize (BitVec.ofInt IntKind.i64.bits a &&& BitVec.ofInt IntKind.i64.bits 16777215).toNat = n at h
  rw [IntWalk.i64_in (n : Int) (by omega)]
  omega

theorem gmore_law {w d h cell : Int} {len ls : Nat} {xs : List Bool} {sp : List V3} {p q : V3} (hw : In64 w) (hd : In64 d) (hh : In64 h) (hl : len ≤ 9223372036854775807) (hx : xs.length = len) (hp : p.fits) (hq : q.fits) :
    runK x9 (fun _ _ => none) 200 7 Try.f7 0 [mapS w d h (.slice 0 1 0 len none) (.slice 1 3 0 ls none), .agg p.sv, .agg q.sv, .int .i64 cell] [.vec true .bool xs, .vec true .vec sp] = some (.bool true, []) := by
  rw [gmore_tree]
  have hL1 : (min (len : Int) 32768).toNat ≤ len := by omega
  have hL2 : (min (len : Int) 32768).toNat ≤ 32768 := by omega
  obtain ⟨c1, c2, L, hL, c3, c4⟩ := small_facts (ls := ls) hw hd hh hl hx
  rw [hL] at hL1 hL2 ⊢
  have fp := fitsB_iff.2 hp
  have fq := fitsB_iff.2 hq
  have hS := mp_inside (w := w) (d := d) (h := h) (len := L) (s := fun j => xs.getD (0 + j) false)
  rw [c1, c2]
  by_cases h0 : L = 0
  · subst h0
    have hs : (mpOf w d h 0 fun j => xs.getD (0 + j) false).sight p q = false := by
      cases hs : (mpOf w d h 0 fun j => xs.getD (0 + j) false).sight p q with
      | false => rfl
      | true =>
        have h1 := (msight_ends hS hs).1
        rw [msight_self hS, Bool.not_eq_true', solid_parts] at h1
        have := Mp.idx_lt (m := mpOf w d h 0 fun j => xs.getD (0 + j) false) h1.1 h1.2.1 h1.2.2.1 h1.2.2.2.1 |>.2.2.2.2.2
        exact absurd this (by simp [mpOf])
    rw [c3, c4, fp, fq, hs]
    rfl
  have t1 : ((L : Int) == 0) = false := by rw [beq_eq_false_iff_ne]; omega
  have t2 : (!decide ((L : Int) = 0)) = true := by simp only [Bool.not_eq_true', decide_eq_false_iff_not]; omega
  have d3 : (decide (0 + L ≤ xs.length) && ((false || (some 0).isSome) && (decide (0 + L ≤ 9223372036854775807) && decide ((0 + L) * 1 ≤ 140737488355328)))) = true := by
    simp only [Bool.and_eq_true, decide_eq_true_eq, Option.isSome_some, Bool.or_true]
    exact ⟨by omega, trivial, by omega, by omega⟩
  have hk := and_mask (a := cell)
  generalize IntKind.i64.wrap ((BitVec.ofInt IntKind.i64.bits cell &&& BitVec.ofInt IntKind.i64.bits 16777215).toNat : Int) = k at hk ⊢
  have r0 := Int.tmod_nonneg (L : Int) hk
  have r1 := Int.tmod_lt_of_pos k (b := (L : Int)) (by omega)
  generalize k.tmod (L : Int) = r at r0 r1 ⊢
  have hlen : (List.take 0 ([] : List Bool) ++ List.take L (List.drop 0 xs)).length = L := by
    rw [List.take_zero, List.nil_append, List.drop_zero, List.length_take]; omega
  have d4 : (decide (0 ≤ r) && decide (r < ((0 + L : Nat) : Int))) = true := by
    simp only [Bool.and_eq_true, decide_eq_true_eq]; omega
  have d5 : decide (0 + r.toNat < (List.take 0 ([] : List Bool) ++ List.take L (List.drop 0 xs)).length) = true := by
    rw [hlen, decide_eq_true_eq]; omega
  have d6 : (mapOk w d h (0 + L) && (fitsB p && (fitsB q && decide (0 + (0 + L) ≤ ((List.take 0 ([] : List Bool) ++ List.take L (List.drop 0 xs)).set (0 + r.toNat) true).length)))) = true := by
    rw [List.length_set, hlen, Nat.zero_add, Nat.zero_add, c3, fp, fq]
    simp
  have d7 : (mapOk w d h L && (fitsB p && (fitsB q && decide (0 + L ≤ xs.length)))) = true := by rw [c3, fp, fq, c4]; rfl
  rw [t1, t2, d3, d4, d5, d6, d7]
  simp only [Nat.zero_add L]
  have hle : ∀ x y z, (mpOf w d h L fun j => ((List.take 0 ([] : List Bool) ++ List.take L (List.drop 0 xs)).set (0 + r.toNat) true).getD (0 + j) false).solid x y z = false → (mpOf w d h L fun j => xs.getD (0 + j) false).solid x y z = false := by
    refine solid_mono fun j hj hs => ?_
    rw [set_get (by omega) (by omega) hj] at hs
    by_cases he : j = r.toNat
    · rw [if_pos he] at hs; cases hs
    · rwa [if_neg he] at hs
  have e1 := fun h => msight_mono hS (a := p) (b := q) mp_inside hle h
  have e2 := fun h => clear_mono (a := p) (b := q) hle h
  generalize (mpOf w d h L fun j => ((List.take 0 ([] : List Bool) ++ List.take L (List.drop 0 xs)).set (0 + r.toNat) true).getD (0 + j) false) = M' at *
  generalize (mpOf w d h L fun j => xs.getD (0 + j) false) = M at *
  cases hs : M'.sight p q with
  | false =>
    cases hc : M'.clear p q with
    | false => rfl
    | true => rw [e2 hc]; rfl
  | true =>
    rw [e1 hs]
    cases hc : M'.clear p q with
    | false => rfl
    | true => rw [e2 hc]; rfl

end Go.Proofs.Ytikifgbbiffclaa
