/- GridApart: the law's call. -/
import Derived.Test.YtikifgbbiffclaaVmX9
import Derived.Test.YtikifgbbiffclaaVmRt
namespace Go.Proofs.Ytikifgbbiffclaa
set_option linter.unusedSimpArgs false
set_option linter.unusedVariables false
open Go.RowKit

noncomputable def x9r : Ctx := ctxOf [14, 15] [orcShown9, orcSolid, orcClear, orcSight, orcRight]
theorem x9r_ok : COk Try.prog x9r := ctxOf_ok (by kernel_rfl)

set_option maxRecDepth 100000 in
set_option maxHeartbeats 0 in
theorem apart_tree (w d h : Int) (len ls : Nat) (xs : List Bool) (sp : List V3) (p q : V3) (cell : Int) : runK x9r (fun _ _ => none) 200 12 Try.f12 0 [mapS w d h (.slice 0 1 0 len none) (.slice 1 3 0 ls none), .agg p.sv, .agg q.sv, .int .i64 cell] [.vec true .bool xs, .vec true .vec sp] =
  bif decide (0 ≤ min (↑len : Int) 32768) && decide (min (↑len : Int) 32768 ≤ (↑(capOr none len) : Int)) then
    bif decide (0 ≤ min (↑ls : Int) 70) && decide (min (↑ls : Int) 70 ≤ (↑(capOr none ls) : Int)) then
      bif
          mapOk w d h (min (↑len : Int) 32768).toNat &&
            (decide (0 + (min (↑len : Int) 32768).toNat ≤ xs.length) &&
              (decide (0 + (min (↑ls : Int) 70).toNat ≤ sp.length) && (decide ((min (↑ls : Int) 70).toNat ≤ 9223372036854775807) && sp.all fitsB))) then
        bif rightE ((mpOf w d h (min (↑len : Int) 32768).toNat fun j => xs.getD (0 + j) false).right (spAt sp 0) (min (↑ls : Int) 70).toNat) != 0 then some (SV.bool true, [])
        else
          bif !decide ((↑(min (↑len : Int) 32768).toNat : Int) = 0) then
            bif !decide (w = 0) then
              bif !decide (w = 0) then
                bif !decide (d = 0) then
                  bif !decide (w = 0) then
                    bif !decide (d = 0) then
                      bif
                          bif
                              (bif
                                    (bif
                                          (bif
                                                (bif
                                                      decide
                                                          (((IntKind.i64.wrap (↑(BitVec.ofInt IntKind.i64.bits cell &&& BitVec.ofInt IntKind.i64.bits 16777215).toNat : Int)).tmod
                                                                  (↑(min (↑len : Int) 32768).toNat : Int)).tmod
                                                              w ≥
                                                            min (p.x.fdiv (2 ^ min (Int.toNat 16) IntKind.i64.bits)) (q.x.fdiv (2 ^ min (Int.toNat 16) IntKind.i64.bits))) ==
                                                        true then
                                                    decide
                                                      (((IntKind.i64.wrap (↑(BitVec.ofInt IntKind.i64.bits cell &&& BitVec.ofInt IntKind.i64.bits 16777215).toNat : Int)).tmod
                                                              (↑(min (↑len : Int) 32768).toNat : Int)).tmod
                                                          w ≤
                                                        max (p.x.fdiv (2 ^ min (Int.toNat 16) IntKind.i64.bits)) (q.x.fdiv (2 ^ min (Int.toNat 16) IntKind.i64.bits)))
                                                  else false) ==
                                                  true then
                                              decide
                                                ((IntKind.i64.wrap
                                                        (((IntKind.i64.wrap (↑(BitVec.ofInt IntKind.i64.bits cell &&& BitVec.ofInt IntKind.i64.bits 16777215).toNat : Int)).tmod
                                                              (↑(min (↑len : Int) 32768).toNat : Int)).tdiv
                                                          w)).tmod
                                                    d ≥
                                                  min (p.y.fdiv (2 ^ min (Int.toNat 16) IntKind.i64.bits)) (q.y.fdiv (2 ^ min (Int.toNat 16) IntKind.i64.bits)))
                                            else false) ==
                                            true then
                                        decide
                                          ((IntKind.i64.wrap
                                                  (((IntKind.i64.wrap (↑(BitVec.ofInt IntKind.i64.bits cell &&& BitVec.ofInt IntKind.i64.bits 16777215).toNat : Int)).tmod
                                                        (↑(min (↑len : Int) 32768).toNat : Int)).tdiv
                                                    w)).tmod
                                              d ≤
                                            max (p.y.fdiv (2 ^ min (Int.toNat 16) IntKind.i64.bits)) (q.y.fdiv (2 ^ min (Int.toNat 16) IntKind.i64.bits)))
                                      else false) ==
                                      true then
                                  decide
                                    (IntKind.i64.wrap
                                        ((IntKind.i64.wrap
                                              (((IntKind.i64.wrap (↑(BitVec.ofInt IntKind.i64.bits cell &&& BitVec.ofInt IntKind.i64.bits 16777215).toNat : Int)).tmod
                                                    (↑(min (↑len : Int) 32768).toNat : Int)).tdiv
                                                w)).tdiv
                                          d) ≥
                                      min (p.z.fdiv (2 ^ min (Int.toNat 16) IntKind.i64.bits)) (q.z.fdiv (2 ^ min (Int.toNat 16) IntKind.i64.bits)))
                                else false) ==
                                true then
                            decide
                              (IntKind.i64.wrap
                                  ((IntKind.i64.wrap
                                        (((IntKind.i64.wrap (↑(BitVec.ofInt IntKind.i64.bits cell &&& BitVec.ofInt IntKind.i64.bits 16777215).toNat : Int)).tmod
                                              (↑(min (↑len : Int) 32768).toNat : Int)).tdiv
                                          w)).tdiv
                                    d) ≤
                                max (p.z.fdiv (2 ^ min (Int.toNat 16) IntKind.i64.bits)) (q.z.fdiv (2 ^ min (Int.toNat 16) IntKind.i64.bits)))
                          else false then
                        some (SV.bool true, [])
                      else
                        bif
                            decide (0 + (min (↑len : Int) 32768).toNat ≤ xs.length) &&
                              ((false || (some 0).isSome) &&
                                (decide (0 + (min (↑len : Int) 32768).toNat ≤ 9223372036854775807) && decide ((0 + (min (↑len : Int) 32768).toNat) * 1 ≤ 140737488355328))) then
                          bif
                              decide
                                  (0 ≤ (IntKind.i64.wrap (↑(BitVec.ofInt IntKind.i64.bits cell &&& BitVec.ofInt IntKind.i64.bits 16777215).toNat : Int)).tmod (↑(min (↑len : Int) 32768).toNat : Int)) &&
                                decide
                                  ((IntKind.i64.wrap (↑(BitVec.ofInt IntKind.i64.bits cell &&& BitVec.ofInt IntKind.i64.bits 16777215).toNat : Int)).tmod (↑(min (↑len : Int) 32768).toNat : Int) <
                                    (↑(0 + (min (↑len : Int) 32768).toNat) : Int)) then
                            bif
                                decide
                                  (0 +
                                      ((IntKind.i64.wrap (↑(BitVec.ofInt IntKind.i64.bits cell &&& BitVec.ofInt IntKind.i64.bits 16777215).toNat : Int)).tmod
                                          (↑(min (↑len : Int) 32768).toNat : Int)).toNat <
                                    (List.take 0 [] ++ List.take (min (↑len : Int) 32768).toNat (List.drop 0 xs)).length) then
                              bif
                                  decide
                                      (0 ≤
                                        (IntKind.i64.wrap (↑(BitVec.ofInt IntKind.i64.bits cell &&& BitVec.ofInt IntKind.i64.bits 16777215).toNat : Int)).tmod (↑(min (↑len : Int) 32768).toNat : Int)) &&
                                    decide
                                      ((IntKind.i64.wrap (↑(BitVec.ofInt IntKind.i64.bits cell &&& BitVec.ofInt IntKind.i64.bits 16777215).toNat : Int)).tmod (↑(min (↑len : Int) 32768).toNat : Int) <
                                        (↑(0 + (min (↑len : Int) 32768).toNat) : Int)) then
                                bif
                                    decide
                                      (0 +
                                          ((IntKind.i64.wrap (↑(BitVec.ofInt IntKind.i64.bits cell &&& BitVec.ofInt IntKind.i64.bits 16777215).toNat : Int)).tmod
                                              (↑(min (↑len : Int) 32768).toNat : Int)).toNat <
                                        (List.take 0 [] ++ List.take (min (↑len : Int) 32768).toNat (List.drop 0 xs)).length) then
                                  bif mapOk w d h (min (↑len : Int) 32768).toNat && (fitsB p && (fitsB q && decide (0 + (min (↑len : Int) 32768).toNat ≤ xs.length))) then
                                    bif
                                        mapOk w d h (0 + (min (↑len : Int) 32768).toNat) &&
                                          (fitsB p &&
                                            (fitsB q &&
                                              decide
                                                (0 + (0 + (min (↑len : Int) 32768).toNat) ≤
                                                  ((List.take 0 [] ++ List.take (min (↑len : Int) 32768).toNat (List.drop 0 xs)).set
                                                      (0 +
                                                        ((IntKind.i64.wrap (↑(BitVec.ofInt IntKind.i64.bits cell &&& BitVec.ofInt IntKind.i64.bits 16777215).toNat : Int)).tmod
                                                            (↑(min (↑len : Int) 32768).toNat : Int)).toNat)
                                                      !(List.take 0 [] ++ List.take (min (↑len : Int) 32768).toNat (List.drop 0 xs)).getD
                                                          (0 +
                                                            ((IntKind.i64.wrap (↑(BitVec.ofInt IntKind.i64.bits cell &&& BitVec.ofInt IntKind.i64.bits 16777215).toNat : Int)).tmod
                                                                (↑(min (↑len : Int) 32768).toNat : Int)).toNat)
                                                          Knd.bool.dflt).length))) then
                                      bif
                                          (mpOf w d h (min (↑len : Int) 32768).toNat fun j => xs.getD (0 + j) false).sight p q ==
                                            (mpOf w d h (0 + (min (↑len : Int) 32768).toNat) fun j =>
                                                  ((List.take 0 [] ++ List.take (min (↑len : Int) 32768).toNat (List.drop 0 xs)).set
                                                        (0 +
                                                          ((IntKind.i64.wrap (↑(BitVec.ofInt IntKind.i64.bits cell &&& BitVec.ofInt IntKind.i64.bits 16777215).toNat : Int)).tmod
                                                              (↑(min (↑len : Int) 32768).toNat : Int)).toNat)
                                                        !(List.take 0 [] ++ List.take (min (↑len : Int) 32768).toNat (List.drop 0 xs)).getD
                                                            (0 +
                                                              ((IntKind.i64.wrap (↑(BitVec.ofInt IntKind.i64.bits cell &&& BitVec.ofInt IntKind.i64.bits 16777215).toNat : Int)).tmod
                                                                  (↑(min (↑len : Int) 32768).toNat : Int)).toNat)
                                                            Knd.bool.dflt).getD
                                                    (0 + j) false).sight
                                              p q then
                                        bif
                                            mapOk w d h (0 + (min (↑len : Int) 32768).toNat) &&
                                              (in64B
                                                  (((IntKind.i64.wrap (↑(BitVec.ofInt IntKind.i64.bits cell &&& BitVec.ofInt IntKind.i64.bits 16777215).toNat : Int)).tmod
                                                        (↑(min (↑len : Int) 32768).toNat : Int)).tmod
                                                    w) &&
                                                (in64B
                                                    ((IntKind.i64.wrap
                                                          (((IntKind.i64.wrap (↑(BitVec.ofInt IntKind.i64.bits cell &&& BitVec.ofInt IntKind.i64.bits 16777215).toNat : Int)).tmod
                                                                (↑(min (↑len : Int) 32768).toNat : Int)).tdiv
                                                            w)).tmod
                                                      d) &&
                                                  (in64B
                                                      (IntKind.i64.wrap
                                                        ((IntKind.i64.wrap
                                                              (((IntKind.i64.wrap (↑(BitVec.ofInt IntKind.i64.bits cell &&& BitVec.ofInt IntKind.i64.bits 16777215).toNat : Int)).tmod
                                                                    (↑(min (↑len : Int) 32768).toNat : Int)).tdiv
                                                                w)).tdiv
                                                          d)) &&
                                                    decide
                                                      (0 + (0 + (min (↑len : Int) 32768).toNat) ≤
                                                        ((List.take 0 [] ++ List.take (min (↑len : Int) 32768).toNat (List.drop 0 xs)).set
                                                            (0 +
                                                              ((IntKind.i64.wrap (↑(BitVec.ofInt IntKind.i64.bits cell &&& BitVec.ofInt IntKind.i64.bits 16777215).toNat : Int)).tmod
                                                                  (↑(min (↑len : Int) 32768).toNat : Int)).toNat)
                                                            !(List.take 0 [] ++ List.take (min (↑len : Int) 32768).toNat (List.drop 0 xs)).getD
                                                                (0 +
                                                                  ((IntKind.i64.wrap (↑(BitVec.ofInt IntKind.i64.bits cell &&& BitVec.ofInt IntKind.i64.bits 16777215).toNat : Int)).tmod
                                                                      (↑(min (↑len : Int) 32768).toNat : Int)).toNat)
                                                                Knd.bool.dflt).length)))) then
                                          bif
                                              mapOk w d h (min (↑len : Int) 32768).toNat &&
                                                (in64B
                                                    (((IntKind.i64.wrap (↑(BitVec.ofInt IntKind.i64.bits cell &&& BitVec.ofInt IntKind.i64.bits 16777215).toNat : Int)).tmod
                                                          (↑(min (↑len : Int) 32768).toNat : Int)).tmod
                                                      w) &&
                                                  (in64B
                                                      ((IntKind.i64.wrap
                                                            (((IntKind.i64.wrap (↑(BitVec.ofInt IntKind.i64.bits cell &&& BitVec.ofInt IntKind.i64.bits 16777215).toNat : Int)).tmod
                                                                  (↑(min (↑len : Int) 32768).toNat : Int)).tdiv
                                                              w)).tmod
                                                        d) &&
                                                    (in64B
                                                        (IntKind.i64.wrap
                                                          ((IntKind.i64.wrap
                                                                (((IntKind.i64.wrap (↑(BitVec.ofInt IntKind.i64.bits cell &&& BitVec.ofInt IntKind.i64.bits 16777215).toNat : Int)).tmod
                                                                      (↑(min (↑len : Int) 32768).toNat : Int)).tdiv
                                                                  w)).tdiv
                                                            d)) &&
                                                      decide (0 + (min (↑len : Int) 32768).toNat ≤ xs.length)))) then
                                            some
                                              (SV.bool
                                                  !(mpOf w d h (0 + (min (↑len : Int) 32768).toNat) fun j =>
                                                            ((List.take 0 [] ++ List.take (min (↑len : Int) 32768).toNat (List.drop 0 xs)).set
                                                                  (0 +
                                                                    ((IntKind.i64.wrap (↑(BitVec.ofInt IntKind.i64.bits cell &&& BitVec.ofInt IntKind.i64.bits 16777215).toNat : Int)).tmod
                                                                        (↑(min (↑len : Int) 32768).toNat : Int)).toNat)
                                                                  !(List.take 0 [] ++ List.take (min (↑len : Int) 32768).toNat (List.drop 0 xs)).getD
                                                                      (0 +
                                                                        ((IntKind.i64.wrap (↑(BitVec.ofInt IntKind.i64.bits cell &&& BitVec.ofInt IntKind.i64.bits 16777215).toNat : Int)).tmod
                                                                            (↑(min (↑len : Int) 32768).toNat : Int)).toNat)
                                                                      Knd.bool.dflt).getD
                                                              (0 + j) false).solid
                                                        (((IntKind.i64.wrap (↑(BitVec.ofInt IntKind.i64.bits cell &&& BitVec.ofInt IntKind.i64.bits 16777215).toNat : Int)).tmod
                                                              (↑(min (↑len : Int) 32768).toNat : Int)).tmod
                                                          w)
                                                        ((IntKind.i64.wrap
                                                              (((IntKind.i64.wrap (↑(BitVec.ofInt IntKind.i64.bits cell &&& BitVec.ofInt IntKind.i64.bits 16777215).toNat : Int)).tmod
                                                                    (↑(min (↑len : Int) 32768).toNat : Int)).tdiv
                                                                w)).tmod
                                                          d)
                                                        (IntKind.i64.wrap
                                                          ((IntKind.i64.wrap
                                                                (((IntKind.i64.wrap (↑(BitVec.ofInt IntKind.i64.bits cell &&& BitVec.ofInt IntKind.i64.bits 16777215).toNat : Int)).tmod
                                                                      (↑(min (↑len : Int) 32768).toNat : Int)).tdiv
                                                                  w)).tdiv
                                                            d)) ==
                                                      (mpOf w d h (min (↑len : Int) 32768).toNat fun j => xs.getD (0 + j) false).solid
                                                        (((IntKind.i64.wrap (↑(BitVec.ofInt IntKind.i64.bits cell &&& BitVec.ofInt IntKind.i64.bits 16777215).toNat : Int)).tmod
                                                              (↑(min (↑len : Int) 32768).toNat : Int)).tmod
                                                          w)
                                                        ((IntKind.i64.wrap
                                                              (((IntKind.i64.wrap (↑(BitVec.ofInt IntKind.i64.bits cell &&& BitVec.ofInt IntKind.i64.bits 16777215).toNat : Int)).tmod
                                                                    (↑(min (↑len : Int) 32768).toNat : Int)).tdiv
                                                                w)).tmod
                                                          d)
                                                        (IntKind.i64.wrap
                                                          ((IntKind.i64.wrap
                                                                (((IntKind.i64.wrap (↑(BitVec.ofInt IntKind.i64.bits cell &&& BitVec.ofInt IntKind.i64.bits 16777215).toNat : Int)).tmod
                                                                      (↑(min (↑len : Int) 32768).toNat : Int)).tdiv
                                                                  w)).tdiv
                                                            d)),
                                                [])
                                          else none
                                        else none
                                      else some (SV.bool false, [])
                                    else none
                                  else none
                                else none
                              else none
                            else none
                          else none
                        else none
                    else none
                  else none
                else none
              else none
            else none
          else none
      else none
    else none
  else none := by kernel_rfl

/-- A cell's number, and back. -/
theorem cell_parts {w d L k : Int} (hw : 1 ≤ w) (hd : 1 ≤ d) (hk : 0 ≤ k) (hkL : k < L) {h : Int} (hL : L = w * d * h) : (k / w / d * d + k / w % d) * w + k % w = k ∧ (0 ≤ k % w ∧ k % w < w) ∧ (0 ≤ k / w % d ∧ k / w % d < d) ∧ (0 ≤ k / w / d ∧ k / w / d < h) := by
  have e1 := Int.mul_ediv_add_emod k w
  have e2 := Int.mul_ediv_add_emod (k / w) d
  have m1 := Int.emod_nonneg k (show w ≠ 0 by omega)
  have m2 := Int.emod_lt_of_pos k (show 0 < w by omega)
  have m3 := Int.emod_nonneg (k / w) (show d ≠ 0 by omega)
  have m4 := Int.emod_lt_of_pos (k / w) (show 0 < d by omega)
  have n1 := Int.ediv_nonneg hk (show 0 ≤ w by omega)
  have n2 := Int.ediv_nonneg n1 (show 0 ≤ d by omega)
  have n3 : k / w < d * h := by
    rw [Int.ediv_lt_iff_lt_mul (by omega)]
    have : d * h * w = w * d * h := by grind
    omega
  have n4 : k / w / d < h := by
    rw [Int.ediv_lt_iff_lt_mul (by omega), Int.mul_comm]
    exact n3
  refine ⟨?_, ⟨m1, m2⟩, ⟨m3, m4⟩, n2, n4⟩
  rw [Int.mul_comm (k / w / d) d, e2, Int.mul_comm]
  exact e1
theorem cell_same {w d x y z k : Int} (hw : 1 ≤ w) (hd : 1 ≤ d) (hx : 0 ≤ x ∧ x < w) (hy : 0 ≤ y ∧ y < d) (hk : (z * d + y) * w + x = k) : x = k % w ∧ y = k / w % d ∧ z = k / w / d := by
  subst hk
  have h1 : ((z * d + y) * w + x) % w = x := by
    rw [Int.add_comm, Int.add_mul_emod_self_right]
    exact Int.emod_eq_of_lt hx.1 hx.2
  have h2 : ((z * d + y) * w + x) / w = z * d + y := by
    rw [Int.add_comm, Int.add_mul_ediv_right _ _ (by omega), Int.ediv_eq_zero_of_lt hx.1 hx.2, Int.zero_add]
  rw [h1, h2]
  refine ⟨rfl, ?_, ?_⟩
  · rw [Int.add_comm, Int.add_mul_emod_self_right]
    exact (Int.emod_eq_of_lt hy.1 hy.2).symm
  · rw [Int.add_comm, Int.add_mul_ediv_right _ _ (by omega), Int.ediv_eq_zero_of_lt hy.1 hy.2, Int.zero_add]

theorem and_mask {a : Int} : 0 ≤ IntKind.i64.wrap ((BitVec.ofInt IntKind.i64.bits a &&& BitVec.ofInt IntKind.i64.bits 16777215).toNat : Int) := (mask_in (a := a) (c := 16777215) 16777215 rfl (by omega)).1

set_option maxHeartbeats 0 in
theorem apart_law {w d h cell : Int} {len ls : Nat} {xs : List Bool} {sp : List V3} {p q : V3} (hw : In64 w) (hd : In64 d) (hh : In64 h) (hl : len ≤ 9223372036854775807) (hx : xs.length = len) (hls : ls ≤ 9223372036854775807) (hy : sp.length = ls) (hf : ∀ p ∈ sp, p.fits) (hp : p.fits) (hq : q.fits) :
    runK x9r (fun _ _ => none) 200 12 Try.f12 0 [mapS w d h (.slice 0 1 0 len none) (.slice 1 3 0 ls none), .agg p.sv, .agg q.sv, .int .i64 cell] [.vec true .bool xs, .vec true .vec sp] = some (.bool true, []) := by
  rw [apart_tree]
  have hL1 : (min (len : Int) 32768).toNat ≤ len := by omega
  have hL2 : (min (len : Int) 32768).toNat ≤ 32768 := by omega
  obtain ⟨c1, c2, L, hL, c3, c4⟩ := small_facts (ls := ls) hw hd hh hl hx
  rw [hL] at hL1 hL2 ⊢
  have fp := fitsB_iff.2 hp
  have fq := fitsB_iff.2 hq
  have c5 : decide (0 + (min (ls : Int) 70).toNat ≤ sp.length) = true := by rw [decide_eq_true_eq]; omega
  have c6 : decide ((min (ls : Int) 70).toNat ≤ 9223372036854775807) = true := by rw [decide_eq_true_eq]; omega
  have c7 : sp.all fitsB = true := List.all_eq_true.2 fun p hp => fitsB_iff.2 (hf p hp)
  have hk := and_mask (a := cell)
  rw [c1, c2, c3, c4, c5, c6, c7]
  simp only [Bool.and_true, cond_true]
  cases hR : (mpOf w d h L fun j => xs.getD (0 + j) false).right (spAt sp 0) (min (ls : Int) 70).toNat with
  | false => rfl
  | true =>
  rw [show (rightE true != 0) = false from rfl, cond_false]
  have hsz : (mpOf w d h L fun j => xs.getD (0 + j) false).sized = true := by
    unfold Mp.right at hR
    simp only [Bool.and_eq_true] at hR
    exact hR.1.1
  have hsz0 := hsz
  unfold Mp.sized sideB mpOf at hsz
  simp only [Bool.and_eq_true, decide_eq_true_eq, beq_iff_eq] at hsz
  obtain ⟨⟨⟨⟨w1, w2⟩, d1, d2⟩, h1, h2⟩, hvol⟩ := hsz
  have hL0 : 1 ≤ (L : Int) := by
    rw [hvol]
    have a1 : 1 * 1 ≤ w * d := Int.mul_le_mul w1 d1 (by omega) (by omega)
    have a2 : 1 * 1 ≤ w * d * h := Int.mul_le_mul (by omega) h1 (by omega) (by omega)
    omega
  have t2 : (!decide ((L : Int) = 0)) = true := by simp only [Bool.not_eq_true', decide_eq_false_iff_not]; omega
  have tw : (!decide (w = 0)) = true := by simp only [Bool.not_eq_true', decide_eq_false_iff_not]; omega
  have td : (!decide (d = 0)) = true := by simp only [Bool.not_eq_true', decide_eq_false_iff_not]; omega
  generalize IntKind.i64.wrap ((BitVec.ofInt IntKind.i64.bits cell &&& BitVec.ofInt IntKind.i64.bits 16777215).toNat : Int) = kk at hk ⊢
  have r0 := Int.tmod_nonneg (L : Int) hk
  have r1 := Int.tmod_lt_of_pos kk (b := (L : Int)) (by omega)
  generalize kk.tmod (L : Int) = r at r0 r1 ⊢
  obtain ⟨p1, p2, p3, p4⟩ := cell_parts (h := h) w1 d1 r0 r1 hvol
  have n1 := Int.ediv_nonneg r0 (show 0 ≤ w by omega)
  have n2 : r / w ≤ r := Int.ediv_le_self _ r0
  have e1 : r.tmod w = r % w := Int.tmod_eq_emod_of_nonneg r0
  have e2 : IntKind.i64.wrap (r.tdiv w) = r / w := by rw [Int.tdiv_eq_ediv_of_nonneg r0, IntWalk.i64_in _ (by omega)]
  have e3 : (r / w).tmod d = r / w % d := Int.tmod_eq_emod_of_nonneg n1
  have n3 : r / w / d ≤ r / w := Int.ediv_le_self _ n1
  have e4 : IntKind.i64.wrap ((r / w).tdiv d) = r / w / d := by rw [Int.tdiv_eq_ediv_of_nonneg n1, IntWalk.i64_in _ (by omega)]
  rw [t2, tw, td, e1, e2, e3, e4]
  have hlen : (List.take 0 ([] : List Bool) ++ List.take L (List.drop 0 xs)).length = L := by
    rw [List.take_zero, List.nil_append, List.drop_zero, List.length_take]; omega
  have f3 : (true && ((false || (some 0).isSome) && (decide (0 + L ≤ 9223372036854775807) && decide ((0 + L) * 1 ≤ 140737488355328)))) = true := by
    simp only [Bool.and_eq_true, decide_eq_true_eq, Option.isSome_some, Bool.or_true]
    exact ⟨trivial, trivial, by omega, by omega⟩
  have f4 : (decide (0 ≤ r) && decide (r < ((0 + L : Nat) : Int))) = true := by
    simp only [Bool.and_eq_true, decide_eq_true_eq]; omega
  have f5 : decide (0 + r.toNat < (List.take 0 ([] : List Bool) ++ List.take L (List.drop 0 xs)).length) = true := by
    rw [hlen, decide_eq_true_eq]; omega
  have hB : (List.take 0 ([] : List Bool) ++ List.take L (List.drop 0 xs)).getD (0 + r.toNat) Knd.bool.dflt = xs.getD (0 + r.toNat) false := by
    show (List.take 0 ([] : List Bool) ++ List.take L (List.drop 0 xs)).getD (0 + r.toNat) false = xs.getD (0 + r.toNat) false
    simp only [Nat.zero_add, List.take_zero, List.nil_append, List.drop_zero]
    rw [List.getD_eq_getElem?_getD, List.getD_eq_getElem?_getD, List.getElem?_take_of_lt (by omega)]
  have f6 : decide (0 + (0 + L) ≤ ((List.take 0 ([] : List Bool) ++ List.take L (List.drop 0 xs)).set (0 + r.toNat) !xs.getD (0 + r.toNat) false).length) = true := by
    rw [List.length_set, hlen, decide_eq_true_eq]; omega
  have ia : ∀ x : Int, 0 ≤ x → x ≤ 40000 → in64B x = true := fun x h1 h2 => by rw [in64B_iff]; unfold In64; omega
  rw [f3, f4, f5, hB]
  simp only [Nat.zero_add L]
  simp only [Nat.zero_add L] at f6
  have hS := mp_inside (w := w) (d := d) (h := h) (len := L) (s := fun j => xs.getD (0 + j) false)
  have hS' := mp_inside (w := w) (d := d) (h := h) (len := L) (s := fun j => ((List.take 0 ([] : List Bool) ++ List.take L (List.drop 0 xs)).set (0 + r.toNat) !xs.getD (0 + r.toNat) false).getD (0 + j) false)
  have hsz' : (mpOf w d h L fun j => ((List.take 0 ([] : List Bool) ++ List.take L (List.drop 0 xs)).set (0 + r.toNat) !xs.getD (0 + r.toNat) false).getD (0 + j) false).sized = true := hsz0
  have sgen : ∀ (s : Nat → Bool), (mpOf w d h L s).sized = true → ∀ x y z : Int, (mpOf w d h L s).solid x y z = (!inB x w || !inB y d || !inB z h || s ((z * d + y) * w + x).toNat) := by
    intro s hs x y z
    unfold Mp.solid
    rw [hs]
    rfl
  have inb : ∀ a b : Int, inB a b = true ↔ 0 ≤ a ∧ a < b := fun a b => by unfold inB; simp
  simp only [cond_true]
  refine bif_law (fun _ => rfl) (fun hbox => ?_)
  simp only [and_form, div16] at hbox
  have same : (mpOf w d h L fun j => xs.getD (0 + j) false).sight p q = (mpOf w d h L fun j => ((List.take 0 ([] : List Bool) ++ List.take L (List.drop 0 xs)).set (0 + r.toNat) !xs.getD (0 + r.toNat) false).getD (0 + j) false).sight p q := by
    refine msight_same hS hS' fun x y z hb => ?_
    rw [sgen _ hsz0, sgen _ hsz']
    by_cases hi : inB x w = true ∧ inB y d = true ∧ inB z h = true
    · obtain ⟨i1, i2, i3⟩ := hi
      have hlt := (Mp.idx_lt (m := mpOf w d h L fun j => xs.getD (0 + j) false) hsz0 i1 i2 i3).2.2.2.2
      have hlt2 : ((z * d + y) * w + x).toNat < L := hlt.2
      rw [i1, i2, i3, set_get (by omega) (by omega) hlt2]
      rw [if_neg ?_]
      intro he
      rw [inb] at i1 i2 i3
      have hpos : (z * d + y) * w + x = r := by
        have h0 : 0 ≤ (z * d + y) * w + x := by
          have := Int.mul_nonneg i3.1 (show 0 ≤ d by omega)
          have := Int.mul_nonneg (show 0 ≤ z * d + y by omega) (show 0 ≤ w by omega)
          omega
        omega
      obtain ⟨q1, q2, q3⟩ := cell_same w1 d1 i1 i2 hpos
      unfold InBox at hb
      rw [q1, q2, q3] at hb
      simp only [Bool.and_eq_false_iff, decide_eq_false_iff_not] at hbox
      omega
    · have : (!inB x w || !inB y d || !inB z h) = true := by
        simp only [Bool.or_eq_true, Bool.not_eq_true']
        cases h1 : inB x w <;> cases h2 : inB y d <;> cases h3 : inB z h <;> simp_all
      rw [this]
      rfl
  have o1 : (mpOf w d h L fun j => xs.getD (0 + j) false).solid (r % w) (r / w % d) (r / w / d) = xs.getD (0 + r.toNat) false := by
    rw [sgen _ hsz0, (inb _ _).2 p2, (inb _ _).2 p3, (inb _ _).2 p4, p1]
    rfl
  have o2 : (mpOf w d h L fun j => ((List.take 0 ([] : List Bool) ++ List.take L (List.drop 0 xs)).set (0 + r.toNat) !xs.getD (0 + r.toNat) false).getD (0 + j) false).solid (r % w) (r / w % d) (r / w / d) = !xs.getD (0 + r.toNat) false := by
    rw [sgen _ hsz', (inb _ _).2 p2, (inb _ _).2 p3, (inb _ _).2 p4, p1, set_get (by omega) (by omega) (by omega), if_pos rfl]
    rfl
  rw [← same, o1, o2]
  simp only [c3, f6, fp, fq, ia _ p2.1 (by omega), ia _ p3.1 (by omega), ia _ p4.1 (by omega), Bool.and_true, cond_true, beq_self_eq_true]
  cases xs.getD (0 + r.toNat) false <;> rfl

end Go.Proofs.Ytikifgbbiffclaa
