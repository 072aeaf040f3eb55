/- TraceMore: the law's call returns true. -/
import Derived.Test.YtnfhlfmcgeaagaaVmHallP
namespace Go.Proofs.Ytnfhlfmcgeaagaa
set_option linter.unusedSimpArgs false
set_option linter.unusedVariables false
open Go.RowKit

set_option maxRecDepth 100000 in
set_option maxHeartbeats 0 in
theorem more_tree (w d h : Int) (len off : Nat) (cap : Option Nat) (xs : List Bool) (px py pz cell : Int) : runK x10b (fun _ _ => none) 200 6 Try.f6 0 [mapS w d h (.slice 0 1 off len cap) .unk, .agg [.int .i64 px, .int .i64 py, .int .i64 pz], .int .i64 cell] [.vec true .bool xs] =
  bif decide (0 ≤ min (↑len : Int) 32768) && decide (min (↑len : Int) 32768 ≤ (↑(capOr cap len) : Int)) then
    bif (↑(min (↑len : Int) 32768).toNat : Int) == 0 then
      bif mapOk w d h (min (↑len : Int) 32768).toNat && (fitsB { x := px, y := py, z := pz } && decide (off + (min (↑len : Int) 32768).toNat ≤ xs.length)) then
        some (SV.bool !(mpOf w d h (min (↑len : Int) 32768).toNat fun j => xs.getD (off + j) false).free { x := px, y := py, z := pz }, [])
      else none
    else
      bif
          decide (off + (min (↑len : Int) 32768).toNat ≤ xs.length) &&
            ((false || (some 0).isSome) && (decide (0 + (min (↑len : Int) 32768).toNat ≤ 9223372036854775807) && decide ((0 + (min (↑len : Int) 32768).toNat) * 1 ≤ 140737488355328))) then
        bif !decide ((↑(min (↑len : Int) 32768).toNat : Int) = 0) then
          bif
              decide (0 ≤ (IntKind.i64.wrap (↑(BitVec.ofInt IntKind.i64.bits cell &&& BitVec.ofInt IntKind.i64.bits 16777215).toNat : Int)).tmod (↑(min (↑len : Int) 32768).toNat : Int)) &&
                decide
                  ((IntKind.i64.wrap (↑(BitVec.ofInt IntKind.i64.bits cell &&& BitVec.ofInt IntKind.i64.bits 16777215).toNat : Int)).tmod (↑(min (↑len : Int) 32768).toNat : Int) <
                    (↑(0 + (min (↑len : Int) 32768).toNat) : Int)) then
            bif
                decide
                  (0 + ((IntKind.i64.wrap (↑(BitVec.ofInt IntKind.i64.bits cell &&& BitVec.ofInt IntKind.i64.bits 16777215).toNat : Int)).tmod (↑(min (↑len : Int) 32768).toNat : Int)).toNat <
                    (List.take 0 [] ++ List.take (min (↑len : Int) 32768).toNat (List.drop off xs)).length) then
              bif
                  mapOk w d h (0 + (min (↑len : Int) 32768).toNat) &&
                    (fitsB { x := px, y := py, z := pz } &&
                      decide
                        (0 + (0 + (min (↑len : Int) 32768).toNat) ≤
                          ((List.take 0 [] ++ List.take (min (↑len : Int) 32768).toNat (List.drop off xs)).set
                              (0 + ((IntKind.i64.wrap (↑(BitVec.ofInt IntKind.i64.bits cell &&& BitVec.ofInt IntKind.i64.bits 16777215).toNat : Int)).tmod (↑(min (↑len : Int) 32768).toNat : Int)).toNat)
                              true).length)) then
                bif
                    !(mpOf w d h (0 + (min (↑len : Int) 32768).toNat) fun j =>
                            ((List.take 0 [] ++ List.take (min (↑len : Int) 32768).toNat (List.drop off xs)).set
                                  (0 +
                                    ((IntKind.i64.wrap (↑(BitVec.ofInt IntKind.i64.bits cell &&& BitVec.ofInt IntKind.i64.bits 16777215).toNat : Int)).tmod
                                        (↑(min (↑len : Int) 32768).toNat : Int)).toNat)
                                  true).getD
                              (0 + j) false).free
                        { x := px, y := py, z := pz } then
                  some (SV.bool true, [])
                else
                  bif mapOk w d h (min (↑len : Int) 32768).toNat && (fitsB { x := px, y := py, z := pz } && decide (off + (min (↑len : Int) 32768).toNat ≤ xs.length)) then
                    some (SV.bool ((mpOf w d h (min (↑len : Int) 32768).toNat fun j => xs.getD (off + j) false).free { x := px, y := py, z := pz }), [])
                  else none
              else none
            else none
          else none
        else none
      else none
  else none := by kernel_rfl


theorem free_mono {w d h : Int} {len : Nat} {s s' : Nat → Bool} (hs : ∀ j, j < len → s j = true → s' j = true) {p : V3} (hf : (mpOf w d h len s').free p = true) : (mpOf w d h len s).free p = true := by
  rw [Mp.free, Mp.clear_iff] at hf ⊢
  unfold Mp.Clear at hf ⊢
  rcases hf with hf | hf | hf | hf
  · exact .inl hf
  · exact .inr (.inl hf)
  · exact .inr (.inr (.inl hf))
  · refine .inr (.inr (.inr fun i j k i1 i2 j1 j2 k1 k2 => ?_))
    have hsol := hf i j k i1 i2 j1 j2 k1 k2
    have hsz : (mpOf w d h len s').sized = (mpOf w d h len s).sized := rfl
    unfold Mp.solid at hsol ⊢
    rw [hsz] at hsol
    simp only [Bool.or_eq_false_iff, Bool.not_eq_false'] at hsol ⊢
    obtain ⟨⟨⟨⟨h0, h1⟩, h2⟩, h3⟩, h4⟩ := hsol
    refine ⟨⟨⟨⟨h0, h1⟩, h2⟩, h3⟩, ?_⟩
    have hidx := (Mp.idx_lt h0 h1 h2 h3).2.2.2.2.2
    cases hc : (mpOf w d h len s).s ((mpOf w d h len s).idx i j k)
    · rfl
    · have := hs _ hidx hc
      rw [← h4]
      exact this.symm

theorem free_none {w d h : Int} {s : Nat → Bool} {p : V3} (hp : p.fits) : (mpOf w d h 0 s).free p = false := by
  cases hf : (mpOf w d h 0 s).free p
  · rfl
  exfalso
  obtain ⟨_, a2, a3⟩ := ax_free (r := 26214) (s := 0) (by omega) (by omega) (by omega) hp.1
  obtain ⟨_, b2, b3⟩ := ax_free (r := 26214) (s := 0) (by omega) (by omega) (by omega) hp.2.1
  obtain ⟨_, c2, c3⟩ := ax_free (r := 58982) (s := 0) (by omega) (by omega) (by omega) hp.2.2
  rw [Mp.free, Mp.clear_iff] at hf
  unfold Mp.Clear V3.minus V3.plus boxV at hf
  rcases hf with hf | hf | hf | hf
  · exact a2 hf
  · exact b2 hf
  · exact c2 hf
  · have hsol := hf _ _ _ (Int.le_refl _) a3 (Int.le_refl _) b3 (Int.le_refl _) c3
    unfold Mp.solid at hsol
    simp only [Bool.or_eq_false_iff, Bool.not_eq_false'] at hsol
    obtain ⟨⟨⟨⟨h0, h1⟩, h2⟩, h3⟩, h4⟩ := hsol
    have hidx := (Mp.idx_lt h0 h1 h2 h3).2.2.2.2.2
    exact absurd hidx (Nat.not_lt_zero _)

theorem more_law {w d h cell : Int} {len : Nat} {xs : List Bool} {p : V3} (hw : In64 w) (hd : In64 d) (hh : In64 h) (hl : len ≤ 9223372036854775807) (hx : xs.length = len) (hp : p.fits) :
    runK x10b (fun _ _ => none) 200 6 Try.f6 0 [mapS w d h (.slice 0 1 0 len none) .unk, .agg [.int .i64 p.x, .int .i64 p.y, .int .i64 p.z], .int .i64 cell] [.vec true .bool xs] = some (.bool true, []) := by
  rw [more_tree]
  have c1 : (decide (0 ≤ min (len : Int) 32768) && decide (min (len : Int) 32768 ≤ ((capOr none len : Nat) : Int))) = true := by
    simp only [show capOr none len = len from rfl, Bool.and_eq_true, decide_eq_true_eq]; omega
  rw [c1]
  have hL1 : (min (len : Int) 32768).toNat ≤ len := by omega
  have hL2 : (min (len : Int) 32768).toNat ≤ 32768 := by omega
  generalize (min (len : Int) 32768).toNat = L at hL1 hL2 ⊢
  have c2 : (mapOk w d h L && (fitsB ⟨p.x, p.y, p.z⟩ && decide (0 + L ≤ xs.length))) = true := by
    unfold mapOk
    simp only [Bool.and_eq_true, in64B_iff, decide_eq_true_eq]
    exact ⟨⟨hw, hd, hh, by omega⟩, fitsB_iff.2 hp, by omega⟩
  have ep : (⟨p.x, p.y, p.z⟩ : V3) = p := rfl
  by_cases h0 : L = 0
  · subst h0
    rw [c2, ep, free_none hp]
    rfl
  have t1 : ((L : Int) == 0) = false := by rw [beq_eq_false_iff_ne]; omega
  have t2 : (!decide ((L : Int) = 0)) = true := by simp only [Bool.not_eq_true', decide_eq_false_iff_not]; omega
  have c3 : (decide (0 + L ≤ xs.length) && ((false || (some 0).isSome) && (decide (0 + L ≤ 9223372036854775807) && decide ((0 + L) * 1 ≤ 140737488355328)))) = true := by
    simp only [Bool.and_eq_true, decide_eq_true_eq, Option.isSome_some, Bool.or_true]
    exact ⟨by omega, trivial, by omega, by omega⟩
  have hk : 0 ≤ IntKind.i64.wrap ((BitVec.ofInt IntKind.i64.bits cell &&& BitVec.ofInt IntKind.i64.bits 16777215).toNat : Int) := by
    have h : (BitVec.ofInt IntKind.i64.bits cell &&& BitVec.ofInt IntKind.i64.bits 16777215).toNat ≤ 16777215 := by
      rw [BitVec.toNat_and]
      exact Nat.le_trans Nat.and_le_right (by decide)
    generalize (BitVec.ofInt IntKind.i64.bits cell &&& BitVec.ofInt IntKind.i64.bits 16777215).toNat = n at h
    rw [IntWalk.i64_in (n : Int) (by omega)]
    omega
  generalize IntKind.i64.wrap ((BitVec.ofInt IntKind.i64.bits cell &&& BitVec.ofInt IntKind.i64.bits 16777215).toNat : Int) = k at hk ⊢
  have r0 := Int.tmod_nonneg (L : Int) hk
  have r1 := Int.tmod_lt_of_pos k (b := (L : Int)) (by omega)
  generalize k.tmod (L : Int) = r at r0 r1 ⊢
  have hlen : (List.take 0 ([] : List Bool) ++ List.take L (List.drop 0 xs)).length = L := by
    rw [List.take_zero, List.nil_append, List.drop_zero, List.length_take]; omega
  have c4 : (decide (0 ≤ r) && decide (r < ((0 + L : Nat) : Int))) = true := by
    simp only [Bool.and_eq_true, decide_eq_true_eq]; omega
  have c5 : decide (0 + r.toNat < (List.take 0 ([] : List Bool) ++ List.take L (List.drop 0 xs)).length) = true := by
    rw [hlen, decide_eq_true_eq]; omega
  have c6 : (mapOk w d h (0 + L) && (fitsB ⟨p.x, p.y, p.z⟩ && decide (0 + (0 + L) ≤ ((List.take 0 ([] : List Bool) ++ List.take L (List.drop 0 xs)).set (0 + r.toNat) true).length))) = true := by
    rw [List.length_set, hlen, Nat.zero_add, Nat.zero_add]
    unfold mapOk
    simp only [Bool.and_eq_true, in64B_iff, decide_eq_true_eq]
    exact ⟨⟨hw, hd, hh, by omega⟩, fitsB_iff.2 hp, by omega⟩
  rw [t1, t2, c3, c4, c5, c6, c2, ep]
  simp only [cond_true, cond_false]
  rw [Nat.zero_add L]
  cases hf : (mpOf w d h L fun j => ((List.take 0 ([] : List Bool) ++ List.take L (List.drop 0 xs)).set (0 + r.toNat) true).getD (0 + j) false).free p
  · rfl
  · have := free_mono (s := fun j => xs.getD (0 + j) false) (fun j hj hs => ?_) hf
    · rw [this]; rfl
    · simp only [Nat.zero_add, List.take_zero, List.nil_append, List.drop_zero] at hs ⊢
      rw [List.getD_eq_getElem?_getD] at hs ⊢
      by_cases he : r.toNat = j
      · subst he
        rw [List.getElem?_set_self (by rw [List.length_take]; omega)]
        rfl
      · rw [List.getElem?_set_ne he, List.getElem?_take_of_lt hj]
        exact hs

end Go.Proofs.Ytnfhlfmcgeaagaa
