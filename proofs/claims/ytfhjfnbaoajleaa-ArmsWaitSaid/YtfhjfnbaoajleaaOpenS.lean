/- A slice of numbers as an argument, opened: its cells lie where the callee cannot change them unseen. -/
import Derived.Test.YtfhjfnbaoajleaaOpen
namespace Go.Proofs.Ytfhjfnbaoajleaa
set_option linter.unusedSimpArgs false
set_option linter.unusedVariables false
open Go.ChangeShapes Go.WideShapes Go.RowKit

theorem cell_lt {w : World} {a : Addr} {v : Value} (h : w.cell? a = some v) : a.block < w.heap.size := by
  unfold World.cell? at h
  cases hb : w.heap[a.block]? with
  | none => simp [hb] at h
  | some b => exact (Array.getElem?_eq_some_iff.1 hb).1

section
variable {H : Type} {enc : TypeId × Value → H} {P : Program} {w : World} {base b0 : Nat} {r : Reach} {held : Bool} {spare : Nat → Bool}

theorem open_i64s {t e : TypeId} {v : Value} {d : DataW H} {p : List MemPlace} (ht : P.underlying t = some (.slice e)) (he : P.underlying e = some (.int .i64)) (hc : P.cellsOf e = 1)
    (hval : Value.okWide P w r b0 t v) (h : DataW.Trod enc P w base spare held t v d p) :
    ∃ (oa : Option Addr) (len cap : Nat) (zs : List Int), v = .slice oa len cap ∧ len ≤ 9223372036854775807 ∧
      (0 < len → ∃ b off, oa = some ⟨b, off, none⟩ ∧ b < w.heap.size ∧ ∀ j, j < len → w.cell? ⟨b, off + j, none⟩ = some (.int .i64 (zs.getD j 0))) := by
  obtain ⟨a0, len, cap, rfl⟩ := okWide_slice ht hval
  obtain ⟨fuel, hf⟩ := h
  rcases open_ints ht he hc hf with ⟨hcs, _⟩ | ⟨a, len', cap', zs, hcs, _, hle, hmax, hall, _, hcell, _⟩
  · simp [Value.cells] at hcs
    obtain ⟨rfl, rfl, rfl⟩ := hcs
    exact ⟨none, 0, 0, [], rfl, by omega, fun h => absurd h (by omega)⟩
  · simp [Value.cells] at hcs
    obtain ⟨rfl, rfl, rfl⟩ := hcs
    have hm : maxLen = 9223372036854775807 := rfl
    refine ⟨some a, len, cap, zs, rfl, by omega, fun hpos => ?_⟩
    have hz : len ≤ zs.length := by rw [hall]; split <;> omega
    obtain ⟨b, off, rfl, hj⟩ := ints_at hcell (by omega)
    exact ⟨b, off, rfl, cell_lt (hj 0 (by omega)), fun j hj' => hj j (by omega)⟩
end

end Go.Proofs.Ytfhjfnbaoajleaa
