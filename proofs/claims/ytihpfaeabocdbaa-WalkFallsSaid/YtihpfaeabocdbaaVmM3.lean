/- A law's arguments opened for the small machine: slices of commands. -/
import Derived.Test.YtihpfaeabocdbaaVmM2
namespace Go.Proofs.Ytihpfaeabocdbaa
set_option linter.unusedSimpArgs false
set_option linter.unusedVariables false
set_option maxRecDepth 100000
open Go.ChangeShapes Go.WideShapes Go.RowKit

section
variable {H : Type} {enc : TypeId × Value → H} {w : World} {base b0 : Nat} {r : Reach} {held : Bool} {spare : Nat → Bool}

instance : Inhabited Cm := ⟨⟨0, 0, 0, 0, 0⟩⟩

theorem trod_cm {fuel : Nat} {cs : List Value} {x : DataW H × List MemPlace} (h : DataW.trod enc Try.prog w base spare held fuel 34 cs = some x) : ∃ a : Cm, cs = [.int .u16 a.seq, .int .u8 a.buttons, .int .i8 a.dx, .int .i8 a.dy, I a.ticks] := by
  have c64 : Try.prog.cellsOf 3 = 1 := by kernel_rfl
  have c16 : Try.prog.cellsOf 31 = 1 := by kernel_rfl
  have c8 : Try.prog.cellsOf 5 = 1 := by kernel_rfl
  have ci : Try.prog.cellsOf 32 = 1 := by kernel_rfl
  have c5 : Try.prog.cellsOf 34 = 5 := by kernel_rfl
  obtain ⟨xs, k, rfl, _, hlen, _⟩ := DataW.trod_struct Try.underlying34 h
  rw [c5] at hlen
  match cs, hlen with
  | [v0, v1, v2, v3, v4], _ =>
    obtain ⟨y0, h0⟩ := trod_field Try.underlying34 h (i := 0) rfl
    obtain ⟨y1, h1⟩ := trod_field Try.underlying34 h (i := 1) rfl
    obtain ⟨y2, h2⟩ := trod_field Try.underlying34 h (i := 2) rfl
    obtain ⟨y3, h3⟩ := trod_field Try.underlying34 h (i := 3) rfl
    obtain ⟨y4, h4⟩ := trod_field Try.underlying34 h (i := 4) rfl
    obtain ⟨n0, e0, _, f0⟩ := DataW.trod_int Try.underlying31 h0
    obtain ⟨n1, e1, _, f1⟩ := DataW.trod_int Try.underlying5 h1
    obtain ⟨n2, e2, _, f2⟩ := DataW.trod_int Try.underlying32 h2
    obtain ⟨n3, e3, _, f3⟩ := DataW.trod_int Try.underlying32 h3
    obtain ⟨n4, e4, _, f4⟩ := DataW.trod_int Try.underlying3 h4
    have e0 : (([v0, v1, v2, v3, v4] : List Value).drop 0).take (Try.prog.cellsOf 31) = [.int .u16 n0] := e0
    have e1 : (([v0, v1, v2, v3, v4] : List Value).drop 1).take (Try.prog.cellsOf 5) = [.int .u8 n1] := e1
    have e2 : (([v0, v1, v2, v3, v4] : List Value).drop 2).take (Try.prog.cellsOf 32) = [.int .i8 n2] := e2
    have e3 : (([v0, v1, v2, v3, v4] : List Value).drop 3).take (Try.prog.cellsOf 32) = [.int .i8 n3] := e3
    have e4 : (([v0, v1, v2, v3, v4] : List Value).drop 4).take (Try.prog.cellsOf 3) = [I n4] := e4
    rw [c16] at e0
    rw [c8] at e1
    rw [ci] at e2 e3
    rw [c64] at e4
    simp at e0 e1 e2 e3 e4
    exact ⟨⟨n0, n1, n2, n3, n4⟩, by rw [e0, e1, e2, e3, e4]⟩

theorem open_cms {v : Value} {d : DataW H} {p : List MemPlace} (hval : ∃ oa len cap, v = .slice oa len cap) (h : DataW.Trod enc Try.prog w base spare held 40 v d p) :
    ∃ (oa : Option Addr) (len cap : Nat) (l : List Cm), v = .slice oa len cap ∧ len ≤ 9223372036854775807 ∧ len ≤ cap ∧ l.length = len ∧
      (len = 0 ∨ ∃ b off, oa = some ⟨b, off, none⟩ ∧ b < w.heap.size ∧ ∀ (i : Nat) (x : Cm), l[i]? = some x → ∀ (j : Nat) (s : SV), x.sv[j]? = some s → w.cell? ⟨b, off + i * 5 + j, none⟩ = some (dval s)) := by
  obtain ⟨oa, len, cap, rfl⟩ := hval
  have c5 : Try.prog.cellsOf 34 = 5 := by kernel_rfl
  obtain ⟨fuel, hf⟩ := h
  rcases Deep.open_slice Try.underlying40 hf with ⟨hx, _⟩ | ⟨a, len', cap', m, n, D, Pl, hx, _, hl, hm, hmm, _, hall⟩
  · simp [Value.cells] at hx
    obtain ⟨rfl, rfl, rfl⟩ := hx
    exact ⟨none, 0, 0, [], rfl, by omega, by omega, rfl, .inl rfl⟩
  · simp [Value.cells] at hx
    obtain ⟨rfl, rfl, rfl⟩ := hx
    have hmax : maxLen = 9223372036854775807 := rfl
    have hlm : len ≤ m := by rw [hmm]; split <;> omega
    obtain ⟨F, hF⟩ := Deep.choose_lt (α := Cm) (n := len) (p := fun i x => (∀ (j : Nat) (s : SV), x.sv[j]? = some s → w.cell? (a.add (i * 5 + j)) = some (dval s))) (fun i hi => by
      obtain ⟨cs, h1, h2⟩ := hall i (by omega)
      rw [c5] at h1
      obtain ⟨_, _, hc⟩ := World.cells?_some h1
      obtain ⟨x, rfl⟩ := trod_cm h2
      refine ⟨x, fun j s hs => ?_⟩
      have hj : j < 5 := by
        have := (List.getElem?_eq_some_iff.1 hs).1
        simpa [Cm.sv] using this
      have := hc j hj
      rw [Deep.add_add] at this
      rw [this]
      match j, hj with
      | 0, _ => simp [Cm.sv] at hs; subst hs; rfl
      | 1, _ => simp [Cm.sv] at hs; subst hs; rfl
      | 2, _ => simp [Cm.sv] at hs; subst hs; rfl
      | 3, _ => simp [Cm.sv] at hs; subst hs; rfl
      | 4, _ => simp [Cm.sv] at hs; subst hs; rfl)
    refine ⟨some a, len, cap, (List.range len).map F, rfl, by omega, hl, by simp, ?_⟩
    by_cases h0 : len = 0
    · exact .inl h0
    right
    obtain ⟨ab, ao, asp⟩ := a
    have h00 := hF 0 (by omega) 0 _ rfl
    have hsp : asp = none := by
      cases asp with
      | none => rfl
      | some s =>
        exfalso
        simp [Addr.add, World.cell?] at h00
        split at h00 <;> simp at h00
    subst hsp
    refine ⟨ab, ao, rfl, ?_, fun i x hx j s hs => ?_⟩
    · simp only [addr_add] at h00
      unfold World.cell? at h00
      cases hb : w.heap[ab]? with
      | none => simp [hb] at h00
      | some b => exact (Array.getElem?_eq_some_iff.1 hb).1
    · have hi : i < len := by have := (List.getElem?_eq_some_iff.1 hx).1; simpa using this
      have hxF : x = F i := by
        rw [List.getElem?_map, List.getElem?_range hi] at hx
        simpa using hx.symm
      subst hxF
      have := hF i hi j s hs
      simp only [addr_add] at this
      rw [Nat.add_assoc]
      exact this

/-- One more row of commands. -/
theorem cm_entry {ρ : Rho} {k : Nat} {v : Value} {d : DataW H} {p : List MemPlace} (hg : Good ρ w) (hn : ∀ i, k ≤ i → ρ i = none) (hmi : ∀ i p, ρ i = some p → p.mine = false)
    (hval : ∃ oa len cap, v = .slice oa len cap) (h : DataW.Trod enc Try.prog w base spare held 40 v d p) :
    ∃ (ρ' : Rho) (len : Nat) (l : List Cm), ρ.le ρ' ∧ Rel ρ' (.slice k 5 0 len none) v ∧ len ≤ 9223372036854775807 ∧ l.length = len ∧ Good ρ' w ∧ RowAt ρ' k (.vec true .cm l) w ∧ (∀ i, k + 1 ≤ i → ρ' i = none) ∧ (∀ i p, ρ' i = some p → p.mine = false) := by
  obtain ⟨oa, len, cap, l, rfl, h1, h2, h3, h4⟩ := open_cms hval h
  rcases h4 with rfl | ⟨b, off, rfl, hb, hc⟩
  · have hl : l = [] := List.length_eq_zero_iff.1 h3
    subst hl
    refine ⟨ρ, 0, [], Rho.le.refl ρ, ?_, by omega, rfl, hg, .inl ⟨rfl, rfl⟩, fun i hi => hn i (by omega), hmi⟩
    simp only [Rel]
    exact .inr ⟨trivial, trivial, _, _, rfl⟩
  · have hle : ρ.le (ρ.upd k ⟨b, off, false, 0⟩) := Rho.le_upd (hn k (Nat.le_refl _))
    have hat : (ρ.upd k ⟨b, off, false, 0⟩) k = some ⟨b, off, false, 0⟩ := by simp [Rho.upd]
    refine ⟨ρ.upd k ⟨b, off, false, 0⟩, len, l, hle, ?_, h1, h3, ?_, .inr ⟨⟨b, off, false, 0⟩, hat, fun _ => rfl, fun h => (by cases h), ?_⟩, ?_, ?_⟩
    · simp only [Rel]
      exact .inl ⟨_, off, cap, hat, rfl, by simp, .inl (by simp), h2, by simp⟩
    · intro i p hp
      unfold Rho.upd at hp
      split at hp
      · cases hp; exact hb
      · exact hg i p hp
    · intro i x hx j s hs
      exact hc i x hx j s hs
    · intro i hi
      unfold Rho.upd
      rw [if_neg (by omega)]
      exact hn i (by omega)
    · intro i p hp
      unfold Rho.upd at hp
      split at hp
      · cases hp; rfl
      · exact hmi i p hp

end

end Go.Proofs.Ytihpfaeabocdbaa
