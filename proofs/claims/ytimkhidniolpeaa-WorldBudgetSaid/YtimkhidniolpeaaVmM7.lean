/- A law's arguments opened for the small machine: slices of Booleans. -/
import Derived.Test.YtimkhidniolpeaaVmM
namespace Go.Proofs.Ytimkhidniolpeaa
set_option linter.unusedSimpArgs false
set_option linter.unusedVariables false
set_option maxRecDepth 100000
set_option maxHeartbeats 0
open Go.ChangeShapes Go.WideShapes Go.RowKit

section
variable {H : Type} {enc : TypeId × Value → H} {w : World} {base b0 : Nat} {r : Reach} {held : Bool} {spare : Nat → Bool}

theorem open_bools2 {v : Value} {d : DataW H} {p : List MemPlace} (hval : ∃ oa len cap, v = .slice oa len cap) (h : DataW.Trod enc Try.prog w base spare held 22 v d p) :
    ∃ (oa : Option Addr) (len cap : Nat) (l : List Bool), v = .slice oa len cap ∧ len ≤ 9223372036854775807 ∧ len ≤ cap ∧ l.length = len ∧
     (len = 0 ∨ ∃ b off, oa = some ⟨b, off, none⟩ ∧ b < w.heap.size ∧ ∀ (i : Nat) (x : Bool), l[i]? = some x → ∀ (j : Nat) (s : SV), [SV.bool x][j]? = some s → w.cell? ⟨b, off + i * 1 + j, none⟩ = some (dval s)) := by
 obtain ⟨oa, len, cap, rfl⟩ := hval
 have c5 : Try.prog.cellsOf 4 = 1 := by kernel_rfl
 obtain ⟨fuel, hf⟩ := h
 rcases Deep.open_slice Try.underlying22 hf with ⟨hx, _⟩ | ⟨a, len', cap', m, n, D, Pl, hx, _, hl, hm, hmm, _, hall⟩
 · simp [Value.cells] at hx
   obtain ⟨rfl, rfl, rfl⟩ := hx
   exact ⟨none, 0, 0, [], rfl, by omega, by omega, rfl, .inl rfl⟩
 · simp [Value.cells] at hx
   obtain ⟨rfl, rfl, rfl⟩ := hx
   have hmax : maxLen = 9223372036854775807 := rfl
   have hlm : len ≤ m := by rw [hmm]; split <;> omega
   obtain ⟨F, hF⟩ := Deep.choose_lt (α := Bool) (n := len) (p := fun i x => (∀ (j : Nat) (s : SV), [SV.bool x][j]? = some s → w.cell? (a.add (i * 1 + j)) = some (dval s))) (fun i hi => by
    obtain ⟨cs, h1, h2⟩ := hall i (by omega)
    rw [c5] at h1
    obtain ⟨_, _, hc⟩ := World.cells?_some h1
    obtain ⟨x, rfl, _⟩ := DataW.trod_bool Try.underlying4 h2
    refine ⟨x, fun j s hs => ?_⟩
    have hj : j < 1 := by
     have := (List.getElem?_eq_some_iff.1 hs).1
     simpa using this
    have := hc j hj
    rw [Deep.add_add] at this
    rw [this]
    match j, hj with
    | 0, _ => simp at hs; subst hs; rfl)
   refine ⟨some a, len, cap, (List.range len).map F, rfl, by omega, hl, by simp, ?_⟩
   by_cases h0 : len = 0
   · exact .inl h0
   right
   obtain ⟨ab, ao, asp⟩ := a
   have h00 := hF 0 (by omega) 0 _ rfl
   have hsp : asp = none := by
    cases asp with
    | none => rfl
    | some s =>
     exfalso
     simp [Addr.add, World.cell?] at h00
     split at h00 <;> simp at h00
   subst hsp
   refine ⟨ab, ao, rfl, ?_, fun i x hx j s hs => ?_⟩
   · simp only [addr_add] at h00
     unfold World.cell? at h00
     cases hb : w.heap[ab]? with
     | none => simp [hb] at h00
     | some b => exact (Array.getElem?_eq_some_iff.1 hb).1
   · have hi : i < len := by have := (List.getElem?_eq_some_iff.1 hx).1; simpa using this
     have hxF : x = F i := by
      rw [List.getElem?_map, List.getElem?_range hi] at hx
      simpa using hx.symm
     subst hxF
     have := hF i hi j s hs
     simp only [addr_add] at this
     rw [Nat.add_assoc]
     exact this

theorem bool_entry {ρ : Rho} {k : Nat} {v : Value} {d : DataW H} {p : List MemPlace} (hg : Good ρ w) (hn : ∀ i, k ≤ i → ρ i = none) (hmi : ∀ i p, ρ i = some p → p.mine = false)
    (hval : ∃ oa len cap, v = .slice oa len cap) (h : DataW.Trod enc Try.prog w base spare held 22 v d p) :
    ∃ (ρ' : Rho) (len : Nat) (l : List Bool), ρ.le ρ' ∧ Rel ρ' (.slice k 1 0 len none) v ∧ len ≤ 9223372036854775807 ∧ l.length = len ∧ Good ρ' w ∧ RowAt ρ' k (.vec true .bool l) w ∧ (∀ i, k + 1 ≤ i → ρ' i = none) ∧ (∀ i p, ρ' i = some p → p.mine = false) := by
 obtain ⟨oa, len, cap, l, rfl, h1, h2, h3, h4⟩ := open_bools2 hval h
 rcases h4 with rfl | ⟨b, off, rfl, hb, hc⟩
 · have hl : l = [] := List.length_eq_zero_iff.1 h3
   subst hl
   refine ⟨ρ, 0, [], Rho.le.refl ρ, ?_, by omega, rfl, hg, .inl ⟨rfl, rfl⟩, fun i hi => hn i (by omega), hmi⟩
   simp only [Rel]
   exact .inr ⟨trivial, trivial, _, _, rfl⟩
 · have hle : ρ.le (ρ.upd k ⟨b, off, false, 0⟩) := Rho.le_upd (hn k (Nat.le_refl _))
   have hat : (ρ.upd k ⟨b, off, false, 0⟩) k = some ⟨b, off, false, 0⟩ := by simp [Rho.upd]
   refine ⟨ρ.upd k ⟨b, off, false, 0⟩, len, l, hle, ?_, h1, h3, ?_, .inr ⟨⟨b, off, false, 0⟩, hat, fun _ => rfl, fun h => (by cases h), ?_⟩, ?_, ?_⟩
   · simp only [Rel]
     exact .inl ⟨_, off, cap, hat, rfl, by simp, .inl (by simp), h2, by simp⟩
   · intro i p hp
     unfold Rho.upd at hp
     split at hp
     · cases hp; exact hb
     · exact hg i p hp
   · intro i x hx j s hs
     exact hc i x hx j s hs
   · intro i hi
     unfold Rho.upd
     rw [if_neg (by omega)]
     exact hn i (by omega)
   · intro i p hp
     unfold Rho.upd at hp
     split at hp
     · cases hp; rfl
     · exact hmi i p hp

end

end Go.Proofs.Ytimkhidniolpeaa
