/- A law's arguments opened for the small machine: slices of players. -/
import Derived.Test.YtboljdeeodeeeaaVmM2
import Derived.OpenShut
namespace Go.Proofs.Ytboljdeeodeeeaa
set_option linter.unusedSimpArgs false
set_option linter.unusedVariables false
set_option maxRecDepth 100000
open Go.ChangeShapes Go.WideShapes Go.RowKit

section
variable {H : Type} {enc : TypeId × Value → H} {w : World} {base b0 : Nat} {r : Reach} {held : Bool} {spare : Nat → Bool}

theorem in64_wf {n : Int} (h : (Lit.int .i64 n).wf = true) : In64 n := by
  unfold Lit.wf at h
  simpa [In64, IntKind.min, IntKind.max, IntKind.signed, IntKind.bits] using h
set_option maxHeartbeats 0 in
theorem trod_pl {fuel : Nat} {cs : List Value} {x : DataW H × List MemPlace} (h : DataW.trod enc Try.prog w base spare held fuel 26 cs = some x) : ∃ p : Pl, cs = [I p.id, I p.pos.x, I p.pos.y, I p.pos.z, I p.vel.x, I p.vel.y, I p.vel.z, .bool p.ground, I p.health, I p.armour, I p.score, I p.a0, I p.a1, I p.wait, I p.dead] ∧ p.pos.fits := by
  have c64 : Try.prog.cellsOf 3 = 1 := by kernel_rfl
  have cb : Try.prog.cellsOf 4 = 1 := by kernel_rfl
  have c3 : Try.prog.cellsOf 23 = 3 := by kernel_rfl
  have c2 : Try.prog.cellsOf 24 = 2 := by kernel_rfl
  have c15 : Try.prog.cellsOf 26 = 15 := by kernel_rfl
  obtain ⟨xs, k, rfl, _, hlen, _⟩ := DataW.trod_struct Try.underlying26 h
  rw [c15] at hlen
  match cs, hlen with
  | [v0, v1, v2, v3, v4, v5, v6, v7, v8, v9, v10, v11, v12, v13, v14], _ =>
    obtain ⟨y0, h0⟩ := trod_field Try.underlying26 h (i := 0) rfl
    obtain ⟨y1, h1⟩ := trod_field Try.underlying26 h (i := 1) rfl
    obtain ⟨y2, h2⟩ := trod_field Try.underlying26 h (i := 2) rfl
    obtain ⟨y3, h3⟩ := trod_field Try.underlying26 h (i := 3) rfl
    obtain ⟨y4, h4⟩ := trod_field Try.underlying26 h (i := 4) rfl
    obtain ⟨y5, h5⟩ := trod_field Try.underlying26 h (i := 5) rfl
    obtain ⟨y6, h6⟩ := trod_field Try.underlying26 h (i := 6) rfl
    obtain ⟨y7, h7⟩ := trod_field Try.underlying26 h (i := 7) rfl
    obtain ⟨y8, h8⟩ := trod_field Try.underlying26 h (i := 8) rfl
    obtain ⟨y9, h9⟩ := trod_field Try.underlying26 h (i := 9) rfl
    obtain ⟨n0, e0, _, f0⟩ := DataW.trod_int Try.underlying3 h0
    obtain ⟨q1, e1, f1⟩ := trod_vec h1
    obtain ⟨q2, e2, f2⟩ := trod_vec h2
    obtain ⟨n3, e3, _⟩ := DataW.trod_bool Try.underlying4 h3
    obtain ⟨n4, e4, _, f4⟩ := DataW.trod_int Try.underlying3 h4
    obtain ⟨n5, e5, _, f5⟩ := DataW.trod_int Try.underlying3 h5
    obtain ⟨n6, e6, _, f6⟩ := DataW.trod_int Try.underlying3 h6
    obtain ⟨n8, e8, _, f8⟩ := DataW.trod_int Try.underlying3 h8
    obtain ⟨n9, e9, _, f9⟩ := DataW.trod_int Try.underlying3 h9
    obtain ⟨us, m, _, _, _, hul, hua⟩ := DataW.trod_array Try.underlying24 h7
    have e7 : (([v0, v1, v2, v3, v4, v5, v6, v7, v8, v9, v10, v11, v12, v13, v14] : List Value).drop 11).take (Try.prog.cellsOf 24) = [v11, v12] := by rw [c2]; rfl
    have g0 := hua 0 (by omega)
    have g1 := hua 1 (by omega)
    rw [List.getElem?_eq_getElem (by omega)] at g0 g1
    obtain ⟨m0, d0, _, _⟩ := DataW.trod_int Try.underlying3 g0
    obtain ⟨m1, d1, _, _⟩ := DataW.trod_int Try.underlying3 g1
    have d0 : (((([v0, v1, v2, v3, v4, v5, v6, v7, v8, v9, v10, v11, v12, v13, v14] : List Value).drop 11).take (Try.prog.cellsOf 24)).drop (0 * Try.prog.cellsOf 3)).take (Try.prog.cellsOf 3) = [I m0] := d0
    have d1 : (((([v0, v1, v2, v3, v4, v5, v6, v7, v8, v9, v10, v11, v12, v13, v14] : List Value).drop 11).take (Try.prog.cellsOf 24)).drop (1 * Try.prog.cellsOf 3)).take (Try.prog.cellsOf 3) = [I m1] := d1
    rw [e7, c64] at d0 d1
    have e0 : (([v0, v1, v2, v3, v4, v5, v6, v7, v8, v9, v10, v11, v12, v13, v14] : List Value).drop 0).take (Try.prog.cellsOf 3) = [I n0] := e0
    have e1 : (([v0, v1, v2, v3, v4, v5, v6, v7, v8, v9, v10, v11, v12, v13, v14] : List Value).drop 1).take (Try.prog.cellsOf 23) = [I q1.x, I q1.y, I q1.z] := e1
    have e2 : (([v0, v1, v2, v3, v4, v5, v6, v7, v8, v9, v10, v11, v12, v13, v14] : List Value).drop 4).take (Try.prog.cellsOf 23) = [I q2.x, I q2.y, I q2.z] := e2
    have e3 : (([v0, v1, v2, v3, v4, v5, v6, v7, v8, v9, v10, v11, v12, v13, v14] : List Value).drop 7).take (Try.prog.cellsOf 4) = [.bool n3] := e3
    have e4 : (([v0, v1, v2, v3, v4, v5, v6, v7, v8, v9, v10, v11, v12, v13, v14] : List Value).drop 8).take (Try.prog.cellsOf 3) = [I n4] := e4
    have e5 : (([v0, v1, v2, v3, v4, v5, v6, v7, v8, v9, v10, v11, v12, v13, v14] : List Value).drop 9).take (Try.prog.cellsOf 3) = [I n5] := e5
    have e6 : (([v0, v1, v2, v3, v4, v5, v6, v7, v8, v9, v10, v11, v12, v13, v14] : List Value).drop 10).take (Try.prog.cellsOf 3) = [I n6] := e6
    have e8 : (([v0, v1, v2, v3, v4, v5, v6, v7, v8, v9, v10, v11, v12, v13, v14] : List Value).drop 13).take (Try.prog.cellsOf 3) = [I n8] := e8
    have e9 : (([v0, v1, v2, v3, v4, v5, v6, v7, v8, v9, v10, v11, v12, v13, v14] : List Value).drop 14).take (Try.prog.cellsOf 3) = [I n9] := e9
    rw [c64] at e0 e4 e5 e6 e8 e9
    rw [c3] at e1 e2
    rw [cb] at e3
    simp at e0 e1 e2 e3 e4 e5 e6 e8 e9 d0 d1
    exact ⟨⟨n0, q1, q2, n3, n4, n5, n6, m0, m1, n8, n9⟩, by rw [e0, e1.1, e1.2.1, e1.2.2, e2.1, e2.2.1, e2.2.2, e3, e4, e5, e6, d0, d1, e8, e9], f1⟩

instance : Inhabited Pl := ⟨⟨0, ⟨0, 0, 0⟩, ⟨0, 0, 0⟩, false, 0, 0, 0, 0, 0, 0, 0⟩⟩
set_option maxHeartbeats 0 in
theorem open_pls {v : Value} {d : DataW H} {p : List MemPlace} (hval : ∃ oa len cap, v = .slice oa len cap) (h : DataW.Trod enc Try.prog w base spare held 34 v d p) :
    ∃ (oa : Option Addr) (len cap : Nat) (l : List Pl), v = .slice oa len cap ∧ len ≤ 9223372036854775807 ∧ len ≤ cap ∧ l.length = len ∧ (∀ x ∈ l, x.pos.fits) ∧
      (len = 0 ∨ ∃ b off, oa = some ⟨b, off, none⟩ ∧ b < w.heap.size ∧ ∀ (i : Nat) (x : Pl), l[i]? = some x → ∀ (j : Nat) (s : SV), x.sv[j]? = some s → w.cell? ⟨b, off + i * 15 + j, none⟩ = some (dval s)) := by
  obtain ⟨oa, len, cap, rfl⟩ := hval
  have c15 : Try.prog.cellsOf 26 = 15 := by kernel_rfl
  obtain ⟨fuel, hf⟩ := h
  rcases Deep.open_slice Try.underlying34 hf with ⟨hx, _⟩ | ⟨a, len', cap', m, n, D, P0, hx, _, hl, hm, hmm, _, hall⟩
  · simp [Value.cells] at hx
    obtain ⟨rfl, rfl, rfl⟩ := hx
    exact ⟨none, 0, 0, [], rfl, by omega, by omega, rfl, (by simp), .inl rfl⟩
  · simp [Value.cells] at hx
    obtain ⟨rfl, rfl, rfl⟩ := hx
    have hmax : maxLen = 9223372036854775807 := rfl
    have hlm : len ≤ m := by rw [hmm]; split <;> omega
    obtain ⟨F, hF⟩ := Deep.choose_lt (α := Pl) (n := len) (p := fun i x => (∀ (j : Nat) (s : SV), x.sv[j]? = some s → w.cell? (a.add (i * 15 + j)) = some (dval s)) ∧ x.pos.fits) (fun i hi => by
      obtain ⟨cs, h1, h2⟩ := hall i (by omega)
      rw [c15] at h1
      obtain ⟨_, _, hc⟩ := World.cells?_some h1
      obtain ⟨x, rfl, hxf⟩ := trod_pl h2
      refine ⟨x, fun j s hs => ?_, hxf⟩
      have hj : j < 15 := by
        have := (List.getElem?_eq_some_iff.1 hs).1
        simpa [Pl.sv] using this
      have := hc j hj
      rw [Deep.add_add] at this
      rw [this]
      match j, hj with
      | 0, _ => simp [Pl.sv] at hs; subst hs; rfl
      | 1, _ => simp [Pl.sv] at hs; subst hs; rfl
      | 2, _ => simp [Pl.sv] at hs; subst hs; rfl
      | 3, _ => simp [Pl.sv] at hs; subst hs; rfl
      | 4, _ => simp [Pl.sv] at hs; subst hs; rfl
      | 5, _ => simp [Pl.sv] at hs; subst hs; rfl
      | 6, _ => simp [Pl.sv] at hs; subst hs; rfl
      | 7, _ => simp [Pl.sv] at hs; subst hs; rfl
      | 8, _ => simp [Pl.sv] at hs; subst hs; rfl
      | 9, _ => simp [Pl.sv] at hs; subst hs; rfl
      | 10, _ => simp [Pl.sv] at hs; subst hs; rfl
      | 11, _ => simp [Pl.sv] at hs; subst hs; rfl
      | 12, _ => simp [Pl.sv] at hs; subst hs; rfl
      | 13, _ => simp [Pl.sv] at hs; subst hs; rfl
      | 14, _ => simp [Pl.sv] at hs; subst hs; rfl)
    refine ⟨some a, len, cap, (List.range len).map F, rfl, by omega, hl, by simp, fun x hx => (by obtain ⟨i, hi, rfl⟩ := List.mem_map.1 hx; exact (hF i (List.mem_range.1 hi)).2), ?_⟩
    by_cases h0 : len = 0
    · exact .inl h0
    right
    obtain ⟨ab, ao, asp⟩ := a
    have h00 := (hF 0 (by omega)).1 0 _ rfl
    have hsp : asp = none := by
      cases asp with
      | none => rfl
      | some s =>
        exfalso
        simp [Addr.add, World.cell?] at h00
        split at h00 <;> simp at h00
    subst hsp
    refine ⟨ab, ao, rfl, ?_, fun i x hx j s hs => ?_⟩
    · simp only [addr_add] at h00
      unfold World.cell? at h00
      cases hb : w.heap[ab]? with
      | none => simp [hb] at h00
      | some b => exact (Array.getElem?_eq_some_iff.1 hb).1
    · have hi : i < len := by have := (List.getElem?_eq_some_iff.1 hx).1; simpa using this
      have hxF : x = F i := by
        rw [List.getElem?_map, List.getElem?_range hi] at hx
        simpa using hx.symm
      subst hxF
      have := (hF i hi).1 j s hs
      simp only [addr_add] at this
      rw [Nat.add_assoc]
      exact this

/-- One more row of players. -/
theorem pl_entry {ρ : Rho} {k : Nat} {v : Value} {d : DataW H} {p : List MemPlace} (hg : Good ρ w) (hn : ∀ i, k ≤ i → ρ i = none) (hmi : ∀ i p, ρ i = some p → p.mine = false)
    (hval : ∃ oa len cap, v = .slice oa len cap) (h : DataW.Trod enc Try.prog w base spare held 34 v d p) :
    ∃ (ρ' : Rho) (len : Nat) (l : List Pl), ρ.le ρ' ∧ Rel ρ' (.slice k 15 0 len none) v ∧ len ≤ 9223372036854775807 ∧ l.length = len ∧ Good ρ' w ∧ RowAt ρ' k (.vec true .pl l) w ∧ (∀ i, k + 1 ≤ i → ρ' i = none) ∧ (∀ i p, ρ' i = some p → p.mine = false) ∧ (∀ x ∈ l, x.pos.fits) := by
  obtain ⟨oa, len, cap, l, rfl, h1, h2, h3, hf, h4⟩ := open_pls hval h
  rcases h4 with rfl | ⟨b, off, rfl, hb, hc⟩
  · have hl : l = [] := List.length_eq_zero_iff.1 h3
    subst hl
    refine ⟨ρ, 0, [], Rho.le.refl ρ, ?_, by omega, rfl, hg, .inl ⟨rfl, rfl⟩, fun i hi => hn i (by omega), hmi, by simp⟩
    simp only [Rel]
    exact .inr ⟨trivial, trivial, _, _, rfl⟩
  · have hle : ρ.le (ρ.upd k ⟨b, off, false, 0⟩) := Rho.le_upd (hn k (Nat.le_refl _))
    have hat : (ρ.upd k ⟨b, off, false, 0⟩) k = some ⟨b, off, false, 0⟩ := by simp [Rho.upd]
    refine ⟨ρ.upd k ⟨b, off, false, 0⟩, len, l, hle, ?_, h1, h3, ?_, .inr ⟨⟨b, off, false, 0⟩, hat, fun _ => rfl, fun h => (by cases h), ?_⟩, ?_, ?_, hf⟩
    · simp only [Rel]
      exact .inl ⟨_, off, cap, hat, rfl, by simp, .inl (by simp), h2, by simp⟩
    · intro i p hp
      unfold Rho.upd at hp
      split at hp
      · cases hp; exact hb
      · exact hg i p hp
    · intro i x hx j s hs
      exact hc i x hx j s hs
    · intro i hi
      unfold Rho.upd
      rw [if_neg (by omega)]
      exact hn i (by omega)
    · intro i p hp
      unfold Rho.upd at hp
      split at hp
      · cases hp; rfl
      · exact hmi i p hp

end

end Go.Proofs.Ytboljdeeodeeeaa
