/- A law's arguments opened for the small machine: maps. -/
import Derived.Test.YtboljdeeodeeeaaVmMp
import Derived.Deep.Grids
namespace Go.Proofs.Ytboljdeeodeeeaa
set_option linter.unusedSimpArgs false
set_option linter.unusedVariables false
set_option maxRecDepth 100000
open Go.ChangeShapes Go.WideShapes Go.RowKit

section
variable {H : Type} {enc : TypeId × Value → H} {P : Program} {w : World} {base : Nat} {held : Bool} {spare : Nat → Bool}

theorem mapM_each {α β : Type} {f : α → Option β} : ∀ {l : List α} {ys : List β}, l.mapM f = some ys → ∀ (i : Nat) (x : α), l[i]? = some x → ∃ y, f x = some y
  | [], _, _, i, x, hx => by simp at hx
  | a :: l, ys, h, i, x, hx => by
    simp only [List.mapM_cons, Option.bind_eq_bind, Option.pure_def] at h
    cases hf : f a with
    | none => simp [hf] at h
    | some y =>
      cases hr : l.mapM f with
      | none => simp [hf, hr] at h
      | some ys' =>
        cases i with
        | zero => simp at hx; subst hx; exact ⟨y, hf⟩
        | succ i => exact mapM_each hr i x (by simpa using hx)

theorem trod_field {t : TypeId} {fs : Array Field} (ht : P.underlying t = some (.struct fs)) {fuel : Nat} {cs : List Value} {x : DataW H × List MemPlace} (h : DataW.trod enc P w base spare held (fuel + 1) t cs = some x) {i : Nat} {f : Field} (hf : fs[i]? = some f) :
    ∃ y, DataW.trod enc P w base spare held fuel f.type ((cs.drop f.offset).take (P.cellsOf f.type)) = some y := by
  simp only [DataW.trod, ht] at h
  have h' : (fs.toList.mapM fun f => DataW.trod enc P w base spare held fuel f.type ((cs.drop f.offset).take (P.cellsOf f.type))).isSome = true := by
    cases hm : (fs.toList.mapM fun f => DataW.trod enc P w base spare held fuel f.type ((cs.drop f.offset).take (P.cellsOf f.type))) with
    | some _ => rfl
    | none =>
      exfalso
      simp only [hm] at h
      split at h <;> simp at h
  obtain ⟨ys, hys⟩ := Option.isSome_iff_exists.1 h'
  exact mapM_each hys i f (by simpa using hf)
end

theorem arr5 {α : Type} {cs : Array α} (h : cs.size = 5) : ∃ a b c d e, cs = #[a, b, c, d, e] := by
  obtain ⟨l⟩ := cs
  match l, h with
  | [a, b, c, d, e], _ => exact ⟨a, b, c, d, e, rfl⟩

section
variable {H : Type} {enc : TypeId × Value → H} {w : World} {base b0 : Nat} {r : Reach} {held : Bool}

theorem cell_slice {P : Program} {t e : TypeId} {v : Value} (ht : P.underlying t = some (.slice e)) (h : Cell.okWide P w r base t v) : ∃ a l c, v = .slice a l c := by
  simp only [Cell.okWide, ht] at h
  cases v <;> simp_all [Cell.ok]

/-- A map: its numbers, its cells; of its spawns that they are one cell. -/
theorem open_map {v : Value} {d : DataW H} {p : List MemPlace} (hval : Value.okWide Try.prog w r b0 33 v) (h : DataW.Trod enc Try.prog w base (fun _ => true) held 33 v d p) :
    ∃ (wd dd hd : Int) (oa : Option Addr) (len cap : Nat) (xs : List Bool) (sp : Value), v = .agg #[I wd, I dd, I hd, .slice oa len cap, sp] ∧ In64 wd ∧ In64 dd ∧ In64 hd ∧ sp.oneCell' = true ∧ sp.cells = #[sp] ∧ len ≤ 9223372036854775807 ∧ len ≤ cap ∧ xs.length = len ∧
      (len = 0 ∨ ∃ b off, oa = some ⟨b, off, none⟩ ∧ b < w.heap.size ∧ ∀ j, j < len → w.cell? ⟨b, off + j, none⟩ = some (.bool (xs.getD j false))) := by
  obtain ⟨cs, rfl, hs, hc⟩ := agg_cells (ts := [3, 3, 3, 30, 31]) agg_map (by kernel_rfl) (by kernel_rfl) rfl hval
  obtain ⟨x0, x1, x2, x3, x4, rfl⟩ := arr5 hs
  obtain ⟨wd, rfl, h0⟩ := cell_i64 Try.underlying3 (hc 0 _ _ rfl rfl)
  obtain ⟨dd, rfl, h1⟩ := cell_i64 Try.underlying3 (hc 1 _ _ rfl rfl)
  obtain ⟨hd, rfl, h2⟩ := cell_i64 Try.underlying3 (hc 2 _ _ rfl rfl)
  obtain ⟨a4, l4, c4, rfl⟩ := cell_slice Try.underlying31 (hc 4 _ _ rfl rfl)
  obtain ⟨fuel, hf⟩ := h
  cases fuel with
  | zero => simp [DataW.trod] at hf
  | succ fuel =>
    obtain ⟨y, hy⟩ := trod_field Try.underlying33 hf (i := 3) rfl
    have e1 : Try.prog.cellsOf 30 = 1 := by kernel_rfl
    have hy' : DataW.trod enc Try.prog w base (fun _ => true) held fuel 30 [x3] = some y := by
      simp only [Value.cells] at hy
      have e2 : ∀ (l : List Value), ((#[I wd, I dd, I hd, x3, Value.slice a4 l4 c4] : Array Value).toList.drop 3).take 1 = [x3] := fun _ => rfl
      rw [← e2 [], ← e1]
      exact hy
    cases fuel with
    | zero => simp [DataW.trod] at hy'
    | succ fuel =>
    rcases Deep.open_bools Try.underlying30 Try.underlying4 (by kernel_rfl) hy' with ⟨hx, _⟩ | ⟨a, len, cap, B, hx, _, hl, hm, _, hcell⟩
    · simp only [List.cons.injEq, and_true] at hx
      subst hx
      exact ⟨wd, dd, hd, none, 0, 0, [], _, rfl, h0, h1, h2, rfl, rfl, by omega, by omega, rfl, .inl rfl⟩
    · simp only [List.cons.injEq, and_true] at hx
      subst hx
      have hmax : maxLen = 9223372036854775807 := rfl
      refine ⟨wd, dd, hd, some a, len, cap, (List.range len).map B, _, rfl, h0, h1, h2, rfl, rfl, by omega, hl, by simp, ?_⟩
      obtain ⟨ab, ao, asp⟩ := a
      by_cases hlen : len = 0
      · exact .inl hlen
      · right
        have h00 := hcell 0 (by omega)
        have hsp : asp = none := by
          cases asp with
          | none => rfl
          | some s =>
            exfalso
            simp [Addr.add, World.cell?] at h00
            split at h00 <;> simp at h00
        subst hsp
        refine ⟨ab, ao, rfl, ?_, fun j hj => ?_⟩
        · have := hcell 0 (by omega)
          simp only [addr_add] at this
          unfold World.cell? at this
          cases hb : w.heap[ab]? with
          | none => simp [hb] at this
          | some b => exact (Array.getElem?_eq_some_iff.1 hb).1
        · have := hcell j (by omega)
          simp only [addr_add] at this
          rw [this]
          simp [List.getD, hj]

theorem relL_one' {ρ : Rho} {a : SV} {u : Value} : RelL ρ [a] [u] ↔ Rel ρ a u := by rw [relL_cons, relL_nil]; simp

/-- A map for the small machine: its cells in row 0. -/
theorem map_entry {v : Value} {d : DataW H} {p : List MemPlace} (hval : Value.okWide Try.prog w r b0 33 v) (h : DataW.Trod enc Try.prog w base (fun _ => true) held 33 v d p) :
    ∃ (ρ : Rho) (wd dd hd : Int) (len : Nat) (xs : List Bool), Rel ρ (mapS wd dd hd (.slice 0 1 0 len none) .unk) v ∧ In64 wd ∧ In64 dd ∧ In64 hd ∧ len ≤ 9223372036854775807 ∧ xs.length = len ∧ Good ρ w ∧ RowAt ρ 0 (.vec true .bool xs) w ∧ (∀ i, 1 ≤ i → ρ i = none) ∧ (∀ i p, ρ i = some p → p.mine = false) := by
  obtain ⟨wd, dd, hd, oa, len, cap, xs, sp, rfl, h0, h1, h2, h3, h4, h5, h6, h7, h8⟩ := open_map hval h
  rcases h8 with rfl | ⟨b, off, rfl, hb, hc⟩
  · have hx : xs = [] := List.length_eq_zero_iff.1 h7
    subst hx
    refine ⟨fun _ => none, wd, dd, hd, 0, [], ?_, h0, h1, h2, by omega, rfl, fun _ _ h => (by cases h), .inl ⟨rfl, rfl⟩, fun _ _ => rfl, fun _ _ h => (by cases h)⟩
    unfold mapS
    simp only [Rel, RelL]
    exact ⟨_, rfl, _, _, rfl, rfl, _, _, rfl, rfl, _, _, rfl, rfl, _, _, rfl, .inr ⟨trivial, trivial, _, _, rfl⟩, _, _, rfl, ⟨h3, h4⟩, rfl⟩
  · refine ⟨fun i => if i = 0 then some ⟨b, off, false, 0⟩ else none, wd, dd, hd, len, xs, ?_, h0, h1, h2, h5, h7, ?_, .inr ⟨⟨b, off, false, 0⟩, by simp, fun _ => rfl, fun h => (by cases h), ?_⟩, ?_, ?_⟩
    · unfold mapS
      simp only [Rel, RelL]
      exact ⟨_, rfl, _, _, rfl, rfl, _, _, rfl, rfl, _, _, rfl, rfl, _, _, rfl, .inl ⟨⟨b, off, false, 0⟩, off, cap, by simp, rfl, by simp, .inl (by simp), h6, by simp⟩, _, _, rfl, ⟨h3, h4⟩, rfl⟩
    · intro i p hp
      simp only at hp
      split at hp
      · cases hp; exact hb
      · cases hp
    · intro i x hx j s hs
      have hx' : @getElem? (List Bool) Nat Bool _ _ xs i = some x := hx
      have hi : i < len := by have := (List.getElem?_eq_some_iff.1 hx').1; omega
      have hj : j = 0 := by have := (List.getElem?_eq_some_iff.1 hs).1; simpa [Knd.enc] using this
      subst hj
      simp [Knd.enc] at hs
      subst hs
      have := hc i hi
      simp only [Knd.st, Nat.mul_one, Nat.add_zero, dval]
      rw [this]
      rw [List.getD_eq_getElem?_getD, hx']
      rfl
    · intro i hi; simp only; rw [if_neg (by omega)]
    · intro i p hp
      simp only at hp
      split at hp
      · cases hp; rfl
      · cases hp
end
end Go.Proofs.Ytboljdeeodeeeaa
