/- The small machine: rows numbered anew, by a function. Of whatever program. -/
import Derived.Test.YtboljdeeodeeeaaVmI
namespace Go.Proofs.Ytboljdeeodeeeaa
set_option linter.unusedSimpArgs false
set_option linter.unusedVariables false
set_option maxRecDepth 100000
open Go.RowKit

mutual
def renF (τ : Nat → Nat) : SV → SV
  | .ptr id st i j => .ptr (τ id) st i j
  | .slice id st off len cap => .slice (τ id) st off len cap
  | .agg xs => .agg (renFL τ xs)
  | .tuple xs => .tuple (renFL τ xs)
  | .fn f xs => .fn f (renFL τ xs)
  | v => v
def renFL (τ : Nat → Nat) : List SV → List SV
  | [] => []
  | x :: xs => renF τ x :: renFL τ xs
end
def renRF (τ : Nat → Nat) : Row → Row
  | .own cs => .own (renFL τ cs)
  | r => r

mutual
theorem rel_renF {ρ : Rho} {τ : Nat → Nat} : ∀ (s : SV) (u : Value), Rel ρ (renF τ s) u ↔ Rel (fun i => ρ (τ i)) s u
  | .top, _ => by simp [renF, Rel]
  | .unk, _ => by simp only [renF, Rel]
  | .int .., _ => by simp only [renF, Rel]
  | .bool _, _ => by simp only [renF, Rel]
  | .ptr .., _ => by simp only [renF, Rel]
  | .nilp, _ => by simp only [renF, Rel]
  | .slice .., _ => by simp only [renF, Rel]
  | .nils, _ => by simp only [renF, Rel]
  | .agg xs, u => by
    simp only [renF, Rel]
    constructor
    · rintro ⟨vs, rfl, h⟩; exact ⟨vs, rfl, (relL_renF xs vs).1 h⟩
    · rintro ⟨vs, rfl, h⟩; exact ⟨vs, rfl, (relL_renF xs vs).2 h⟩
  | .tuple xs, u => by
    simp only [renF, Rel]
    constructor
    · rintro ⟨vs, rfl, h⟩; exact ⟨vs, rfl, (relL_renF xs vs).1 h⟩
    · rintro ⟨vs, rfl, h⟩; exact ⟨vs, rfl, (relL_renF xs vs).2 h⟩
  | .fn f xs, u => by
    simp only [renF, Rel]
    constructor
    · rintro ⟨vs, rfl, h⟩; exact ⟨vs, rfl, (relL_renF xs vs).1 h⟩
    · rintro ⟨vs, rfl, h⟩; exact ⟨vs, rfl, (relL_renF xs vs).2 h⟩
theorem relL_renF {ρ : Rho} {τ : Nat → Nat} : ∀ (s : List SV) (us : List Value), RelL ρ (renFL τ s) us ↔ RelL (fun i => ρ (τ i)) s us
  | [], _ => by simp [renFL, RelL]
  | x :: xs, us => by
    simp only [renFL, RelL]
    constructor
    · rintro ⟨v, vs, rfl, h1, h2⟩; exact ⟨v, vs, rfl, (rel_renF x v).1 h1, (relL_renF xs vs).1 h2⟩
    · rintro ⟨v, vs, rfl, h1, h2⟩; exact ⟨v, vs, rfl, (rel_renF x v).2 h1, (relL_renF xs vs).2 h2⟩
end

theorem rowAt_renRF {ρ : Rho} {τ : Nat → Nat} {id : Nat} {row : Row} {w : World} : RowAt ρ (τ id) (renRF τ row) w ↔ RowAt (fun i => ρ (τ i)) id row w := by
  cases row with
  | gone => exact Iff.rfl
  | own cs =>
    simp only [renRF, RowAt]
    constructor
    · rintro ⟨p, vs, ty, h1, h2, h3, h4, h5⟩; exact ⟨p, vs, ty, h1, h2, h3, h4, (relL_renF cs vs).1 h5⟩
    · rintro ⟨p, vs, ty, h1, h2, h3, h4, h5⟩; exact ⟨p, vs, ty, h1, h2, h3, h4, (relL_renF cs vs).2 h5⟩
  | vec ro k xs => exact Iff.rfl
theorem renRF_live {τ : Nat → Nat} {row : Row} : (renRF τ row).live = row.live := by cases row <;> rfl

/-- Where the rows of a callee lie: those that it was handed by this list, those that it made behind the caller's. -/
def atR (σ : List Nat) (n : Nat) (i : Nat) : Nat := match σ[i]? with
  | some j => j
  | none => n + (i - σ.length)
theorem atR_lt {σ : List Nat} {n i : Nat} (h : i < σ.length) : σ[i]? = some (atR σ n i) := by
  unfold atR
  rw [List.getElem?_eq_getElem h]
theorem atR_ge {σ : List Nat} {n i : Nat} (h : σ.length ≤ i) : atR σ n i = n + (i - σ.length) := by
  unfold atR
  rw [List.getElem?_eq_none h]
theorem atR_inj {σ : List Nat} {n : Nat} (hnd : σ.Nodup) (hlt : ∀ j ∈ σ, j < n) {i j : Nat} (h : atR σ n i = atR σ n j) : i = j := by
  rcases Nat.lt_or_ge i σ.length with hi | hi <;> rcases Nat.lt_or_ge j σ.length with hj | hj
  · have e1 := (List.getElem?_eq_some_iff.1 (atR_lt (n := n) hi)).2
    have e2 := (List.getElem?_eq_some_iff.1 (atR_lt (n := n) hj)).2
    have hpw := List.pairwise_iff_getElem.1 hnd
    rcases Nat.lt_trichotomy i j with h1 | h1 | h1
    · exact absurd (e1.trans (h.trans e2.symm)) (hpw i j hi hj h1)
    · exact h1
    · exact absurd (e2.trans (h.symm.trans e1.symm)) (hpw j i hj hi h1)
  · have := hlt _ (List.mem_of_getElem? (atR_lt (n := n) hi))
    rw [atR_ge hj] at h
    omega
  · have := hlt _ (List.mem_of_getElem? (atR_lt (n := n) hj))
    rw [atR_ge hi] at h
    omega
  · rw [atR_ge hi, atR_ge hj] at h
    omega

/-- What the small machine says of a function, whatever its rows' numbers are. -/
theorem fnOk_ren {P : Program} {f : Nat} {ok : Bool} {args0 : List SV} {r0 r1 : List Row} {v0 : SV} (hc : CallOk P f args0 r0 v0 r1) {σ : List Nat} {m : Nat → Option Row} {n : Nat} {W : List (Nat × Row)} (hk : σ.length = r0.length) (hnd : σ.Nodup) (hlt : ∀ j ∈ σ, j < n)
    (ha0 : ∀ i ∈ SV.idsL args0, i < r0.length) (hi0 : ∀ (i : Nat) (row : Row), r0[i]? = some row → ∀ j ∈ row.idsR, j < r0.length)
    (hm : ∀ (i : Nat) (row : Row), r0[i]? = some row → ∃ row2, m (atR σ n i) = some row2 ∧ (row.live = true → row2.live = true) ∧ (∀ ρ w, RowAt ρ (atR σ n i) row2 w → RowAt ρ (atR σ n i) (renRF (atR σ n) row) w))
    (hW : ∀ (i : Nat) (row : Row), r0[i]? = some row → row.live = true → (∃ k xs, row = .vec true k xs) ∨ ∃ row', r1[i]? = some row' ∧ (atR σ n i, renRF (atR σ n) row') ∈ W)
    (hW2 : ∀ x ∈ W, ∃ i row', i < r0.length ∧ r1[i]? = some row' ∧ x = (atR σ n i, renRF (atR σ n) row')) :
    FnOk P f (renFL (atR σ n) args0) m n { ok := ok, val := renF (atR σ n) v0, rd := σ, wr := W, nw := (r1.drop r0.length).map (renRF (atR σ n)) } := by
  intro ρ pres vargs w hargs hg ha hrd hfree
  let τ := atR σ n
  let ρ0 : Rho := fun i => if i < r0.length then ρ (τ i) else none
  have hρ0 : ∀ i, i < r0.length → ρ0 i = ρ (τ i) := fun i hi => by simp only [ρ0, if_pos hi]
  have hτlt : ∀ i, i < r0.length → τ i < n ∧ τ i ∈ σ := fun i hi => by
    have := List.mem_of_getElem? (atR_lt (n := n) (by omega : i < σ.length))
    exact ⟨hlt _ this, this⟩
  have hlen : ∀ i row, r0[i]? = some row → i < r0.length := fun i row h => (List.getElem?_eq_some_iff.1 h).1
  have hrow0 : ∀ i row, r0[i]? = some row → RowAt ρ0 i row w := by
    intro i row h
    obtain ⟨row2, h1, _, h3⟩ := hm i row h
    have hi := hlen i row h
    have h4 := h3 ρ w (hrd _ (hτlt i hi).2 _ h1).1
    exact (rowAt_renRF.1 h4).only (fun p hp => by rw [hρ0 i hi]; exact hp) (fun j hj p hp => by rw [hρ0 j (hi0 i row h j hj)]; exact hp)
  have hpres : ∀ i row, r0[i]? = some row → row.live = true → pres (τ i) := by
    intro i row h hl
    obtain ⟨row2, h1, h2, _⟩ := hm i row h
    exact (hrd _ (hτlt i (hlen i row h)).2 _ h1).2 (h2 hl)
  have hcall := hc ρ0 vargs w (RelL.only _ _ (fun i hi p hp => by rw [hρ0 i (ha0 i hi)]; exact hp) ((relL_renF args0 vargs).1 hargs)) (fun i p h => by
      simp only [ρ0] at h
      split at h
      · exact hg _ p h
      · cases h) hrow0 (fun i j p q hi hj hij hp hq hmine => by
      obtain ⟨ri, hi1, hi2⟩ := hi
      obtain ⟨rj, hj1, hj2⟩ := hj
      rw [hρ0 i (hlen i ri hi1)] at hp
      rw [hρ0 j (hlen j rj hj1)] at hq
      exact ha (τ i) (τ j) p q (hpres i ri hi1 hi2) (hpres j rj hj1 hj2) (fun h => hij (atR_inj hnd hlt h)) hp hq hmine) (fun i hi => by simp only [ρ0, if_neg (by omega : ¬ i < r0.length)])
  refine hcall.mono ?_
  rintro en w' ⟨v', ρ1, rfl, hv, hg1, hr1, ha1, hf1, hp⟩
  have hr01 : r0.length ≤ r1.length := by
    rcases Nat.lt_or_ge r1.length r0.length with h | h
    · have := hp.keep r1.length (List.getElem?_eq_none (Nat.le_refl _))
      rw [List.getElem?_eq_none_iff] at this
      omega
    · exact h
  have hL : ((r1.drop r0.length).map (renRF (atR σ n))).length = r1.length - r0.length := by simp
  let ρ' : Rho := fun j => if n ≤ j ∧ j < n + (r1.length - r0.length) then ρ1 (r0.length + (j - n)) else ρ j
  have hold : ∀ j, ¬ (n ≤ j ∧ j < n + (r1.length - r0.length)) → ρ' j = ρ j := fun j hj => by simp only [ρ', if_neg hj]
  have hnew : ∀ j, n ≤ j ∧ j < n + (r1.length - r0.length) → ρ' j = ρ1 (r0.length + (j - n)) := fun j hj => by simp only [ρ', if_pos hj]
  have h01 : ∀ i, i < r0.length → ρ1 i = ρ (τ i) := by
    intro i hi
    rw [← hρ0 i hi]
    cases h : ρ0 i with
    | some p => exact hp.le i p h
    | none =>
      cases h1 : ρ1 i with
      | none => rfl
      | some p =>
        rcases hp.dom i p h1 with h2 | h2
        · rw [h] at h2; cases h2
        · rw [List.getElem?_eq_none_iff] at h2; omega
  have hτ : ∀ i p, ρ1 i = some p → ρ' (τ i) = some p := by
    intro i p h
    rcases Nat.lt_or_ge i r0.length with hi | hi
    · rw [hold _ (by have := (hτlt i hi).1; omega), ← h01 i hi]
      exact h
    · have hi2 : i < r1.length := by
        rcases Nat.lt_or_ge i r1.length with h2 | h2
        · exact h2
        · rw [hf1 i h2] at h; cases h
      have e : τ i = n + (i - r0.length) := by show atR σ n i = _; rw [atR_ge (by omega), hk]
      rw [e, hnew _ (by omega), show r0.length + (n + (i - r0.length) - n) = i by omega]
      exact h
  have hrow1 : ∀ i row, r1[i]? = some row → RowAt ρ' (τ i) (renRF τ row) w' := by
    intro i row h
    exact rowAt_renRF.2 ((hr1 i row h).only (fun p hp => hτ i p hp) (fun j _ p hp => hτ j p hp))
  -- a block that may have changed is a written row's
  have hmay : ∀ b, mayOf ρ0 (fun i => r0[i]?) b → ∃ i q row', i < r0.length ∧ r1[i]? = some row' ∧ (τ i, renRF τ row') ∈ W ∧ pres (τ i) ∧ ρ (τ i) = some q ∧ q.mine = true ∧ q.b = b := by
    rintro b ⟨i, q, ⟨row, hrow, hl⟩, hq, hmine, rfl⟩
    have hi := hlen i row hrow
    rcases hW i row hrow hl with ⟨k, xs, rfl⟩ | ⟨row', h1, h2⟩
    · exfalso
      rcases hrow0 i _ hrow with ⟨_, he⟩ | ⟨p, hp', hro, _⟩
      · subst he
        simp [Row.live] at hl
      · rw [hq] at hp'
        cases hp'
        rw [hro rfl] at hmine
        cases hmine
    · exact ⟨i, q, row', hi, h1, h2, hpres i row hrow hl, by rw [← hρ0 i hi]; exact hq, hmine, rfl⟩
  have hnewp : ∀ j p, n ≤ j ∧ j < n + (r1.length - r0.length) → ρ' j = some p → w.heap.size ≤ p.b ∨ ∃ i q row', i < r0.length ∧ r1[i]? = some row' ∧ (τ i, renRF τ row') ∈ W ∧ pres (τ i) ∧ ρ (τ i) = some q ∧ q.mine = true ∧ q.b = p.b := by
    intro j p hj h
    rw [hnew j hj] at h
    rcases hp.new _ p (List.getElem?_eq_none (by omega)) h with h1 | h1
    · exact .inl h1
    · exact .inr (hmay _ h1)
  refine ⟨v', ρ', rfl, ?_⟩
  refine ⟨fun i p h => ?_, fun i p h => ?_, fun i p h => ?_, fun i p h1 h2 h => ?_, ?_, ?_, fun x hx => ?_, fun j row h => ?_, ?_⟩
  · rw [hold i]
    · exact h
    · rintro ⟨h1, h2⟩
      rw [(hfree i h1 (by rw [hL]; exact h2)).1] at h
      cases h
  · by_cases hj : n ≤ i ∧ i < n + (r1.length - r0.length)
    · rw [hnew i hj] at h
      exact hg1 _ p h
    · rw [hold i hj] at h
      exact Nat.lt_of_lt_of_le (hg i p h) hp.frm.size
  · by_cases hj : n ≤ i ∧ i < n + (r1.length - r0.length)
    · exact .inr (by rw [hL]; exact hj)
    · rw [hold i hj] at h
      exact .inl h
  · rw [hL] at h2
    rcases hnewp i p ⟨h1, h2⟩ h with h3 | ⟨i0, q, row', _, _, g3, g4, g5, g6, g7⟩
    · exact .inl h3
    · exact .inr ⟨_, q, g4, ⟨_, g3⟩, g5, g6, g7⟩
  · -- apart
    have side : ∀ i j p q, (pres i ∧ ∀ x ∈ W, x.1 = i → x.2.live = true) → ¬ (n ≤ i ∧ i < n + (r1.length - r0.length)) → (n ≤ j ∧ j < n + (r1.length - r0.length)) → (∀ row, ((r1.drop r0.length).map (renRF (atR σ n)))[j - n]? = some row → row.live = true) →
        ρ' i = some p → ρ' j = some q → (p.mine || q.mine) = true → p.b ≠ q.b := by
      intro i j p q hi hni hj hjl hpi hqj hmine
      have hpi' := hpi
      rw [hold i hni] at hpi
      rcases hnewp j q hj hqj with h1 | ⟨i0, q0, row', g1, g2, g3, g4, g5, g6, g7⟩
      · have := hg i p hpi; omega
      · by_cases he : i = τ i0
        · subst he
          have hl := hi.2 _ g3 rfl
          rw [renRF_live] at hl
          obtain ⟨rowj, hrj⟩ : ∃ rowj, r1[r0.length + (j - n)]? = some rowj := ⟨_, List.getElem?_eq_getElem (by omega)⟩
          have hlj : rowj.live = true := by
            have := hjl (renRF (atR σ n) rowj) (by rw [List.getElem?_map, List.getElem?_drop, hrj]; rfl)
            rw [renRF_live] at this
            exact this
          rw [hnew j hj] at hqj
          refine ha1 i0 (r0.length + (j - n)) p q ⟨row', g2, hl⟩ ⟨rowj, hrj, hlj⟩ (by omega) ?_ hqj hmine
          rw [h01 i0 g1]
          exact hpi
        · rw [← g7]
          exact ha i (τ i0) p q0 hi.1 g4 he hpi g5 (by simp [g6])
    intro i j p q hi hj hij hpi hqj hmine
    have hcase : ∀ i, presAfter pres n { ok := ok, val := renF (atR σ n) v0, rd := σ, wr := W, nw := (r1.drop r0.length).map (renRF (atR σ n)) } i → ((pres i ∧ ∀ x ∈ W, x.1 = i → x.2.live = true) ∧ ¬ (n ≤ i ∧ i < n + (r1.length - r0.length))) ∨
        ((n ≤ i ∧ i < n + (r1.length - r0.length)) ∧ ∀ row, ((r1.drop r0.length).map (renRF (atR σ n)))[i - n]? = some row → row.live = true) := by
      intro i h
      rcases h with ⟨h1, h2⟩ | ⟨h1, h2⟩
      · refine .inl ⟨⟨h1, h2⟩, fun h3 => ?_⟩
        exact (hfree i h3.1 (by rw [hL]; exact h3.2)).2 h1
      · rw [hL] at h1
        exact .inr ⟨h1, h2⟩
    rcases hcase i hi with ⟨a1, a2⟩ | ⟨a1, a2⟩ <;> rcases hcase j hj with ⟨b1, b2⟩ | ⟨b1, b2⟩
    · rw [hold i a2] at hpi
      rw [hold j b2] at hqj
      exact ha i j p q a1.1 b1.1 hij hpi hqj hmine
    · exact side i j p q a1 a2 b1 b2 hpi hqj hmine
    · exact fun h => side j i q p b1 b2 a1 a2 hqj hpi (by rw [Bool.or_comm]; exact hmine) h.symm
    · rw [hnew i a1] at hpi
      rw [hnew j b1] at hqj
      have live : ∀ i, (n ≤ i ∧ i < n + (r1.length - r0.length)) → (∀ row, ((r1.drop r0.length).map (renRF (atR σ n)))[i - n]? = some row → row.live = true) → liveAt (fun i => r1[i]?) (r0.length + (i - n)) := by
        intro i h1 h2
        obtain ⟨row, hr⟩ : ∃ row, r1[r0.length + (i - n)]? = some row := ⟨_, List.getElem?_eq_getElem (by omega)⟩
        refine ⟨row, hr, ?_⟩
        have := h2 (renRF (atR σ n) row) (by rw [List.getElem?_map, List.getElem?_drop, hr]; rfl)
        rw [renRF_live] at this
        exact this
      exact ha1 _ _ p q (live i a1 a2) (live j b1 b2) (by omega) hpi hqj hmine
  · exact (rel_renF v0 v').2 (Rel.only _ _ (fun i _ p h => hτ i p h) hv)
  · obtain ⟨i, row', _, h2, rfl⟩ := hW2 x hx
    exact hrow1 i row' h2
  · simp only [List.getElem?_map, List.getElem?_drop] at h
    cases hr : r1[r0.length + j]? with
    | none => simp [hr] at h
    | some row0 =>
      simp [hr] at h
      subst h
      have := hrow1 _ _ hr
      have e : τ (r0.length + j) = n + j := by show atR σ n _ = _; rw [atR_ge (by omega), hk]; omega
      rw [e] at this
      exact this
  · exact hp.frm.weaken fun b _ hb => by
      obtain ⟨i, q, row', _, _, g3, _, g5, g6, g7⟩ := hmay b hb
      exact ⟨_, g3, q, g5, g6, g7⟩

end Go.Proofs.Ytboljdeeodeeeaa
