/- The small machine: calls that are walked in place. Of whatever program. -/
import Derived.Test.YtikifgbbiffclaaVmG
namespace Go.Proofs.Ytikifgbbiffclaa
set_option linter.unusedSimpArgs false
set_option linter.unusedVariables false
open Go.RowKit

theorem memN_iff {x : Nat} : ∀ {l : List Nat}, memN x l = true ↔ x ∈ l
  | [] => by simp [memN]
  | y :: l => by
    rw [memN, List.mem_cons]
    cases h : Nat.beq x y with
    | true => simp [Nat.eq_of_beq_eq_true h]
    | false =>
      have := Nat.ne_of_beq_eq_false h
      simp [this, memN_iff (l := l)]

theorem mem_dedup {x : Nat} : ∀ {l : List Nat}, x ∈ dedup l ↔ x ∈ l
  | [] => by simp [dedup]
  | y :: l => by
    rw [dedup]
    cases h : memN y l with
    | true =>
      simp only [cond_true, mem_dedup (l := l), List.mem_cons]
      constructor
      · exact .inr
      · rintro (rfl | h2)
        · exact memN_iff.1 h
        · exact h2
    | false => simp [mem_dedup (l := l)]

theorem args_reach {rows : List Row} {args : List SV} {i : Nat} (h : i ∈ SV.idsL args) : i ∈ reach rows args := by
  unfold reach
  rw [mem_dedup]
  unfold reachStep
  refine List.mem_append_left _ ?_
  rw [mem_dedup]
  refine List.mem_append_left _ ?_
  rw [mem_dedup]
  exact h

theorem mask_length (rch : List Nat) : ∀ (l : List Row) (i : Nat), (maskFrom rch i l).length = l.length
  | [], _ => rfl
  | r :: l, i => by simp [maskFrom, mask_length rch l]
theorem mask_get (rch : List Nat) : ∀ (l : List Row) (i j : Nat), (maskFrom rch i l)[j]? = (l[j]?).map fun r => if i + j ∈ rch then r else .gone
  | [], i, j => by simp [maskFrom]
  | r :: l, i, 0 => by
    simp only [maskFrom, List.getElem?_cons_zero, Option.map_some, Nat.add_zero, Option.some.injEq]
    by_cases h : i ∈ rch
    · simp [memN_iff.2 h, h]
    · have : memN i rch = false := by
        cases hb : memN i rch with
        | false => rfl
        | true => exact absurd (memN_iff.1 hb) h
      simp [this, h]
  | r :: l, i, j + 1 => by
    simp only [maskFrom, List.getElem?_cons_succ, mask_get rch l]
    rw [show i + 1 + j = i + (j + 1) by omega]

/-- What a call does, in a world that holds these rows. -/
def CallOk (P : Program) (f : Nat) (args : List SV) (rows : List Row) (v : SV) (rows' : List Row) : Prop :=
  ∀ (ρ : Rho) (vargs : List Value) (w : World), RelL ρ args vargs → Good ρ w → (∀ i row, rows[i]? = some row → RowAt ρ i row w) → Apart ρ (liveAt (fun i => rows[i]?)) → (∀ i, rows.length ≤ i → ρ i = none) →
    Calls P f vargs.toArray w fun en w' => ∃ v' ρ', en = .returned v' ∧ Rel ρ' v v' ∧ Good ρ' w' ∧ (∀ i row, rows'[i]? = some row → RowAt ρ' i row w') ∧ Apart ρ' (liveAt (fun i => rows'[i]?)) ∧ (∀ i, rows'.length ≤ i → ρ' i = none) ∧
      Prg ρ (fun i => rows[i]?) w ρ' (fun i => rows'[i]?) w'

theorem wrOf_mem {old rows : List Row} {x : Nat × Row} : ∀ {l : List Nat}, x ∈ wrOf old rows l ↔ x.1 ∈ l ∧ rows[x.1]? = some x.2 ∧ ((∃ c, old[x.1]? = some (.own c)) ∨ ∃ k xs, old[x.1]? = some (.vec false k xs))
  | [] => by simp [wrOf]
  | i :: l => by
    rw [wrOf]
    have ih := wrOf_mem (x := x) (old := old) (rows := rows) (l := l)
    obtain ⟨xi, xr⟩ := x
    simp only at ih ⊢
    split
    · rename_i c r h1 h2
      rw [List.mem_cons, ih, List.mem_cons]
      constructor
      · rintro (h | h)
        · cases h; exact ⟨.inl rfl, h2, .inl ⟨c, h1⟩⟩
        · exact ⟨.inr h.1, h.2⟩
      · rintro ⟨h | h, h3, h4⟩
        · subst h; rw [h2] at h3; cases h3; exact .inl rfl
        · exact .inr ⟨h, h3, h4⟩
    · rename_i k xs r h1 h2
      rw [List.mem_cons, ih, List.mem_cons]
      constructor
      · rintro (h | h)
        · cases h; exact ⟨.inl rfl, h2, .inr ⟨k, xs, h1⟩⟩
        · exact ⟨.inr h.1, h.2⟩
      · rintro ⟨h | h, h3, h4⟩
        · subst h; rw [h2] at h3; cases h3; exact .inl rfl
        · exact .inr ⟨h, h3, h4⟩
    · rename_i h1 h2
      rw [ih, List.mem_cons]
      constructor
      · rintro ⟨h, h3⟩; exact ⟨.inr h, h3⟩
      · rintro ⟨h | h, h3, h4⟩
        · subst h
          rcases h4 with ⟨c, h4⟩ | ⟨k, xs, h4⟩
          · exact absurd h3 (by intro h5; exact h1 _ _ h4 h5)
          · exact absurd h3 (by intro h5; exact h2 _ _ _ h4 h5)
        · exact ⟨h, h3, h4⟩

theorem closedN_iff {n : Nat} {l : List Nat} : closedN n l = true ↔ ∀ i ∈ l, i < n := by
  unfold closedN
  rw [List.all_eq_true]
  constructor
  · intro h i hi; have := h i hi; simpa [Nat.blt_eq] using this
  · intro h i hi; simpa [Nat.blt_eq] using h i hi

theorem live_wr {old rows : List Row} {rch : List Nat} {i : Nat} {row : Row} {ρ : Rho} {w : World} {p : Plc} (hi : i ∈ rch) (ho : old[i]? = some row) (hl : row.live = true) (hr : RowAt ρ i row w) (hp : ρ i = some p) (hm : p.mine = true) {r : Row} (hr' : rows[i]? = some r) : (i, r) ∈ wrOf old rows rch := by
  rw [wrOf_mem]
  refine ⟨hi, hr', ?_⟩
  cases row with
  | gone => simp [Row.live] at hl
  | own c => exact .inl ⟨c, ho⟩
  | vec ro k xs =>
    cases ro with
    | false => exact .inr ⟨k, xs, ho⟩
    | true =>
      rcases hr with ⟨_, he⟩ | ⟨q, hq, hro, _⟩
      · subst he; simp [Row.live] at hl
      · rw [hp] at hq
        cases hq
        rw [hro rfl] at hm
        cases hm

theorem inl_ok {P : Program} {fid : Nat} {args : List SV} {rows rows' : List Row} {v : SV} (hc : CallOk P fid args (maskFrom (reach rows args) 0 rows) v rows') (hreach : reachOk rows (reach rows args) = true) :
    FnOk P fid args (fun i => rows[i]?) rows.length (inlEff rows (reach rows args) v rows') := by
  intro ρ pres vargs w hargs hg ha hrd hfree
  generalize hrch : reach rows args = rch at *
  have hsub : ∀ i ∈ SV.idsL args, i ∈ rch := fun i hi => hrch ▸ args_reach hi
  unfold reachOk at hreach
  rw [Bool.and_eq_true, closedN_iff] at hreach
  obtain ⟨hlt, hcl⟩ := hreach
  have hcl' : ∀ i ∈ rch, ∀ row, rows[i]? = some row → ∀ j ∈ row.idsR, j ∈ rch := by
    intro i hi row hrow j hj
    have h1 := List.all_eq_true.1 hcl i hi
    rw [List.all_eq_true] at h1
    exact memN_iff.1 (h1 j (by simpa [List.getD, hrow] using hj))
  have hrdeq : (inlEff rows rch v rows').rd = rch := by unfold inlEff; cases closedN rows.length (v.ids ++ (wrOf rows rows' rch).flatMap fun x => x.2.idsR) <;> rfl
  have hwreq : (inlEff rows rch v rows').wr = wrOf rows rows' rch := by unfold inlEff; cases closedN rows.length (v.ids ++ (wrOf rows rows' rch).flatMap fun x => x.2.idsR) <;> rfl
  have hval : (inlEff rows rch v rows').val = v := by unfold inlEff; cases closedN rows.length (v.ids ++ (wrOf rows rows' rch).flatMap fun x => x.2.idsR) <;> rfl
  rw [hrdeq] at hrd
  -- the callee's places
  let ρ0 : Rho := fun i => if i ∈ rch then ρ i else none
  have hρ0 : ∀ i p, ρ0 i = some p → ρ i = some p ∧ i ∈ rch := by
    intro i p h
    simp only [ρ0] at h
    split at h
    · exact ⟨h, by assumption⟩
    · cases h
  have hm0 : ∀ i row, (maskFrom rch 0 rows)[i]? = some row → row.live = true → i ∈ rch ∧ rows[i]? = some row := by
    intro i row h hl
    rw [mask_get, Nat.zero_add] at h
    cases hrow : rows[i]? with
    | none => simp [hrow] at h
    | some r =>
      simp only [hrow, Option.map_some, Option.some.injEq] at h
      by_cases hi : i ∈ rch
      · rw [if_pos hi] at h; subst h; exact ⟨hi, rfl⟩
      · rw [if_neg hi] at h; subst h; simp [Row.live] at hl
  have hrow0 : ∀ i row, (maskFrom rch 0 rows)[i]? = some row → RowAt ρ0 i row w := by
    intro i row h
    cases hl : row.live with
    | false =>
      cases row with
      | gone => trivial
      | own c => simp [Row.live] at hl
      | vec ro k xs =>
        refine .inl ?_
        cases ro <;> cases xs <;> simp [Row.live] at hl
        exact ⟨rfl, rfl⟩
    | true =>
      obtain ⟨hi, hrow⟩ := hm0 i row h hl
      refine (hrd i hi row hrow).1.only (fun p hp => by simp only [ρ0, if_pos hi]; exact hp) (fun j hj p hp => ?_)
      simp only [ρ0, if_pos (hcl' i hi row hrow j hj)]
      exact hp
  have hlive0 : ∀ i, liveAt (fun i => (maskFrom rch 0 rows)[i]?) i → i ∈ rch ∧ pres i ∧ ∃ row, rows[i]? = some row ∧ row.live = true := by
    rintro i ⟨row, h, hl⟩
    obtain ⟨hi, hrow⟩ := hm0 i row h hl
    exact ⟨hi, (hrd i hi row hrow).2 hl, row, hrow, hl⟩
  have hcall := hc ρ0 vargs w (RelL.only _ _ (fun i hi p hp => by simp only [ρ0, if_pos (hsub i hi)]; exact hp) hargs) (fun i p h => hg i p (hρ0 i p h).1) hrow0
    (fun i j p q hi hj hij hp hq hm => ha i j p q (hlive0 i hi).2.1 (hlive0 j hj).2.1 hij (hρ0 i p hp).1 (hρ0 j q hq).1 hm)
    (fun i hi => by
      rw [mask_length] at hi
      cases h : ρ0 i with
      | none => rfl
      | some p => have := hlt i (hρ0 i p h).2; omega)
  refine hcall.mono ?_
  rintro en w' ⟨v', ρ1, rfl, hv, hg1, hrows1, ha1, hfree1, hprg⟩
  refine ⟨v', ?_⟩
  have hlen : rows.length ≤ rows'.length := by
    rcases Nat.lt_or_ge rows'.length rows.length with h | h
    · have := hprg.keep rows'.length (by simp)
      simp only [List.getElem?_eq_none_iff, mask_length] at this
      omega
    · exact h
  have hold : ∀ i p, i < rows.length → ρ1 i = some p → ρ i = some p ∧ i ∈ rch := by
    intro i p hi hp
    rcases hprg.dom i p hp with h | h
    · exact hρ0 i p h
    · simp only [List.getElem?_eq_none_iff, mask_length] at h; omega
  have hmay : ∀ b, mayOf ρ0 (fun i => (maskFrom rch 0 rows)[i]?) b → ∃ i row p r, i ∈ rch ∧ pres i ∧ rows[i]? = some row ∧ row.live = true ∧ ρ i = some p ∧ p.mine = true ∧ p.b = b ∧ (i, r) ∈ wrOf rows rows' rch := by
    rintro b ⟨i, p, hl, hp, hm, rfl⟩
    obtain ⟨hi, hpr, row, hrow, hrl⟩ := hlive0 i hl
    have hp' := (hρ0 i p hp).1
    have hil := hlt i hi
    obtain ⟨r, hr⟩ : ∃ r, rows'[i]? = some r := ⟨rows'[i]'(by omega), List.getElem?_eq_getElem (by omega)⟩
    exact ⟨i, row, p, r, hi, hpr, hrow, hrl, hp', hm, rfl, live_wr hi hrow hrl (hrd i hi row hrow).1 hp' hm hr⟩
  have hfrm : Frm (fun b => ∃ x ∈ wrOf rows rows' rch, ∃ p, ρ x.1 = some p ∧ p.mine = true ∧ p.b = b) w w' := by
    refine hprg.frm.weaken fun b _ hb => ?_
    obtain ⟨i, row, p, r, h1, h2, h3, h4, h5, h6, h7, h8⟩ := hmay b hb
    exact ⟨(i, r), h8, p, h5, h6, h7⟩
  have hgood : Good ρ w' := fun i p h => Nat.lt_of_lt_of_le (hg i p h) hprg.frm.size
  cases hclosed : closedN rows.length (v.ids ++ (wrOf rows rows' rch).flatMap fun x => x.2.idsR) with
  | true =>
    have heff : inlEff rows rch v rows' = { val := v, rd := rch, wr := wrOf rows rows' rch, nw := [] } := by unfold inlEff; rw [hclosed]; rfl
    rw [heff]
    rw [closedN_iff] at hclosed
    refine ⟨ρ, rfl, ⟨Rho.le.refl ρ, hgood, fun _ _ h => .inl h, fun i p h1 h2 => by simp at h2; omega, ?_, ?_, ?_, by simp, hfrm⟩⟩
    · intro i j p q hi hj
      refine ha i j p q ?_ ?_
      · rcases hi with h | h
        · exact h.1
        · simp at h; omega
      · rcases hj with h | h
        · exact h.1
        · simp at h; omega
    · refine Rel.only _ _ (fun i hi p hp => (hold i p (hclosed i (List.mem_append_left _ hi)) hp).1) hv
    · intro x hx
      have hx' := wrOf_mem.1 hx
      refine (hrows1 x.1 x.2 hx'.2.1).only (fun p hp => (hold x.1 p (hlt _ hx'.1) hp).1) (fun j hj p hp => (hold j p (hclosed j (List.mem_append_right _ (List.mem_flatMap.2 ⟨x, hx, hj⟩))) hp).1)
  | false =>
    have heff : inlEff rows rch v rows' = { val := v, rd := rch, wr := wrOf rows rows' rch, nw := rows'.drop rows.length } := by unfold inlEff; rw [hclosed]; rfl
    rw [heff] at hfree ⊢
    simp only [List.length_drop] at hfree
    let ρ2 : Rho := fun i => if rows.length ≤ i ∧ i < rows'.length then ρ1 i else ρ i
    have h2new : ∀ i, rows.length ≤ i → i < rows'.length → ρ2 i = ρ1 i := fun i h1 h2 => by simp only [ρ2, if_pos (And.intro h1 h2)]
    have h2old : ∀ i, ¬ (rows.length ≤ i ∧ i < rows'.length) → ρ2 i = ρ i := fun i h => by simp only [ρ2, if_neg h]
    have hle : ρ.le ρ2 := by
      intro i p hp
      by_cases h : rows.length ≤ i ∧ i < rows'.length
      · rw [(hfree i h.1 (by omega)).1] at hp; cases hp
      · rw [h2old i h]; exact hp
    have hle1 : ρ1.le ρ2 := by
      intro i p hp
      by_cases h : rows.length ≤ i ∧ i < rows'.length
      · rw [h2new i h.1 h.2]; exact hp
      · by_cases h3 : rows'.length ≤ i
        · rw [hfree1 i h3] at hp; cases hp
        · rw [h2old i h]; exact (hold i p (by omega) hp).1
    refine ⟨ρ2, rfl, ⟨hle, ?_, ?_, ?_, ?_, Rel.mono hle1 _ _ hv, ?_, ?_, hfrm⟩⟩
    · intro i p hp
      by_cases h : rows.length ≤ i ∧ i < rows'.length
      · rw [h2new i h.1 h.2] at hp; exact hg1 i p hp
      · rw [h2old i h] at hp; exact hgood i p hp
    · intro i p hp
      by_cases h : rows.length ≤ i ∧ i < rows'.length
      · exact .inr ⟨h.1, by simp; omega⟩
      · rw [h2old i h] at hp; exact .inl hp
    · intro i p h1 h2 hp
      simp only [List.length_drop] at h2
      rw [h2new i h1 (by omega)] at hp
      rcases hprg.new i p (by simp [mask_length, h1]) hp with h | h
      · exact .inl h
      · obtain ⟨j, row, q, r, k1, k2, k3, k4, k5, k6, k7, k8⟩ := hmay _ h
        exact .inr ⟨j, q, k2, ⟨r, k8⟩, k5, k6, k7⟩
    · -- apart
      have hn : ∀ j q, rows.length ≤ j → j < rows'.length → ρ2 j = some q → (∀ row, rows'[j]? = some row → row.live = true) → ∀ i p, pres i → (∀ x ∈ wrOf rows rows' rch, x.1 = i → x.2.live = true) → ¬ (rows.length ≤ i ∧ i < rows'.length) → ρ i = some p → p.b ≠ q.b := by
        intro j q hj1 hj2 hq hjl i p hpi hwi hio hp heq
        rw [h2new j hj1 hj2] at hq
        rcases hprg.new j q (by simp [mask_length, hj1]) hq with h | h
        · have := hg i p hp; omega
        · obtain ⟨i0, row, p0, r, k1, k2, k3, k4, k5, k6, k7, k8⟩ := hmay _ h
          by_cases hii : i = i0
          · subst hii
            rw [hp] at k5
            cases k5
            have hrl := hwi _ k8 rfl
            have hri := (wrOf_mem.1 k8).2.1
            have h1 : ρ1 i = some p := hprg.le i p (by simp only [ρ0, if_pos k1]; exact hp)
            have hne : i ≠ j := by have := hlt i k1; omega
            exact ha1 i j p q ⟨r, hri, hrl⟩ ⟨rows'[j]'hj2, List.getElem?_eq_getElem hj2, hjl _ (List.getElem?_eq_getElem hj2)⟩ hne h1 hq (by simp [k6]) heq
          · exact ha i i0 p p0 hpi k2 hii hp k5 (by simp [k6]) (by rw [heq, k7])
      have split' : ∀ i p, presAfter pres rows.length { val := v, rd := rch, wr := wrOf rows rows' rch, nw := rows'.drop rows.length } i → ρ2 i = some p →
          (¬ (rows.length ≤ i ∧ i < rows'.length) ∧ ρ i = some p ∧ pres i ∧ ∀ x ∈ wrOf rows rows' rch, x.1 = i → x.2.live = true) ∨ (rows.length ≤ i ∧ i < rows'.length ∧ ρ1 i = some p ∧ ∀ row, rows'[i]? = some row → row.live = true) := by
        intro i p hpr hp
        by_cases h : rows.length ≤ i ∧ i < rows'.length
        · refine .inr ⟨h.1, h.2, by rw [← h2new i h.1 h.2]; exact hp, fun row hrow => ?_⟩
          rcases hpr with hpr | hpr
          · exact absurd hpr.1 (hfree i h.1 (by omega)).2
          · refine hpr.2 row ?_
            simp only [List.getElem?_drop]
            rw [show rows.length + (i - rows.length) = i by omega]
            exact hrow
        · refine .inl ⟨h, by rw [← h2old i h]; exact hp, ?_⟩
          rcases hpr with hpr | hpr
          · exact hpr
          · exact absurd ⟨hpr.1.1, by have := hpr.1.2; simp only [List.length_drop] at this; omega⟩ h
      intro i j p q hi hj hij hp hq hm
      rcases split' i p hi hp with ⟨h1, h2, h3, h4⟩ | ⟨h1, h2, h3, h4⟩ <;> rcases split' j q hj hq with ⟨k1, k2, k3, k4⟩ | ⟨k1, k2, k3, k4⟩
      · exact ha i j p q h3 k3 hij h2 k2 hm
      · exact hn j q k1 k2 hq k4 i p h3 h4 h1 h2
      · exact fun h => hn i p h1 h2 hp h4 j q k3 k4 k1 k2 h.symm
      · exact ha1 i j p q ⟨rows'[i]'h2, List.getElem?_eq_getElem h2, h4 _ (List.getElem?_eq_getElem h2)⟩ ⟨rows'[j]'k2, List.getElem?_eq_getElem k2, k4 _ (List.getElem?_eq_getElem k2)⟩ hij h3 k3 hm
    · intro x hx
      exact (hrows1 x.1 x.2 (wrOf_mem.1 hx).2.1).keep hle1 (fun _ _ => rfl)
    · intro j row hj
      simp only [List.getElem?_drop] at hj
      exact (hrows1 _ row hj).keep hle1 (fun _ _ => rfl)

end Go.Proofs.Ytikifgbbiffclaa
