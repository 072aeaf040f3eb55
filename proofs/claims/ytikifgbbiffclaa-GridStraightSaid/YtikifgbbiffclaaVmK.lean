/- The small machine: contracts for it, and from it. Of whatever program. -/
import Derived.Test.YtikifgbbiffclaaVmJ
namespace Go.Proofs.Ytikifgbbiffclaa
set_option linter.unusedSimpArgs false
set_option linter.unusedVariables false
open Go.RowKit

section
variable {P : Program} {X : Ctx}

/-- A call that leaves all as it was, as a contract for the small machine. -/
theorem fnOk_quiet {f : Nat} {args : List SV} {m : Nat → Option Row} {n : Nat} {rd : List Nat} {v : SV} {ok : Bool}
    (h : ∀ (ρ : Rho) (vargs : List Value) (w : World), RelL ρ args vargs → Good ρ w → (∀ id ∈ rd, ∀ row, m id = some row → RowAt ρ id row w) → ∃ rv, Rel ρ v rv ∧ Calls P f vargs.toArray w (Ret w rv)) :
    FnOk P f args m n { ok := ok, val := v, rd := rd } := by
  intro ρ pres vargs w hargs hg ha hrd _
  obtain ⟨rv, hv, hc⟩ := h ρ vargs w hargs hg (fun id hid row hrow => (hrd id hid row hrow).1)
  refine hc.mono ?_
  rintro e w' ⟨rfl, hb⟩
  refine ⟨rv, ρ, rfl, ⟨Rho.le.refl ρ, fun i p hp => Nat.lt_of_lt_of_le (hg i p hp) hb.size, fun _ _ h => .inl h, fun i p h1 h2 => by simp at h2; omega, ?_, hv, by simp, by simp, ⟨hb.os, hb.tape, hb.output, hb.size, fun b hlt _ => hb.block b hlt⟩⟩⟩
  intro i j p q hi hj
  refine ha i j p q ?_ ?_
  · rcases hi with h | h
    · exact h.1
    · simp at h; omega
  · rcases hj with h | h
    · exact h.1
    · simp at h; omega

/-- The same, of a function that takes numbers and structs of numbers alone. -/
theorem fnOk_data {f : Nat} {ok : Bool} {args : List SV} {m : Nat → Option Row} {n : Nat} {v : SV} {vargs : List Value} {rv : Value} (h1 : ∀ ρ us, RelL ρ args us → us = vargs) (h2 : ∀ ρ, Rel ρ v rv) (h : ∀ w, Calls P f vargs.toArray w (Ret w rv)) : FnOk P f args m n { ok := ok, val := v } :=
  fnOk_quiet (rd := []) fun ρ us w hargs _ _ => ⟨rv, h2 ρ, by rw [h1 ρ us hargs]; exact h w⟩

/-- What the small machine says of a function of data. -/
theorem fnOk_pure {f : Nat} {ok : Bool} {args : List SV} {m : Nat → Option Row} {n : Nat} {v : SV} {rows' : List Row} (hc : CallOk P f args [] v rows') (hi : SV.idsL args = []) (hv : v.ids = []) : FnOk P f args m n { ok := ok, val := v } := by
  intro ρ pres vargs w hargs hg ha hrd _
  have hcall := hc (fun _ => none) vargs w (RelL.only _ _ (fun i hmem => by rw [hi] at hmem; cases hmem) hargs) (fun i p h => by cases h) (fun i row h => by simp at h) (fun i j p q hi hj => by obtain ⟨row, h, _⟩ := hi; simp at h) (fun _ _ => rfl)
  refine hcall.mono ?_
  rintro e w' ⟨v', ρ', rfl, hr, _, _, _, _, hp⟩
  refine ⟨v', ρ, rfl, ⟨Rho.le.refl ρ, fun i p h => Nat.lt_of_lt_of_le (hg i p h) hp.frm.size, fun _ _ h => .inl h, fun i p h1 h2 => by simp at h2; omega, ?_, Rel.only _ _ (fun i hmem => by rw [hv] at hmem; cases hmem) hr, by simp, by simp, ?_⟩⟩
  · intro i j p q hi hj
    refine ha i j p q ?_ ?_
    · rcases hi with h | h
      · exact h.1
      · simp at h; omega
    · rcases hj with h | h
      · exact h.1
      · simp at h; omega
  · refine hp.frm.weaken fun b _ hb => ?_
    obtain ⟨i, p, hl, _⟩ := hb
    obtain ⟨row, h, _⟩ := hl
    simp at h

theorem one_unk {ρ : Rho} {s : SV} {v : Value} (h : Rel ρ s v) (h1 : s.one = true) : v.oneCell' = true ∧ v.cells = #[v] := by
  refine ⟨SV.one_rel h h1, ?_⟩
  cases s <;> simp only [SV.one, reduceCtorEq] at h1 <;> simp only [Rel] at h
  case unk => exact h.2
  case int => subst h; rfl
  case bool => subst h; rfl
  case nilp => subst h; rfl
  case nils => subst h; rfl
  case ptr => obtain ⟨p, _, rfl⟩ := h; rfl
  case slice => rcases h with ⟨p, o, c, _, rfl, _⟩ | ⟨_, _, _, _, rfl⟩ <;> rfl
  case fn => obtain ⟨vs, rfl, _⟩ := h; rfl

/-- A map as an argument. -/
def mapS (w d h : Int) (sol sp : SV) : SV := .agg [.int .i64 w, .int .i64 d, .int .i64 h, sol, sp]

/-- What the small machine says of a function that reads a map's cells. -/
theorem fnOk_map {f : Nat} {ok : Bool} {wd dd hd : Int} {len off id : Nat} {cap : Option Nat} {sp : SV} (hsp : sp.one = true) {rest : List SV} {m : Nat → Option Row} {n : Nat} {v : SV} {ro : Bool} {xs : List Bool} {rows' : List Row}
    (hc : CallOk P f (mapS wd dd hd (.slice 0 1 off len none) .unk :: rest) [.vec true .bool xs] v rows') (hi : SV.idsL rest = []) (hv : v.ids = []) (hm : m id = some (.vec ro .bool xs)) :
    FnOk P f (mapS wd dd hd (.slice id 1 off len cap) sp :: rest) m n { ok := ok, val := v, rd := [id] } := by
  intro ρ pres vargs w hargs hg ha hrd _
  have hrow := (hrd id (by simp) _ hm).1
  let ρ0 : Rho := fun i => if i = 0 then (ρ id).map (fun p => { p with mine := false }) else none
  have hρ0 : ∀ i p, ρ0 i = some p → i = 0 ∧ p.mine = false ∧ ∃ q, ρ id = some q ∧ p = { q with mine := false } := by
    intro i p h
    simp only [ρ0] at h
    split at h
    · rename_i hi0
      cases hq : ρ id with
      | none => simp [hq] at h
      | some q => simp [hq] at h; subst h; exact ⟨hi0, rfl, q, rfl, rfl⟩
    · cases h
  have hargs0 : RelL ρ0 (mapS wd dd hd (.slice 0 1 off len none) .unk :: rest) vargs := by
    cases vargs with
    | nil => simp [RelL] at hargs
    | cons u us =>
      rw [relL_cons] at hargs ⊢
      refine ⟨?_, RelL.only _ _ (fun i hmem => by rw [hi] at hmem; cases hmem) hargs.2⟩
      have h1 := hargs.1
      unfold mapS at h1 ⊢
      simp only [Rel] at h1 ⊢
      obtain ⟨vs, hu, hr⟩ := h1
      refine ⟨vs, hu, ?_⟩
      simp only [RelL, Rel] at hr ⊢
      obtain ⟨a1, l1, rfl, h1, a2, l2, rfl, h2, a3, l3, rfl, h3, a4, l4, rfl, h4, a5, l5, rfl, h5, rfl⟩ := hr
      refine ⟨_, _, rfl, h1, _, _, rfl, h2, _, _, rfl, h3, _, _, rfl, ?_, _, _, rfl, one_unk h5 hsp, rfl⟩
      rcases h4 with ⟨p, o, c, hp, hs, hcap, ho, hlc, hsz⟩ | ⟨h6, _, h7⟩
      · refine .inl ⟨{ p with mine := false }, o, c, by simp [ρ0, hp], hs, by simp, ?_, hlc, by simp⟩
        rcases ho with ho | ⟨ho, _⟩
        · exact .inl ho
        · exact .inr ⟨ho, trivial⟩
      · exact .inr ⟨h6, trivial, h7⟩
  have hrow0 : ∀ i row, ([Row.vec true .bool xs] : List Row)[i]? = some row → RowAt ρ0 i row w := by
    intro i row h
    cases i with
    | succ i => simp at h
    | zero =>
      simp at h
      subst h
      rcases hrow with ⟨_, he⟩ | ⟨p, hp, _, _, hcells⟩
      · exact .inl ⟨rfl, he⟩
      · exact .inr ⟨{ p with mine := false }, by simp [ρ0, hp], fun _ => rfl, fun h => (by cases h), hcells⟩
  have hcall := hc ρ0 vargs w hargs0 (fun i p h => by obtain ⟨_, _, q, hq, rfl⟩ := hρ0 i p h; exact hg id q hq) hrow0
    (fun i j p q _ _ hij hp hq _ => by have h1 := (hρ0 i p hp).1; have h2 := (hρ0 j q hq).1; omega)
    (fun i hi0 => by simp at hi0; simp only [ρ0]; rw [if_neg (by omega)])
  refine hcall.mono ?_
  rintro e w' ⟨v', ρ', rfl, hr, _, _, _, _, hp⟩
  refine ⟨v', ρ, rfl, ⟨Rho.le.refl ρ, fun i p h => Nat.lt_of_lt_of_le (hg i p h) hp.frm.size, fun _ _ h => .inl h, fun i p h1 h2 => by simp at h2; omega, ?_, Rel.only _ _ (fun i hmem => by rw [hv] at hmem; cases hmem) hr, by simp, by simp, ?_⟩⟩
  · intro i j p q hi hj
    refine ha i j p q ?_ ?_
    · rcases hi with h | h
      · exact h.1
      · simp at h; omega
    · rcases hj with h | h
      · exact h.1
      · simp at h; omega
  · refine hp.frm.weaken fun b _ hb => ?_
    obtain ⟨i, p, hl, hpp, hmine, _⟩ := hb
    rw [(hρ0 i p hpp).2.1] at hmine
    cases hmine

/-- A call that the small machine says returns true, and that writes nothing that was there. -/
theorem ret_of {f : Nat} {args : List SV} {rows : List Row} {b : Bool} {rows' : List Row} (hc : CallOk P f args rows (.bool b) rows') {ρ : Rho} {vargs : List Value} {w : World} (hargs : RelL ρ args vargs) (hg : Good ρ w) (hrows : ∀ i row, rows[i]? = some row → RowAt ρ i row w)
    (hfree : ∀ i, rows.length ≤ i → ρ i = none) (hm : ∀ i p, ρ i = some p → p.mine = false) : Calls P f vargs.toArray w (Ret w (.bool b)) := by
  refine (hc ρ vargs w hargs hg hrows (fun i j p q _ _ _ hp hq h => by rw [hm i p hp, hm j q hq] at h; cases h) hfree).mono ?_
  rintro e w' ⟨v', ρ', rfl, hr, _, _, _, _, hp⟩
  simp only [Rel] at hr
  subst hr
  refine ⟨rfl, hp.frm.os, hp.frm.tape, hp.frm.output, hp.frm.size, fun k hk => hp.frm.block k hk ?_⟩
  rintro ⟨i, p, _, hpp, hmine, _⟩
  rw [hm i p hpp] at hmine
  cases hmine
end
end Go.Proofs.Ytikifgbbiffclaa
