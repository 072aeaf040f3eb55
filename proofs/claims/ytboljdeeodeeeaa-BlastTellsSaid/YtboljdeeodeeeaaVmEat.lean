/- The small machine: contracts that take a row of one's own, and give one back (the same one, or a new one). -/
import Derived.Test.YtboljdeeodeeeaaVmFh
namespace Go.Proofs.Ytboljdeeodeeeaa
set_option linter.unusedSimpArgs false
set_option linter.unusedVariables false
set_option maxRecDepth 100000
open Go.RowKit

theorem fnOk_eat {P : Program} {f : Nat} {ok : Bool} {args0 : List SV} {k : Knd} {xs ys : List k.T} {r1 : List Row} {d len : Nat} {cap : Option Nat} (hc : CallOk P f args0 [.vec false k xs] (.slice d k.st 0 len cap) r1) (ha0 : ∀ i ∈ SV.idsL args0, i < 1) (hrow : r1[d]? = some (.vec false k ys))
    {m : Nat → Option Row} {id n : Nat} (hid : id < n) (hm : m id = some (.vec false k xs)) :
    FnOk P f (renFL (atR [id] n) args0) m n { ok := ok, val := .slice n k.st 0 len none, rd := [id], wr := [(id, .gone)], nw := [.vec false k ys] } := by
  intro ρ pres vargs w hargs hg hap hrd hfree
  have hfn := (hfree n (Nat.le_refl _) (by simp)).1
  have hnp := (hfree n (Nat.le_refl _) (by simp)).2
  obtain ⟨hr0, hpres⟩ := hrd id (by simp) _ hm
  have hpres := hpres rfl
  obtain ⟨q, hq, _, hqro, hqcell⟩ : ∃ q : Plc, ρ id = some q ∧ (false = true → q.mine = false) ∧ (false = false → q.mine = true ∧ q.base = 0 ∧ ∃ (vs : List Value) (ty : TypeId), w.heap[q.b]? = some (.cells vs.toArray ty (0, 0)) ∧ xs.length * k.st ≤ vs.length ∧ vs.length = q.size) ∧
      ∀ (i : Nat) (x : k.T), xs[i]? = some x → ∀ (j : Nat) (s : SV), (k.enc x)[j]? = some s → w.cell? ⟨q.b, q.base + i * k.st + j, none⟩ = some (dval s) := by
    rcases hr0 with ⟨h, _⟩ | h
    · cases h
    · exact h
  have hqm := (hqro rfl).1
  let ρ0 : Rho := fun i => if i = 0 then ρ id else none
  have h00 : ρ0 0 = some q := by simp only [ρ0, if_pos]; exact hq
  have hz : ∀ i p, ρ0 i = some p → i = 0 ∧ p = q := by
    intro i p h
    simp only [ρ0] at h
    split at h
    · rename_i hi
      rw [hq] at h
      cases h
      exact ⟨hi, rfl⟩
    · cases h
  have hcall := hc ρ0 vargs w (RelL.only _ _ (fun i hi p hp => by
      have h1 := ha0 i hi
      obtain rfl : i = 0 := by omega
      rw [h00]
      have h2 : ρ (atR [id] n 0) = some p := hp
      rw [show atR [id] n 0 = id from rfl, hq] at h2
      exact h2) ((relL_renF args0 vargs).1 hargs)) (fun i p h => by obtain ⟨_, rfl⟩ := hz i p h; exact hg id _ hq) (fun i row h => by
      match i, h with
      | 0, h => simp at h; subst h; exact .inr ⟨q, h00, by simp, hqro, hqcell⟩
      | i + 1, h => simp at h)
    (fun i j p p' _ _ hij hp hp' _ => by
      obtain ⟨h1, _⟩ := hz i p hp
      obtain ⟨h2, _⟩ := hz j p' hp'
      omega)
    (fun i hi => by simp at hi; simp only [ρ0]; rw [if_neg (by omega)])
  refine hcall.mono ?_
  rintro e w' ⟨v', ρ1, rfl, hr, hg1, hr1, _, _, hp⟩
  obtain ⟨p, hp1, _, hpro, hpcell⟩ : ∃ p : Plc, ρ1 d = some p ∧ (false = true → p.mine = false) ∧ (false = false → p.mine = true ∧ p.base = 0 ∧ ∃ (vs : List Value) (ty : TypeId), w'.heap[p.b]? = some (.cells vs.toArray ty (0, 0)) ∧ ys.length * k.st ≤ vs.length ∧ vs.length = p.size) ∧
      ∀ (i : Nat) (x : k.T), ys[i]? = some x → ∀ (j : Nat) (s : SV), (k.enc x)[j]? = some s → w'.cell? ⟨p.b, p.base + i * k.st + j, none⟩ = some (dval s) := by
    rcases hr1 d _ hrow with ⟨h, _⟩ | h
    · cases h
    · exact h
  have hmay : ∀ b, mayOf ρ0 (fun i => ([.vec false k xs] : List Row)[i]?) b → q.b = b := by
    rintro b ⟨i, p', _, h3, _, h5⟩
    obtain ⟨_, rfl⟩ := hz i p' h3
    exact h5
  have hwhere : w.heap.size ≤ p.b ∨ q.b = p.b := by
    rcases Nat.eq_zero_or_pos d with h0 | h0
    · subst h0
      have := hp.le 0 q h00
      rw [hp1] at this
      cases this
      exact .inr rfl
    · rcases hp.new d p (by
          match d, h0 with
          | d + 1, _ => rfl) hp1 with h | h
      · exact .inl h
      · exact .inr (hmay _ h)
  have hat : (ρ.upd n p) n = some p := by simp [Rho.upd]
  have hne : ∀ i, i ≠ n → (ρ.upd n p) i = ρ i := fun i hi => by simp [Rho.upd, hi]
  refine ⟨v', ρ.upd n p, rfl, ⟨fun i p' h => ?_, fun i p' h => ?_, fun i p' h => ?_, fun i p' h1 h2 h => ?_, ?_, ?_, fun x hx => ?_, fun j row h => ?_, ?_⟩⟩
  · rw [hne i (fun hi => by subst hi; rw [hfn] at h; cases h)]
    exact h
  · by_cases hi : i = n
    · subst hi
      rw [hat] at h
      cases h
      exact hg1 d p hp1
    · rw [hne i hi] at h
      exact Nat.lt_of_lt_of_le (hg i p' h) hp.frm.size
  · by_cases hi : i = n
    · exact .inr (by subst hi; simp)
    · rw [hne i hi] at h
      exact .inl h
  · have hi : i = n := by simp at h2; omega
    subst hi
    rw [hat] at h
    cases h
    rcases hwhere with h3 | h3
    · exact .inl h3
    · exact .inr ⟨id, q, hpres, ⟨_, List.mem_cons_self ..⟩, hq, hqm, h3⟩
  · have old : ∀ i, presAfter pres n { ok := ok, val := .slice n k.st 0 len none, rd := [id], wr := [(id, .gone)], nw := [.vec false k ys] } i → i ≠ n → pres i ∧ i ≠ id := by
      intro i h hi
      rcases h with h | h
      · refine ⟨h.1, fun he => ?_⟩
        have := h.2 (id, .gone) (List.mem_cons_self ..) he.symm
        cases this
      · have := h.1; simp at this; omega
    have key : ∀ j p', pres j → j ≠ id → ρ j = some p' → p.b ≠ p'.b := by
      intro j p' hj hji hpj
      rcases hwhere with h | h
      · have := hg j p' hpj
        omega
      · rw [← h]
        exact hap id j q p' hpres hj (fun h => hji h.symm) hq hpj (by rw [hqm]; rfl)
    intro i j p1 p2 hi hj hij hpi hpj hmn
    by_cases ei : i = n
    · subst ei
      rw [hat] at hpi
      cases hpi
      obtain ⟨h1, h2⟩ := old j hj fun h => hij h.symm
      rw [hne j fun h => hij h.symm] at hpj
      exact key j p2 h1 h2 hpj
    · rw [hne i ei] at hpi
      obtain ⟨h1, h2⟩ := old i hi ei
      by_cases ej : j = n
      · subst ej
        rw [hat] at hpj
        cases hpj
        exact fun h => key i p1 h1 h2 hpi h.symm
      · rw [hne j ej] at hpj
        exact hap i j p1 p2 h1 (old j hj ej).1 hij hpi hpj hmn
  · simp only [Rel] at hr ⊢
    rcases hr with ⟨p', o, c, h1, rfl, h3, h4, h5, h6⟩ | ⟨h0, _, a, c, rfl⟩
    · rw [hp1] at h1
      cases h1
      refine .inl ⟨p, o, c, hat, rfl, by simp, ?_, h5, h6⟩
      rcases h4 with h4 | ⟨h4, _⟩
      · exact .inl h4
      · exact .inr ⟨h4, trivial⟩
    · exact .inr ⟨h0, trivial, a, c, rfl⟩
  · simp only [List.mem_cons, List.not_mem_nil, or_false] at hx
    subst hx
    trivial
  · match j, h with
    | 0, h => simp at h; subst h; exact .inr ⟨p, hat, by simp, hpro, hpcell⟩
    | j + 1, h => simp at h
  · refine hp.frm.weaken fun b _ hb => ?_
    exact ⟨_, List.mem_cons_self .., q, hq, hqm, hmay b hb⟩

end Go.Proofs.Ytboljdeeodeeeaa
