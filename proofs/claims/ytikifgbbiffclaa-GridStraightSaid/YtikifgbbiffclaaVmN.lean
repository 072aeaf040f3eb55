/- The small machine: loops. Of whatever program. -/
import Derived.Test.YtikifgbbiffclaaVmK
namespace Go.Proofs.Ytikifgbbiffclaa
set_option linter.unusedSimpArgs false
set_option linter.unusedVariables false
open Go.RowKit

def lookS (t : Nat) : List (Nat × SV) → SV
  | [] => .top
  | (i, v) :: l => bif Nat.beq t i then v else lookS t l
def layT (N : Nat) (kv : List (Nat × SV)) : List SV := (List.range N).map fun t => lookS t kv
/-- A state of which only these slots are known. -/
def nrm (N : Nat) (keep : List Nat) (vals : List SV) (rows : List Row) : St := ⟨Tm.of (layT N (keep.zip vals)), rows⟩

def idxOf (i : Nat) : List Nat → Nat → Option Nat
  | [], _ => none
  | k :: l, j => bif Nat.beq i k then some j else idxOf i l (j + 1)
def Row.ids1 : Row → List Nat
  | .own cs => cs.flatMap SV.ids1
  | _ => []
/-- A value whose rows are numbered anew: those below n0 stay. -/
def renV (n0 : Nat) (τ : List Nat) : SV → SV
  | .ptr id st i j => bif Nat.blt id n0 then .ptr id st i j else match idxOf id τ n0 with
    | some k => .ptr k st i j
    | none => .top
  | .slice id st off len cap => bif Nat.blt id n0 then .slice id st off len cap else match idxOf id τ n0 with
    | some k => .slice k st off len cap
    | none => .top
  | v => bif v.ids.all (fun i => Nat.blt i n0) then v else .top
def renRow (n0 : Nat) (τ : List Nat) : Row → Row
  | .own cs => .own (cs.map (renV n0 τ))
  | r => r
def coll (n0 : Nat) : List Nat → List Nat → List Nat
  | acc, [] => acc
  | acc, i :: l => bif Nat.blt i n0 || memN i acc then coll n0 acc l else coll n0 (acc ++ [i]) l
def extraS (n0 : Nat) (keep : List Nat) (s : St) : List Nat := coll n0 [] ((keep.map s.tmps.get).flatMap SV.ids1 ++ (s.rows.take n0).flatMap Row.ids1)
/-- What is kept of a state behind a round. -/
def normS (N n0 : Nat) (keep : List Nat) (s : St) : Option (List SV × List Row) :=
  bif Nat.beq s.tmps.n N && (Nat.ble n0 s.rows.length && (extraS n0 keep s).all (fun k => Nat.blt k s.rows.length)) then
    some ((keep.map s.tmps.get).map (renV n0 (extraS n0 keep s)), (s.rows.take n0 ++ (extraS n0 keep s).map (fun k => s.rows.getD k .gone)).map (renRow n0 (extraS n0 keep s))) else none

theorem blt_iff {a b : Nat} : Nat.blt a b = true ↔ a < b := by rw [Nat.blt_eq]
theorem idxOf_spec {i : Nat} : ∀ {l : List Nat} {j k : Nat}, idxOf i l j = some k → j ≤ k ∧ l[k - j]? = some i
  | [], _, _, h => by cases h
  | x :: l, j, k, h => by
    simp only [idxOf] at h
    cases hb : Nat.beq i x with
    | true =>
      simp only [hb, cond_true, Option.some.injEq] at h
      subst h
      have := Nat.eq_of_beq_eq_true hb
      subst this
      exact ⟨Nat.le_refl _, by simp⟩
    | false =>
      simp only [hb, cond_false] at h
      obtain ⟨h1, h2⟩ := idxOf_spec h
      refine ⟨by omega, ?_⟩
      rw [show k - j = (k - (j + 1)) + 1 by omega]
      simpa using h2

theorem coll_spec {n0 : Nat} : ∀ (l acc : List Nat), acc.Nodup → (∀ i ∈ acc, n0 ≤ i) → (coll n0 acc l).Nodup ∧ ∀ i ∈ coll n0 acc l, n0 ≤ i
  | [], acc, h1, h2 => ⟨h1, h2⟩
  | i :: l, acc, h1, h2 => by
    simp only [coll]
    cases hb : Nat.blt i n0 || memN i acc with
    | true => simp only [cond_true]; exact coll_spec l acc h1 h2
    | false =>
      simp only [cond_false]
      rw [Bool.or_eq_false_iff] at hb
      have hi : n0 ≤ i := by
        rcases Nat.lt_or_ge i n0 with h | h
        · have := blt_iff.2 h; rw [hb.1] at this; cases this
        · exact h
      have hm : i ∉ acc := fun h => by have := memN_iff.2 h; rw [hb.2] at this; cases this
      refine coll_spec l (acc ++ [i]) ?_ ?_
      · rw [List.nodup_append]
        exact ⟨h1, by simp, fun a ha b hb => by simp at hb; subst hb; exact fun h => hm (h ▸ ha)⟩
      · intro k hk
        rcases List.mem_append.1 hk with hk | hk
        · exact h2 k hk
        · simp at hk; omega
theorem extra_spec (n0 : Nat) (keep : List Nat) (s : St) : (extraS n0 keep s).Nodup ∧ ∀ i ∈ extraS n0 keep s, n0 ≤ i := coll_spec _ [] (by simp) (by simp)

def renRho (ρ : Rho) (n0 : Nat) (τ : List Nat) : Rho := fun i => if i < n0 then ρ i else match τ[i - n0]? with
  | some k => ρ k
  | none => none

section
variable {ρ : Rho} {n0 : Nat} {τ : List Nat} {w : World}

theorem renV_rel {v : SV} {u : Value} (h : Rel ρ v u) : Rel (renRho ρ n0 τ) (renV n0 τ v) u := by
  have hlow : ∀ i, i < n0 → renRho ρ n0 τ i = ρ i := fun i hi => by unfold renRho; rw [if_pos hi]
  have hidx : ∀ i k, idxOf i τ n0 = some k → renRho ρ n0 τ k = ρ i := by
    intro i k hk
    obtain ⟨h1, h2⟩ := idxOf_spec hk
    unfold renRho
    rw [if_neg (by omega), h2]
  have hrest : ∀ v : SV, Rel ρ v u → Rel (renRho ρ n0 τ) (bif v.ids.all (fun i => Nat.blt i n0) then v else .top) u := by
    intro v h
    cases hb : v.ids.all (fun i => Nat.blt i n0) with
    | false => simp [Rel]
    | true =>
      simp only [cond_true]
      refine Rel.only v u (fun i hi p hp => ?_) h
      have := List.all_eq_true.1 hb i hi
      rw [hlow i (blt_iff.1 this)]
      exact hp
  cases v with
  | ptr id st i j =>
    simp only [renV]
    cases hb : Nat.blt id n0 with
    | true =>
      simp only [cond_true]
      simp only [Rel] at h ⊢
      rw [hlow id (blt_iff.1 hb)]
      exact h
    | false =>
      simp only [cond_false]
      cases hk : idxOf id τ n0 with
      | none => simp [Rel]
      | some k =>
        simp only [Rel] at h ⊢
        rw [hidx id k hk]
        exact h
  | slice id st off len cap =>
    simp only [renV]
    cases hb : Nat.blt id n0 with
    | true =>
      simp only [cond_true]
      simp only [Rel] at h ⊢
      rw [hlow id (blt_iff.1 hb)]
      exact h
    | false =>
      simp only [cond_false]
      cases hk : idxOf id τ n0 with
      | none => simp [Rel]
      | some k =>
        simp only [Rel] at h ⊢
        rw [hidx id k hk]
        exact h
  | _ => exact hrest _ h

theorem renL_rel : ∀ {vs : List SV} {us : List Value}, RelL ρ vs us → RelL (renRho ρ n0 τ) (vs.map (renV n0 τ)) us
  | [], us, h => by simpa [RelL] using h
  | v :: vs, us, h => by
    rw [RelL] at h
    obtain ⟨u, us', rfl, h1, h2⟩ := h
    rw [List.map_cons, relL_cons]
    exact ⟨renV_rel h1, renL_rel h2⟩

theorem renRow_at {id id' : Nat} {row : Row} (h : RowAt ρ id row w) (hid : renRho ρ n0 τ id' = ρ id) : RowAt (renRho ρ n0 τ) id' (renRow n0 τ row) w := by
  cases row with
  | gone => trivial
  | own cs =>
    obtain ⟨p, vs, ty, h1, h2, h3, h4, h5⟩ := h
    exact ⟨p, vs, ty, hid.trans h1, h2, h3, h4, renL_rel h5⟩
  | vec ro k xs =>
    rcases h with h | ⟨p, h1, h2⟩
    · exact .inl h
    · exact .inr ⟨p, hid.trans h1, h2⟩

theorem renRow_live {row : Row} : (renRow n0 τ row).live = row.live := by cases row <;> rfl

/-- The row that lies at a new number. -/
theorem norm_row {N n0 : Nat} {keep : List Nat} {s : St} {v : List SV} {R : List Row} (hn : normS N n0 keep s = some (v, R)) {i : Nat} {row : Row} (hi : R[i]? = some row) :
    ∃ k row0, s.rows[k]? = some row0 ∧ row = renRow n0 (extraS n0 keep s) row0 ∧ (∀ ρ : Rho, renRho ρ n0 (extraS n0 keep s) i = ρ k) ∧ ((i < n0 ∧ k = i) ∨ (n0 ≤ i ∧ n0 ≤ k ∧ (extraS n0 keep s)[i - n0]? = some k)) := by
  unfold normS at hn
  cases hb : Nat.beq s.tmps.n N && (Nat.ble n0 s.rows.length && (extraS n0 keep s).all (fun k => Nat.blt k s.rows.length)) with
  | false => simp [hb] at hn
  | true =>
    simp only [hb, cond_true, Option.some.injEq, Prod.mk.injEq] at hn
    obtain ⟨_, rfl⟩ := hn
    rw [Bool.and_eq_true, Bool.and_eq_true] at hb
    obtain ⟨_, h1, h2⟩ := hb
    have h1 := Nat.le_of_ble_eq_true h1
    rw [List.getElem?_map] at hi
    have hl : (s.rows.take n0).length = n0 := by rw [List.length_take]; omega
    by_cases hin : i < n0
    · rw [List.getElem?_append_left (by omega), List.getElem?_take_of_lt hin] at hi
      cases hr : s.rows[i]? with
      | none => simp [hr] at hi
      | some row0 =>
        simp [hr] at hi
        exact ⟨i, row0, hr, hi.symm, fun ρ => by unfold renRho; rw [if_pos hin], .inl ⟨hin, rfl⟩⟩
    · rw [List.getElem?_append_right (by omega), hl, List.getElem?_map] at hi
      cases hk : (extraS n0 keep s)[i - n0]? with
      | none => simp [hk] at hi
      | some k =>
        simp [hk] at hi
        have hmem := List.mem_of_getElem? hk
        have hlt := blt_iff.1 (List.all_eq_true.1 h2 k hmem)
        refine ⟨k, s.rows[k], List.getElem?_eq_getElem hlt, ?_, fun ρ => by unfold renRho; rw [if_neg hin, hk], .inr ⟨by omega, (extra_spec n0 keep s).2 k hmem, rfl⟩⟩
        rw [← hi, List.getElem?_eq_getElem hlt]
        rfl

theorem look_spec (t : Nat) : ∀ (kv : List (Nat × SV)), lookS t kv = .top ∨ (t, lookS t kv) ∈ kv
  | [] => .inl rfl
  | (i, v) :: l => by
    simp only [lookS]
    cases hb : Nat.beq t i with
    | true =>
      have := Nat.eq_of_beq_eq_true hb
      subst this
      exact .inr (by simp)
    | false =>
      simp only [cond_false]
      rcases look_spec t l with h | h
      · exact .inl h
      · exact .inr (List.mem_cons_of_mem _ h)

theorem layT_rel {N : Nat} {kv : List (Nat × SV)} {us : List Value} (hl : us.length = N) (h : ∀ t v, (t, v) ∈ kv → ∀ u, us[t]? = some u → Rel ρ v u) : RelL ρ (layT N kv) us := by
  have key : ∀ (us : List Value) (i0 : Nat), (∀ t v, (t, v) ∈ kv → ∀ i u, us[i]? = some u → t = i0 + i → Rel ρ v u) → RelL ρ ((List.range' i0 us.length).map fun t => lookS t kv) us := by
    intro us
    induction us with
    | nil => intro i0 _; simp [RelL]
    | cons u us ih =>
      intro i0 h
      rw [List.length_cons, List.range'_succ, List.map_cons, relL_cons]
      refine ⟨?_, ih (i0 + 1) fun t v hm i u' hu ht => h t v hm (i + 1) u' (by simpa using hu) (by omega)⟩
      rcases look_spec i0 kv with h1 | h1
      · rw [h1]; simp [Rel]
      · exact h i0 _ h1 0 u (by simp) (by omega)
  unfold layT
  subst hl
  rw [List.range_eq_range']
  exact key us 0 fun t v hm i u hu ht => h t v hm u (by rw [ht, Nat.zero_add]; exact hu)

theorem zip_map {α β γ : Type} {l : List α} {f : α → β} {g : β → γ} : ∀ {x : α × γ}, x ∈ l.zip ((l.map f).map g) → x.2 = g (f x.1) := by
  induction l with
  | nil => intro x h; simp at h
  | cons a l ih =>
    intro x h
    simp only [List.map_cons, List.zip_cons_cons, List.mem_cons] at h
    rcases h with h | h
    · rw [h]
    · exact ih h

theorem zip_map1 {α β : Type} {l : List α} {f : α → β} : ∀ {x : α × β}, x ∈ l.zip (l.map f) → x.2 = f x.1 := by
  induction l with
  | nil => intro x h; simp at h
  | cons a l ih =>
    intro x h
    simp only [List.map_cons, List.zip_cons_cons, List.mem_cons] at h
    rcases h with h | h
    · rw [h]
    · exact ih h

theorem get_rel {s : St} {a : Act} (h : RelL ρ s.cf.tm a.tmps.toList) {t : Nat} {u : Value} (hu : a.tmps.toList[t]? = some u) : Rel ρ (s.tmps.get t) u := by
  have hlen := h.length
  have ht := (List.getElem?_eq_some_iff.1 hu).1
  obtain ⟨x, hx⟩ : ∃ x, s.cf.tm[t]? = some x := ⟨_, List.getElem?_eq_getElem (by omega)⟩
  obtain ⟨u', hu', hr⟩ := h.get hx
  rw [hu] at hu'
  cases hu'
  have : s.cf.tm.getD t .top = s.tmps.get t := s.tmps.list_get t
  rw [List.getD_eq_getElem?_getD, hx] at this
  simp at this
  rw [← this]
  exact hr

theorem tm_len {s : St} {a : Act} (h : RelL ρ s.cf.tm a.tmps.toList) : a.tmps.toList.length = s.tmps.n := by
  rw [← h.length]
  simp [St.cf, Tm.list]

theorem enter_nrm {N : Nat} {keep : List Nat} {s : St} (hN : s.tmps.n = N) {a : Act} (h : SRel ρ s.cf a w) : SRel ρ (nrm N keep (keep.map s.tmps.get) s.rows).cf a w := by
  refine ⟨?_, h.df, h.good, h.rows, h.apart, h.free⟩
  simp only [nrm, St.cf, Tm.of_list]
  refine layT_rel (by rw [tm_len h.tm, hN]) fun t v hm u hu => ?_
  have : v = s.tmps.get t := zip_map1 hm
  rw [this]
  exact get_rel h.tm hu

theorem norm_ok {N n0 : Nat} {keep : List Nat} {s : St} {v : List SV} {R : List Row} (hn : normS N n0 keep s = some (v, R)) {a : Act} (h : SRel ρ s.cf a w) :
    SRel (renRho ρ n0 (extraS n0 keep s)) (nrm N keep v R).cf a w ∧ ∀ (ρ0 : Rho) (m0 : Rws) (w0 : World), (∀ i, m0 i = none ↔ n0 ≤ i) → (∀ i, m0 i = none → ρ0 i = none) → Prg ρ0 m0 w0 ρ s.cf.m w → Prg ρ0 m0 w0 (renRho ρ n0 (extraS n0 keep s)) (nrm N keep v R).cf.m w := by
  have hn' := hn
  unfold normS at hn'
  cases hb : Nat.beq s.tmps.n N && (Nat.ble n0 s.rows.length && (extraS n0 keep s).all (fun k => Nat.blt k s.rows.length)) with
  | false => simp [hb] at hn'
  | true =>
    simp only [hb, cond_true, Option.some.injEq, Prod.mk.injEq] at hn'
    obtain ⟨hv, hR⟩ := hn'
    rw [Bool.and_eq_true, Bool.and_eq_true] at hb
    obtain ⟨h0, h1, h2⟩ := hb
    have h0 := Nat.eq_of_beq_eq_true h0
    have h1 := Nat.le_of_ble_eq_true h1
    have hRl : R.length = n0 + (extraS n0 keep s).length := by rw [← hR]; simp; omega
    have hrho : ∀ i p, renRho ρ n0 (extraS n0 keep s) i = some p → (i < n0 ∧ ρ i = some p) ∨ (n0 ≤ i ∧ ∃ k, (extraS n0 keep s)[i - n0]? = some k ∧ n0 ≤ k ∧ ρ k = some p) := by
      intro i p hp
      unfold renRho at hp
      by_cases hi : i < n0
      · rw [if_pos hi] at hp; exact .inl ⟨hi, hp⟩
      · rw [if_neg hi] at hp
        cases hk : (extraS n0 keep s)[i - n0]? with
        | none => rw [hk] at hp; cases hp
        | some k =>
          rw [hk] at hp
          exact .inr ⟨by omega, k, rfl, (extra_spec n0 keep s).2 k (List.mem_of_getElem? hk), hp⟩
    constructor
    · refine ⟨?_, h.df, ?_, ?_, ?_, ?_⟩
      · simp only [nrm, St.cf, Tm.of_list]
        refine layT_rel (by rw [tm_len h.tm, h0]) fun t x hm u hu => ?_
        rw [← hv] at hm
        have hx := zip_map hm
        simp only at hx
        rw [hx]
        exact renV_rel (get_rel h.tm hu)
      · intro i p hp
        rcases hrho i p hp with ⟨_, h3⟩ | ⟨_, k, _, _, h3⟩ <;> exact h.good _ _ h3
      · intro i row hi
        obtain ⟨k, row0, g1, rfl, g3, _⟩ := norm_row hn (by simpa [nrm, St.cf] using hi)
        exact renRow_at (h.rows k row0 (by simpa [St.cf] using g1)) (g3 ρ)
      · intro i j p q hi hj hij hp hq hm
        obtain ⟨ri, hi1, hi2⟩ := hi
        obtain ⟨rj, hj1, hj2⟩ := hj
        obtain ⟨k, row0, g1, rfl, g3, g4⟩ := norm_row hn (by simpa [nrm, St.cf] using hi1)
        obtain ⟨l, row1, k1, rfl, k3, k4⟩ := norm_row hn (by simpa [nrm, St.cf] using hj1)
        rw [renRow_live] at hi2 hj2
        rw [g3 ρ] at hp
        rw [k3 ρ] at hq
        refine h.apart k l p q ⟨row0, by simpa [St.cf] using g1, hi2⟩ ⟨row1, by simpa [St.cf] using k1, hj2⟩ ?_ hp hq hm
        intro hkl
        subst hkl
        rcases g4 with ⟨a1, a2⟩ | ⟨a1, a2, a3⟩ <;> rcases k4 with ⟨b1, b2⟩ | ⟨b1, b2, b3⟩
        · omega
        · omega
        · omega
        · have hnd := (extra_spec n0 keep s).1
          have h3 := (List.getElem?_eq_some_iff.1 a3).1
          have h4 := (List.getElem?_eq_some_iff.1 b3).1
          have e1 := (List.getElem?_eq_some_iff.1 a3).2
          have e2 := (List.getElem?_eq_some_iff.1 b3).2
          have hpw := List.pairwise_iff_getElem.1 hnd
          rcases Nat.lt_trichotomy (i - n0) (j - n0) with hlt | heq | hgt
          · exact hpw _ _ h3 h4 hlt (e1.trans e2.symm)
          · omega
          · exact hpw _ _ h4 h3 hgt (e2.trans e1.symm)
      · intro i hi
        have hlen : n0 + (extraS n0 keep s).length ≤ i := by
          have : R[i]? = none := by simpa [nrm, St.cf] using hi
          rw [List.getElem?_eq_none_iff] at this
          omega
        unfold renRho
        rw [if_neg (by omega), List.getElem?_eq_none (by omega)]
    · intro ρ0 m0 w0 hm0 hf0 hp
      have hlow : ∀ i, i < n0 → renRho ρ n0 (extraS n0 keep s) i = ρ i := fun i hi => by unfold renRho; rw [if_pos hi]
      refine ⟨fun i p hi => ?_, fun i hi => ?_, fun i hi => ?_, fun i p hi => ?_, fun i p hi hpi => ?_, hp.frm⟩
      · have hin : i < n0 := by
          rcases Nat.lt_or_ge i n0 with h | h
          · exact h
          · rw [hf0 i ((hm0 i).2 h)] at hi; cases hi
        rw [hlow i hin]
        exact hp.le i p hi
      · have : R[i]? = none := by simpa [nrm, St.cf] using hi
        rw [List.getElem?_eq_none_iff] at this
        exact (hm0 i).2 (by omega)
      · obtain ⟨row, hr, hl⟩ := hi
        obtain ⟨k, row0, g1, rfl, g3, g4⟩ := norm_row hn (by simpa [nrm, St.cf] using hr)
        rw [renRow_live] at hl
        rcases g4 with ⟨a1, rfl⟩ | ⟨a1, _⟩
        · exact hp.live k ⟨row0, by simpa [St.cf] using g1, hl⟩
        · exact .inr ((hm0 i).2 a1)
      · rcases hrho i p hi with ⟨_, h3⟩ | ⟨h3, _⟩
        · exact hp.dom i p h3
        · exact .inr ((hm0 i).2 h3)
      · rcases hrho i p hpi with ⟨h3, _⟩ | ⟨_, k, _, h4, h5⟩
        · have := (hm0 i).1 hi; omega
        · exact hp.new k p ((hm0 k).2 h4) h5
end

/-! Rounds. -/
def exS : Ex → SV
  | .normal => .nilp
  | .ret => .nils
  | .exit i => .ptr i 0 0 0
theorem exS_inj {e e' : Ex} (h : exS e = exS e') : e = e' := by cases e <;> cases e' <;> simp_all [exS]
def encN (N n0 : Nat) (keep : List Nat) (e : Ex) (s : St) : Option Res2 := match normS N n0 keep s with
  | some (v, R) => some (.tuple [exS e, .tuple v], R)
  | none => none
/-- One round of a loop's body. -/
def roundS (X : Ctx) (L : Nat → List Nat → Option LoopF) (fuel f : Nat) (p : List Nat) (b : Code) (N n0 : Nat) (keep : List Nat) (v : List SV) (R : List Row) : Option Res2 :=
  exec X L fuel f (0 :: p) b (nrm N keep v R) (encN N n0 keep)

inductive LoopTo (rd : List SV → List Row → Option Res2) : List SV → List Row → Ex → List SV → List Row → Prop
  | done {v R e v' R'} : rd v R = some (.tuple [exS e, .tuple v'], R') → e ≠ .normal → LoopTo rd v R e v' R'
  | more {v R v1 R1 e v' R'} : rd v R = some (.tuple [.nilp, .tuple v1], R1) → LoopTo rd v1 R1 e v' R' → LoopTo rd v R e v' R'

def bodyAt (fn : Func) (p : List Nat) : Code := match fn.body with
  | some c => match subAt c p with
    | some (.loop b) => b
    | _ => .skip
  | none => .skip
theorem at_body {P : Program} {f : Nat} {fn : Func} (hfu : P.funcs[f]? = some fn) {p : List Nat} {b : Code} (h : At P f p (.loop b)) : b = bodyAt fn p := by
  obtain ⟨fn', body, h1, h2, h3⟩ := h
  rw [hfu] at h1
  cases h1
  unfold bodyAt
  simp [h2, h3]

section
variable {P : Program} {X : Ctx}

theorem loopTo_ok (hX : COk P X) {L : Nat → List Nat → Option LoopF} (hL : LOk P L) {fuel f : Nat} {p : List Nat} {b : Code} (hat : At P f p (.loop b)) {N n0 : Nat} {keep : List Nat} {v v' : List SV} {R R' : List Row} {e : Ex}
    (h : LoopTo (roundS X L fuel f p b N n0 keep) v R e v' R') : ∃ m, ∀ (ρ0 : Rho) (m0 : Rws) (w0 : World), (∀ i, m0 i = none ↔ n0 ≤ i) → (∀ i, m0 i = none → ρ0 i = none) →
      ∀ (ρ : Rho) (a : Act) (w : World), SRel ρ (nrm N keep v R).cf a w → Prg ρ0 m0 w0 ρ (nrm N keep v R).cf.m w → ∀ Q : Exit → Act → World → Prop,
        (∀ ρ' a' w', SRel ρ' (nrm N keep v' R').cf a' w' → Prg ρ0 m0 w0 ρ' (nrm N keep v' R').cf.m w' → Q e.to a' w') → Code.rounds P b Q m a w := by
  have step : ∀ {v R e1 v1 R1}, roundS X L fuel f p b N n0 keep v R = some (.tuple [exS e1, .tuple v1], R1) → ∀ (ρ0 : Rho) (m0 : Rws) (w0 : World), (∀ i, m0 i = none ↔ n0 ≤ i) → (∀ i, m0 i = none → ρ0 i = none) →
      ∀ (ρ : Rho) (a : Act) (w : World), SRel ρ (nrm N keep v R).cf a w → Prg ρ0 m0 w0 ρ (nrm N keep v R).cf.m w → ∀ Q : Exit → Act → World → Prop,
        (∀ ρ' a' w', SRel ρ' (nrm N keep v1 R1).cf a' w' → Prg ρ0 m0 w0 ρ' (nrm N keep v1 R1).cf.m w' → Q e1.to a' w') → b.wp P Q a w := by
    intro v R e1 v1 R1 hr ρ0 m0 w0 hm0 hf0 ρ a w hs hp Q hQ
    obtain ⟨e2, s2, h1, h2⟩ := exec_ok hX hL fuel f (0 :: p) b _ _ _ hr (hat.child rfl)
    unfold encN at h1
    split at h1
    · rename_i v2 R2 hn
      simp only [Option.some.injEq, Prod.mk.injEq, SV.tuple.injEq, List.cons.injEq, and_true] at h1
      obtain ⟨⟨he, rfl⟩, rfl⟩ := h1
      have := exS_inj he
      subst this
      refine h2.tri ρ a w hs Q fun ρ' a' w' g1 g2 => ?_
      obtain ⟨k1, k2⟩ := norm_ok hn g1
      exact hQ _ a' w' k1 (k2 ρ0 m0 w0 hm0 hf0 (hp.trans g2))
    · cases h1
  induction h with
  | done hr hne =>
    refine ⟨1, fun ρ0 m0 w0 hm0 hf0 ρ a w hs hp Q hQ => ?_⟩
    rw [rounds_succ]
    refine step hr ρ0 m0 w0 hm0 hf0 ρ a w hs hp _ fun ρ' a' w' g1 g2 => ?_
    rename_i e' _ _ 
    cases e' with
    | normal => exact absurd rfl hne
    | exit i => exact hQ ρ' a' w' g1 g2
    | ret => exact hQ ρ' a' w' g1 g2
  | more hr _ ih =>
    obtain ⟨m, hm⟩ := ih
    refine ⟨m + 1, fun ρ0 m0 w0 hm0 hf0 ρ a w hs hp Q hQ => ?_⟩
    rw [rounds_succ]
    exact step (e1 := .normal) hr ρ0 m0 w0 hm0 hf0 ρ a w hs hp _ fun ρ' a' w' g1 g2 => hm ρ0 m0 w0 hm0 hf0 ρ' a' w' g1 g2 Q hQ

/-- A loop's oracle, from what its rounds lead to. -/
def loopF (N : Nat) (keep : List Nat) (out : List SV → List Row → (Ex → List SV → List Row → Option Res2) → Option Res2) : LoopF := fun s K =>
  bif Nat.beq s.tmps.n N then out (keep.map s.tmps.get) s.rows fun e v R => K e (nrm N keep v R) else none

theorem loopF_ok (hX : COk P X) {L : Nat → List Nat → Option LoopF} (hL : LOk P L) {fuel f : Nat} {p : List Nat} {b : Code} (hat : At P f p (.loop b)) {N : Nat} {keep : List Nat} {out : List SV → List Row → (Ex → List SV → List Row → Option Res2) → Option Res2}
    (hout : ∀ v R k r, out v R k = some r → ∃ e v' R', k e v' R' = some r ∧ LoopTo (roundS X L fuel f p b N R.length keep) v R e v' R') {s : St} {K : Ex → St → Option Res2} {r : Res2} (h : loopF N keep out s K = some r) : ∃ e s', K e s' = some r ∧ TriL P b s e s' := by
  unfold loopF at h
  cases hb : Nat.beq s.tmps.n N with
  | false => simp [hb] at h
  | true =>
    simp only [hb, cond_true] at h
    have hN := Nat.eq_of_beq_eq_true hb
    obtain ⟨e, v', R', h1, h2⟩ := hout _ _ _ _ h
    obtain ⟨m, hm⟩ := loopTo_ok hX hL hat h2
    refine ⟨e, _, h1, m, fun ρ a w hs Q hQ => ?_⟩
    exact hm ρ s.cf.m w (fun i => by simp [St.cf]) hs.free ρ a w (enter_nrm hN hs) (Prg.refl ρ s.cf.m w hs.free) Q hQ
end
end Go.Proofs.Ytikifgbbiffclaa
