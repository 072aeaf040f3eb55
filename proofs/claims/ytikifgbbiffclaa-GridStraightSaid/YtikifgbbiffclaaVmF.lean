/- The small machine: one operation's step, in the model. Of whatever program. -/
import Derived.Test.YtikifgbbiffclaaVmE
import Derived.Orders
namespace Go.Proofs.Ytikifgbbiffclaa
set_option linter.unusedSimpArgs false
set_option linter.unusedVariables false
open Go.RowKit

abbrev Rws := Nat → Option Row

def updW (m : Rws) : List (Nat × Row) → Rws
  | [] => m
  | (i, r) :: l => updW (fun j => if j = i ∧ (m j).isSome = true then some r else m j) l
def updN (m : Rws) (n : Nat) (nw : List Row) : Rws := fun j => if n ≤ j ∧ j < n + nw.length then nw[j - n]? else m j

structure Cf where
  tm : List SV
  m : Rws

def Cf.ev (c : Cf) : Operand → SV
  | .tmp t => c.tm.getD t .top
  | .const v => ofValue v
  | .global _ => .top
  | .func f => .fn f []

def Cf.after (c : Cf) (d : Option Nat) (n : Nat) (e : Eff) : Cf := ⟨putS c.tm d e.val, updN (updW c.m e.wr) n e.nw⟩

def St.cf (s : St) : Cf := ⟨s.tmps.list, fun i => s.rows[i]?⟩

theorem St.cf_ev (s : St) : s.cf.ev = s.ev := by
  funext x
  cases x with
  | tmp t => exact s.tmps.list_get t
  | _ => rfl

theorem wrRows_length : ∀ (l : List (Nat × Row)) (rows : List Row), (wrRows rows l).length = rows.length
  | [], _ => rfl
  | (i, r) :: l, rows => by rw [wrRows, wrRows_length l]; simp

theorem wrRows_get : ∀ (l : List (Nat × Row)) (rows : List Row), (fun i => (wrRows rows l)[i]?) = updW (fun i => rows[i]?) l
  | [], _ => rfl
  | (i, r) :: l, rows => by
    rw [wrRows, wrRows_get l, updW]
    congr 1
    funext j
    by_cases hj : j = i
    · subst hj
      by_cases hlt : j < rows.length
      · simp [hlt]
      · simp [List.getElem?_set, hlt, List.getElem?_eq_none (Nat.le_of_not_lt hlt)]
    · rw [List.getElem?_set_ne (Ne.symm hj), if_neg (fun h => hj h.1)]

theorem St.cf_after (s : St) {d : Option Nat} (hd : inT s.tmps d = true) (e : Eff) : (s.after d e).cf = s.cf.after d s.rows.length e := by
  unfold St.after St.cf Cf.after
  simp only [putT_list hd]
  congr 1
  funext i
  have h := congrFun (wrRows_get e.wr s.rows) i
  have hl := wrRows_length e.wr s.rows
  unfold updN
  by_cases hi : s.rows.length ≤ i
  · rw [List.getElem?_append_right (by omega), hl]
    by_cases h2 : i < s.rows.length + e.nw.length
    · rw [if_pos ⟨hi, h2⟩]
    · rw [if_neg (by omega), List.getElem?_eq_none (by omega), ← h, List.getElem?_eq_none (by omega)]
  · rw [List.getElem?_append_left (by omega), h, if_neg (by omega)]

def liveAt (m : Rws) (i : Nat) : Prop := ∃ row, m i = some row ∧ row.live = true

structure SRel (ρ : Rho) (c : Cf) (a : Act) (w : World) : Prop where
  tm : RelL ρ c.tm a.tmps.toList
  df : a.defers = []
  good : Good ρ w
  rows : ∀ i row, c.m i = some row → RowAt ρ i row w
  apart : Apart ρ (liveAt c.m)
  free : ∀ i, c.m i = none → ρ i = none

def mayOf (ρ : Rho) (m : Rws) (b : Nat) : Prop := ∃ i p, liveAt m i ∧ ρ i = some p ∧ p.mine = true ∧ p.b = b

/-- What has happened from one state to another. -/
structure Prg (ρ : Rho) (m : Rws) (w : World) (ρ' : Rho) (m' : Rws) (w' : World) : Prop where
  le : ρ.le ρ'
  keep : ∀ i, m' i = none → m i = none
  live : ∀ i, liveAt m' i → liveAt m i ∨ m i = none
  dom : ∀ i p, ρ' i = some p → ρ i = some p ∨ m i = none
  new : ∀ i p, m i = none → ρ' i = some p → w.heap.size ≤ p.b ∨ mayOf ρ m p.b
  frm : Frm (mayOf ρ m) w w'

theorem Prg.refl (ρ : Rho) (m : Rws) (w : World) (h : ∀ i, m i = none → ρ i = none) : Prg ρ m w ρ m w :=
  ⟨Rho.le.refl ρ, fun _ h => h, fun _ h => .inl h, fun _ _ h => .inl h, fun i p hi hp => (by rw [h i hi] at hp; cases hp), Frm.refl _ _⟩

theorem Prg.trans {ρ ρ' ρ'' : Rho} {m m' m'' : Rws} {w w' w'' : World} (h : Prg ρ m w ρ' m' w') (k : Prg ρ' m' w' ρ'' m'' w'') : Prg ρ m w ρ'' m'' w'' := by
  have may : ∀ b, b < w.heap.size → mayOf ρ' m' b → mayOf ρ m b := by
    rintro b hb ⟨i, p, hl, hp, hm, rfl⟩
    rcases h.live i hl with hl0 | hn
    · obtain ⟨row, hr, hlv⟩ := hl0
      rcases h.dom i p hp with hq | hq
      · exact ⟨i, p, ⟨row, hr, hlv⟩, hq, hm, rfl⟩
      · rw [hr] at hq; cases hq
    · rcases h.new i p hn hp with h1 | h1
      · omega
      · exact h1
  refine ⟨h.le.trans k.le, fun i hi => h.keep i (k.keep i hi), fun i hi => ?_, fun i p hp => ?_, fun i p hi hp => ?_, h.frm.trans k.frm may⟩
  · rcases k.live i hi with h1 | h1
    · exact h.live i h1
    · exact .inr (h.keep i h1)
  · rcases k.dom i p hp with h1 | h1
    · exact h.dom i p h1
    · exact .inr (h.keep i h1)
  · rcases k.dom i p hp with h1 | h1
    · exact h.new i p hi h1
    · rcases k.new i p h1 hp with h2 | h2
      · exact .inl (Nat.le_trans h.frm.size h2)
      · by_cases hb : p.b < w.heap.size
        · exact .inr (may _ hb h2)
        · exact .inl (by omega)

/-! One operation. -/
def wantIs (all : List Oper) (ts : List SV) (o : Oper) (b : Bool) : Prop :=
  match o.guard with
  | none => b = true
  | some (j, want) => match (all[j]?).bind (·.dst) with
    | none => b = false
    | some t => match ts[t]? with
      | some (.bool v) => b = (v == want)
      | some (.tuple []) => b = false
      | none => b = false
      | _ => False

theorem wantIs_ok {ρ : Rho} {all : List Oper} {ts : List SV} {o : Oper} {b : Bool} (h : wantIs all ts o b) {tmps : Array Value} (hr : RelL ρ ts tmps.toList) : Region.wanted o (yielded all.toArray tmps) = b := by
  unfold wantIs at h
  unfold Region.wanted
  cases hg : o.guard with
  | none => simp only [hg] at h; simp [h]
  | some jw =>
    obtain ⟨j, want⟩ := jw
    simp only [hg] at h
    simp only
    unfold yielded
    simp only [List.getElem?_toArray]
    cases hd : (all[j]?).bind (·.dst) with
    | none => simp only [hd] at h; simp [h]
    | some t =>
      simp only [hd] at h
      simp only [Option.bind_some]
      cases ht : ts[t]? with
      | none =>
        simp only [ht] at h
        have hl := hr.length
        have : tmps[t]? = none := by
          rw [List.getElem?_eq_none_iff] at ht
          rw [Array.getElem?_eq_none_iff]
          simp at hl
          omega
        rw [this]
        simp [h]
      | some sv =>
        obtain ⟨v, hv, hrel⟩ := hr.get ht
        rw [Array.getElem?_toList] at hv
        rw [hv]
        rw [ht] at h
        split at h
        · rename_i c hc
          cases hc
          simp only [Rel] at hrel
          subst hrel
          simp only
          rw [h]
          cases c <;> cases want <;> rfl
        · rename_i hc
          cases hc
          simp only [Rel, RelL] at hrel
          obtain ⟨vs, rfl, rfl⟩ := hrel
          simp [h]
        · rename_i hc; cases hc
        · exact h.elim

structure StepOk (P : Program) (all : List Oper) (o : Oper) (n : Nat) (e : Eff) (c : Cf) : Prop where
  op : (wantIs all c.tm o false ∧ e = { val := .tuple [] }) ∨ (wantIs all c.tm o true ∧ OpOk P o c.ev c.m n e)
  wr : ∀ x ∈ e.wr, liveAt c.m x.1
  nd : (e.wr.map (·.1)).Nodup
  nw : ∀ j, n ≤ j → j < n + e.nw.length → c.m j = none

theorem ev_rel {ρ : Rho} {c : Cf} {a : Act} (h : RelL ρ c.tm a.tmps.toList) (x : Operand) : Rel ρ (c.ev x) (a.eval x) := by
  cases x with
  | tmp t =>
    simp only [Cf.ev, Act.eval]
    cases ht : c.tm[t]? with
    | none => simp [List.getD, ht, Rel]
    | some sv =>
      obtain ⟨v, hv, hr⟩ := h.get ht
      rw [Array.getElem?_toList] at hv
      simpa [List.getD, ht, Array.getD_eq_getD_getElem?, hv] using hr
  | const v => exact ofValue_rel ρ v
  | global g => simp [Cf.ev, Rel]
  | func f => simp [Cf.ev, Act.eval, Rel, RelL]

theorem put_rel {ρ : Rho} {tm : List SV} {a : Act} (h : RelL ρ tm a.tmps.toList) (d : Option Nat) {s : SV} {v : Value} (hv : Rel ρ s v) : RelL ρ (putS tm d s) (a.put d v).tmps.toList := by
  cases d with
  | none => exact h
  | some d => simpa [putS, Act.put] using h.set hv d

theorem updW_get : ∀ (l : List (Nat × Row)) (m : Rws), (l.map (·.1)).Nodup → ∀ i, (∀ r, (i, r) ∈ l → (m i).isSome = true → updW m l i = some r) ∧ ((∀ r, (i, r) ∉ l) → updW m l i = m i)
  | [], m, _, i => by simp [updW]
  | (j, s) :: l, m, hn, i => by
    simp only [List.map_cons, List.nodup_cons] at hn
    obtain ⟨h1, h2⟩ := updW_get l (fun k => if k = j ∧ (m k).isSome = true then some s else m k) hn.2 i
    rw [updW]
    constructor
    · intro r hr hs
      rcases List.mem_cons.1 hr with hr | hr
      · cases hr
        rw [h2 (fun r hr => hn.1 (List.mem_map.2 ⟨_, hr, rfl⟩))]
        simp [hs]
      · refine h1 r hr ?_
        split
        · rfl
        · exact hs
    · intro hno
      rw [h2 (fun r hr => hno r (by simp [hr])), if_neg]
      rintro ⟨rfl, _⟩
      exact hno s (by simp)

theorem step_rel {P : Program} {all : List Oper} {o : Oper} {n : Nat} {e : Eff} {c : Cf} (hs : StepOk P all o n e c) {ρ : Rho} {a : Act} {w : World} (hr : SRel ρ c a w) {v : Value} {ρ' : Rho} {w' : World} (ha : After ρ (liveAt c.m) n e w v ρ' w') :
    SRel ρ' (c.after o.dst n e) (a.put o.dst v) w' ∧ Prg ρ c.m w ρ' (c.after o.dst n e).m w' := by
  have hm : ∀ i, ((n ≤ i ∧ i < n + e.nw.length) ∧ (c.after o.dst n e).m i = e.nw[i - n]? ∧ c.m i = none) ∨ ((¬ (n ≤ i ∧ i < n + e.nw.length)) ∧ ((∃ r, (i, r) ∈ e.wr ∧ (c.after o.dst n e).m i = some r) ∨ ((∀ r, (i, r) ∉ e.wr) ∧ (c.after o.dst n e).m i = c.m i))) := by
    intro i
    unfold Cf.after updN
    by_cases h : n ≤ i ∧ i < n + e.nw.length
    · exact .inl ⟨h, by simp [h], hs.nw i h.1 h.2⟩
    · refine .inr ⟨h, ?_⟩
      simp only [if_neg h]
      by_cases hw : ∃ r, (i, r) ∈ e.wr
      · obtain ⟨r, hr⟩ := hw
        obtain ⟨row, h1, _⟩ := hs.wr _ hr
        exact .inl ⟨r, hr, (updW_get e.wr c.m hs.nd i).1 r hr (by simp [h1])⟩
      · refine .inr ⟨fun r hr => hw ⟨r, hr⟩, (updW_get e.wr c.m hs.nd i).2 (fun r hr => hw ⟨r, hr⟩)⟩
  have hkeepb : ∀ i p row, c.m i = some row → row.live = true → (∀ r, (i, r) ∉ e.wr) → ρ i = some p → w'.heap[p.b]? = w.heap[p.b]? := by
    intro i p row h1 h2 h3 h4
    refine ha.frm.block p.b (hr.good i p h4) ?_
    rintro ⟨x, hx, q, hq, hqm, hqb⟩
    refine hr.apart i x.1 p q ⟨row, h1, h2⟩ (hs.wr x hx) ?_ h4 hq (by simp [hqm]) hqb.symm
    rintro rfl
    exact h3 x.2 hx
  have hlive : ∀ i, liveAt (c.after o.dst n e).m i → presAfter (liveAt c.m) n e i := by
    rintro i ⟨row, h1, h2⟩
    rcases hm i with ⟨h, _⟩ | ⟨h, hw⟩
    · rename_i hh
      exact .inr ⟨h, fun row' hrow' => by rw [hh.1, hrow'] at h1; cases h1; exact h2⟩
    · refine .inl ?_
      rcases hw with ⟨r, hr1, hr2⟩ | ⟨hno, hsame⟩
      · refine ⟨hs.wr _ hr1, fun x hx hxi => ?_⟩
        have : x = (i, r) := by
          have hnd := hs.nd
          obtain ⟨xi, xr⟩ := x
          simp only at hxi
          subst hxi
          have h3 := (updW_get e.wr c.m hs.nd xi).1
          obtain ⟨row', h4, _⟩ := hs.wr _ hr1
          have h5 := h3 r hr1 (by simp [h4])
          have h6 := h3 xr hx (by simp [h4])
          rw [h5] at h6
          cases h6
          rfl
        subst this
        rw [hr2] at h1
        cases h1
        exact h2
      · exact ⟨⟨row, by rw [← hsame]; exact h1, h2⟩, fun x hx hxi => absurd (show (i, x.2) ∈ e.wr by subst hxi; exact hx) (hno x.2)⟩
  refine ⟨⟨?_, ?_, ha.good, ?_, ?_, ?_⟩, ⟨ha.le, ?_, ?_, ?_, ?_, ?_⟩⟩
  · exact put_rel (RelL.mono ha.le _ _ hr.tm) o.dst ha.val
  · cases o.dst <;> exact hr.df
  · intro i row hi
    rcases hm i with ⟨h, h1, _⟩ | ⟨h, hw⟩
    · rw [h1] at hi
      have := ha.nw (i - n) row hi
      rwa [show n + (i - n) = i by omega] at this
    · rcases hw with ⟨r, hr1, hr2⟩ | ⟨hno, hsame⟩
      · rw [hr2] at hi
        cases hi
        exact ha.wr _ hr1
      · rw [hsame] at hi
        by_cases hl : row.live = true
        · exact (hr.rows i row hi).keep ha.le (fun p hp => hkeepb i p row hi hl hno hp)
        · cases row with
          | gone => trivial
          | own cs => simp [Row.live] at hl
          | vec ro k xs =>
            refine .inl ?_
            cases ro <;> cases xs <;> simp [Row.live] at hl
            exact ⟨rfl, rfl⟩
  · intro i j p q hi hj hij hp hq hmm
    exact ha.apart i j p q (hlive i hi) (hlive j hj) hij hp hq hmm
  · intro i hi
    rcases hm i with ⟨h, h1, _⟩ | ⟨h, hw⟩
    · rw [h1, List.getElem?_eq_none_iff] at hi
      omega
    · rcases hw with ⟨r, hr1, hr2⟩ | ⟨hno, hsame⟩
      · rw [hr2] at hi; cases hi
      · rw [hsame] at hi
        cases hρ : ρ' i with
        | none => rfl
        | some p =>
          rcases ha.dom i p hρ with h1 | h1
          · rw [hr.free i hi] at h1; cases h1
          · exact absurd h1 h
  · intro i hi
    rcases hm i with ⟨h, h1, h2⟩ | ⟨h, hw⟩
    · exact h2
    · rcases hw with ⟨r, hr1, hr2⟩ | ⟨hno, hsame⟩
      · rw [hr2] at hi; cases hi
      · rwa [hsame] at hi
  · intro i hi
    rcases hlive i hi with h | h
    · exact .inl h.1
    · exact .inr (hs.nw i h.1.1 h.1.2)
  · intro i p hp
    rcases ha.dom i p hp with h | h
    · exact .inl h
    · exact .inr (hs.nw i h.1 h.2)
  · intro i p hi hp
    rcases ha.dom i p hp with h | h
    · rw [hr.free i hi] at h; cases h
    · rcases ha.new i p h.1 h.2 hp with h1 | ⟨j, q, h1, _, h3, h4, h5⟩
      · exact .inl h1
      · exact .inr ⟨j, q, h1, h3, h4, h5⟩
  · refine ha.frm.weaken ?_
    rintro b hb ⟨x, hx, p, hp, hpm, hpb⟩
    exact ⟨x.1, p, hs.wr x hx, hp, hpm, hpb⟩

/-- One operation of a statement, in the model. -/
theorem step_wp {P : Program} {all : List Oper} {i : Nat} {o : Oper} (hi : all[i]? = some o) {n : Nat} {e : Eff} {c : Cf} (hs : StepOk P all o n e c) {ρ : Rho} {a : Act} {w : World} (hr : SRel ρ c a w) {Q : Exit → Act → World → Prop} {K : Act → World → Prop}
    (hK : ∀ v ρ' w', SRel ρ' (c.after o.dst n e) (a.put o.dst v) w' → Prg ρ c.m w ρ' (c.after o.dst n e).m w' → K (a.put o.dst v) w') : wpOp P all.toArray Q i K a w := by
  unfold wpOp
  simp only [List.getElem?_toArray, hi]
  rcases hs.op with ⟨hw, rfl⟩ | ⟨hw, hop⟩
  · rw [wantIs_ok hw hr.tm]
    simp only [Bool.false_eq_true, if_false]
    have haft : After ρ (liveAt c.m) n { val := .tuple [] } w undef ρ w := After.quiet hr.good hr.apart (by simp [Rel, RelL, undef]) rfl rfl
    obtain ⟨h1, h2⟩ := step_rel hs hr haft
    exact hK _ _ _ h1 h2
  · rw [wantIs_ok hw hr.tm]
    simp only [if_true]
    refine .inl (hop ρ (liveAt c.m) a w (fun x _ => ev_rel hr.tm x) hr.good hr.apart (fun id _ row h => ⟨hr.rows id row h, fun hl => ⟨row, h, hl⟩⟩) (fun j h1 h2 => ⟨hr.free j (hs.nw j h1 h2), fun ⟨row, hrow, _⟩ => by rw [hs.nw j h1 h2] at hrow; cases hrow⟩) K Q fun v ρ' w' haft => ?_)
    obtain ⟨h1, h2⟩ := step_rel hs hr haft
    exact hK _ _ _ h1 h2

end Go.Proofs.Ytikifgbbiffclaa
