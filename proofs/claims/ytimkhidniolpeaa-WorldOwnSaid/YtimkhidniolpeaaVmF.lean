/- The small machine: one operation's step, in the model. Of whatever program. The small machine: statements whose order is fixed, and statements whose order is open. Of whatever program. The small machine: calls that are walked in place. Of whatever program. The small machine: guarded operations taken at once. Of whatever program. -/
import Derived.Test.YtimkhidniolpeaaVmE
import Derived.Orders
namespace Go.Proofs.Ytimkhidniolpeaa
set_option linter.unusedSimpArgs false
set_option linter.unusedVariables false
set_option maxRecDepth 100000
set_option maxHeartbeats 0
open Go.RowKit

structure Cf where
 tm : List SV
 m : Rws

def Cf.ev (c : Cf) : Operand → SV
 | .tmp t => c.tm.getD t .top
 | .const v => ofValue v
 | .global _ => .top
 | .func f => .fn f []

def Cf.after (c : Cf) (d : Option Nat) (n : Nat) (e : Eff) : Cf := ⟨putS c.tm d e.val, updN (updW c.m e.wr) n e.nw⟩

def St.cf (s : St) : Cf := ⟨s.tmps.list, fun i => s.rows[i]?⟩

theorem St.cf_ev (s : St) : s.cf.ev = s.ev := by
 funext x
 cases x with
 | tmp t => exact s.tmps.list_get t
 | _ => rfl

theorem wrRows_length : ∀ (l : List (Nat × Row)) (rows : List Row), (wrRows rows l).length = rows.length
 | [], _ => rfl
 | (i, r) :: l, rows => by rw [wrRows, wrRows_length l]; simp

theorem wrRows_get : ∀ (l : List (Nat × Row)) (rows : List Row), (fun i => (wrRows rows l)[i]?) = updW (fun i => rows[i]?) l
 | [], _ => rfl
 | (i, r) :: l, rows => by
  rw [wrRows, wrRows_get l, updW]
  congr 1
  funext j
  by_cases hj : j = i
  · subst hj
    by_cases hlt : j < rows.length
    · simp [hlt]
    · simp [List.getElem?_set, hlt, List.getElem?_eq_none (Nat.le_of_not_lt hlt)]
  · rw [List.getElem?_set_ne (Ne.symm hj), if_neg (fun h => hj h.1)]

theorem St.cf_after (s : St) {d : Option Nat} (hd : inT s.tmps d = true) (e : Eff) : (s.after d e).cf = s.cf.after d s.rows.length e := by
 unfold St.after St.cf Cf.after
 simp only [putT_list hd]
 congr 1
 funext i
 have h := congrFun (wrRows_get e.wr s.rows) i
 have hl := wrRows_length e.wr s.rows
 unfold updN
 by_cases hi : s.rows.length ≤ i
 · rw [List.getElem?_append_right (by omega), hl]
   by_cases h2 : i < s.rows.length + e.nw.length
   · rw [if_pos ⟨hi, h2⟩]
   · rw [if_neg (by omega), List.getElem?_eq_none (by omega), ← h, List.getElem?_eq_none (by omega)]
 · rw [List.getElem?_append_left (by omega), h, if_neg (by omega)]

structure SRel (ρ : Rho) (c : Cf) (a : Act) (w : World) : Prop where
 tm : RelL ρ c.tm a.tmps.toList
 df : a.defers = []
 good : Good ρ w
 rows : ∀ i row, c.m i = some row → RowAt ρ i row w
 apart : Apart ρ (liveAt c.m)
 free : ∀ i, c.m i = none → ρ i = none
 obj : ObjI ρ c.m w
theorem SRel.w {ρ : Rho} {c : Cf} {a : Act} {w : World} (h : SRel ρ c a w) : WRel ρ c.m w := ⟨h.good, h.rows, h.apart, h.free, h.obj⟩

structure Prg (ρ : Rho) (m : Rws) (w : World) (ρ' : Rho) (m' : Rws) (w' : World) : Prop where
 le : ρ.le ρ'
 keep : ∀ i, m' i = none → m i = none
 live : ∀ i, liveAt m' i → liveAt m i ∨ m i = none
 dom : ∀ i p, ρ' i = some p → ρ i = some p ∨ m i = none
 new : ∀ i p, m i = none → ρ' i = some p → w.heap.size ≤ p.b ∨ mayOf ρ m p.b
 frm : Frm (mayOf ρ m) w w'

theorem PrgO.plain {ρ ρ' : Rho} {m m' : Rws} {w w' : World} (h : PrgO ρ m w ρ' m' w') (hm : ∀ i s, m i ≠ some (.obj s)) : Prg ρ m w ρ' m' w' := by
 have may : ∀ b, mayO ρ m w b → mayOf ρ m b := by
  rintro b (h | ⟨i, s, _, hi, _⟩)
  · exact h
  · exact absurd hi (hm i s)
 exact ⟨h.le, h.keep, h.live, h.dom, fun i p hi hp => (h.new i p hi hp).imp id (may _), h.frm.weaken fun b _ hb => may b hb⟩

def wantIs (all : List Oper) (ts : List SV) (o : Oper) (b : Bool) : Prop :=
 match o.guard with
 | none => b = true
 | some (j, want) => match (all[j]?).bind (·.dst) with
  | none => b = false
  | some t => match ts[t]? with
   | some (.bool v) => b = (v == want)
   | some (.tuple []) => b = false
   | none => b = false
   | _ => False

theorem wantIs_ok {ρ : Rho} {all : List Oper} {ts : List SV} {o : Oper} {b : Bool} (h : wantIs all ts o b) {tmps : Array Value} (hr : RelL ρ ts tmps.toList) : Region.wanted o (yielded all.toArray tmps) = b := by
 unfold wantIs at h
 unfold Region.wanted
 cases hg : o.guard with
 | none => simp only [hg] at h; simp [h]
 | some jw =>
  obtain ⟨j, want⟩ := jw
  simp only [hg] at h
  simp only
  unfold yielded
  simp only [List.getElem?_toArray]
  cases hd : (all[j]?).bind (·.dst) with
  | none => simp only [hd] at h; simp [h]
  | some t =>
   simp only [hd] at h
   simp only [Option.bind_some]
   cases ht : ts[t]? with
   | none =>
    simp only [ht] at h
    have hl := hr.length
    have : tmps[t]? = none := by
     rw [List.getElem?_eq_none_iff] at ht
     rw [Array.getElem?_eq_none_iff]
     simp at hl
     omega
    rw [this]
    simp [h]
   | some sv =>
    obtain ⟨v, hv, hrel⟩ := hr.get ht
    rw [Array.getElem?_toList] at hv
    rw [hv]
    rw [ht] at h
    split at h
    · rename_i c hc
      cases hc
      simp only [Rel] at hrel
      subst hrel
      simp only
      rw [h]
      cases c <;> cases want <;> rfl
    · rename_i hc
      cases hc
      simp only [Rel, RelL] at hrel
      obtain ⟨vs, rfl, rfl⟩ := hrel
      simp [h]
    · rename_i hc; cases hc
    · exact h.elim

structure StepOk (P : Program) (all : List Oper) (o : Oper) (n : Nat) (e : Eff) (c : Cf) : Prop where
 op : (wantIs all c.tm o false ∧ e = { val := .tuple [] }) ∨ (wantIs all c.tm o true ∧ OpOk P o c.ev c.m n e ∧ (∀ x ∈ e.wr, liveAt c.m x.1) ∧ plainE e = true) ∨ (wantIs all c.tm o true ∧ OpOkO P o c.ev c.m n e)
 wr : ∀ x ∈ e.wr, ∃ row, c.m x.1 = some row
 nd : (e.wr.map (·.1)).Nodup
 nw : ∀ j, n ≤ j → j < n + e.nw.length → c.m j = none

theorem ev_rel {ρ : Rho} {c : Cf} {a : Act} (h : RelL ρ c.tm a.tmps.toList) (x : Operand) : Rel ρ (c.ev x) (a.eval x) := by
 cases x with
 | tmp t =>
  simp only [Cf.ev, Act.eval]
  cases ht : c.tm[t]? with
  | none => simp [List.getD, ht, Rel]
  | some sv =>
   obtain ⟨v, hv, hr⟩ := h.get ht
   rw [Array.getElem?_toList] at hv
   simpa [List.getD, ht, Array.getD_eq_getD_getElem?, hv] using hr
 | const v => exact ofValue_rel ρ v
 | global g => simp [Cf.ev, Rel]
 | func f => simp [Cf.ev, Act.eval, Rel, RelL]

theorem put_rel {ρ : Rho} {tm : List SV} {a : Act} (h : RelL ρ tm a.tmps.toList) (d : Option Nat) {s : SV} {v : Value} (hv : Rel ρ s v) : RelL ρ (putS tm d s) (a.put d v).tmps.toList := by
 cases d with
 | none => exact h
 | some d => simpa [putS, Act.put] using h.set hv d

theorem updW_get : ∀ (l : List (Nat × Row)) (m : Rws), (l.map (·.1)).Nodup → ∀ i, (∀ r, (i, r) ∈ l → (m i).isSome = true → updW m l i = some r) ∧ ((∀ r, (i, r) ∉ l) → updW m l i = m i)
 | [], m, _, i => by simp [updW]
 | (j, s) :: l, m, hn, i => by
  simp only [List.map_cons, List.nodup_cons] at hn
  obtain ⟨h1, h2⟩ := updW_get l (fun k => if k = j ∧ (m k).isSome = true then some s else m k) hn.2 i
  rw [updW]
  constructor
  · intro r hr hs
    rcases List.mem_cons.1 hr with hr | hr
    · cases hr
      rw [h2 (fun r hr => hn.1 (List.mem_map.2 ⟨_, hr, rfl⟩))]
      simp [hs]
    · refine h1 r hr ?_
      split
      · rfl
      · exact hs
  · intro hno
    rw [h2 (fun r hr => hno r (by simp [hr])), if_neg]
    rintro ⟨rfl, _⟩
    exact hno s (by simp)

theorem plainE_spec {e : Eff} (h : plainE e = true) : (∀ x ∈ e.wr, x.2.isObj = false) ∧ ∀ r ∈ e.nw, r.isObj = false := by
 unfold plainE at h
 rw [Bool.and_eq_true, List.all_eq_true, List.all_eq_true] at h
 exact ⟨fun x hx => by simpa using h.1 x hx, fun r hr => by simpa using h.2 r hr⟩

theorem step_rel {P : Program} {all : List Oper} {o : Oper} {n : Nat} {e : Eff} {c : Cf} (hs : StepOk P all o n e c) (hswr : ∀ x ∈ e.wr, liveAt c.m x.1) (hpl : plainE e = true) {ρ : Rho} {a : Act} {w : World} (hr : SRel ρ c a w) {v : Value} {ρ' : Rho} {w' : World} (ha : After ρ (liveAt c.m) n e w v ρ' w') :
    SRel ρ' (c.after o.dst n e) (a.put o.dst v) w' ∧ PrgO ρ c.m w ρ' (c.after o.dst n e).m w' := by
 obtain ⟨hpl1, hpl2⟩ := plainE_spec hpl
 have hm : ∀ i, ((n ≤ i ∧ i < n + e.nw.length) ∧ (c.after o.dst n e).m i = e.nw[i - n]? ∧ c.m i = none) ∨ ((¬ (n ≤ i ∧ i < n + e.nw.length)) ∧ ((∃ r, (i, r) ∈ e.wr ∧ (c.after o.dst n e).m i = some r) ∨ ((∀ r, (i, r) ∉ e.wr) ∧ (c.after o.dst n e).m i = c.m i))) := by
  intro i
  unfold Cf.after updN
  by_cases h : n ≤ i ∧ i < n + e.nw.length
  · exact .inl ⟨h, by simp [h], hs.nw i h.1 h.2⟩
  · refine .inr ⟨h, ?_⟩
    simp only [if_neg h]
    by_cases hw : ∃ r, (i, r) ∈ e.wr
    · obtain ⟨r, hr⟩ := hw
      obtain ⟨row, h1⟩ := hs.wr _ hr
      exact .inl ⟨r, hr, (updW_get e.wr c.m hs.nd i).1 r hr (by simp [h1])⟩
    · refine .inr ⟨fun r hr => hw ⟨r, hr⟩, (updW_get e.wr c.m hs.nd i).2 (fun r hr => hw ⟨r, hr⟩)⟩
 have hkeepb : ∀ i p row, c.m i = some row → row.live = true → (∀ r, (i, r) ∉ e.wr) → ρ i = some p → w'.heap[p.b]? = w.heap[p.b]? := by
  intro i p row h1 h2 h3 h4
  refine ha.frm.block p.b (hr.good i p h4) ?_
  rintro ⟨x, hx, q, hq, hqm, hqb⟩
  refine hr.apart i x.1 p q ⟨row, h1, h2⟩ (hswr x hx) ?_ h4 hq (by simp [hqm]) hqb.symm
  rintro rfl
  exact h3 x.2 hx
 have hlive : ∀ i, liveAt (c.after o.dst n e).m i → presAfter (liveAt c.m) n e i := by
  rintro i ⟨row, h1, h2⟩
  rcases hm i with ⟨h, _⟩ | ⟨h, hw⟩
  · rename_i hh
    exact .inr ⟨h, fun row' hrow' => by rw [hh.1, hrow'] at h1; cases h1; exact h2⟩
  · refine .inl ?_
    rcases hw with ⟨r, hr1, hr2⟩ | ⟨hno, hsame⟩
    · refine ⟨hswr _ hr1, fun x hx hxi => ?_⟩
      have : x = (i, r) := by
       have hnd := hs.nd
       obtain ⟨xi, xr⟩ := x
       simp only at hxi
       subst hxi
       have h3 := (updW_get e.wr c.m hs.nd xi).1
       obtain ⟨row', h4⟩ := hs.wr _ hr1
       have h5 := h3 r hr1 (by simp [h4])
       have h6 := h3 xr hx (by simp [h4])
       rw [h5] at h6
       cases h6
       rfl
      subst this
      rw [hr2] at h1
      cases h1
      exact h2
    · exact ⟨⟨row, by rw [← hsame]; exact h1, h2⟩, fun x hx hxi => absurd (show (i, x.2) ∈ e.wr by subst hxi; exact hx) (hno x.2)⟩
 have hmay : ∀ b, (∃ x ∈ e.wr, ∃ p, ρ x.1 = some p ∧ p.mine = true ∧ p.b = b) → mayOf ρ c.m b := by
  rintro b ⟨x, hx, p, hp, hpm, hpb⟩
  exact ⟨x.1, p, hswr x hx, hp, hpm, hpb⟩
 have hnew : ∀ i p, n ≤ i → i < n + e.nw.length → ρ' i = some p → w.heap.size ≤ p.b ∨ mayOf ρ c.m p.b := by
  intro i p h1 h2 hp
  rcases ha.new i p h1 h2 hp with h1 | ⟨j, q, h1, _, h3, h4, h5⟩
  · exact .inl h1
  · exact .inr ⟨j, q, h1, h3, h4, h5⟩
 obtain ⟨hobj1, hobj2⟩ := hr.obj.step (m' := (c.after o.dst n e).m) (w' := w') ha.le (by
     intro i s hi
     rcases hm i with ⟨h, h1, _⟩ | ⟨h, hw⟩
     · rw [h1] at hi
       have := hpl2 _ (List.mem_of_getElem? hi)
       simp [Row.isObj] at this
     · rcases hw with ⟨r, hr1, hr2⟩ | ⟨hno, hsame⟩
       · rw [hr2] at hi
         cases hi
         have := hpl1 _ hr1
         simp [Row.isObj] at this
       · rw [← hsame]; exact hi) ha.frm.size (fun b hb hn => ha.frm.block b hb fun hk => hn (hmay b hk)) (by
     intro j q hj hq
     rcases hlive j hj with h | h
     · rcases ha.dom j q hq with h1 | h1
       · exact .inl ⟨h.1, h1⟩
       · exact .inr (hnew j q h1.1 h1.2 hq)
     · exact .inr (hnew j q h.1.1 h.1.2 hq))
 refine ⟨⟨?_, ?_, ha.good, ?_, ?_, ?_, hobj1⟩, ⟨ha.le, ?_, ?_, ?_, ?_, ?_, ?_⟩⟩
 · exact put_rel (RelL.mono ha.le _ _ hr.tm) o.dst ha.val
 · cases o.dst <;> exact hr.df
 · intro i row hi
   rcases hm i with ⟨h, h1, _⟩ | ⟨h, hw⟩
   · rw [h1] at hi
     have := ha.nw (i - n) row hi
     rwa [show n + (i - n) = i by omega] at this
   · rcases hw with ⟨r, hr1, hr2⟩ | ⟨hno, hsame⟩
     · rw [hr2] at hi
       cases hi
       exact ha.wr _ hr1
     · rw [hsame] at hi
       by_cases hl : row.live = true
       · exact (hr.rows i row hi).keep ha.le (fun p hp => hkeepb i p row hi hl hno hp)
       · cases row with
         | gone => trivial
         | obj _ => trivial
         | own cs => simp [Row.live] at hl
         | pre ro cs => simp [Row.live] at hl
         | vec ro k xs =>
          refine .inl ?_
          cases ro <;> cases xs <;> simp [Row.live] at hl
          exact ⟨rfl, rfl⟩
 · intro i j p q hi hj hij hp hq hmm
   exact ha.apart i j p q (hlive i hi) (hlive j hj) hij hp hq hmm
 · intro i hi
   rcases hm i with ⟨h, h1, _⟩ | ⟨h, hw⟩
   · rw [h1, List.getElem?_eq_none_iff] at hi
     omega
   · rcases hw with ⟨r, hr1, hr2⟩ | ⟨hno, hsame⟩
     · rw [hr2] at hi; cases hi
     · rw [hsame] at hi
       cases hρ : ρ' i with
       | none => rfl
       | some p =>
        rcases ha.dom i p hρ with h1 | h1
        · rw [hr.free i hi] at h1; cases h1
        · exact absurd h1 h
 · intro i hi
   rcases hm i with ⟨h, h1, h2⟩ | ⟨h, hw⟩
   · exact h2
   · rcases hw with ⟨r, hr1, hr2⟩ | ⟨hno, hsame⟩
     · rw [hr2] at hi; cases hi
     · rwa [hsame] at hi
 · intro i hi
   rcases hlive i hi with h | h
   · exact .inl h.1
   · exact .inr (hs.nw i h.1.1 h.1.2)
 · intro i p hp
   rcases ha.dom i p hp with h | h
   · exact .inl h
   · exact .inr (hs.nw i h.1 h.2)
 · intro i p hi hp
   rcases ha.dom i p hp with h | h
   · rw [hr.free i hi] at h; cases h
   · exact (hnew i p h.1 h.2 hp).imp id .inl
 · exact ha.frm.weaken fun b _ hb => .inl (hmay b hb)
 · intro i s p hi hp x hx
   obtain ⟨h1, h2⟩ := hobj2 i s p hi hp
   refine .inr (.inr ⟨i, s, p, ?_, h1, (h2 x).1 hx⟩)
   rcases hm i with ⟨h, h1, _⟩ | ⟨h, hw⟩
   · rw [h1] at hi
     have := hpl2 _ (List.mem_of_getElem? hi)
     simp [Row.isObj] at this
   · rcases hw with ⟨r, hr1, hr2⟩ | ⟨hno, hsame⟩
     · rw [hr2] at hi
       cases hi
       have := hpl1 _ hr1
       simp [Row.isObj] at this
     · rw [← hsame]; exact hi

theorem step_wp {P : Program} {all : List Oper} {i : Nat} {o : Oper} (hi : all[i]? = some o) {n : Nat} {e : Eff} {c : Cf} (hs : StepOk P all o n e c) {ρ : Rho} {a : Act} {w : World} (hr : SRel ρ c a w) {Q : Exit → Act → World → Prop} {K : Act → World → Prop}
    (hK : ∀ v ρ' w', SRel ρ' (c.after o.dst n e) (a.put o.dst v) w' → PrgO ρ c.m w ρ' (c.after o.dst n e).m w' → K (a.put o.dst v) w') : wpOp P all.toArray Q i K a w := by
 unfold wpOp
 simp only [List.getElem?_toArray, hi]
 rcases hs.op with ⟨hw, rfl⟩ | ⟨hw, hop, hwr, hpl⟩ | ⟨hw, hop⟩
 · rw [wantIs_ok hw hr.tm]
   simp only [Bool.false_eq_true, if_false]
   have haft : After ρ (liveAt c.m) n { val := .tuple [] } w undef ρ w := After.quiet hr.good hr.apart (by simp [Rel, RelL, undef]) rfl rfl
   obtain ⟨h1, h2⟩ := step_rel hs (by simp) rfl hr haft
   exact hK _ _ _ h1 h2
 · rw [wantIs_ok hw hr.tm]
   simp only [if_true]
   refine .inl (hop ρ (liveAt c.m) a w (fun x _ => ev_rel hr.tm x) hr.good hr.apart (fun id _ row h => ⟨hr.rows id row h, fun hl => ⟨row, h, hl⟩⟩) (fun j h1 h2 => ⟨hr.free j (hs.nw j h1 h2), fun ⟨row, hrow, _⟩ => by rw [hs.nw j h1 h2] at hrow; cases hrow⟩) K Q fun v ρ' w' haft => ?_)
   obtain ⟨h1, h2⟩ := step_rel hs hwr hpl hr haft
   exact hK _ _ _ h1 h2
 · rw [wantIs_ok hw hr.tm]
   simp only [if_true]
   refine .inl (hop ρ c.m a w (fun x _ => ev_rel hr.tm x) (fun _ _ => rfl) (fun _ _ => rfl) hs.nw hr.w K Q fun v ρ' w' hv hw' hp => ?_)
   refine hK _ _ _ ⟨put_rel (RelL.mono hp.le _ _ hr.tm) o.dst hv, ?_, hw'.good, hw'.rows, hw'.apart, hw'.free, hw'.obj⟩ hp
   cases o.dst <;> exact hr.df

end Go.Proofs.Ytimkhidniolpeaa

namespace Go.Proofs.Ytimkhidniolpeaa
set_option linter.unusedSimpArgs false
set_option linter.unusedVariables false
set_option maxRecDepth 100000
set_option maxHeartbeats 0
open Go.RowKit

structure Item where
 o : Oper
 n : Nat
 e : Eff

def Item.touch (x : Item) (i : Nat) : Prop := (∃ r, (i, r) ∈ x.e.wr) ∨ (x.n ≤ i ∧ i < x.n + x.e.nw.length)
abbrev Item.on (x : Item) (c : Cf) : Cf := c.after x.o.dst x.n x.e
abbrev Item.Ok (P : Program) (all : List Oper) (x : Item) (c : Cf) : Prop := StepOk P all x.o x.n x.e c

inductive Runs (P : Program) (all : List Oper) : Cf → List (Nat × Item) → Cf → Prop
 | nil (c : Cf) : Runs P all c [] c
 | cons {c c' : Cf} {i : Nat} {x : Item} {l : List (Nat × Item)} (hi : all[i]? = some x.o) (hs : x.Ok P all c) (h : Runs P all (x.on c) l c') : Runs P all c ((i, x) :: l) c'

section
variable {P : Program} {all : List Oper}

theorem runs_wpOps {Q : Exit → Act → World → Prop} {c c' : Cf} {l : List (Nat × Item)} (h : Runs P all c l c') : ∀ {ρ : Rho} {a : Act} {w : World}, SRel ρ c a w →
    (∀ ρ' a' w', SRel ρ' c' a' w' → PrgO ρ c.m w ρ' c'.m w' → Q .normal a' w') → wpOps P all.toArray Q (l.map (·.1)) a w := by
 induction h with
 | nil c =>
  intro ρ a w hr hQ
  exact hQ ρ a w hr (PrgO.refl _ _ _ hr.free)
 | cons hi hs h ih =>
  intro ρ a w hr hQ
  rw [List.map_cons, wpOps_cons]
  refine step_wp hi hs hr fun v ρ' w' hr' hp => ih hr' fun ρ'' a'' w'' hr'' hp' => hQ _ _ _ hr'' (hp.trans hp')

structure Weak (c c0 : Cf) : Prop where
 m : c0.m = c.m
 tm : ∀ (ρ : Rho) (us : List Value), RelL ρ c.tm us → RelL ρ c0.tm us
theorem SRel.weak {ρ : Rho} {c c0 : Cf} {a : Act} {w : World} (h : SRel ρ c a w) (hw : Weak c c0) : SRel ρ c0 a w :=
 ⟨hw.tm ρ _ h.tm, h.df, h.good, by rw [hw.m]; exact h.rows, by rw [hw.m]; exact h.apart, by rw [hw.m]; exact h.free, by rw [hw.m]; exact h.obj⟩
theorem relL_weak {ρ : Rho} : ∀ {xs ys : List SV} {us : List Value}, xs.length = ys.length → (∀ (i : Nat) (v : SV), ys[i]? = some v → v = .top ∨ xs[i]? = some v) → RelL ρ xs us → RelL ρ ys us
 | [], [], us, _, _, h => h
 | [], _ :: _, _, hl, _, _ => by simp at hl
 | _ :: _, [], _, hl, _, _ => by simp at hl
 | x :: xs, y :: ys, us, hl, hp, h => by
  rw [RelL] at h
  obtain ⟨u, us', rfl, h1, h2⟩ := h
  rw [relL_cons]
  refine ⟨?_, relL_weak (by simpa using hl) (fun i v hi => by simpa using hp (i + 1) v (by simpa using hi)) h2⟩
  rcases hp 0 y (by simp) with h3 | h3
  · rw [h3]; simp [Rel]
  · simp at h3; rw [← h3]; exact h1

inductive RunsW (P : Program) (all : List Oper) : Cf → List (Nat × Item) → Cf → Prop
 | nil (c : Cf) : RunsW P all c [] c
 | cons {c c' : Cf} {i : Nat} {x : Item} {l : List (Nat × Item)} (hi : all[i]? = some x.o) (hs : x.Ok P all c) (h : RunsW P all (x.on c) l c') : RunsW P all c ((i, x) :: l) c'
 | weak {c c0 c' : Cf} {l : List (Nat × Item)} (hw : Weak c c0) (h : RunsW P all c0 l c') : RunsW P all c l c'

theorem Runs.w {c c' : Cf} {l : List (Nat × Item)} (h : Runs P all c l c') : RunsW P all c l c' := by
 induction h with
 | nil c => exact .nil c
 | cons hi hs _ ih => exact .cons hi hs ih
theorem RunsW.append {c c1 c' : Cf} {l l' : List (Nat × Item)} (h : RunsW P all c l c1) (k : RunsW P all c1 l' c') : RunsW P all c (l ++ l') c' := by
 induction h with
 | nil c => exact k
 | cons hi hs _ ih => exact .cons hi hs (ih k)
 | weak hw _ ih => exact .weak hw (ih k)

theorem runsW_wpOps {Q : Exit → Act → World → Prop} {c c' : Cf} {l : List (Nat × Item)} (h : RunsW P all c l c') : ∀ {ρ : Rho} {a : Act} {w : World}, SRel ρ c a w →
    (∀ ρ' a' w', SRel ρ' c' a' w' → PrgO ρ c.m w ρ' c'.m w' → Q .normal a' w') → wpOps P all.toArray Q (l.map (·.1)) a w := by
 induction h with
 | nil c =>
  intro ρ a w hr hQ
  exact hQ ρ a w hr (PrgO.refl _ _ _ hr.free)
 | cons hi hs h ih =>
  intro ρ a w hr hQ
  rw [List.map_cons, wpOps_cons]
  refine step_wp hi hs hr fun v ρ' w' hr' hp => ih hr' fun ρ'' a'' w'' hr'' hp' => hQ _ _ _ hr'' (hp.trans hp')
 | weak hw h ih =>
  intro ρ a w hr hQ
  exact ih (hr.weak hw) fun ρ' a' w' hr' hp => hQ ρ' a' w' hr' (by rw [hw.m] at hp; exact hp)

theorem after_touch {x : Item} {c : Cf} (hs : x.Ok P all c) (i : Nat) : ((x.n ≤ i ∧ i < x.n + x.e.nw.length) ∧ (x.on c).m i = x.e.nw[i - x.n]? ∧ c.m i = none) ∨
    ((¬ (x.n ≤ i ∧ i < x.n + x.e.nw.length)) ∧ ((∃ r, (i, r) ∈ x.e.wr ∧ (x.on c).m i = some r) ∨ ((∀ r, (i, r) ∉ x.e.wr) ∧ (x.on c).m i = c.m i))) := by
 unfold Item.on Cf.after updN
 by_cases h : x.n ≤ i ∧ i < x.n + x.e.nw.length
 · exact .inl ⟨h, by simp [h], hs.nw i h.1 h.2⟩
 · refine .inr ⟨h, ?_⟩
   simp only [if_neg h]
   by_cases hw : ∃ r, (i, r) ∈ x.e.wr
   · obtain ⟨r, hr⟩ := hw
     obtain ⟨row, h1⟩ := hs.wr _ hr
     exact .inl ⟨r, hr, (updW_get x.e.wr c.m hs.nd i).1 r hr (by simp [h1])⟩
   · exact .inr ⟨fun r hr => hw ⟨r, hr⟩, (updW_get x.e.wr c.m hs.nd i).2 (fun r hr => hw ⟨r, hr⟩)⟩

theorem after_not {x : Item} {c : Cf} (hs : x.Ok P all c) {i : Nat} (h : ¬ x.touch i) : (x.on c).m i = c.m i := by
 rcases after_touch hs i with ⟨h1, _⟩ | ⟨_, ⟨r, h1, _⟩ | ⟨_, h1⟩⟩
 · exact absurd (.inr h1) h
 · exact absurd (.inl ⟨r, h1⟩) h
 · exact h1

structure Ind (all : List Oper) (x y : Item) : Prop where
 d1 : ∀ d, x.o.dst = some d → d ∉ looksOf all y.o
 d2 : ∀ d, y.o.dst = some d → d ∉ looksOf all x.o
 d3 : ∀ d, x.o.dst = some d → y.o.dst ≠ some d
 r1 : ∀ i, x.touch i → i ∉ y.e.rd
 r2 : ∀ i, y.touch i → i ∉ x.e.rd
 w : ∀ i, x.touch i → ¬ y.touch i

theorem StepOk.congr {o : Oper} {n : Nat} {e : Eff} {c c' : Cf} (h : StepOk P all o n e c) (h1 : ∀ t ∈ looksOf all o, c'.tm[t]? = c.tm[t]?) (h2 : ∀ i ∈ e.rd, c'.m i = c.m i) (h3 : ∀ x ∈ e.wr, c'.m x.1 = c.m x.1)
    (h4 : ∀ j, n ≤ j → j < n + e.nw.length → c'.m j = none) : StepOk P all o n e c' := by
 have hw : ∀ b, wantIs all c.tm o b → wantIs all c'.tm o b := by
  intro b hb
  unfold wantIs at hb ⊢
  cases hg : o.guard with
  | none => simpa [hg] using hb
  | some jw =>
   obtain ⟨j, want⟩ := jw
   simp only [hg] at hb ⊢
   cases hd : (all[j]?).bind (·.dst) with
   | none => simpa [hd] using hb
   | some t =>
    simp only [hd] at hb ⊢
    rw [h1 t (by unfold looksOf; simp [hg, hd])]
    exact hb
 have hev : ∀ x ∈ o.op.operands, c'.ev x = c.ev x := by
  intro x hx
  cases x with
  | tmp t =>
   simp only [Cf.ev, List.getD]
   rw [h1 t]
   unfold looksOf
   refine List.mem_append_left _ (List.mem_filterMap.2 ⟨.tmp t, by simpa using hx, rfl⟩)
  | const v => rfl
  | global g => rfl
  | func f => rfl
 refine ⟨?_, fun x hx => ?_, h.nd, h4⟩
 · rcases h.op with ⟨hb, he⟩ | ⟨hb, ho, hl, hpl⟩ | ⟨hb, ho⟩
   · exact .inl ⟨hw _ hb, he⟩
   · refine .inr (.inl ⟨hw _ hb, fun ρ pres a w hx hg ha hrd hfree => ho ρ pres a w (fun x hxo => by rw [← hev x hxo]; exact hx x hxo) hg ha (fun id hid row hrow => hrd id hid row (by rw [h2 id hid]; exact hrow)) hfree, fun x hx => ?_, hpl⟩)
     obtain ⟨row, hr, hlv⟩ := hl x hx
     exact ⟨row, by rw [h3 x hx]; exact hr, hlv⟩
   · refine .inr (.inr ⟨hw _ hb, fun ρ m1 a w hx hrd hwr hfree => ho ρ m1 a w (fun x hxo => by rw [← hev x hxo]; exact hx x hxo) (fun i hi => (hrd i hi).trans (h2 i hi)) (fun x hx => (hwr x hx).trans (h3 x hx)) hfree⟩)
 · obtain ⟨row, hr⟩ := h.wr x hx
   exact ⟨row, by rw [h3 x hx]; exact hr⟩

theorem putS_get {ts : List SV} {d : Option Nat} {v : SV} {t : Nat} (h : d ≠ some t) : (putS ts d v)[t]? = ts[t]? := by
 cases d with
 | none => rfl
 | some d => simp only [putS]; rw [List.getElem?_set_ne]; rintro rfl; exact h rfl

theorem runs_swap {c c' : Cf} {i k : Nat} {x y : Item} {l : List (Nat × Item)} (hi : Ind all x y) (h : Runs P all c ((i, x) :: (k, y) :: l) c') : Runs P all c ((k, y) :: (i, x) :: l) c' := by
 cases h with
 | cons hix hx h =>
  cases h with
  | cons hky hy h =>
   have hy' : y.Ok P all c := hy.congr (fun t ht => (putS_get (fun hd => hi.d1 t hd ht)).symm) (fun j hj => (after_not hx (fun ht => hi.r1 j ht hj)).symm)
    (fun z hz => (after_not hx (fun ht => hi.w _ ht (.inl ⟨z.2, hz⟩))).symm)
    (fun j h1 h2 => by rw [← after_not hx (i := j) (fun ht => hi.w _ ht (.inr ⟨h1, h2⟩))]; exact hy.nw j h1 h2)
   have hx' : x.Ok P all (y.on c) := hx.congr (fun t ht => putS_get (fun hd => hi.d2 t hd ht)) (fun j hj => after_not hy' (fun ht => hi.r2 j ht hj))
    (fun z hz => after_not hy' (fun ht => hi.w _ (.inl ⟨z.2, hz⟩) ht))
    (fun j h1 h2 => by rw [after_not hy' (i := j) (fun ht => hi.w _ (.inr ⟨h1, h2⟩) ht)]; exact hx.nw j h1 h2)
   refine .cons hky hy' (.cons hix hx' ?_)
   have : x.on (y.on c) = y.on (x.on c) := by
    have htm : (x.on (y.on c)).tm = (y.on (x.on c)).tm := by
     simp only [Item.on, Cf.after]
     cases hxd : x.o.dst with
     | none => rfl
     | some d =>
      cases hyd : y.o.dst with
      | none => rfl
      | some d' =>
       simp only [putS]
       rw [List.set_comm]
       rintro rfl
       exact hi.d3 _ hxd hyd
    have hm : (x.on (y.on c)).m = (y.on (x.on c)).m := by
     funext j
     by_cases tx : x.touch j
     · have ty : ¬ y.touch j := hi.w j tx
       rw [after_not hy ty]
       rcases after_touch hx' j with ⟨h1, h2, _⟩ | ⟨h0, ⟨r, h1, h2⟩ | ⟨h1, _⟩⟩
       · rw [h2]
         rcases after_touch hx j with ⟨_, k2, _⟩ | ⟨k0, _⟩
         · rw [k2]
         · exact absurd h1 k0
       · rw [h2]
         have k := (updW_get x.e.wr c.m hx.nd j).1 r h1 (by obtain ⟨row, g⟩ := hx.wr _ h1; simp [g])
         simp only [Item.on, Cf.after, updN]
         rw [if_neg h0, k]
       · rcases tx with ⟨r, hr⟩ | hr
         · exact absurd hr (h1 r)
         · exact absurd hr h0
     · rw [after_not hx' tx]
       by_cases ty : y.touch j
       · rcases after_touch hy' j with ⟨h1, h2, _⟩ | ⟨h0, ⟨r, h1, h2⟩ | ⟨h1, _⟩⟩
         · rw [h2]
           rcases after_touch hy j with ⟨_, k2, _⟩ | ⟨k0, _⟩
           · rw [k2]
           · exact absurd h1 k0
         · rw [h2]
           have k := (updW_get y.e.wr (x.on c).m hy.nd j).1 r h1 (by obtain ⟨row, g⟩ := hy.wr _ h1; simp [g])
           change _ = updN (updW (x.on c).m y.e.wr) y.n y.e.nw j
           simp only [updN]
           rw [if_neg h0, k]
         · rcases ty with ⟨r, hr⟩ | hr
           · exact absurd hr (h1 r)
           · exact absurd hr h0
       · rw [after_not hy' ty, after_not hy ty, after_not hx tx]
    cases h1 : x.on (y.on c)
    cases h2 : y.on (x.on c)
    rw [h1, h2] at htm hm
    simp only at htm hm
    rw [htm, hm]
   rw [this]
   exact h

theorem runs_front {c' : Cf} {k : Nat} {y : Item} {post : List (Nat × Item)} : ∀ (pre : List (Nat × Item)) (c : Cf), (∀ x ∈ pre, Ind all x.2 y) → Runs P all c (pre ++ (k, y) :: post) c' → Runs P all c ((k, y) :: (pre ++ post)) c'
 | [], _, _, h => h
 | (i, x) :: pre, c, hi, h => by
  cases h with
  | cons hix hx h =>
   exact runs_swap (hi (i, x) (by simp)) (.cons hix hx (runs_front pre _ (fun z hz => hi z (by simp [hz])) h))

inductive Bef (all : List Oper) : Nat → Nat → Prop
 | edge {i k : Nat} {o : Oper} {e : Edge} (ho : all[k]? = some o) (he : e ∈ o.after) (hb : Region.binds .any e = true) (hi : e.on = i) : Bef all i k
 | trans {i j k : Nat} (h1 : Bef all i j) (h2 : Bef all j k) : Bef all i k

theorem bef_listed {listed : Array Bool} (hc : ∀ j o, all[j]? = some o → listed.getD j false = true → ∀ e ∈ o.after, Region.binds .any e = true → listed.getD e.on false = true) {i k : Nat} (h : Bef all i k) :
    listed.getD k false = true → listed.getD i false = true := by
 induction h with
 | edge ho he hb hi => intro hk; subst hi; exact hc _ _ ho hk _ he hb
 | trans _ _ ih1 ih2 => exact fun hk => ih1 (ih2 hk)

theorem bef_ready {listed : Array Bool} (hc : ∀ j o, all[j]? = some o → listed.getD j false = true → ∀ e ∈ o.after, Region.binds .any e = true → listed.getD e.on false = true) {i k : Nat} (h : Bef all i k) :
    (∀ o, all[k]? = some o → ∀ e ∈ o.after, Region.binds .any e = true → listed.getD e.on false = true) → listed.getD i false = true := by
 induction h with
 | edge ho he hb hi => intro hk; subst hi; exact hk _ ho _ he hb
 | trans h1 _ _ ih2 => exact fun hk => bef_listed hc h1 (ih2 hk)

theorem runs_wpAny {Q : Exit → Act → World → Prop} (hback : ∀ k o, all[k]? = some o → ∀ e ∈ o.after, Region.binds .any e = true → e.on < k) {c' : Cf} : ∀ (fuel : Nat) (l : List (Nat × Item)) (listed : Array Bool) (c : Cf) (ρ : Rho) (a : Act) (w : World),
    Runs P all c l c' → l.length = fuel → listed.size = all.length → (∀ j, j ∈ l.map (·.1) ↔ j < all.length ∧ listed.getD j true = false) →
    l.Pairwise (fun x y => x.1 < y.1 ∧ (Bef all x.1 y.1 ∨ Ind all x.2 y.2)) →
    (∀ j o, all[j]? = some o → listed.getD j false = true → ∀ e ∈ o.after, Region.binds .any e = true → listed.getD e.on false = true) →
    SRel ρ c a w → (∀ ρ' a' w', SRel ρ' c' a' w' → PrgO ρ c.m w ρ' c'.m w' → Q .normal a' w') → wpAny P .any all.toArray Q fuel listed a w := by
 intro fuel
 have flip : ∀ (listed : Array Bool) (j : Nat), listed.size = all.length → j < all.length → (listed.getD j true = false ↔ listed.getD j false = false) := by
  intro listed j h1 h2
  have : j < listed.size := by omega
  simp [Array.getD, this]
 induction fuel with
 | zero =>
  intro l listed c ρ a w hrun hlen hsz hun hpw hcl hr hQ
  have : l = [] := List.length_eq_zero_iff.1 hlen
  subst this
  cases hrun
  refine ⟨?_, hQ _ _ _ hr (PrgO.refl _ _ _ hr.free)⟩
  rw [List.eq_nil_iff_forall_not_mem]
  intro j hj
  obtain ⟨h1, o, ho, _⟩ := mem_ready.1 hj
  have hlt : j < all.length := by
   have := (Array.getElem?_eq_some_iff.1 ho).1
   simpa using this
  have := (hun j).2 ⟨hlt, h1⟩
  simp at this
 | succ fuel ih =>
  intro l listed c ρ a w hrun hlen hsz hun hpw hcl hr hQ
  refine ⟨fun hready => ?_, fun k hk => ?_⟩
  · exfalso
    cases l with
    | nil => simp at hlen
    | cons x l =>
     obtain ⟨k, x⟩ := x
     have hk := (hun k).1 (by simp)
     have hkr : k ∈ Region.ready .any all.toArray listed := by
      refine mem_ready.2 ⟨hk.2, all[k]'hk.1, by simp [hk.1], fun e he hb => ?_⟩
      have hlt := hback k _ (List.getElem?_eq_getElem hk.1) e he hb
      cases hl : listed.getD e.on false with
      | true => rfl
      | false =>
       exfalso
       have h1 : listed.getD e.on true = false := (flip listed e.on hsz (by omega)).2 hl
       have h2 := (hun e.on).2 ⟨by omega, h1⟩
       rw [List.map_cons, List.mem_cons] at h2
       rcases h2 with h2 | h2
       · omega
       · obtain ⟨y, hy, hye⟩ := List.mem_map.1 h2
         have := (List.pairwise_cons.1 hpw).1 y hy
         simp only at this
         omega
     rw [hready] at hkr
     cases hkr
  · obtain ⟨hkun, o, ho, hall⟩ := mem_ready.1 hk
    have ho' : all[k]? = some o := by simpa using ho
    have hklt : k < all.length := (List.getElem?_eq_some_iff.1 ho').1
    obtain ⟨y, hy, hyk⟩ := List.mem_map.1 ((hun k).2 ⟨hklt, hkun⟩)
    obtain ⟨k', y⟩ := y
    simp only at hyk
    subst hyk
    obtain ⟨pre, post, rfl⟩ := List.append_of_mem hy
    have hpw' := List.pairwise_append.1 hpw
    have hind : ∀ x ∈ pre, Ind all x.2 y := by
     intro x hx
     rcases (hpw'.2.2 x hx (k', y) (by simp)).2 with hb | hi
     · exfalso
       have h1 := bef_ready hcl hb (fun o2 ho2 e he hbind => by rw [ho'] at ho2; cases ho2; exact hall e he hbind)
       have h2 := (hun x.1).1 (by simp; exact .inl ⟨x.2, hx⟩)
       rw [(flip listed x.1 hsz h2.1).1 h2.2] at h1
       cases h1
     · exact hi
    have hfront := runs_front pre c hind hrun
    cases hfront with
    | cons hiy hy' h =>
     rw [ho'] at hiy
     cases hiy
     refine step_wp ho' hy' hr fun v ρ' w' hr' hp => ih (pre ++ post) (listed.setIfInBounds k' true) _ ρ' _ w' h ?_ (by simpa using hsz) ?_ ?_ ?_ hr' fun ρ'' a'' w'' hr'' hp' => hQ _ _ _ hr'' (hp.trans hp')
     · simp only [List.length_append, List.length_cons] at hlen ⊢
       omega
     · intro j
       have hnd : k' ∉ (pre ++ post).map (·.1) := by
        intro hm
        rw [List.map_append, List.mem_append] at hm
        rcases hm with hm | hm
        · obtain ⟨z, hz, hze⟩ := List.mem_map.1 hm
          have := (hpw'.2.2 z hz (k', y) (by simp)).1
          simp only at this
          omega
        · obtain ⟨z, hz, hze⟩ := List.mem_map.1 hm
          have := ((List.pairwise_cons.1 hpw'.2.1).1 z hz).1
          simp only at this
          omega
       by_cases hjk : j = k'
       · subst hjk
         constructor
         · exact fun h => absurd h hnd
         · rintro ⟨h1, h2⟩
           rw [Array.getD_eq_getD_getElem?, Array.getElem?_setIfInBounds_self_of_lt (by omega)] at h2
           simp at h2
       · rw [getD_set_ne true (Ne.symm hjk)]
         rw [← hun j]
         simp only [List.map_append, List.map_cons, List.mem_append, List.mem_cons]
         constructor
         · rintro (h | h)
           · exact .inl h
           · exact .inr (.inr h)
         · rintro (h | h | h)
           · exact .inl h
           · exact absurd h hjk
           · exact .inr h
     · exact hpw.sublist (List.Sublist.append (List.Sublist.refl _) (List.sublist_cons_self _ _))
     · intro j oj hoj hl e he hb
       by_cases hjk : j = k'
       · subst hjk
         rw [ho'] at hoj
         cases hoj
         exact getD_set_true (hall e he hb)
       · rw [getD_set_ne false (Ne.symm hjk)] at hl
         exact getD_set_true (hcl j oj hoj hl e he hb)
end
end Go.Proofs.Ytimkhidniolpeaa

namespace Go.Proofs.Ytimkhidniolpeaa
set_option linter.unusedSimpArgs false
set_option linter.unusedVariables false
set_option maxRecDepth 100000
set_option maxHeartbeats 0
open Go.RowKit

theorem memN_iff {x : Nat} : ∀ {l : List Nat}, memN x l = true ↔ x ∈ l
 | [] => by simp [memN]
 | y :: l => by
  rw [memN, List.mem_cons]
  cases h : Nat.beq x y with
  | true => simp [Nat.eq_of_beq_eq_true h]
  | false =>
   have := Nat.ne_of_beq_eq_false h
   simp [this, memN_iff (l := l)]

theorem mem_dedup {x : Nat} : ∀ {l : List Nat}, x ∈ dedup l ↔ x ∈ l
 | [] => by simp [dedup]
 | y :: l => by
  rw [dedup]
  cases h : memN y l with
  | true =>
   simp only [cond_true, mem_dedup (l := l), List.mem_cons]
   constructor
   · exact .inr
   · rintro (rfl | h2)
     · exact memN_iff.1 h
     · exact h2
  | false => simp [mem_dedup (l := l)]

theorem args_reach {rows : List Row} {args : List SV} {i : Nat} (h : i ∈ SV.idsL args) : i ∈ reach rows args := by
 unfold reach
 rw [mem_dedup]
 unfold reachStep
 refine List.mem_append_left _ ?_
 rw [mem_dedup]
 refine List.mem_append_left _ ?_
 rw [mem_dedup]
 exact h

theorem mask_length (rch : List Nat) : ∀ (l : List Row) (i : Nat), (maskFrom rch i l).length = l.length
 | [], _ => rfl
 | r :: l, i => by simp [maskFrom, mask_length rch l]
theorem mask_get (rch : List Nat) : ∀ (l : List Row) (i j : Nat), (maskFrom rch i l)[j]? = (l[j]?).map fun r => if i + j ∈ rch ∧ r.isObj = false then r else .gone
 | [], i, j => by simp [maskFrom]
 | r :: l, i, 0 => by
  simp only [maskFrom, List.getElem?_cons_zero, Option.map_some, Nat.add_zero, Option.some.injEq]
  by_cases h : i ∈ rch
  · cases ho : r.isObj <;> simp [memN_iff.2 h, h]
  · have : memN i rch = false := by
     cases hb : memN i rch with
     | false => rfl
     | true => exact absurd (memN_iff.1 hb) h
    simp [this, h]
 | r :: l, i, j + 1 => by
  simp only [maskFrom, List.getElem?_cons_succ, mask_get rch l]
  rw [show i + 1 + j = i + (j + 1) by omega]

def CallOk (P : Program) (f : Nat) (args : List SV) (rows : List Row) (v : SV) (rows' : List Row) : Prop :=
 ∀ (ρ : Rho) (vargs : List Value) (w : World), RelL ρ args vargs → Good ρ w → (∀ i row, rows[i]? = some row → RowAt ρ i row w) → Apart ρ (liveAt (fun i => rows[i]?)) → (∀ i, rows.length ≤ i → ρ i = none) →
  Calls P f vargs.toArray w fun en w' => ∃ v' ρ', en = .returned v' ∧ Rel ρ' v v' ∧ Good ρ' w' ∧ (∀ i row, rows'[i]? = some row → RowAt ρ' i row w') ∧ Apart ρ' (liveAt (fun i => rows'[i]?)) ∧ (∀ i, rows'.length ≤ i → ρ' i = none) ∧
   Prg ρ (fun i => rows[i]?) w ρ' (fun i => rows'[i]?) w'

def CallOkO (P : Program) (f : Nat) (args : List SV) (rows : List Row) (v : SV) (rows' : List Row) : Prop :=
 ∀ (ρ : Rho) (vargs : List Value) (w : World), RelL ρ args vargs → WRel ρ (fun i => rows[i]?) w →
  Calls P f vargs.toArray w fun en w' => ∃ v' ρ', en = .returned v' ∧ Rel ρ' v v' ∧ WRel ρ' (fun i => rows'[i]?) w' ∧ PrgO ρ (fun i => rows[i]?) w ρ' (fun i => rows'[i]?) w'

theorem CallOkO.plain {P : Program} {f : Nat} {args : List SV} {rows : List Row} {v : SV} {rows' : List Row} (h : CallOkO P f args rows v rows') (hn : noObj rows = true) : CallOk P f args rows v rows' := by
 intro ρ vargs w hargs hg hrows ha hf
 refine (h ρ vargs w hargs ⟨hg, hrows, ha, fun i hi => hf i (by simpa using hi), .none fun i s => noObj_spec hn i s⟩).mono ?_
 rintro en w' ⟨v', ρ', rfl, hv, hw, hp⟩
 exact ⟨v', ρ', rfl, hv, hw.good, hw.rows, hw.apart, fun i hi => hw.free i (by simpa using hi), hp.plain fun i s => noObj_spec hn i s⟩

theorem mask_noObj (rch : List Nat) : ∀ (l : List Row) (i : Nat), noObj (maskFrom rch i l) = true
 | [], _ => rfl
 | r :: l, i => by
  have ih := mask_noObj rch l (i + 1)
  unfold noObj at ih ⊢
  rw [maskFrom, List.all_cons, ih, Bool.and_true]
  cases ho : memN i rch <;> cases hr : r.isObj <;> first | rfl | simp [hr]

theorem wrOf_mem {old rows : List Row} {x : Nat × Row} : ∀ {l : List Nat}, x ∈ wrOf old rows l ↔ x.1 ∈ l ∧ rows[x.1]? = some x.2 ∧ ((∃ c, old[x.1]? = some (.own c)) ∨ (∃ k xs, old[x.1]? = some (.vec false k xs)) ∨ ∃ c, old[x.1]? = some (.pre false c))
 | [] => by simp [wrOf]
 | i :: l => by
  rw [wrOf]
  have ih := wrOf_mem (x := x) (old := old) (rows := rows) (l := l)
  obtain ⟨xi, xr⟩ := x
  simp only at ih ⊢
  split
  · rename_i c r h1 h2
    rw [List.mem_cons, ih, List.mem_cons]
    constructor
    · rintro (h | h)
      · cases h; exact ⟨.inl rfl, h2, .inl ⟨c, h1⟩⟩
      · exact ⟨.inr h.1, h.2⟩
    · rintro ⟨h | h, h3, h4⟩
      · subst h; rw [h2] at h3; cases h3; exact .inl rfl
      · exact .inr ⟨h, h3, h4⟩
  · rename_i k xs r h1 h2
    rw [List.mem_cons, ih, List.mem_cons]
    constructor
    · rintro (h | h)
      · cases h; exact ⟨.inl rfl, h2, .inr (.inl ⟨k, xs, h1⟩)⟩
      · exact ⟨.inr h.1, h.2⟩
    · rintro ⟨h | h, h3, h4⟩
      · subst h; rw [h2] at h3; cases h3; exact .inl rfl
      · exact .inr ⟨h, h3, h4⟩
  · rename_i c r h1 h2
    rw [List.mem_cons, ih, List.mem_cons]
    constructor
    · rintro (h | h)
      · cases h; exact ⟨.inl rfl, h2, .inr (.inr ⟨c, h1⟩)⟩
      · exact ⟨.inr h.1, h.2⟩
    · rintro ⟨h | h, h3, h4⟩
      · subst h; rw [h2] at h3; cases h3; exact .inl rfl
      · exact .inr ⟨h, h3, h4⟩
  · rename_i h1 h2 h2b
    rw [ih, List.mem_cons]
    constructor
    · rintro ⟨h, h3⟩; exact ⟨.inr h, h3⟩
    · rintro ⟨h | h, h3, h4⟩
      · subst h
        rcases h4 with ⟨c, h4⟩ | ⟨k, xs, h4⟩ | ⟨c, h4⟩
        · exact absurd h3 (by intro h5; exact h1 _ _ h4 h5)
        · exact absurd h3 (by intro h5; exact h2 _ _ _ h4 h5)
        · exact absurd h3 (by intro h5; exact h2b _ _ h4 h5)
      · exact ⟨h, h3, h4⟩

theorem closedN_iff {n : Nat} {l : List Nat} : closedN n l = true ↔ ∀ i ∈ l, i < n := by
 unfold closedN
 rw [List.all_eq_true]
 constructor
 · intro h i hi; have := h i hi; simpa [Nat.blt_eq] using this
 · intro h i hi; simpa [Nat.blt_eq] using h i hi

theorem live_wr {old rows : List Row} {rch : List Nat} {i : Nat} {row : Row} {ρ : Rho} {w : World} {p : Plc} (hi : i ∈ rch) (ho : old[i]? = some row) (hl : row.live = true) (hr : RowAt ρ i row w) (hp : ρ i = some p) (hm : p.mine = true) {r : Row} (hr' : rows[i]? = some r) : (i, r) ∈ wrOf old rows rch := by
 rw [wrOf_mem]
 refine ⟨hi, hr', ?_⟩
 cases row with
 | gone => simp [Row.live] at hl
 | obj _ => simp [Row.live] at hl
 | own c => exact .inl ⟨c, ho⟩
 | pre ro c =>
  cases ro with
  | false => exact .inr (.inr ⟨c, ho⟩)
  | true =>
   obtain ⟨q, _, _, hq, _, hqm, _⟩ := hr
   rw [hp] at hq; cases hq
   rw [hqm] at hm
   cases hm
 | vec ro k xs =>
  cases ro with
  | false => exact .inr (.inl ⟨k, xs, ho⟩)
  | true =>
   rcases hr with ⟨_, he⟩ | ⟨q, hq, hro, _⟩
   · subst he; simp [Row.live] at hl
   · rw [hp] at hq
     cases hq
     rw [hro rfl] at hm
     cases hm

theorem inl_ok {P : Program} {fid : Nat} {args : List SV} {rows rows' : List Row} {v : SV} (hc : CallOk P fid args (maskFrom (reach rows args) 0 rows) v rows') (hreach : reachOk rows (reach rows args) = true) :
    FnOk P fid args (fun i => rows[i]?) rows.length (inlEff rows (reach rows args) v rows') := by
 intro ρ pres vargs w hargs hg ha hrd hfree
 generalize hrch : reach rows args = rch at *
 have hsub : ∀ i ∈ SV.idsL args, i ∈ rch := fun i hi => hrch ▸ args_reach hi
 unfold reachOk at hreach
 rw [Bool.and_eq_true, closedN_iff] at hreach
 obtain ⟨hlt, hcl⟩ := hreach
 have hcl' : ∀ i ∈ rch, ∀ row, rows[i]? = some row → ∀ j ∈ row.idsR, j ∈ rch := by
  intro i hi row hrow j hj
  have h1 := List.all_eq_true.1 hcl i hi
  rw [List.all_eq_true] at h1
  exact memN_iff.1 (h1 j (by simpa [List.getD, hrow] using hj))
 have hrdeq : (inlEff rows rch v rows').rd = rch := by unfold inlEff; cases closedN rows.length (v.ids ++ (wrOf rows rows' rch).flatMap fun x => x.2.idsR) <;> rfl
 have hwreq : (inlEff rows rch v rows').wr = wrOf rows rows' rch := by unfold inlEff; cases closedN rows.length (v.ids ++ (wrOf rows rows' rch).flatMap fun x => x.2.idsR) <;> rfl
 have hval : (inlEff rows rch v rows').val = v := by unfold inlEff; cases closedN rows.length (v.ids ++ (wrOf rows rows' rch).flatMap fun x => x.2.idsR) <;> rfl
 rw [hrdeq] at hrd
 -- the callee's places
 let ρ0 : Rho := fun i => if i ∈ rch then ρ i else none
 have hρ0 : ∀ i p, ρ0 i = some p → ρ i = some p ∧ i ∈ rch := by
  intro i p h
  simp only [ρ0] at h
  split at h
  · exact ⟨h, by assumption⟩
  · cases h
 have hm0 : ∀ i row, (maskFrom rch 0 rows)[i]? = some row → row.live = true → i ∈ rch ∧ rows[i]? = some row := by
  intro i row h hl
  rw [mask_get, Nat.zero_add] at h
  cases hrow : rows[i]? with
  | none => simp [hrow] at h
  | some r =>
   simp only [hrow, Option.map_some, Option.some.injEq] at h
   by_cases hi : i ∈ rch ∧ r.isObj = false
   · rw [if_pos hi] at h; subst h; exact ⟨hi.1, rfl⟩
   · rw [if_neg hi] at h; subst h; simp [Row.live] at hl
 have hrow0 : ∀ i row, (maskFrom rch 0 rows)[i]? = some row → RowAt ρ0 i row w := by
  intro i row h
  cases hl : row.live with
  | false =>
   cases row with
   | gone => trivial
   | obj _ => trivial
   | own c => simp [Row.live] at hl
   | pre ro c => simp [Row.live] at hl
   | vec ro k xs =>
    refine .inl ?_
    cases ro <;> cases xs <;> simp [Row.live] at hl
    exact ⟨rfl, rfl⟩
  | true =>
   obtain ⟨hi, hrow⟩ := hm0 i row h hl
   refine (hrd i hi row hrow).1.only (fun p hp => by simp only [ρ0, if_pos hi]; exact hp) (fun j hj p hp => ?_)
   simp only [ρ0, if_pos (hcl' i hi row hrow j hj)]
   exact hp
 have hlive0 : ∀ i, liveAt (fun i => (maskFrom rch 0 rows)[i]?) i → i ∈ rch ∧ pres i ∧ ∃ row, rows[i]? = some row ∧ row.live = true := by
  rintro i ⟨row, h, hl⟩
  obtain ⟨hi, hrow⟩ := hm0 i row h hl
  exact ⟨hi, (hrd i hi row hrow).2 hl, row, hrow, hl⟩
 have hcall := hc ρ0 vargs w (RelL.only _ _ (fun i hi p hp => by simp only [ρ0, if_pos (hsub i hi)]; exact hp) hargs) (fun i p h => hg i p (hρ0 i p h).1) hrow0
  (fun i j p q hi hj hij hp hq hm => ha i j p q (hlive0 i hi).2.1 (hlive0 j hj).2.1 hij (hρ0 i p hp).1 (hρ0 j q hq).1 hm)
  (fun i hi => by
   rw [mask_length] at hi
   cases h : ρ0 i with
   | none => rfl
   | some p => have := hlt i (hρ0 i p h).2; omega)
 refine hcall.mono ?_
 rintro en w' ⟨v', ρ1, rfl, hv, hg1, hrows1, ha1, hfree1, hprg⟩
 refine ⟨v', ?_⟩
 have hlen : rows.length ≤ rows'.length := by
  rcases Nat.lt_or_ge rows'.length rows.length with h | h
  · have := hprg.keep rows'.length (by simp)
    simp only [List.getElem?_eq_none_iff, mask_length] at this
    omega
  · exact h
 have hold : ∀ i p, i < rows.length → ρ1 i = some p → ρ i = some p ∧ i ∈ rch := by
  intro i p hi hp
  rcases hprg.dom i p hp with h | h
  · exact hρ0 i p h
  · simp only [List.getElem?_eq_none_iff, mask_length] at h; omega
 have hmay : ∀ b, mayOf ρ0 (fun i => (maskFrom rch 0 rows)[i]?) b → ∃ i row p r, i ∈ rch ∧ pres i ∧ rows[i]? = some row ∧ row.live = true ∧ ρ i = some p ∧ p.mine = true ∧ p.b = b ∧ (i, r) ∈ wrOf rows rows' rch := by
  rintro b ⟨i, p, hl, hp, hm, rfl⟩
  obtain ⟨hi, hpr, row, hrow, hrl⟩ := hlive0 i hl
  have hp' := (hρ0 i p hp).1
  have hil := hlt i hi
  obtain ⟨r, hr⟩ : ∃ r, rows'[i]? = some r := ⟨rows'[i]'(by omega), List.getElem?_eq_getElem (by omega)⟩
  exact ⟨i, row, p, r, hi, hpr, hrow, hrl, hp', hm, rfl, live_wr hi hrow hrl (hrd i hi row hrow).1 hp' hm hr⟩
 have hfrm : Frm (fun b => ∃ x ∈ wrOf rows rows' rch, ∃ p, ρ x.1 = some p ∧ p.mine = true ∧ p.b = b) w w' := by
  refine hprg.frm.weaken fun b _ hb => ?_
  obtain ⟨i, row, p, r, h1, h2, h3, h4, h5, h6, h7, h8⟩ := hmay b hb
  exact ⟨(i, r), h8, p, h5, h6, h7⟩
 have hgood : Good ρ w' := fun i p h => Nat.lt_of_lt_of_le (hg i p h) hprg.frm.size
 cases hclosed : closedN rows.length (v.ids ++ (wrOf rows rows' rch).flatMap fun x => x.2.idsR) with
 | true =>
  have heff : inlEff rows rch v rows' = { val := v, rd := rch, wr := wrOf rows rows' rch, nw := [] } := by unfold inlEff; rw [hclosed]; rfl
  rw [heff]
  rw [closedN_iff] at hclosed
  refine ⟨ρ, rfl, ⟨Rho.le.refl ρ, hgood, fun _ _ h => .inl h, fun i p h1 h2 => by simp at h2; omega, ?_, ?_, ?_, by simp, hfrm⟩⟩
  · intro i j p q hi hj
    refine ha i j p q ?_ ?_
    · rcases hi with h | h
      · exact h.1
      · simp at h; omega
    · rcases hj with h | h
      · exact h.1
      · simp at h; omega
  · refine Rel.only _ _ (fun i hi p hp => (hold i p (hclosed i (List.mem_append_left _ hi)) hp).1) hv
  · intro x hx
    have hx' := wrOf_mem.1 hx
    refine (hrows1 x.1 x.2 hx'.2.1).only (fun p hp => (hold x.1 p (hlt _ hx'.1) hp).1) (fun j hj p hp => (hold j p (hclosed j (List.mem_append_right _ (List.mem_flatMap.2 ⟨x, hx, hj⟩))) hp).1)
 | false =>
  have heff : inlEff rows rch v rows' = { val := v, rd := rch, wr := wrOf rows rows' rch, nw := rows'.drop rows.length } := by unfold inlEff; rw [hclosed]; rfl
  rw [heff] at hfree ⊢
  simp only [List.length_drop] at hfree
  let ρ2 : Rho := fun i => if rows.length ≤ i ∧ i < rows'.length then ρ1 i else ρ i
  have h2new : ∀ i, rows.length ≤ i → i < rows'.length → ρ2 i = ρ1 i := fun i h1 h2 => by simp only [ρ2, if_pos (And.intro h1 h2)]
  have h2old : ∀ i, ¬ (rows.length ≤ i ∧ i < rows'.length) → ρ2 i = ρ i := fun i h => by simp only [ρ2, if_neg h]
  have hle : ρ.le ρ2 := by
   intro i p hp
   by_cases h : rows.length ≤ i ∧ i < rows'.length
   · rw [(hfree i h.1 (by omega)).1] at hp; cases hp
   · rw [h2old i h]; exact hp
  have hle1 : ρ1.le ρ2 := by
   intro i p hp
   by_cases h : rows.length ≤ i ∧ i < rows'.length
   · rw [h2new i h.1 h.2]; exact hp
   · by_cases h3 : rows'.length ≤ i
     · rw [hfree1 i h3] at hp; cases hp
     · rw [h2old i h]; exact (hold i p (by omega) hp).1
  refine ⟨ρ2, rfl, ⟨hle, ?_, ?_, ?_, ?_, Rel.mono hle1 _ _ hv, ?_, ?_, hfrm⟩⟩
  · intro i p hp
    by_cases h : rows.length ≤ i ∧ i < rows'.length
    · rw [h2new i h.1 h.2] at hp; exact hg1 i p hp
    · rw [h2old i h] at hp; exact hgood i p hp
  · intro i p hp
    by_cases h : rows.length ≤ i ∧ i < rows'.length
    · exact .inr ⟨h.1, by simp; omega⟩
    · rw [h2old i h] at hp; exact .inl hp
  · intro i p h1 h2 hp
    simp only [List.length_drop] at h2
    rw [h2new i h1 (by omega)] at hp
    rcases hprg.new i p (by simp [mask_length, h1]) hp with h | h
    · exact .inl h
    · obtain ⟨j, row, q, r, k1, k2, k3, k4, k5, k6, k7, k8⟩ := hmay _ h
      exact .inr ⟨j, q, k2, ⟨r, k8⟩, k5, k6, k7⟩
  · -- apart
    have hn : ∀ j q, rows.length ≤ j → j < rows'.length → ρ2 j = some q → (∀ row, rows'[j]? = some row → row.live = true) → ∀ i p, pres i → (∀ x ∈ wrOf rows rows' rch, x.1 = i → x.2.live = true) → ¬ (rows.length ≤ i ∧ i < rows'.length) → ρ i = some p → p.b ≠ q.b := by
     intro j q hj1 hj2 hq hjl i p hpi hwi hio hp heq
     rw [h2new j hj1 hj2] at hq
     rcases hprg.new j q (by simp [mask_length, hj1]) hq with h | h
     · have := hg i p hp; omega
     · obtain ⟨i0, row, p0, r, k1, k2, k3, k4, k5, k6, k7, k8⟩ := hmay _ h
       by_cases hii : i = i0
       · subst hii
         rw [hp] at k5
         cases k5
         have hrl := hwi _ k8 rfl
         have hri := (wrOf_mem.1 k8).2.1
         have h1 : ρ1 i = some p := hprg.le i p (by simp only [ρ0, if_pos k1]; exact hp)
         have hne : i ≠ j := by have := hlt i k1; omega
         exact ha1 i j p q ⟨r, hri, hrl⟩ ⟨rows'[j]'hj2, List.getElem?_eq_getElem hj2, hjl _ (List.getElem?_eq_getElem hj2)⟩ hne h1 hq (by simp [k6]) heq
       · exact ha i i0 p p0 hpi k2 hii hp k5 (by simp [k6]) (by rw [heq, k7])
    have split' : ∀ i p, presAfter pres rows.length { val := v, rd := rch, wr := wrOf rows rows' rch, nw := rows'.drop rows.length } i → ρ2 i = some p →
        (¬ (rows.length ≤ i ∧ i < rows'.length) ∧ ρ i = some p ∧ pres i ∧ ∀ x ∈ wrOf rows rows' rch, x.1 = i → x.2.live = true) ∨ (rows.length ≤ i ∧ i < rows'.length ∧ ρ1 i = some p ∧ ∀ row, rows'[i]? = some row → row.live = true) := by
     intro i p hpr hp
     by_cases h : rows.length ≤ i ∧ i < rows'.length
     · refine .inr ⟨h.1, h.2, by rw [← h2new i h.1 h.2]; exact hp, fun row hrow => ?_⟩
       rcases hpr with hpr | hpr
       · exact absurd hpr.1 (hfree i h.1 (by omega)).2
       · refine hpr.2 row ?_
         simp only [List.getElem?_drop]
         rw [show rows.length + (i - rows.length) = i by omega]
         exact hrow
     · refine .inl ⟨h, by rw [← h2old i h]; exact hp, ?_⟩
       rcases hpr with hpr | hpr
       · exact hpr
       · exact absurd ⟨hpr.1.1, by have := hpr.1.2; simp only [List.length_drop] at this; omega⟩ h
    intro i j p q hi hj hij hp hq hm
    rcases split' i p hi hp with ⟨h1, h2, h3, h4⟩ | ⟨h1, h2, h3, h4⟩ <;> rcases split' j q hj hq with ⟨k1, k2, k3, k4⟩ | ⟨k1, k2, k3, k4⟩
    · exact ha i j p q h3 k3 hij h2 k2 hm
    · exact hn j q k1 k2 hq k4 i p h3 h4 h1 h2
    · exact fun h => hn i p h1 h2 hp h4 j q k3 k4 k1 k2 h.symm
    · exact ha1 i j p q ⟨rows'[i]'h2, List.getElem?_eq_getElem h2, h4 _ (List.getElem?_eq_getElem h2)⟩ ⟨rows'[j]'k2, List.getElem?_eq_getElem k2, k4 _ (List.getElem?_eq_getElem k2)⟩ hij h3 k3 hm
  · intro x hx
    exact (hrows1 x.1 x.2 (wrOf_mem.1 hx).2.1).keep hle1 (fun _ _ => rfl)
  · intro j row hj
    simp only [List.getElem?_drop] at hj
    exact (hrows1 _ row hj).keep hle1 (fun _ _ => rfl)

mutual
theorem rel_frz {ρ ρ0 : Rho} : ∀ {s : SV} {u : Value}, Rel ρ s u → (∀ i ∈ s.ids, ρ0 i = (ρ i).map (fun p => { p with mine := false })) → Rel ρ0 s u
 | .top, _, _, _ => by simp [Rel]
 | .unk, _, r, _ => by simpa only [Rel] using r
 | .int .., _, r, _ => by simpa [Rel] using r
 | .bool _, _, r, _ => by simpa [Rel] using r
 | .nilp, _, r, _ => by simpa [Rel] using r
 | .nils, _, r, _ => by simpa [Rel] using r
 | .ptr id _ _ _, _, r, h => by
  simp only [Rel] at r ⊢
  obtain ⟨p, hp, hv⟩ := r
  exact ⟨{ p with mine := false }, by rw [h id (by simp [SV.ids]), hp]; rfl, hv⟩
 | .slice id _ _ _ _, _, r, h => by
  simp only [Rel] at r ⊢
  rcases r with ⟨p, o, c, hp, hv, h1, h2, h3, _⟩ | r
  · exact .inl ⟨{ p with mine := false }, o, c, by rw [h id (by simp [SV.ids]), hp]; rfl, hv, h1, h2, h3, fun h => by cases h⟩
  · exact .inr r
 | .agg xs, _, r, h => by
  simp only [Rel] at r ⊢
  obtain ⟨vs, hv, hr⟩ := r
  exact ⟨vs, hv, relL_frz hr fun i hi => h i (by simpa [SV.ids] using hi)⟩
 | .tuple xs, _, r, h => by
  simp only [Rel] at r ⊢
  obtain ⟨vs, hv, hr⟩ := r
  exact ⟨vs, hv, relL_frz hr fun i hi => h i (by simpa [SV.ids] using hi)⟩
 | .fn _ xs, _, r, h => by
  simp only [Rel] at r ⊢
  obtain ⟨vs, hv, hr⟩ := r
  exact ⟨vs, hv, relL_frz hr fun i hi => h i (by simpa [SV.ids] using hi)⟩
theorem relL_frz {ρ ρ0 : Rho} : ∀ {s : List SV} {us : List Value}, RelL ρ s us → (∀ i ∈ SV.idsL s, ρ0 i = (ρ i).map (fun p => { p with mine := false })) → RelL ρ0 s us
 | [], _, r, _ => by simpa [RelL] using r
 | x :: xs, _, r, h => by
  simp only [RelL] at r ⊢
  obtain ⟨v, vs, hv, h1, h2⟩ := r
  exact ⟨v, vs, hv, rel_frz h1 fun i hi => h i (by simp [SV.idsL, hi]), relL_frz h2 fun i hi => h i (by simp [SV.idsL, hi])⟩
end

theorem frz_live {r : Row} (h : (frzRow r).live = true) : r.live = true := by
 cases r with
 | vec ro k xs => cases ro <;> cases xs <;> simp_all [frzRow, Row.live]
 | _ => simp_all [frzRow, Row.live]
theorem frz_obj {r : Row} : (frzRow r).isObj = r.isObj := by cases r <;> rfl
theorem frz_noObj (rch : List Nat) (l : List Row) (i : Nat) : noObj ((maskFrom rch i l).map frzRow) = true := by
 have h := mask_noObj rch l i
 unfold noObj at h ⊢
 rw [List.all_map]
 rw [List.all_eq_true] at h ⊢
 intro r hr
 have := h r hr
 simp only [Function.comp, frz_obj]
 exact this

theorem newOnly_row {n : Nat} {r : Row} : newOnly n r = .gone ∨ (newOnly n r = r ∧ ∀ i ∈ r.idsR, n ≤ i) := by
 unfold newOnly
 cases h : r.isObj || !(r.idsR.all fun i => Nat.ble n i) with
 | true => exact .inl rfl
 | false =>
  rw [Bool.or_eq_false_iff, Bool.not_eq_false'] at h
  exact .inr ⟨rfl, fun i hi => Nat.le_of_ble_eq_true (List.all_eq_true.1 h.2 i hi)⟩

theorem inl_ro {P : Program} {fid : Nat} {args : List SV} {rows rows' : List Row} {v : SV} (hc : CallOk P fid args ((maskFrom (reach rows args) 0 rows).map frzRow) v rows') (hreach : reachOk rows (reach rows args) = true) (hval : roVal rows.length v = true) :
    FnOk P fid args (fun i => rows[i]?) rows.length (roEff rows (reach rows args) v rows') := by
 intro ρ pres vargs w hargs hg ha hrd hfree
 generalize hrch : reach rows args = rch at *
 have hsub : ∀ i ∈ SV.idsL args, i ∈ rch := fun i hi => hrch ▸ args_reach hi
 unfold reachOk at hreach
 rw [Bool.and_eq_true, closedN_iff] at hreach
 obtain ⟨hlt, hcl⟩ := hreach
 have hcl' : ∀ i ∈ rch, ∀ row, rows[i]? = some row → ∀ j ∈ row.idsR, j ∈ rch := by
  intro i hi row hrow j hj
  have h1 := List.all_eq_true.1 hcl i hi
  rw [List.all_eq_true] at h1
  exact memN_iff.1 (h1 j (by simpa [List.getD, hrow] using hj))
 let ρ0 : Rho := fun i => if i ∈ rch then (ρ i).map (fun p => { p with mine := false }) else none
 have hρ0 : ∀ i, i ∈ rch → ρ0 i = (ρ i).map (fun p => { p with mine := false }) := fun i hi => by simp only [ρ0, if_pos hi]
 have hmine : ∀ i p, ρ0 i = some p → p.mine = false ∧ i ∈ rch ∧ ∃ q, ρ i = some q ∧ p = { q with mine := false } := by
  intro i p h
  simp only [ρ0] at h
  split at h
  · cases hq : ρ i with
    | none => simp [hq] at h
    | some q => simp [hq] at h; subst h; exact ⟨rfl, by assumption, q, rfl, rfl⟩
  · cases h
 have hrow0 : ∀ i row, ((maskFrom rch 0 rows).map frzRow)[i]? = some row → RowAt ρ0 i row w := by
  intro i row h
  rw [List.getElem?_map, mask_get, Nat.zero_add] at h
  cases hrow : rows[i]? with
  | none => simp [hrow] at h
  | some r =>
   simp only [hrow, Option.map_some, Option.some.injEq] at h
   by_cases hi : i ∈ rch ∧ r.isObj = false
   · rw [if_pos hi] at h
     subst h
     have hr := (hrd i (by unfold roEff; exact hi.1) r hrow).1
     cases r with
     | gone => trivial
     | obj _ => trivial
     | own cs =>
      obtain ⟨p, vs, ty, h1, h2, h3, h4, h5⟩ := hr
      have hl := h5.length
      exact ⟨{ p with mine := false }, vs, ty, by rw [hρ0 i hi.1, h1]; rfl, h2, rfl, h4, fun h => (by cases h), by
       rw [hl, List.take_length]
       exact relL_frz h5 fun j hj => hρ0 j (hcl' i hi.1 _ hrow j hj)⟩
     | pre ro cs =>
      obtain ⟨p, vs, ty, h1, h2, h3, h4, h5, h6⟩ := hr
      exact ⟨{ p with mine := false }, vs, ty, by rw [hρ0 i hi.1, h1]; rfl, h2, rfl, h4, fun h => (by cases h), relL_frz h6 fun j hj => hρ0 j (hcl' i hi.1 _ hrow j hj)⟩
     | vec ro k xs =>
      rcases hr with ⟨_, h0⟩ | ⟨p, hp, _, _, hcell⟩
      · exact .inl ⟨rfl, h0⟩
      · exact .inr ⟨{ p with mine := false }, by rw [hρ0 i hi.1, hp]; rfl, fun _ => rfl, fun h => (by cases h), hcell⟩
   · rw [if_neg hi] at h
     subst h
     trivial
 have hlen0 : ((maskFrom rch 0 rows).map frzRow).length = rows.length := by rw [List.length_map, mask_length]
 have hcall := hc ρ0 vargs w (relL_frz hargs fun i hi => hρ0 i (hsub i hi)) (fun i p h => by obtain ⟨_, _, q, hq, rfl⟩ := hmine i p h; exact hg i q hq) hrow0
  (fun i j p q _ _ hij hp hq hm => by rw [(hmine i p hp).1, (hmine j q hq).1] at hm; cases hm)
  (fun i hi => by
   rw [hlen0] at hi
   simp only [ρ0]
   rw [if_neg (fun h => by have := hlt i h; omega)])
 refine hcall.mono ?_
 rintro en w' ⟨u, ρ1, rfl, hu, hg1, hr1, ha1, hf1, hp⟩
 have hno : ∀ b, ¬ mayOf ρ0 (fun i => ((maskFrom rch 0 rows).map frzRow)[i]?) b := by
  rintro b ⟨i, p, _, h3, h4, _⟩
  rw [(hmine i p h3).1] at h4
  cases h4
 have hfrm : ∀ may : Nat → Prop, Frm may w w' := fun may => hp.frm.weaken fun b _ hb => absurd hb (hno b)
 have hold : ∀ i p, i < rows.length → ρ1 i = some p → ∃ q, ρ i = some q ∧ p = { q with mine := false } := by
  intro i p hi h
  rcases hp.dom i p h with h1 | h1
  · obtain ⟨_, _, q, hq, rfl⟩ := hmine i p h1; exact ⟨q, hq, rfl⟩
  · simp only [List.getElem?_eq_none_iff, hlen0] at h1; omega
 have hnewf : ∀ i p, rows.length ≤ i → ρ1 i = some p → w.heap.size ≤ p.b := by
  intro i p hi h
  rcases hp.new i p (by simp only [List.getElem?_eq_none_iff, hlen0]; exact hi) h with h1 | h1
  · exact h1
  · exact absurd h1 (hno _)
 have hlenr : rows.length ≤ rows'.length := by
  rcases Nat.lt_or_ge rows'.length rows.length with h | h
  · have := hp.keep rows'.length (by simp)
    simp only [List.getElem?_eq_none_iff, hlen0] at this
    omega
  · exact h
 cases hclosed : closedN rows.length v.ids with
 | true =>
  have heff : roEff rows rch v rows' = { val := v, rd := rch } := by unfold roEff; rw [hclosed]; rfl
  rw [heff]
  rw [closedN_iff] at hclosed
  refine ⟨u, ρ, rfl, ⟨Rho.le.refl ρ, fun i p h => Nat.lt_of_lt_of_le (hg i p h) hp.frm.size, fun _ _ h => .inl h, fun i p h1 h2 => by simp at h2; omega, ?_, ?_, by simp, by simp, hfrm _⟩⟩
  · intro i j p q hi hj
    refine ha i j p q ?_ ?_
    · rcases hi with h | h
      · exact h.1
      · have := h.1; simp at this; omega
    · rcases hj with h | h
      · exact h.1
      · have := h.1; simp at this; omega
  · simp only
    cases v with
    | ptr id st i j =>
     simp only [Rel] at hu ⊢
     obtain ⟨p, hp1, hu⟩ := hu
     obtain ⟨q, hq, rfl⟩ := hold id p (hclosed id (by simp [SV.ids])) hp1
     exact ⟨q, hq, hu⟩
    | slice id st off len cap =>
     have h1 := hclosed id (by simp [SV.ids])
     have h2 := Nat.le_of_ble_eq_true hval
     omega
    | _ => exact Rel.only _ _ (fun i hi => by
        simp only [roVal, List.isEmpty_iff] at hval
        rw [hval] at hi; cases hi) hu
 | false =>
  have heff : roEff rows rch v rows' = { val := v, rd := rch, nw := (rows'.drop rows.length).map (newOnly rows.length) } := by unfold roEff; rw [hclosed]; rfl
  rw [heff] at hfree ⊢
  simp only [List.length_map, List.length_drop] at hfree
  let ρ2 : Rho := fun i => if rows.length ≤ i ∧ i < rows'.length then ρ1 i else ρ i
  have h2new : ∀ i, rows.length ≤ i → i < rows'.length → ρ2 i = ρ1 i := fun i h1 h2 => by simp only [ρ2, if_pos (And.intro h1 h2)]
  have h2old : ∀ i, ¬ (rows.length ≤ i ∧ i < rows'.length) → ρ2 i = ρ i := fun i h => by simp only [ρ2, if_neg h]
  have hle : ρ.le ρ2 := by
   intro i p hpi
   by_cases h : rows.length ≤ i ∧ i < rows'.length
   · rw [(hfree i h.1 (by omega)).1] at hpi; cases hpi
   · rw [h2old i h]; exact hpi
  have hle1 : ∀ i, rows.length ≤ i → ∀ p, ρ1 i = some p → ρ2 i = some p := by
   intro i hi p hpi
   by_cases h3 : rows'.length ≤ i
   · rw [hf1 i h3] at hpi; cases hpi
   · rw [h2new i hi (by omega)]; exact hpi
  refine ⟨u, ρ2, rfl, ⟨hle, ?_, ?_, ?_, ?_, ?_, by simp, ?_, hfrm _⟩⟩
  · intro i p hpi
    by_cases h : rows.length ≤ i ∧ i < rows'.length
    · rw [h2new i h.1 h.2] at hpi; exact hg1 i p hpi
    · rw [h2old i h] at hpi; exact Nat.lt_of_lt_of_le (hg i p hpi) hp.frm.size
  · intro i p hpi
    by_cases h : rows.length ≤ i ∧ i < rows'.length
    · exact .inr ⟨h.1, by simp; omega⟩
    · rw [h2old i h] at hpi; exact .inl hpi
  · intro i p h1 h2 hpi
    simp only [List.length_map, List.length_drop] at h2
    rw [h2new i h1 (by omega)] at hpi
    exact .inl (hnewf i p h1 hpi)
  · intro i j p q hi hj hij hpi hq hm
    have key : ∀ i p, presAfter pres rows.length { val := v, rd := rch, nw := (rows'.drop rows.length).map (newOnly rows.length) } i → ρ2 i = some p →
        (ρ i = some p ∧ pres i ∧ p.b < w.heap.size) ∨ (rows.length ≤ i ∧ i < rows'.length ∧ ρ1 i = some p ∧ w.heap.size ≤ p.b ∧ liveAt (fun i => rows'[i]?) i) := by
     intro i p hpr hpi
     by_cases h : rows.length ≤ i ∧ i < rows'.length
     · have hpi1 : ρ1 i = some p := by rw [← h2new i h.1 h.2]; exact hpi
       refine .inr ⟨h.1, h.2, hpi1, hnewf i p h.1 hpi1, ?_⟩
       rcases hpr with hpr | hpr
       · exact absurd hpr.1 (hfree i h.1 (by omega)).2
       · have hgi : ((rows'.drop rows.length).map (newOnly rows.length))[i - rows.length]? = some (newOnly rows.length (rows'[i]'h.2)) := by
          rw [List.getElem?_map, List.getElem?_drop, show rows.length + (i - rows.length) = i by omega, List.getElem?_eq_getElem h.2]
          rfl
         have hl := hpr.2 _ hgi
         rcases newOnly_row (n := rows.length) (r := rows'[i]'h.2) with h5 | ⟨h5, _⟩
         · rw [h5] at hl; simp [Row.live] at hl
         · rw [h5] at hl
           exact ⟨_, List.getElem?_eq_getElem h.2, hl⟩
     · rw [h2old i h] at hpi
       refine .inl ⟨hpi, ?_, hg i p hpi⟩
       rcases hpr with hpr | hpr
       · exact hpr.1
       · have := hpr.1; simp only [List.length_map, List.length_drop] at this; exact absurd ⟨this.1, by omega⟩ h
    rcases key i p hi hpi with ⟨h1, h2, h3⟩ | ⟨h1, h2, h3, h4, h5⟩ <;> rcases key j q hj hq with ⟨k1, k2, k3⟩ | ⟨k1, k2, k3, k4, k5⟩
    · exact ha i j p q h2 k2 hij h1 k1 hm
    · omega
    · omega
    · exact ha1 i j p q h5 k5 hij h3 k3 hm
  · simp only
    have hnew : ∀ i ∈ v.ids, rows.length ≤ i := by
     intro i hi
     cases v with
     | ptr id st a b =>
      simp only [SV.ids, List.mem_singleton] at hi
      subst hi
      rcases Nat.lt_or_ge i rows.length with h | h
      · exfalso
        have : closedN rows.length (SV.ptr i st a b).ids = true := closedN_iff.2 fun k hk => by simp only [SV.ids, List.mem_singleton] at hk; omega
        rw [this] at hclosed; cases hclosed
      · exact h
     | slice id st off len cap =>
      simp only [SV.ids, List.mem_singleton] at hi
      subst hi
      exact Nat.le_of_ble_eq_true hval
     | _ => simp only [roVal, List.isEmpty_iff] at hval; rw [hval] at hi; cases hi
    exact Rel.only _ _ (fun i hi p hpi => hle1 i (hnew i hi) p hpi) hu
  · intro j row hj
    rw [List.getElem?_map, List.getElem?_drop] at hj
    cases hr : rows'[rows.length + j]? with
    | none => simp [hr] at hj
    | some r =>
     simp only [hr, Option.map_some, Option.some.injEq] at hj
     subst hj
     rcases newOnly_row (n := rows.length) (r := r) with h5 | ⟨h5, h6⟩
     · rw [h5]; trivial
     · rw [h5]
       exact (hr1 _ r hr).only (hle1 _ (by omega)) fun i hi p hpi => hle1 i (h6 i hi) p hpi

end Go.Proofs.Ytimkhidniolpeaa

namespace Go.Proofs.Ytimkhidniolpeaa
set_option linter.unusedSimpArgs false
set_option linter.unusedVariables false
set_option maxRecDepth 100000
set_option maxHeartbeats 0
open Go.RowKit

theorem Tm.n_set (ts : Tm) (i : Nat) (v : SV) : (ts.set i v).n = ts.n := rfl
theorem putT_n (ts : Tm) (d : Option Nat) (v : SV) : (putT ts d v).n = ts.n := by cases d <;> rfl
theorem Tm.get_set_ne {ts : Tm} {d t : Nat} {v : SV} (h : ts.inb d = true) (hne : t ≠ d) : (ts.set d v).get t = ts.get t := by
 rw [← Tm.list_get, ← Tm.list_get, Tm.list_set h, List.getD_eq_getElem?_getD, List.getD_eq_getElem?_getD, List.getElem?_set_ne (Ne.symm hne)]
theorem putT_get {ts : Tm} {d : Option Nat} {t : Nat} {v : SV} (h : inT ts d = true) (hne : d ≠ some t) : (putT ts d v).get t = ts.get t := by
 cases d with
 | none => rfl
 | some d => exact Tm.get_set_ne h (fun h => hne (by rw [h]))
theorem Tm.inb_set (ts : Tm) (i j : Nat) (v : SV) : (ts.set i v).inb j = ts.inb j := by
 unfold Tm.inb Tm.set
 simp only
 congr 1
 by_cases h : i / 8 = j / 8
 · rw [h]
   by_cases hl : j / 8 < ts.cs.length
   · rw [List.getD_eq_getElem?_getD, List.getElem?_set_self hl]
     simp [List.getD_eq_getElem?_getD]
   · rw [List.getD_eq_getElem?_getD, List.getD_eq_getElem?_getD, List.getElem?_eq_none (by simp; omega), List.getElem?_eq_none (by omega)]
 · simp [List.getD_eq_getElem?_getD, List.getElem?_set_ne h]
theorem inT_set {ts : Tm} {d e : Option Nat} {v : SV} : inT (putT ts d v) e = inT ts e := by
 cases e with
 | none => rfl
 | some e => cases d with
  | none => rfl
  | some d => exact Tm.inb_set ts d e v
theorem Tm.list_len (ts : Tm) : ts.list.length = ts.n := by simp [Tm.list]
theorem Tm.get_bool {ts : Tm} {t : Nat} {b : Bool} (h : ts.get t = .bool b) : ts.list[t]? = some (.bool b) := by
 rw [Tm.list_get?]
 cases hb : Nat.blt t ts.n with
 | true => rw [h]; rfl
 | false => unfold Tm.get at h; simp [hb] at h
theorem Tm.get_nil {ts : Tm} {t : Nat} (h : ts.get t = .tuple []) : ts.list[t]? = some (.tuple []) := by
 rw [Tm.list_get?]
 cases hb : Nat.blt t ts.n with
 | true => rw [h]; rfl
 | false => unfold Tm.get at h; simp [hb] at h

theorem wantS_yes {all : List Oper} {ts : Tm} {o : Oper} (h : wantS all ts o = .yes) : wantIs all ts.list o true := by
 unfold wantS at h
 unfold wantIs
 split at h
 · rename_i hg; simp only [hg]
 · split at h
   · cases h
   · rename_i t hd
     cases hbl : Nat.blt t ts.n with
     | false => simp [hbl] at h
     | true =>
      simp only [hbl, cond_true] at h
      split at h <;> cases h
theorem wantS_no {all : List Oper} {ts : Tm} {o : Oper} (h : wantS all ts o = .no) : wantIs all ts.list o false := by
 unfold wantS at h
 unfold wantIs
 split at h
 · cases h
 · rename_i j want hg
   simp only [hg]
   split at h
   · rename_i hd; simp only [hd]
   · rename_i t hd
     simp only [hd, Tm.list_get?]
     cases hbl : Nat.blt t ts.n with
     | false => simp
     | true =>
      simp only [hbl, cond_true] at h ⊢
      split at h
      · cases h
      · rename_i hsv; simp [hsv]
      · cases h
theorem wantS_ask {all : List Oper} {ts : Tm} {o : Oper} {t : Nat} {b w : Bool} (h : wantS all ts o = .ask t b w) : ∃ j, o.guard = some (j, w) ∧ (all[j]?).bind (·.dst) = some t ∧ ts.get t = .bool b := by
 unfold wantS at h
 split at h
 · cases h
 · rename_i j want hg
   split at h
   · cases h
   · rename_i t' hd
     cases hbl : Nat.blt t' ts.n with
     | false => simp [hbl] at h
     | true =>
      simp only [hbl, cond_true] at h
      split at h
      · rename_i b' hb'
        cases h
        exact ⟨j, hg, hd, hb'⟩
      · cases h
      · cases h

def KOk (all : List Oper) (kn : Knw) (ts : Tm) : Prop := ∀ x ∈ kn, (all[x.1]?).bind (·.dst) = some x.2.2 ∧ ts.get x.2.2 = .bool x.2.1
theorem KOk.put {all : List Oper} {kn : Knw} {ts : Tm} (h : KOk all kn ts) {d : Option Nat} (hin : inT ts d = true) (hf : free? kn d = true) (v : SV) : KOk all kn (putT ts d v) := by
 intro x hx
 refine ⟨(h x hx).1, ?_⟩
 rw [putT_get hin, (h x hx).2]
 intro hd
 subst hd
 have := List.all_eq_true.1 hf x hx
 simp at this
theorem knows_spec {all : List Oper} {kn : Knw} {ts : Tm} (h : KOk all kn ts) {j : Nat} {w : Bool} (hk : knows kn j w = true) {o : Oper} (hg : o.guard = some (j, w)) : wantIs all ts.list o true := by
 unfold knows at hk
 obtain ⟨x, hx, hxe⟩ := List.any_eq_true.1 hk
 rw [Bool.and_eq_true] at hxe
 have h1 := Nat.eq_of_beq_eq_true hxe.1
 have h2 : x.2.1 = w := by simpa using hxe.2
 obtain ⟨k1, k2⟩ := h x hx
 unfold wantIs
 rw [hg]
 simp only
 rw [← h1, k1]
 simp only
 rw [Tm.get_bool k2, h2]
 simp

section
variable {P : Program} {X : Ctx} {all : List Oper} {rows : List Row}

def cfOf (ts : Tm) (rows : List Row) : Cf := ⟨ts.list, fun i => rows[i]?⟩
theorem cfOf_ev (ts : Tm) (rows : List Row) : (cfOf ts rows).ev = (St.mk ts rows).ev := (St.mk ts rows).cf_ev

theorem updN_nil (m : Rws) (n : Nat) : updN m n [] = m := by
 funext j
 unfold updN
 rw [if_neg (by simp)]

theorem quiet_after {ts : Tm} {d : Option Nat} (hin : inT ts d = true) {e : Eff} (h1 : e.wr = []) (h2 : e.nw = []) : (cfOf ts rows).after d rows.length e = cfOf (putT ts d e.val) rows := by
 unfold Cf.after cfOf
 rw [h1, h2, updN_nil, putT_list hin]
 rfl

theorem quiet_step (hX : COk P X) {ts : Tm} {o : Oper} {ok : Bool} {v : SV} (hin : inT ts o.dst = true) (h : quietS X (St.mk ts rows).ev rows o.op = some (ok, v)) (hok : ok = true) (hw : wantIs all ts.list o true) :
    ∃ e, StepOk P all o rows.length e (cfOf ts rows) ∧ (cfOf ts rows).after o.dst rows.length e = cfOf (putT ts o.dst v) rows := by
 unfold quietS at h
 split at h
 · rename_i r hpu
   cases h
   refine ⟨{ val := v }, ⟨.inr (.inl ⟨hw, ?_, by simp, rfl⟩), by simp, by simp, fun j h1 h2 => by simp at h2; omega⟩, quiet_after hin rfl rfl⟩
   rw [cfOf_ev]
   refine opOk_of fun ρ pres a w hev hg ha _ _ => ?_
   obtain ⟨rv, g1, g2⟩ := pureS_ok hX.T hpu hok hev w
   exact ⟨rv, ρ, w, .inl g1, After.quiet hg ha g2 rfl rfl⟩
 · split at h
   · rename_i e hme
     split at h
     · rename_i h0 h1 h2
       cases h
       refine ⟨e, ⟨.inr (.inl ⟨hw, ?_, by simp [h1], by simp [plainE, h1, h2]⟩), by simp [h1], by simp [h1], fun j g1 g2 => by simp [h2] at g2; omega⟩, quiet_after hin h1 h2⟩
       rw [cfOf_ev]
       exact memS_ok hX hme hok h0
     · cases h
   · cases h

theorem skip_step {ts : Tm} {o : Oper} (hin : inT ts o.dst = true) (hw : wantIs all ts.list o false) :
    StepOk P all o rows.length { val := .tuple [] } (cfOf ts rows) ∧ (cfOf ts rows).after o.dst rows.length { val := .tuple [] } = cfOf (putT ts o.dst (.tuple [])) rows :=
 ⟨⟨.inl ⟨hw, rfl⟩, by simp, by simp, fun j h1 h2 => by simp at h2; omega⟩, quiet_after hin rfl rfl⟩

theorem skipB_ok {t : Nat} {w b : Bool} (hbw : b ≠ w) : ∀ (ops : List Oper) (i : Nat) (ts ts' : Tm), skipB all t w ops ts = some ts' → (∀ k o, ops[k]? = some o → all[i + k]? = some o) → ts.get t = .bool b →
    (∃ l, RunsW P all (cfOf ts rows) l (cfOf ts' rows) ∧ l.map (·.1) = List.range' i ops.length)
 | [], i, ts, ts', h, _, _ => by
  simp only [skipB, Option.some.injEq] at h
  subst h
  exact ⟨[], .nil _, rfl⟩
 | o :: rest, i, ts, ts', h, hall, ht => by
  simp only [skipB] at h
  cases hb : inT ts o.dst && free? [(0, true, t)] o.dst with
  | false => simp [hb] at h
  | true =>
   simp only [hb, cond_true] at h
   rw [Bool.and_eq_true] at hb
   obtain ⟨hin, hfr⟩ := hb
   have hdt : o.dst ≠ some t := by
    intro hd
    rw [hd] at hfr
    simp [free?] at hfr
   have step : wantIs all ts.list o false → skipB all t w rest (putT ts o.dst (.tuple [])) = some ts' → ∃ l, RunsW P all (cfOf ts rows) l (cfOf ts' rows) ∧ l.map (·.1) = List.range' i (o :: rest).length := by
    intro hw h
    obtain ⟨l, h1, h2⟩ := skipB_ok hbw rest (i + 1) _ ts' h (fun k o' hk => by have := hall (k + 1) o' (by simpa using hk); rw [← this]; congr 1; omega) (by rw [putT_get hin hdt]; exact ht)
    obtain ⟨s1, s2⟩ := skip_step (P := P) (all := all) (rows := rows) hin hw
    refine ⟨(i, ⟨o, rows.length, { val := .tuple [] }⟩) :: l, .cons (by have := hall 0 o (by simp); simpa using this) s1 ?_, by simp [h2, List.range'_succ]⟩
    show RunsW P all ((cfOf ts rows).after o.dst rows.length { val := .tuple [] }) l _
    rw [s2]
    exact h1
   split at h
   · rename_i j w' hg
     split at h
     · rename_i hd
       exact step (by unfold wantIs; rw [hg]; simp only [hd]) h
     · rename_i g hd
       cases hc : Nat.beq g t && (w' == w) with
       | true =>
        simp only [hc, cond_true] at h
        rw [Bool.and_eq_true] at hc
        have h1 := Nat.eq_of_beq_eq_true hc.1
        have h2 : w' = w := by simpa using hc.2
        subst h1
        subst h2
        refine step ?_ h
        unfold wantIs
        rw [hg]
        simp only [hd]
        rw [Tm.get_bool ht]
        simp only
        cases b <;> cases w' <;> simp_all
       | false =>
        simp only [hc, cond_false] at h
        split at h
        · rename_i hnil
          refine step ?_ h
          unfold wantIs
          rw [hg]
          simp only [hd]
          rw [Tm.get_nil hnil]
          simp
        · cases h
   · cases h

theorem skipB_frame {t : Nat} {w : Bool} : ∀ (ops : List Oper) (ts ts' : Tm), skipB all t w ops ts = some ts' → (∀ x, (∀ o ∈ ops, o.dst ≠ some x) → ts'.get x = ts.get x) ∧ ts'.n = ts.n ∧ (∀ o ∈ ops, inT ts o.dst = true ∧ o.dst ≠ some t) ∧ (∀ d, inT ts' d = inT ts d)
 | [], ts, ts', h => by
  simp only [skipB, Option.some.injEq] at h
  subst h
  exact ⟨fun _ _ => rfl, rfl, by simp, fun _ => rfl⟩
 | o :: rest, ts, ts', h => by
  simp only [skipB] at h
  cases hb : inT ts o.dst && free? [(0, true, t)] o.dst with
  | false => simp [hb] at h
  | true =>
   simp only [hb, cond_true] at h
   rw [Bool.and_eq_true] at hb
   obtain ⟨hin, hfr⟩ := hb
   have hdt : o.dst ≠ some t := by
    intro hd
    rw [hd] at hfr
    simp [free?] at hfr
   have key : skipB all t w rest (putT ts o.dst (.tuple [])) = some ts' := by
    split at h
    · rename_i j w' hg
      split at h
      · exact h
      · rename_i g hd
        cases hc : Nat.beq g t && (w' == w) with
        | true => simp only [hc, cond_true] at h; exact h
        | false =>
         simp only [hc, cond_false] at h
         split at h
         · exact h
         · cases h
    · cases h
   obtain ⟨h1, h2, h3, h4⟩ := skipB_frame rest _ ts' key
   refine ⟨fun x hx => ?_, by rw [h2, putT_n], fun o' ho' => ?_, fun d => by rw [h4, inT_set]⟩
   · rw [h1 x fun o' ho' => hx o' (by simp [ho']), putT_get hin (hx o (by simp))]
   · rcases List.mem_cons.1 ho' with rfl | ho'
     · exact ⟨hin, hdt⟩
     · have := h3 o' ho'
       rw [inT_set] at this
       exact this

theorem topB_spec : ∀ (ops : List Oper) (ts : Tm), (∀ o ∈ ops, inT ts o.dst = true) → (topB ops ts).n = ts.n ∧ (∀ d, inT (topB ops ts) d = inT ts d) ∧ ∀ x, (topB ops ts).get x = .top ∨ ((topB ops ts).get x = ts.get x ∧ ∀ o ∈ ops, o.dst ≠ some x)
 | [], ts, _ => ⟨rfl, fun _ => rfl, fun x => .inr ⟨rfl, by simp⟩⟩
 | o :: rest, ts, h => by
  have hin := h o (by simp)
  obtain ⟨h1, h2, h3⟩ := topB_spec rest (putT ts o.dst .top) (fun o' ho' => by rw [inT_set]; exact h o' (by simp [ho']))
  simp only [topB]
  refine ⟨by rw [h1, putT_n], fun d => by rw [h2, inT_set], fun x => ?_⟩
  rcases h3 x with h4 | ⟨h4, h5⟩
  · exact .inl h4
  · by_cases hd : o.dst = some x
    · left
      rw [h4, hd]
      simp only [putT]
      rw [← Tm.list_get, Tm.list_set (by rw [hd] at hin; exact hin), List.getD_eq_getElem?_getD]
      by_cases hx : x < ts.list.length
      · rw [List.getElem?_set_self hx]; rfl
      · rw [List.getElem?_eq_none (by simp; omega)]; rfl
    · right
      refine ⟨by rw [h4, putT_get hin hd], fun o' ho' => ?_⟩
      rcases List.mem_cons.1 ho' with rfl | ho'
      · exact hd
      · exact h5 o' ho'

theorem weak_join {ops : List Oper} {ts ts1 : Tm} {d : Option Nat} {v : SV} (hin : ∀ o ∈ ops, inT ts o.dst = true) (hd : inT ts d = true) (hd1 : inT ts1 d = true) (hn : ts1.n = ts.n) (hfr : ∀ x, (∀ o ∈ ops, o.dst ≠ some x) → ts1.get x = ts.get x) :
    Weak (cfOf (putT ts1 d v) rows) (cfOf (putT (topB ops ts) d v) rows) := by
 obtain ⟨h1, h2, h3⟩ := topB_spec ops ts hin
 refine ⟨rfl, fun ρ us h => relL_weak ?_ ?_ h⟩
 · simp only [cfOf, Tm.list_len, putT_n, hn, h1]
 · intro i u hu
   simp only [cfOf] at hu ⊢
   rw [putT_list (by rw [h2]; exact hd)] at hu
   rw [putT_list hd1]
   have key : ∀ u, (topB ops ts).list[i]? = some u → u = .top ∨ ts1.list[i]? = some u := by
    intro u hu
    rw [Tm.list_get?] at hu ⊢
    rw [h1] at hu
    rw [hn]
    cases hb : Nat.blt i ts.n with
    | false => simp [hb] at hu
    | true =>
     simp only [hb, cond_true, Option.some.injEq] at hu ⊢
     rcases h3 i with h4 | ⟨h4, h5⟩
     · exact .inl (hu.symm.trans h4)
     · right
       rw [hfr i h5, ← h4, hu]
   cases d with
   | none => exact key u hu
   | some d =>
    simp only [putS] at hu ⊢
    by_cases hdi : d = i
    · subst hdi
      have hlt : d < ts1.list.length := by
       have := (List.getElem?_eq_some_iff.1 hu).1
       simp [Tm.list_len, h1] at this
       simp [Tm.list_len, hn, this]
      have hlt2 : d < (topB ops ts).list.length := by
       have := (List.getElem?_eq_some_iff.1 hu).1
       simpa using this
      rw [List.getElem?_set_self hlt2] at hu
      rw [List.getElem?_set_self hlt]
      exact .inr hu
    · rw [List.getElem?_set_ne hdi] at hu ⊢
      exact key u hu

theorem set_bool {ts : Tm} {t : Nat} {b : Bool} (hin : ts.inb t = true) (h : ts.get t = .bool b) : (ts.set t (.bool b)).list = ts.list := by
 rw [Tm.list_set hin]
 have hl := Tm.get_bool h
 apply List.ext_getElem?
 intro i
 by_cases hi : i = t
 · subst hi
   have hlt := (List.getElem?_eq_some_iff.1 hl).1
   rw [List.getElem?_set_self hlt, hl]
 · rw [List.getElem?_set_ne (Ne.symm hi)]

theorem ev_list {ts ts' : Tm} (h : ts.list = ts'.list) (rows : List Row) : (St.mk ts rows).ev = (St.mk ts' rows).ev := by
 rw [← cfOf_ev, ← cfOf_ev]
 unfold cfOf
 rw [h]

theorem cond_some {α : Type} {c : Bool} {x : Option α} {r : α} (h : (bif c then x else none) = some r) : c = true ∧ x = some r := by
 cases c with
 | false => simp at h
 | true => exact ⟨rfl, h⟩

structure AskB (X : Ctx) (all : List Oper) (rows : List Row) (n i : Nat) (kn : Knw) (ops : List Oper) (ts : Tm) (ok : Bool) (ts' : Tm) (t : Nat) (b w : Bool) (j : Nat) (sub : List Oper) (p : Oper) (rest2 : List Oper)
    (ok1 : Bool) (ts1 ts0 : Tm) (okA d1 okB d2 ok' : Bool) : Prop where
 cat : ops = sub ++ p :: rest2
 pg : pgOk kn p = true
 pin : inT ts p.dst = true
 pfr : free? ((j, w, t) :: kn) p.dst = true
 inb : ts.inb t = true
 ev : evalB X all rows n i ((j, w, t) :: kn) sub ts = some (ok1, ts1)
 sk : skipB all t w sub ts = some ts0
 p1 : pureS X.T (St.mk (ts1.set t (.bool w)) rows).ev p.op = some (okA, .bool d1)
 p2 : pureS X.T (St.mk (ts0.set t (.bool (!w))) rows).ev p.op = some (okB, .bool d2)
 ev2 : evalB X all rows n (i + sub.length + 1) kn rest2 (putT (topB sub ts) p.dst (.bool (bif (b == w) then d1 else d2))) = some (ok', ts')
 ok : ok = ((((ok1 && okA) || b != w) && (okB || b == w)) && ok')

theorem evalB_inv {n i : Nat} {kn : Knw} {o : Oper} {rest : List Oper} {ts : Tm} {ok : Bool} {ts' : Tm} (h : evalB X all rows (n + 1) i kn (o :: rest) ts = some (ok, ts')) :
    inT ts o.dst = true ∧ free? kn o.dst = true ∧
    ((wantD all kn ts o = .no ∧ evalB X all rows n (i + 1) kn rest (putT ts o.dst (.tuple [])) = some (ok, ts')) ∨
     (wantD all kn ts o = .yes ∧ ∃ ok1 v ok2, quietS X (St.mk ts rows).ev rows o.op = some (ok1, v) ∧ evalB X all rows n (i + 1) kn rest (putT ts o.dst v) = some (ok2, ts') ∧ ok = (ok1 && ok2)) ∨
     (∃ t b w j w0 sub p rest2 ok1 ts1 ts0 okA d1 okB d2 ok', wantD all kn ts o = .ask t b w ∧ o.guard = some (j, w0) ∧ AskB X all rows n i kn (o :: rest) ts ok ts' t b w j sub p rest2 ok1 ts1 ts0 okA d1 okB d2 ok')) := by
 simp only [evalB] at h
 obtain ⟨hb, h⟩ := cond_some h
 rw [Bool.and_eq_true] at hb
 refine ⟨hb.1, hb.2, ?_⟩
 split at h
 · cases h
 · rename_i hw
   exact .inl ⟨hw, h⟩
 · rename_i hw
   split at h
   · rename_i ok1 v hq
     split at h
     · rename_i ok2 ts2 he
       simp only [Option.some.injEq, Prod.mk.injEq] at h
       obtain ⟨rfl, rfl⟩ := h
       exact .inr (.inl ⟨hw, ok1, v, ok2, hq, he, rfl⟩)
     · cases h
   · cases h
 · rename_i t b w hw
   split at h
   · cases h
   · rename_i j w0 hg
     split at h
     · cases h
     · rename_i p rest2 hdrop
       obtain ⟨hb2, h⟩ := cond_some h
       rw [Bool.and_eq_true, Bool.and_eq_true, Bool.and_eq_true] at hb2
       obtain ⟨hpg, hpin, hpfr, hinb⟩ := hb2
       split at h
       · rename_i r1 r2 ok1 ts1 ts0 he1 he0
         split at h
         · rename_i q1 q2 okA d1 okB d2 hp1 hp2
           split at h
           · rename_i ok' ts2 he2
             simp only [Option.some.injEq, Prod.mk.injEq] at h
             obtain ⟨rfl, rfl⟩ := h
             refine .inr (.inr ⟨t, b, w, j, w0, _, p, rest2, ok1, ts1, ts0, okA, d1, okB, d2, ok', hw, hg, ⟨?_, hpg, hpin, hpfr, hinb, he1, he0, hp1, hp2, he2, rfl⟩⟩)
             rw [← hdrop]
             have := List.prefix_iff_eq_take.1 (List.takeWhile_prefix (inBlk i j w) (l := o :: rest))
             conv => lhs; rw [← List.take_append_drop ((o :: rest).takeWhile (inBlk i j w)).length (o :: rest)]
             rw [← this]
           · cases h
         · cases h
       · cases h

theorem free_ne {kn : Knw} {d : Option Nat} (h : free? kn d = true) {x : Nat × Bool × Nat} (hx : x ∈ kn) : d ≠ some x.2.2 := by
 intro hd
 subst hd
 have := List.all_eq_true.1 h x hx
 simp at this

theorem evalB_frame : ∀ (n i : Nat) (kn : Knw) (ops : List Oper) (ts : Tm) (ok : Bool) (ts' : Tm), evalB X all rows n i kn ops ts = some (ok, ts') →
    (∀ x, (∀ o ∈ ops, o.dst ≠ some x) → ts'.get x = ts.get x) ∧ ts'.n = ts.n ∧ (∀ o ∈ ops, inT ts o.dst = true ∧ free? kn o.dst = true) ∧ (∀ d, inT ts' d = inT ts d) := by
 intro n
 induction n with
 | zero => intro i kn ops ts ok ts' h; simp [evalB] at h
 | succ n ih =>
  intro i kn ops ts ok ts' h
  cases ops with
  | nil =>
   simp only [evalB, Option.some.injEq, Prod.mk.injEq] at h
   obtain ⟨rfl, rfl⟩ := h
   exact ⟨fun _ _ => rfl, rfl, by simp, fun _ => rfl⟩
  | cons o rest =>
   obtain ⟨hin, hfr, h⟩ := evalB_inv h
   have one : ∀ (v : SV) (ok2 : Bool), evalB X all rows n (i + 1) kn rest (putT ts o.dst v) = some (ok2, ts') →
       (∀ x, (∀ o' ∈ o :: rest, o'.dst ≠ some x) → ts'.get x = ts.get x) ∧ ts'.n = ts.n ∧ (∀ o' ∈ o :: rest, inT ts o'.dst = true ∧ free? kn o'.dst = true) ∧ (∀ d, inT ts' d = inT ts d) := by
    intro v ok2 he
    obtain ⟨h1, h2, h3, h4⟩ := ih (i + 1) kn rest _ ok2 ts' he
    refine ⟨fun x hx => ?_, by rw [h2, putT_n], fun o' ho' => ?_, fun d => by rw [h4, inT_set]⟩
    · rw [h1 x fun o' ho' => hx o' (by simp [ho']), putT_get hin (hx o (by simp))]
    · rcases List.mem_cons.1 ho' with rfl | ho'
      · exact ⟨hin, hfr⟩
      · have := h3 o' ho'; rw [inT_set] at this; exact this
   rcases h with ⟨_, he⟩ | ⟨_, ok1, v, ok2, _, he, _⟩ | ⟨t, b, w, j, w0, sub, p, rest2, ok1, ts1, ts0, okA, d1, okB, d2, ok', hw, hg, hA⟩
   · exact one _ _ he
   · exact one _ _ he
   · obtain ⟨s1, s2, s3, s4⟩ := ih _ _ _ _ _ _ hA.ev
     obtain ⟨tn, tin, tget⟩ := topB_spec sub ts (fun o' ho' => (s3 o' ho').1)
     obtain ⟨r1, r2, r3, r4⟩ := ih _ _ _ _ _ _ hA.ev2
     have hpfr : free? kn p.dst = true := by
      cases hpd : p.dst with
      | none => rfl
      | some d =>
       have := hA.pfr
       rw [hpd] at this
       simp only [free?, List.all_cons, Bool.and_eq_true] at this ⊢
       exact this.2
     have hdown : ∀ d, free? ((j, w, t) :: kn) d = true → free? kn d = true := by
      intro d hd
      cases d with
      | none => rfl
      | some d =>
       simp only [free?, List.all_cons, Bool.and_eq_true] at hd ⊢
       exact hd.2
     rw [hA.cat]
     refine ⟨fun x hx => ?_, by rw [r2, putT_n, tn], fun o' ho' => ?_, fun d => by rw [r4, inT_set, tin]⟩
     · rw [r1 x fun o' ho' => hx o' (by simp [ho']), putT_get (by rw [tin]; exact hA.pin) (hx p (by simp))]
       have key : ∀ (l : List Oper) (ts : Tm), (∀ o ∈ l, inT ts o.dst = true) → (∀ o ∈ l, o.dst ≠ some x) → (topB l ts).get x = ts.get x := by
        intro l
        induction l with
        | nil => intro ts _ _; rfl
        | cons a l ihl =>
         intro ts h1 h2
         simp only [topB]
         rw [ihl (putT ts a.dst .top) (fun o ho => by rw [inT_set]; exact h1 o (by simp [ho])) (fun o ho => h2 o (by simp [ho])), putT_get (h1 a (by simp)) (h2 a (by simp))]
       exact key sub ts (fun o' ho' => (s3 o' ho').1) (fun o' ho' => hx o' (by simp [ho']))
     · rcases List.mem_append.1 ho' with ho' | ho'
       · exact ⟨(s3 o' ho').1, hdown _ (s3 o' ho').2⟩
       · rcases List.mem_cons.1 ho' with rfl | ho'
         · exact ⟨hA.pin, hpfr⟩
         · have := r3 o' ho'
           rw [inT_set, tin] at this
           exact this

theorem evalB_ok (hX : COk P X) : ∀ (n i : Nat) (kn : Knw) (ops : List Oper) (ts : Tm) (ok : Bool) (ts' : Tm), evalB X all rows n i kn ops ts = some (ok, ts') → (∀ k o, ops[k]? = some o → all[i + k]? = some o) → KOk all kn ts → ok = true →
    ∃ l, RunsW P all (cfOf ts rows) l (cfOf ts' rows) ∧ l.map (·.1) = List.range' i ops.length := by
 intro n
 induction n with
 | zero => intro i kn ops ts ok ts' h; simp [evalB] at h
 | succ n ih =>
  intro i kn ops ts ok ts' h hall hk hok
  cases ops with
  | nil =>
   simp only [evalB, Option.some.injEq, Prod.mk.injEq] at h
   obtain ⟨rfl, rfl⟩ := h
   exact ⟨[], .nil _, rfl⟩
  | cons o rest =>
   obtain ⟨hin, hfr, h⟩ := evalB_inv h
   have hall1 : ∀ k o', rest[k]? = some o' → all[i + 1 + k]? = some o' := fun k o' hk => by have := hall (k + 1) o' (by simpa using hk); rw [← this]; congr 1; omega
   have hoi : all[i]? = some o := by have := hall 0 o (by simp); simpa using this
   have one : ∀ (v : SV) (ok2 : Bool), (∃ e, StepOk P all o rows.length e (cfOf ts rows) ∧ (cfOf ts rows).after o.dst rows.length e = cfOf (putT ts o.dst v) rows) → evalB X all rows n (i + 1) kn rest (putT ts o.dst v) = some (ok2, ts') → ok2 = true →
       ∃ l, RunsW P all (cfOf ts rows) l (cfOf ts' rows) ∧ l.map (·.1) = List.range' i (o :: rest).length := by
    rintro v ok2 ⟨e, s1, s2⟩ he hok2
    obtain ⟨l, k1, k2⟩ := ih (i + 1) kn rest _ ok2 ts' he hall1 (hk.put hin hfr v) hok2
    refine ⟨(i, ⟨o, rows.length, e⟩) :: l, .cons hoi s1 ?_, by simp [k2, List.range'_succ]⟩
    show RunsW P all ((cfOf ts rows).after o.dst rows.length e) l _
    rw [s2]
    exact k1
   rcases h with ⟨hw, he⟩ | ⟨hw, ok1, v, ok2, hq, he, rfl⟩ | ⟨t, b, w, j, w0, sub, p, rest2, ok1, ts1, ts0, okA, d1, okB, d2, ok', hw, hg, hA⟩
   · have hno : wantIs all ts.list o false := by
      unfold wantD at hw
      split at hw
      · cases hw
      · rename_i j w hg
        cases hkn : knows kn j w with
        | true => simp [hkn] at hw
        | false => simp only [hkn, cond_false] at hw; exact wantS_no hw
     exact one (.tuple []) ok ⟨_, skip_step hin hno⟩ he hok
   · rw [Bool.and_eq_true] at hok
     have hyes : wantIs all ts.list o true := by
      unfold wantD at hw
      split at hw
      · rename_i hg; unfold wantIs; rw [hg]
      · rename_i j w hg
        cases hkn : knows kn j w with
        | true => exact knows_spec hk hkn hg
        | false => simp only [hkn, cond_false] at hw; exact wantS_yes hw
     exact one v ok2 (quiet_step hX hin hq hok.1 hyes) he hok.2
   · have hask : w0 = w ∧ (all[j]?).bind (·.dst) = some t ∧ ts.get t = .bool b := by
      unfold wantD at hw
      rw [hg] at hw
      simp only at hw
      cases hkn : knows kn j w0 with
      | true => simp [hkn] at hw
      | false =>
       simp only [hkn, cond_false] at hw
       obtain ⟨j', h1, h2, h3⟩ := wantS_ask hw
       rw [hg] at h1
       cases h1
       exact ⟨rfl, h2, h3⟩
     obtain ⟨rfl, hjt, htb⟩ := hask
     have hcat := hA.cat
     have hallS : ∀ k o', sub[k]? = some o' → all[i + k]? = some o' := fun k o' hk => hall k o' (by
      rw [hcat, List.getElem?_append_left (List.getElem?_eq_some_iff.1 hk).1]; exact hk)
     have hallP : all[i + sub.length]? = some p := hall sub.length p (by
      rw [hcat, List.getElem?_append_right (Nat.le_refl _)]; simp)
     have hallR : ∀ k o', rest2[k]? = some o' → all[i + sub.length + 1 + k]? = some o' := fun k o' hk => by
      have := hall (sub.length + 1 + k) o' (by rw [hcat, List.getElem?_append_right (by omega), show sub.length + 1 + k - sub.length = k + 1 by omega]; simpa using hk)
      rw [← this]; congr 1; omega
     obtain ⟨f1, f2, f3, f4⟩ := skipB_frame sub ts ts0 hA.sk
     obtain ⟨s1, s2, s3, s4⟩ := evalB_frame _ _ _ _ _ _ _ hA.ev
     have fin0 : ∀ o' ∈ sub, inT ts o'.dst = true := fun o' ho' => (f3 o' ho').1
     have fdt : ∀ o' ∈ sub, o'.dst ≠ some t := fun o' ho' => (f3 o' ho').2
     have hpt : p.dst ≠ some t := free_ne hA.pfr (x := (j, w0, t)) (by simp)
     -- the guards that are known stay so
     have hk2 : KOk all kn (putT (topB sub ts) p.dst (.bool (bif (b == w0) then d1 else d2))) := by
      obtain ⟨tn, tin, tget⟩ := topB_spec sub ts fin0
      intro x hx
      refine ⟨(hk x hx).1, ?_⟩
      rw [putT_get (by rw [tin]; exact hA.pin) (free_ne hA.pfr (x := x) (by simp [hx]))]
      rcases tget x.2.2 with h | ⟨h, _⟩
      · exfalso
        have key : ∀ (l : List Oper) (ts : Tm), (∀ o ∈ l, inT ts o.dst = true) → (∀ o ∈ l, o.dst ≠ some x.2.2) → (topB l ts).get x.2.2 = ts.get x.2.2 := by
         intro l
         induction l with
         | nil => intro ts _ _; rfl
         | cons a l ihl =>
          intro ts h1 h2
          simp only [topB]
          rw [ihl (putT ts a.dst .top) (fun o ho => by rw [inT_set]; exact h1 o (by simp [ho])) (fun o ho => h2 o (by simp [ho])), putT_get (h1 a (by simp)) (h2 a (by simp))]
        rw [key sub ts fin0 (fun o' ho' => free_ne (s3 o' ho').2 (x := x) (by simp [hx])), (hk x hx).2] at h
        cases h
      · rw [h]; exact (hk x hx).2
     rw [hA.ok, Bool.and_eq_true, Bool.and_eq_true, Bool.or_eq_true, Bool.or_eq_true] at hok
     obtain ⟨⟨hokA, hokB⟩, hok'⟩ := hok
     obtain ⟨l2, k1, k2⟩ := ih _ _ _ _ _ _ hA.ev2 hallR hk2 hok'
     -- the block, then what picks
     have fin : ∀ (tsx : Tm) (lx : List (Nat × Item)) (dx okx : Bool), RunsW P all (cfOf ts rows) lx (cfOf tsx rows) → lx.map (·.1) = List.range' i sub.length → tsx.n = ts.n → (∀ x, (∀ o ∈ sub, o.dst ≠ some x) → tsx.get x = ts.get x) → (∀ d, inT tsx d = inT ts d) →
         pureS X.T (St.mk (tsx.set t (.bool b)) rows).ev p.op = some (okx, .bool dx) → okx = true → (bif (b == w0) then d1 else d2) = dx → KOk all kn tsx →
         ∃ l, RunsW P all (cfOf ts rows) l (cfOf ts' rows) ∧ l.map (·.1) = List.range' i (o :: rest).length := by
      intro tsx lx dx okx hrun hidx hn hf hi hp hokx hd hkx
      have htx : tsx.get t = .bool b := (hf t fdt).trans htb
      have hinb : tsx.inb t = true := by
       have := hi (some t)
       simp only [inT] at this
       rw [this]; exact hA.inb
      rw [ev_list (set_bool hinb htx)] at hp
      have hpin : inT tsx p.dst = true := by rw [hi]; exact hA.pin
      have hyes : wantIs all tsx.list p true := by
       have := hA.pg
       unfold pgOk at this
       split at this
       · rename_i hg'; unfold wantIs; rw [hg']
       · rename_i j' w' hg'
         exact knows_spec hkx this hg'
      have hq : quietS X (St.mk tsx rows).ev rows p.op = some (okx, .bool dx) := by unfold quietS; rw [hp]
      obtain ⟨e, g1, g2⟩ := quiet_step (all := all) hX hpin hq hokx hyes
      have hw := weak_join (rows := rows) (v := .bool dx) fin0 hA.pin hpin hn hf
      rw [hd] at k1
      refine ⟨lx ++ (i + sub.length, ⟨p, rows.length, e⟩) :: l2, hrun.append (.cons hallP g1 ?_), ?_⟩
      · show RunsW P all ((cfOf tsx rows).after p.dst rows.length e) l2 _
        rw [g2]
        exact .weak hw k1
      · rw [List.map_append, List.map_cons, hidx, k2, hcat, List.length_append, List.length_cons]
        simp only
        rw [show sub.length + (rest2.length + 1) = sub.length + (1 + rest2.length) by omega, ← List.range'_append, ← List.range'_append]
        simp
     by_cases hbw : b = w0
     · subst hbw
       have hkS : KOk all ((j, b, t) :: kn) ts := by
        intro x hx
        rcases List.mem_cons.1 hx with rfl | hx
        · exact ⟨hjt, htb⟩
        · exact hk x hx
       have hokA' : (ok1 && okA) = true := by
        rcases hokA with h | h
        · exact h
        · simp at h
       rw [Bool.and_eq_true] at hokA'
       obtain ⟨l1, m1, m2⟩ := ih _ _ _ _ _ _ hA.ev hallS hkS hokA'.1
       refine fin ts1 l1 d1 okA m1 m2 s2 s1 s4 hA.p1 hokA'.2 (by simp) ?_
       intro x hx
       refine ⟨(hk x hx).1, ?_⟩
       rw [s1 x.2.2 (fun o' ho' => free_ne (s3 o' ho').2 (x := x) (by simp [hx]))]
       exact (hk x hx).2
     · obtain ⟨l1, m1, m2⟩ := skipB_ok (P := P) (rows := rows) hbw sub i ts ts0 hA.sk hallS htb
       have hokB' : okB = true := by
        rcases hokB with h | h
        · exact h
        · simp at h; exact absurd h hbw
       have hnb : (!w0) = b := by cases b <;> cases w0 <;> simp_all
       have hp2 := hA.p2
       rw [hnb] at hp2
       refine fin ts0 l1 d2 okB m1 m2 f2 f1 f4 hp2 hokB' (by rw [beq_eq_false_iff_ne.2 hbw]; rfl) ?_
       intro x hx
       refine ⟨(hk x hx).1, ?_⟩
       rw [f1 x.2.2 (fun o' ho' => free_ne (s3 o' ho').2 (x := x) (by simp [hx]))]
       exact (hk x hx).2

theorem mergeT_ok (hX : COk P X) {i : Nat} {ops : List Oper} {ts ts' : Tm} {k : Nat} (h : mergeT X all rows i ops ts = some (k, true, ts')) (hall : ∀ k o, ops[k]? = some o → all[i + k]? = some o) :
    ∃ l, RunsW P all (cfOf ts rows) l (cfOf ts' rows) ∧ l.map (·.1) = List.range' i (ops.take (k + 1)).length := by
 unfold mergeT at h
 split at h
 · cases h
 · rename_i o rest
   split at h
   · cases h
   · rename_i j w hg
     split at h
     · rename_i ok ts2 he
       simp only [Option.some.injEq, Prod.mk.injEq] at h
       obtain ⟨rfl, rfl, rfl⟩ := h
       exact evalB_ok hX _ _ _ _ _ _ _ he (fun k o hk => hall k o (by
        rw [List.getElem?_take] at hk
        split at hk
        · exact hk
        · cases hk)) (fun x hx => by cases hx) rfl
     · cases h
end
end Go.Proofs.Ytimkhidniolpeaa
