/- The small machine: guarded operations taken at once. Of whatever program. -/
import Derived.Test.YtikifgbbiffclaaVmH
namespace Go.Proofs.Ytikifgbbiffclaa
set_option linter.unusedSimpArgs false
set_option linter.unusedVariables false
open Go.RowKit

theorem Tm.n_set (ts : Tm) (i : Nat) (v : SV) : (ts.set i v).n = ts.n := rfl
theorem putT_n (ts : Tm) (d : Option Nat) (v : SV) : (putT ts d v).n = ts.n := by cases d <;> rfl
theorem Tm.get_set_ne {ts : Tm} {d t : Nat} {v : SV} (h : ts.inb d = true) (hne : t ≠ d) : (ts.set d v).get t = ts.get t := by
  rw [← Tm.list_get, ← Tm.list_get, Tm.list_set h, List.getD_eq_getElem?_getD, List.getD_eq_getElem?_getD, List.getElem?_set_ne (Ne.symm hne)]
theorem putT_get {ts : Tm} {d : Option Nat} {t : Nat} {v : SV} (h : inT ts d = true) (hne : d ≠ some t) : (putT ts d v).get t = ts.get t := by
  cases d with
  | none => rfl
  | some d => exact Tm.get_set_ne h (fun h => hne (by rw [h]))
theorem Tm.inb_set (ts : Tm) (i j : Nat) (v : SV) : (ts.set i v).inb j = ts.inb j := by
  unfold Tm.inb Tm.set
  simp only
  congr 1
  by_cases h : i / 8 = j / 8
  · rw [h]
    by_cases hl : j / 8 < ts.cs.length
    · rw [List.getD_eq_getElem?_getD, List.getElem?_set_self hl]
      simp [List.getD_eq_getElem?_getD]
    · rw [List.getD_eq_getElem?_getD, List.getD_eq_getElem?_getD, List.getElem?_eq_none (by simp; omega), List.getElem?_eq_none (by omega)]
  · simp [List.getD_eq_getElem?_getD, List.getElem?_set_ne h]
theorem inT_set {ts : Tm} {d e : Option Nat} {v : SV} : inT (putT ts d v) e = inT ts e := by
  cases e with
  | none => rfl
  | some e => cases d with
    | none => rfl
    | some d => exact Tm.inb_set ts d e v
theorem Tm.list_len (ts : Tm) : ts.list.length = ts.n := by simp [Tm.list]
theorem Tm.get_bool {ts : Tm} {t : Nat} {b : Bool} (h : ts.get t = .bool b) : ts.list[t]? = some (.bool b) := by
  rw [Tm.list_get?]
  cases hb : Nat.blt t ts.n with
  | true => rw [h]; rfl
  | false => unfold Tm.get at h; simp [hb] at h
theorem Tm.get_nil {ts : Tm} {t : Nat} (h : ts.get t = .tuple []) : ts.list[t]? = some (.tuple []) := by
  rw [Tm.list_get?]
  cases hb : Nat.blt t ts.n with
  | true => rw [h]; rfl
  | false => unfold Tm.get at h; simp [hb] at h

theorem wantS_yes {all : List Oper} {ts : Tm} {o : Oper} (h : wantS all ts o = .yes) : wantIs all ts.list o true := by
  unfold wantS at h
  unfold wantIs
  split at h
  · rename_i hg; simp only [hg]
  · split at h
    · cases h
    · rename_i t hd
      cases hbl : Nat.blt t ts.n with
      | false => simp [hbl] at h
      | true =>
        simp only [hbl, cond_true] at h
        split at h <;> cases h
theorem wantS_no {all : List Oper} {ts : Tm} {o : Oper} (h : wantS all ts o = .no) : wantIs all ts.list o false := by
  unfold wantS at h
  unfold wantIs
  split at h
  · cases h
  · rename_i j want hg
    simp only [hg]
    split at h
    · rename_i hd; simp only [hd]
    · rename_i t hd
      simp only [hd, Tm.list_get?]
      cases hbl : Nat.blt t ts.n with
      | false => simp
      | true =>
        simp only [hbl, cond_true] at h ⊢
        split at h
        · cases h
        · rename_i hsv; simp [hsv]
        · cases h
theorem wantS_ask {all : List Oper} {ts : Tm} {o : Oper} {t : Nat} {b w : Bool} (h : wantS all ts o = .ask t b w) : ∃ j, o.guard = some (j, w) ∧ (all[j]?).bind (·.dst) = some t ∧ ts.get t = .bool b := by
  unfold wantS at h
  split at h
  · cases h
  · rename_i j want hg
    split at h
    · cases h
    · rename_i t' hd
      cases hbl : Nat.blt t' ts.n with
      | false => simp [hbl] at h
      | true =>
        simp only [hbl, cond_true] at h
        split at h
        · rename_i b' hb'
          cases h
          exact ⟨j, hg, hd, hb'⟩
        · cases h
        · cases h

def KOk (all : List Oper) (kn : Knw) (ts : Tm) : Prop := ∀ x ∈ kn, (all[x.1]?).bind (·.dst) = some x.2.2 ∧ ts.get x.2.2 = .bool x.2.1
theorem KOk.put {all : List Oper} {kn : Knw} {ts : Tm} (h : KOk all kn ts) {d : Option Nat} (hin : inT ts d = true) (hf : free? kn d = true) (v : SV) : KOk all kn (putT ts d v) := by
  intro x hx
  refine ⟨(h x hx).1, ?_⟩
  rw [putT_get hin, (h x hx).2]
  intro hd
  subst hd
  have := List.all_eq_true.1 hf x hx
  simp at this
theorem knows_spec {all : List Oper} {kn : Knw} {ts : Tm} (h : KOk all kn ts) {j : Nat} {w : Bool} (hk : knows kn j w = true) {o : Oper} (hg : o.guard = some (j, w)) : wantIs all ts.list o true := by
  unfold knows at hk
  obtain ⟨x, hx, hxe⟩ := List.any_eq_true.1 hk
  rw [Bool.and_eq_true] at hxe
  have h1 := Nat.eq_of_beq_eq_true hxe.1
  have h2 : x.2.1 = w := by simpa using hxe.2
  obtain ⟨k1, k2⟩ := h x hx
  unfold wantIs
  rw [hg]
  simp only
  rw [← h1, k1]
  simp only
  rw [Tm.get_bool k2, h2]
  simp

section
variable {P : Program} {X : Ctx} {all : List Oper} {rows : List Row}

def cfOf (ts : Tm) (rows : List Row) : Cf := ⟨ts.list, fun i => rows[i]?⟩
theorem cfOf_ev (ts : Tm) (rows : List Row) : (cfOf ts rows).ev = (St.mk ts rows).ev := (St.mk ts rows).cf_ev

theorem updN_nil (m : Rws) (n : Nat) : updN m n [] = m := by
  funext j
  unfold updN
  rw [if_neg (by simp)]

theorem quiet_after {ts : Tm} {d : Option Nat} (hin : inT ts d = true) {e : Eff} (h1 : e.wr = []) (h2 : e.nw = []) : (cfOf ts rows).after d rows.length e = cfOf (putT ts d e.val) rows := by
  unfold Cf.after cfOf
  rw [h1, h2, updN_nil, putT_list hin]
  rfl

theorem quiet_step (hX : COk P X) {ts : Tm} {o : Oper} {ok : Bool} {v : SV} (hin : inT ts o.dst = true) (h : quietS X (St.mk ts rows).ev rows o.op = some (ok, v)) (hok : ok = true) (hw : wantIs all ts.list o true) :
    ∃ e, StepOk P all o rows.length e (cfOf ts rows) ∧ (cfOf ts rows).after o.dst rows.length e = cfOf (putT ts o.dst v) rows := by
  unfold quietS at h
  split at h
  · rename_i r hpu
    cases h
    refine ⟨{ val := v }, ⟨.inr ⟨hw, ?_⟩, by simp, by simp, fun j h1 h2 => by simp at h2; omega⟩, quiet_after hin rfl rfl⟩
    rw [cfOf_ev]
    refine opOk_of fun ρ pres a w hev hg ha _ _ => ?_
    obtain ⟨rv, g1, g2⟩ := pureS_ok hX.T hpu hok hev w
    exact ⟨rv, ρ, w, .inl g1, After.quiet hg ha g2 rfl rfl⟩
  · split at h
    · rename_i e hme
      split at h
      · rename_i h1 h2
        cases h
        refine ⟨e, ⟨.inr ⟨hw, ?_⟩, by simp [h1], by simp [h1], fun j g1 g2 => by simp [h2] at g2; omega⟩, quiet_after hin h1 h2⟩
        rw [cfOf_ev]
        exact memS_ok hX hme hok
      · cases h
    · cases h

theorem skip_step {ts : Tm} {o : Oper} (hin : inT ts o.dst = true) (hw : wantIs all ts.list o false) :
    StepOk P all o rows.length { val := .tuple [] } (cfOf ts rows) ∧ (cfOf ts rows).after o.dst rows.length { val := .tuple [] } = cfOf (putT ts o.dst (.tuple [])) rows :=
  ⟨⟨.inl ⟨hw, rfl⟩, by simp, by simp, fun j h1 h2 => by simp at h2; omega⟩, quiet_after hin rfl rfl⟩

theorem skipB_ok {t : Nat} {w b : Bool} (hbw : b ≠ w) : ∀ (ops : List Oper) (i : Nat) (ts ts' : Tm), skipB all t w ops ts = some ts' → (∀ k o, ops[k]? = some o → all[i + k]? = some o) → ts.get t = .bool b →
    (∃ l, RunsW P all (cfOf ts rows) l (cfOf ts' rows) ∧ l.map (·.1) = List.range' i ops.length)
  | [], i, ts, ts', h, _, _ => by
    simp only [skipB, Option.some.injEq] at h
    subst h
    exact ⟨[], .nil _, rfl⟩
  | o :: rest, i, ts, ts', h, hall, ht => by
    simp only [skipB] at h
    cases hb : inT ts o.dst && free? [(0, true, t)] o.dst with
    | false => simp [hb] at h
    | true =>
      simp only [hb, cond_true] at h
      rw [Bool.and_eq_true] at hb
      obtain ⟨hin, hfr⟩ := hb
      have hdt : o.dst ≠ some t := by
        intro hd
        rw [hd] at hfr
        simp [free?] at hfr
      have step : wantIs all ts.list o false → skipB all t w rest (putT ts o.dst (.tuple [])) = some ts' → ∃ l, RunsW P all (cfOf ts rows) l (cfOf ts' rows) ∧ l.map (·.1) = List.range' i (o :: rest).length := by
        intro hw h
        obtain ⟨l, h1, h2⟩ := skipB_ok hbw rest (i + 1) _ ts' h (fun k o' hk => by have := hall (k + 1) o' (by simpa using hk); rw [← this]; congr 1; omega) (by rw [putT_get hin hdt]; exact ht)
        obtain ⟨s1, s2⟩ := skip_step (P := P) (all := all) (rows := rows) hin hw
        refine ⟨(i, ⟨o, rows.length, { val := .tuple [] }⟩) :: l, .cons (by have := hall 0 o (by simp); simpa using this) s1 ?_, by simp [h2, List.range'_succ]⟩
        show RunsW P all ((cfOf ts rows).after o.dst rows.length { val := .tuple [] }) l _
        rw [s2]
        exact h1
      split at h
      · rename_i j w' hg
        split at h
        · rename_i hd
          exact step (by unfold wantIs; rw [hg]; simp only [hd]) h
        · rename_i g hd
          cases hc : Nat.beq g t && (w' == w) with
          | true =>
            simp only [hc, cond_true] at h
            rw [Bool.and_eq_true] at hc
            have h1 := Nat.eq_of_beq_eq_true hc.1
            have h2 : w' = w := by simpa using hc.2
            subst h1
            subst h2
            refine step ?_ h
            unfold wantIs
            rw [hg]
            simp only [hd]
            rw [Tm.get_bool ht]
            simp only
            cases b <;> cases w' <;> simp_all
          | false =>
            simp only [hc, cond_false] at h
            split at h
            · rename_i hnil
              refine step ?_ h
              unfold wantIs
              rw [hg]
              simp only [hd]
              rw [Tm.get_nil hnil]
              simp
            · cases h
      · cases h

theorem skipB_frame {t : Nat} {w : Bool} : ∀ (ops : List Oper) (ts ts' : Tm), skipB all t w ops ts = some ts' → (∀ x, (∀ o ∈ ops, o.dst ≠ some x) → ts'.get x = ts.get x) ∧ ts'.n = ts.n ∧ (∀ o ∈ ops, inT ts o.dst = true ∧ o.dst ≠ some t) ∧ (∀ d, inT ts' d = inT ts d)
  | [], ts, ts', h => by
    simp only [skipB, Option.some.injEq] at h
    subst h
    exact ⟨fun _ _ => rfl, rfl, by simp, fun _ => rfl⟩
  | o :: rest, ts, ts', h => by
    simp only [skipB] at h
    cases hb : inT ts o.dst && free? [(0, true, t)] o.dst with
    | false => simp [hb] at h
    | true =>
      simp only [hb, cond_true] at h
      rw [Bool.and_eq_true] at hb
      obtain ⟨hin, hfr⟩ := hb
      have hdt : o.dst ≠ some t := by
        intro hd
        rw [hd] at hfr
        simp [free?] at hfr
      have key : skipB all t w rest (putT ts o.dst (.tuple [])) = some ts' := by
        split at h
        · rename_i j w' hg
          split at h
          · exact h
          · rename_i g hd
            cases hc : Nat.beq g t && (w' == w) with
            | true => simp only [hc, cond_true] at h; exact h
            | false =>
              simp only [hc, cond_false] at h
              split at h
              · exact h
              · cases h
        · cases h
      obtain ⟨h1, h2, h3, h4⟩ := skipB_frame rest _ ts' key
      refine ⟨fun x hx => ?_, by rw [h2, putT_n], fun o' ho' => ?_, fun d => by rw [h4, inT_set]⟩
      · rw [h1 x fun o' ho' => hx o' (by simp [ho']), putT_get hin (hx o (by simp))]
      · rcases List.mem_cons.1 ho' with rfl | ho'
        · exact ⟨hin, hdt⟩
        · have := h3 o' ho'
          rw [inT_set] at this
          exact this

theorem topB_spec : ∀ (ops : List Oper) (ts : Tm), (∀ o ∈ ops, inT ts o.dst = true) → (topB ops ts).n = ts.n ∧ (∀ d, inT (topB ops ts) d = inT ts d) ∧ ∀ x, (topB ops ts).get x = .top ∨ ((topB ops ts).get x = ts.get x ∧ ∀ o ∈ ops, o.dst ≠ some x)
  | [], ts, _ => ⟨rfl, fun _ => rfl, fun x => .inr ⟨rfl, by simp⟩⟩
  | o :: rest, ts, h => by
    have hin := h o (by simp)
    obtain ⟨h1, h2, h3⟩ := topB_spec rest (putT ts o.dst .top) (fun o' ho' => by rw [inT_set]; exact h o' (by simp [ho']))
    simp only [topB]
    refine ⟨by rw [h1, putT_n], fun d => by rw [h2, inT_set], fun x => ?_⟩
    rcases h3 x with h4 | ⟨h4, h5⟩
    · exact .inl h4
    · by_cases hd : o.dst = some x
      · left
        rw [h4, hd]
        simp only [putT]
        rw [← Tm.list_get, Tm.list_set (by rw [hd] at hin; exact hin), List.getD_eq_getElem?_getD]
        by_cases hx : x < ts.list.length
        · rw [List.getElem?_set_self hx]; rfl
        · rw [List.getElem?_eq_none (by simp; omega)]; rfl
      · right
        refine ⟨by rw [h4, putT_get hin hd], fun o' ho' => ?_⟩
        rcases List.mem_cons.1 ho' with rfl | ho'
        · exact hd
        · exact h5 o' ho'

/-- Behind a block: its slots forgotten, what was picked put down. -/
theorem weak_join {ops : List Oper} {ts ts1 : Tm} {d : Option Nat} {v : SV} (hin : ∀ o ∈ ops, inT ts o.dst = true) (hd : inT ts d = true) (hd1 : inT ts1 d = true) (hn : ts1.n = ts.n) (hfr : ∀ x, (∀ o ∈ ops, o.dst ≠ some x) → ts1.get x = ts.get x) :
    Weak (cfOf (putT ts1 d v) rows) (cfOf (putT (topB ops ts) d v) rows) := by
  obtain ⟨h1, h2, h3⟩ := topB_spec ops ts hin
  refine ⟨rfl, fun ρ us h => relL_weak ?_ ?_ h⟩
  · simp only [cfOf, Tm.list_len, putT_n, hn, h1]
  · intro i u hu
    simp only [cfOf] at hu ⊢
    rw [putT_list (by rw [h2]; exact hd)] at hu
    rw [putT_list hd1]
    have key : ∀ u, (topB ops ts).list[i]? = some u → u = .top ∨ ts1.list[i]? = some u := by
      intro u hu
      rw [Tm.list_get?] at hu ⊢
      rw [h1] at hu
      rw [hn]
      cases hb : Nat.blt i ts.n with
      | false => simp [hb] at hu
      | true =>
        simp only [hb, cond_true, Option.some.injEq] at hu ⊢
        rcases h3 i with h4 | ⟨h4, h5⟩
        · exact .inl (hu.symm.trans h4)
        · right
          rw [hfr i h5, ← h4, hu]
    cases d with
    | none => exact key u hu
    | some d =>
      simp only [putS] at hu ⊢
      by_cases hdi : d = i
      · subst hdi
        have hlt : d < ts1.list.length := by
          have := (List.getElem?_eq_some_iff.1 hu).1
          simp [Tm.list_len, h1] at this
          simp [Tm.list_len, hn, this]
        have hlt2 : d < (topB ops ts).list.length := by
          have := (List.getElem?_eq_some_iff.1 hu).1
          simpa using this
        rw [List.getElem?_set_self hlt2] at hu
        rw [List.getElem?_set_self hlt]
        exact .inr hu
      · rw [List.getElem?_set_ne hdi] at hu ⊢
        exact key u hu

theorem set_bool {ts : Tm} {t : Nat} {b : Bool} (hin : ts.inb t = true) (h : ts.get t = .bool b) : (ts.set t (.bool b)).list = ts.list := by
  rw [Tm.list_set hin]
  have hl := Tm.get_bool h
  apply List.ext_getElem?
  intro i
  by_cases hi : i = t
  · subst hi
    have hlt := (List.getElem?_eq_some_iff.1 hl).1
    rw [List.getElem?_set_self hlt, hl]
  · rw [List.getElem?_set_ne (Ne.symm hi)]

theorem ev_list {ts ts' : Tm} (h : ts.list = ts'.list) (rows : List Row) : (St.mk ts rows).ev = (St.mk ts' rows).ev := by
  rw [← cfOf_ev, ← cfOf_ev]
  unfold cfOf
  rw [h]

theorem cond_some {α : Type} {c : Bool} {x : Option α} {r : α} (h : (bif c then x else none) = some r) : c = true ∧ x = some r := by
  cases c with
  | false => simp at h
  | true => exact ⟨rfl, h⟩

/-- What has been reckoned where operations were taken at once. -/
structure AskB (X : Ctx) (all : List Oper) (rows : List Row) (n i : Nat) (kn : Knw) (ops : List Oper) (ts : Tm) (ok : Bool) (ts' : Tm) (t : Nat) (b w : Bool) (j : Nat) (sub : List Oper) (p : Oper) (rest2 : List Oper)
    (ok1 : Bool) (ts1 ts0 : Tm) (okA d1 okB d2 ok' : Bool) : Prop where
  cat : ops = sub ++ p :: rest2
  pg : pgOk kn p = true
  pin : inT ts p.dst = true
  pfr : free? ((j, w, t) :: kn) p.dst = true
  inb : ts.inb t = true
  ev : evalB X all rows n i ((j, w, t) :: kn) sub ts = some (ok1, ts1)
  sk : skipB all t w sub ts = some ts0
  p1 : pureS X.T (St.mk (ts1.set t (.bool w)) rows).ev p.op = some (okA, .bool d1)
  p2 : pureS X.T (St.mk (ts0.set t (.bool (!w))) rows).ev p.op = some (okB, .bool d2)
  ev2 : evalB X all rows n (i + sub.length + 1) kn rest2 (putT (topB sub ts) p.dst (.bool (bif (b == w) then d1 else d2))) = some (ok', ts')
  ok : ok = ((((ok1 && okA) || b != w) && (okB || b == w)) && ok')

theorem evalB_inv {n i : Nat} {kn : Knw} {o : Oper} {rest : List Oper} {ts : Tm} {ok : Bool} {ts' : Tm} (h : evalB X all rows (n + 1) i kn (o :: rest) ts = some (ok, ts')) :
    inT ts o.dst = true ∧ free? kn o.dst = true ∧
    ((wantD all kn ts o = .no ∧ evalB X all rows n (i + 1) kn rest (putT ts o.dst (.tuple [])) = some (ok, ts')) ∨
     (wantD all kn ts o = .yes ∧ ∃ ok1 v ok2, quietS X (St.mk ts rows).ev rows o.op = some (ok1, v) ∧ evalB X all rows n (i + 1) kn rest (putT ts o.dst v) = some (ok2, ts') ∧ ok = (ok1 && ok2)) ∨
     (∃ t b w j w0 sub p rest2 ok1 ts1 ts0 okA d1 okB d2 ok', wantD all kn ts o = .ask t b w ∧ o.guard = some (j, w0) ∧ AskB X all rows n i kn (o :: rest) ts ok ts' t b w j sub p rest2 ok1 ts1 ts0 okA d1 okB d2 ok')) := by
  simp only [evalB] at h
  obtain ⟨hb, h⟩ := cond_some h
  rw [Bool.and_eq_true] at hb
  refine ⟨hb.1, hb.2, ?_⟩
  split at h
  · cases h
  · rename_i hw
    exact .inl ⟨hw, h⟩
  · rename_i hw
    split at h
    · rename_i ok1 v hq
      split at h
      · rename_i ok2 ts2 he
        simp only [Option.some.injEq, Prod.mk.injEq] at h
        obtain ⟨rfl, rfl⟩ := h
        exact .inr (.inl ⟨hw, ok1, v, ok2, hq, he, rfl⟩)
      · cases h
    · cases h
  · rename_i t b w hw
    split at h
    · cases h
    · rename_i j w0 hg
      split at h
      · cases h
      · rename_i p rest2 hdrop
        obtain ⟨hb2, h⟩ := cond_some h
        rw [Bool.and_eq_true, Bool.and_eq_true, Bool.and_eq_true] at hb2
        obtain ⟨hpg, hpin, hpfr, hinb⟩ := hb2
        split at h
        · rename_i r1 r2 ok1 ts1 ts0 he1 he0
          split at h
          · rename_i q1 q2 okA d1 okB d2 hp1 hp2
            split at h
            · rename_i ok' ts2 he2
              simp only [Option.some.injEq, Prod.mk.injEq] at h
              obtain ⟨rfl, rfl⟩ := h
              refine .inr (.inr ⟨t, b, w, j, w0, _, p, rest2, ok1, ts1, ts0, okA, d1, okB, d2, ok', hw, hg, ⟨?_, hpg, hpin, hpfr, hinb, he1, he0, hp1, hp2, he2, rfl⟩⟩)
              rw [← hdrop]
              have := List.prefix_iff_eq_take.1 (List.takeWhile_prefix (inBlk i j w) (l := o :: rest))
              conv => lhs; rw [← List.take_append_drop ((o :: rest).takeWhile (inBlk i j w)).length (o :: rest)]
              rw [← this]
            · cases h
          · cases h
        · cases h

theorem free_ne {kn : Knw} {d : Option Nat} (h : free? kn d = true) {x : Nat × Bool × Nat} (hx : x ∈ kn) : d ≠ some x.2.2 := by
  intro hd
  subst hd
  have := List.all_eq_true.1 h x hx
  simp at this

/-- What it leaves as it was. -/
theorem evalB_frame : ∀ (n i : Nat) (kn : Knw) (ops : List Oper) (ts : Tm) (ok : Bool) (ts' : Tm), evalB X all rows n i kn ops ts = some (ok, ts') →
    (∀ x, (∀ o ∈ ops, o.dst ≠ some x) → ts'.get x = ts.get x) ∧ ts'.n = ts.n ∧ (∀ o ∈ ops, inT ts o.dst = true ∧ free? kn o.dst = true) ∧ (∀ d, inT ts' d = inT ts d) := by
  intro n
  induction n with
  | zero => intro i kn ops ts ok ts' h; simp [evalB] at h
  | succ n ih =>
    intro i kn ops ts ok ts' h
    cases ops with
    | nil =>
      simp only [evalB, Option.some.injEq, Prod.mk.injEq] at h
      obtain ⟨rfl, rfl⟩ := h
      exact ⟨fun _ _ => rfl, rfl, by simp, fun _ => rfl⟩
    | cons o rest =>
      obtain ⟨hin, hfr, h⟩ := evalB_inv h
      have one : ∀ (v : SV) (ok2 : Bool), evalB X all rows n (i + 1) kn rest (putT ts o.dst v) = some (ok2, ts') →
          (∀ x, (∀ o' ∈ o :: rest, o'.dst ≠ some x) → ts'.get x = ts.get x) ∧ ts'.n = ts.n ∧ (∀ o' ∈ o :: rest, inT ts o'.dst = true ∧ free? kn o'.dst = true) ∧ (∀ d, inT ts' d = inT ts d) := by
        intro v ok2 he
        obtain ⟨h1, h2, h3, h4⟩ := ih (i + 1) kn rest _ ok2 ts' he
        refine ⟨fun x hx => ?_, by rw [h2, putT_n], fun o' ho' => ?_, fun d => by rw [h4, inT_set]⟩
        · rw [h1 x fun o' ho' => hx o' (by simp [ho']), putT_get hin (hx o (by simp))]
        · rcases List.mem_cons.1 ho' with rfl | ho'
          · exact ⟨hin, hfr⟩
          · have := h3 o' ho'; rw [inT_set] at this; exact this
      rcases h with ⟨_, he⟩ | ⟨_, ok1, v, ok2, _, he, _⟩ | ⟨t, b, w, j, w0, sub, p, rest2, ok1, ts1, ts0, okA, d1, okB, d2, ok', hw, hg, hA⟩
      · exact one _ _ he
      · exact one _ _ he
      · obtain ⟨s1, s2, s3, s4⟩ := ih _ _ _ _ _ _ hA.ev
        obtain ⟨tn, tin, tget⟩ := topB_spec sub ts (fun o' ho' => (s3 o' ho').1)
        obtain ⟨r1, r2, r3, r4⟩ := ih _ _ _ _ _ _ hA.ev2
        have hpfr : free? kn p.dst = true := by
          cases hpd : p.dst with
          | none => rfl
          | some d =>
            have := hA.pfr
            rw [hpd] at this
            simp only [free?, List.all_cons, Bool.and_eq_true] at this ⊢
            exact this.2
        have hdown : ∀ d, free? ((j, w, t) :: kn) d = true → free? kn d = true := by
          intro d hd
          cases d with
          | none => rfl
          | some d =>
            simp only [free?, List.all_cons, Bool.and_eq_true] at hd ⊢
            exact hd.2
        rw [hA.cat]
        refine ⟨fun x hx => ?_, by rw [r2, putT_n, tn], fun o' ho' => ?_, fun d => by rw [r4, inT_set, tin]⟩
        · rw [r1 x fun o' ho' => hx o' (by simp [ho']), putT_get (by rw [tin]; exact hA.pin) (hx p (by simp))]
          have key : ∀ (l : List Oper) (ts : Tm), (∀ o ∈ l, inT ts o.dst = true) → (∀ o ∈ l, o.dst ≠ some x) → (topB l ts).get x = ts.get x := by
            intro l
            induction l with
            | nil => intro ts _ _; rfl
            | cons a l ihl =>
              intro ts h1 h2
              simp only [topB]
              rw [ihl (putT ts a.dst .top) (fun o ho => by rw [inT_set]; exact h1 o (by simp [ho])) (fun o ho => h2 o (by simp [ho])), putT_get (h1 a (by simp)) (h2 a (by simp))]
          exact key sub ts (fun o' ho' => (s3 o' ho').1) (fun o' ho' => hx o' (by simp [ho']))
        · rcases List.mem_append.1 ho' with ho' | ho'
          · exact ⟨(s3 o' ho').1, hdown _ (s3 o' ho').2⟩
          · rcases List.mem_cons.1 ho' with rfl | ho'
            · exact ⟨hA.pin, hpfr⟩
            · have := r3 o' ho'
              rw [inT_set, tin] at this
              exact this

theorem evalB_ok (hX : COk P X) : ∀ (n i : Nat) (kn : Knw) (ops : List Oper) (ts : Tm) (ok : Bool) (ts' : Tm), evalB X all rows n i kn ops ts = some (ok, ts') → (∀ k o, ops[k]? = some o → all[i + k]? = some o) → KOk all kn ts → ok = true →
    ∃ l, RunsW P all (cfOf ts rows) l (cfOf ts' rows) ∧ l.map (·.1) = List.range' i ops.length := by
  intro n
  induction n with
  | zero => intro i kn ops ts ok ts' h; simp [evalB] at h
  | succ n ih =>
    intro i kn ops ts ok ts' h hall hk hok
    cases ops with
    | nil =>
      simp only [evalB, Option.some.injEq, Prod.mk.injEq] at h
      obtain ⟨rfl, rfl⟩ := h
      exact ⟨[], .nil _, rfl⟩
    | cons o rest =>
      obtain ⟨hin, hfr, h⟩ := evalB_inv h
      have hall1 : ∀ k o', rest[k]? = some o' → all[i + 1 + k]? = some o' := fun k o' hk => by have := hall (k + 1) o' (by simpa using hk); rw [← this]; congr 1; omega
      have hoi : all[i]? = some o := by have := hall 0 o (by simp); simpa using this
      have one : ∀ (v : SV) (ok2 : Bool), (∃ e, StepOk P all o rows.length e (cfOf ts rows) ∧ (cfOf ts rows).after o.dst rows.length e = cfOf (putT ts o.dst v) rows) → evalB X all rows n (i + 1) kn rest (putT ts o.dst v) = some (ok2, ts') → ok2 = true →
          ∃ l, RunsW P all (cfOf ts rows) l (cfOf ts' rows) ∧ l.map (·.1) = List.range' i (o :: rest).length := by
        rintro v ok2 ⟨e, s1, s2⟩ he hok2
        obtain ⟨l, k1, k2⟩ := ih (i + 1) kn rest _ ok2 ts' he hall1 (hk.put hin hfr v) hok2
        refine ⟨(i, ⟨o, rows.length, e⟩) :: l, .cons hoi s1 ?_, by simp [k2, List.range'_succ]⟩
        show RunsW P all ((cfOf ts rows).after o.dst rows.length e) l _
        rw [s2]
        exact k1
      rcases h with ⟨hw, he⟩ | ⟨hw, ok1, v, ok2, hq, he, rfl⟩ | ⟨t, b, w, j, w0, sub, p, rest2, ok1, ts1, ts0, okA, d1, okB, d2, ok', hw, hg, hA⟩
      · have hno : wantIs all ts.list o false := by
          unfold wantD at hw
          split at hw
          · cases hw
          · rename_i j w hg
            cases hkn : knows kn j w with
            | true => simp [hkn] at hw
            | false => simp only [hkn, cond_false] at hw; exact wantS_no hw
        exact one (.tuple []) ok ⟨_, skip_step hin hno⟩ he hok
      · rw [Bool.and_eq_true] at hok
        have hyes : wantIs all ts.list o true := by
          unfold wantD at hw
          split at hw
          · rename_i hg; unfold wantIs; rw [hg]
          · rename_i j w hg
            cases hkn : knows kn j w with
            | true => exact knows_spec hk hkn hg
            | false => simp only [hkn, cond_false] at hw; exact wantS_yes hw
        exact one v ok2 (quiet_step hX hin hq hok.1 hyes) he hok.2
      · have hask : w0 = w ∧ (all[j]?).bind (·.dst) = some t ∧ ts.get t = .bool b := by
          unfold wantD at hw
          rw [hg] at hw
          simp only at hw
          cases hkn : knows kn j w0 with
          | true => simp [hkn] at hw
          | false =>
            simp only [hkn, cond_false] at hw
            obtain ⟨j', h1, h2, h3⟩ := wantS_ask hw
            rw [hg] at h1
            cases h1
            exact ⟨rfl, h2, h3⟩
        obtain ⟨rfl, hjt, htb⟩ := hask
        have hcat := hA.cat
        have hallS : ∀ k o', sub[k]? = some o' → all[i + k]? = some o' := fun k o' hk => hall k o' (by
          rw [hcat, List.getElem?_append_left (List.getElem?_eq_some_iff.1 hk).1]; exact hk)
        have hallP : all[i + sub.length]? = some p := hall sub.length p (by
          rw [hcat, List.getElem?_append_right (Nat.le_refl _)]; simp)
        have hallR : ∀ k o', rest2[k]? = some o' → all[i + sub.length + 1 + k]? = some o' := fun k o' hk => by
          have := hall (sub.length + 1 + k) o' (by rw [hcat, List.getElem?_append_right (by omega), show sub.length + 1 + k - sub.length = k + 1 by omega]; simpa using hk)
          rw [← this]; congr 1; omega
        obtain ⟨f1, f2, f3, f4⟩ := skipB_frame sub ts ts0 hA.sk
        obtain ⟨s1, s2, s3, s4⟩ := evalB_frame _ _ _ _ _ _ _ hA.ev
        have fin0 : ∀ o' ∈ sub, inT ts o'.dst = true := fun o' ho' => (f3 o' ho').1
        have fdt : ∀ o' ∈ sub, o'.dst ≠ some t := fun o' ho' => (f3 o' ho').2
        have hpt : p.dst ≠ some t := free_ne hA.pfr (x := (j, w0, t)) (by simp)
        -- the guards that are known stay so
        have hk2 : KOk all kn (putT (topB sub ts) p.dst (.bool (bif (b == w0) then d1 else d2))) := by
          obtain ⟨tn, tin, tget⟩ := topB_spec sub ts fin0
          intro x hx
          refine ⟨(hk x hx).1, ?_⟩
          rw [putT_get (by rw [tin]; exact hA.pin) (free_ne hA.pfr (x := x) (by simp [hx]))]
          rcases tget x.2.2 with h | ⟨h, _⟩
          · exfalso
            have key : ∀ (l : List Oper) (ts : Tm), (∀ o ∈ l, inT ts o.dst = true) → (∀ o ∈ l, o.dst ≠ some x.2.2) → (topB l ts).get x.2.2 = ts.get x.2.2 := by
              intro l
              induction l with
              | nil => intro ts _ _; rfl
              | cons a l ihl =>
                intro ts h1 h2
                simp only [topB]
                rw [ihl (putT ts a.dst .top) (fun o ho => by rw [inT_set]; exact h1 o (by simp [ho])) (fun o ho => h2 o (by simp [ho])), putT_get (h1 a (by simp)) (h2 a (by simp))]
            rw [key sub ts fin0 (fun o' ho' => free_ne (s3 o' ho').2 (x := x) (by simp [hx])), (hk x hx).2] at h
            cases h
          · rw [h]; exact (hk x hx).2
        rw [hA.ok, Bool.and_eq_true, Bool.and_eq_true, Bool.or_eq_true, Bool.or_eq_true] at hok
        obtain ⟨⟨hokA, hokB⟩, hok'⟩ := hok
        obtain ⟨l2, k1, k2⟩ := ih _ _ _ _ _ _ hA.ev2 hallR hk2 hok'
        -- the block, then what picks
        have fin : ∀ (tsx : Tm) (lx : List (Nat × Item)) (dx okx : Bool), RunsW P all (cfOf ts rows) lx (cfOf tsx rows) → lx.map (·.1) = List.range' i sub.length → tsx.n = ts.n → (∀ x, (∀ o ∈ sub, o.dst ≠ some x) → tsx.get x = ts.get x) → (∀ d, inT tsx d = inT ts d) →
            pureS X.T (St.mk (tsx.set t (.bool b)) rows).ev p.op = some (okx, .bool dx) → okx = true → (bif (b == w0) then d1 else d2) = dx → KOk all kn tsx →
            ∃ l, RunsW P all (cfOf ts rows) l (cfOf ts' rows) ∧ l.map (·.1) = List.range' i (o :: rest).length := by
          intro tsx lx dx okx hrun hidx hn hf hi hp hokx hd hkx
          have htx : tsx.get t = .bool b := (hf t fdt).trans htb
          have hinb : tsx.inb t = true := by
            have := hi (some t)
            simp only [inT] at this
            rw [this]; exact hA.inb
          rw [ev_list (set_bool hinb htx)] at hp
          have hpin : inT tsx p.dst = true := by rw [hi]; exact hA.pin
          have hyes : wantIs all tsx.list p true := by
            have := hA.pg
            unfold pgOk at this
            split at this
            · rename_i hg'; unfold wantIs; rw [hg']
            · rename_i j' w' hg'
              exact knows_spec hkx this hg'
          have hq : quietS X (St.mk tsx rows).ev rows p.op = some (okx, .bool dx) := by unfold quietS; rw [hp]
          obtain ⟨e, g1, g2⟩ := quiet_step (all := all) hX hpin hq hokx hyes
          have hw := weak_join (rows := rows) (v := .bool dx) fin0 hA.pin hpin hn hf
          rw [hd] at k1
          refine ⟨lx ++ (i + sub.length, ⟨p, rows.length, e⟩) :: l2, hrun.append (.cons hallP g1 ?_), ?_⟩
          · show RunsW P all ((cfOf tsx rows).after p.dst rows.length e) l2 _
            rw [g2]
            exact .weak hw k1
          · rw [List.map_append, List.map_cons, hidx, k2, hcat, List.length_append, List.length_cons]
            simp only
            rw [show sub.length + (rest2.length + 1) = sub.length + (1 + rest2.length) by omega, ← List.range'_append, ← List.range'_append]
            simp
        by_cases hbw : b = w0
        · subst hbw
          have hkS : KOk all ((j, b, t) :: kn) ts := by
            intro x hx
            rcases List.mem_cons.1 hx with rfl | hx
            · exact ⟨hjt, htb⟩
            · exact hk x hx
          have hokA' : (ok1 && okA) = true := by
            rcases hokA with h | h
            · exact h
            · simp at h
          rw [Bool.and_eq_true] at hokA'
          obtain ⟨l1, m1, m2⟩ := ih _ _ _ _ _ _ hA.ev hallS hkS hokA'.1
          refine fin ts1 l1 d1 okA m1 m2 s2 s1 s4 hA.p1 hokA'.2 (by simp) ?_
          intro x hx
          refine ⟨(hk x hx).1, ?_⟩
          rw [s1 x.2.2 (fun o' ho' => free_ne (s3 o' ho').2 (x := x) (by simp [hx]))]
          exact (hk x hx).2
        · obtain ⟨l1, m1, m2⟩ := skipB_ok (P := P) (rows := rows) hbw sub i ts ts0 hA.sk hallS htb
          have hokB' : okB = true := by
            rcases hokB with h | h
            · exact h
            · simp at h; exact absurd h hbw
          have hnb : (!w0) = b := by cases b <;> cases w0 <;> simp_all
          have hp2 := hA.p2
          rw [hnb] at hp2
          refine fin ts0 l1 d2 okB m1 m2 f2 f1 f4 hp2 hokB' (by rw [beq_eq_false_iff_ne.2 hbw]; rfl) ?_
          intro x hx
          refine ⟨(hk x hx).1, ?_⟩
          rw [f1 x.2.2 (fun o' ho' => free_ne (s3 o' ho').2 (x := x) (by simp [hx]))]
          exact (hk x hx).2

theorem mergeT_ok (hX : COk P X) {i : Nat} {ops : List Oper} {ts ts' : Tm} {k : Nat} (h : mergeT X all rows i ops ts = some (k, true, ts')) (hall : ∀ k o, ops[k]? = some o → all[i + k]? = some o) :
    ∃ l, RunsW P all (cfOf ts rows) l (cfOf ts' rows) ∧ l.map (·.1) = List.range' i (ops.take (k + 1)).length := by
  unfold mergeT at h
  split at h
  · cases h
  · rename_i o rest
    split at h
    · cases h
    · rename_i j w hg
      split at h
      · rename_i ok ts2 he
        simp only [Option.some.injEq, Prod.mk.injEq] at h
        obtain ⟨rfl, rfl, rfl⟩ := h
        exact evalB_ok hX _ _ _ _ _ _ _ he (fun k o hk => hall k o (by
          rw [List.getElem?_take] at hk
          split at hk
          · exact hk
          · cases hk)) (fun x hx => by cases hx) rfl
      · cases h
end
end Go.Proofs.Ytikifgbbiffclaa
