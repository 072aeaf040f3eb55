/- The small machine: code, functions, and what they leave. Of whatever program. -/
import Derived.Test.YtikifgbbiffclaaVmI
namespace Go.Proofs.Ytikifgbbiffclaa
set_option linter.unusedSimpArgs false
set_option linter.unusedVariables false
open Go.RowKit

def Ex.to : Ex → Exit
  | .normal => .normal
  | .exit id => .exit id
  | .ret => .ret

def Tri (P : Program) (c : Code) (s : St) (e : Ex) (s' : St) : Prop :=
  ∀ (ρ : Rho) (a : Act) (w : World), SRel ρ s.cf a w → ∀ Q : Exit → Act → World → Prop, (∀ ρ' a' w', SRel ρ' s'.cf a' w' → Prg ρ s.cf.m w ρ' s'.cf.m w' → Q e.to a' w') → c.wp P Q a w
def TriL (P : Program) (b : Code) (s : St) (e : Ex) (s' : St) : Prop :=
  ∃ m, ∀ (ρ : Rho) (a : Act) (w : World), SRel ρ s.cf a w → ∀ Q : Exit → Act → World → Prop, (∀ ρ' a' w', SRel ρ' s'.cf a' w' → Prg ρ s.cf.m w ρ' s'.cf.m w' → Q e.to a' w') → Code.rounds P b Q m a w
def TriX (P : Program) (c : Code) (s : St) (e : Ex) (s' : St) : Prop := match c with
  | .loop b => TriL P b s e s'
  | c => Tri P c s e s'

def child : Code → Nat → Option Code
  | .seq a _, 0 => some a
  | .seq _ b, 1 => some b
  | .cond _ a _, 0 => some a
  | .cond _ _ b, 1 => some b
  | .block _ b, 0 => some b
  | .loop b, 0 => some b
  | _, _ => none
def subAt (c : Code) : List Nat → Option Code
  | [] => some c
  | i :: p => match subAt c p with
    | some d => child d i
    | none => none
def At (P : Program) (f : Nat) (p : List Nat) (c : Code) : Prop := ∃ fn body, P.funcs[f]? = some fn ∧ fn.body = some body ∧ subAt body p = some c
theorem At.child {P : Program} {f : Nat} {p : List Nat} {c d : Code} {i : Nat} (h : At P f p c) (hd : child c i = some d) : At P f (i :: p) d := by
  obtain ⟨fn, body, h1, h2, h3⟩ := h
  exact ⟨fn, body, h1, h2, by simp [subAt, h3, hd]⟩

def LOk (P : Program) (L : Nat → List Nat → Option LoopF) : Prop :=
  ∀ f p F, L f p = some F → ∀ b, At P f p (.loop b) → ∀ s K r, F s K = some r → ∃ e s', K e s' = some r ∧ TriL P b s e s'

section
variable {P : Program} {X : Ctx}

theorem SRel.prg {ρ : Rho} {c : Cf} {a : Act} {w : World} (h : SRel ρ c a w) : Prg ρ c.m w ρ c.m w := Prg.refl _ _ _ h.free

theorem rounds_mono {b : Code} {Q Q' : Exit → Act → World → Prop} (hq : ∀ e a w, Q e a w → Q' e a w) : ∀ (m : Nat) (a : Act) (w : World), Code.rounds P b Q m a w → Code.rounds P b Q' m a w
  | 0, _, _, h => h.elim
  | m + 1, a, w, h => by
    rw [rounds_succ] at h ⊢
    refine wp_mono h fun e a w he => ?_
    cases e <;> first | exact rounds_mono hq m _ _ he | exact hq _ _ _ he

theorem rounds_more {b : Code} {Q : Exit → Act → World → Prop} : ∀ (m : Nat) (a : Act) (w : World), Code.rounds P b Q m a w → Code.rounds P b Q (m + 1) a w
  | 0, _, _, h => h.elim
  | m + 1, a, w, h => by
    rw [rounds_succ] at h ⊢
    refine wp_mono h fun e a w he => ?_
    cases e <;> first | exact rounds_more m _ _ he | exact he

theorem TriX.tri {c : Code} {s s' : St} {e : Ex} (h : TriX P c s e s') : Tri P c s e s' := by
  cases c <;> try exact h
  case loop b =>
    obtain ⟨m, hm⟩ := h
    intro ρ a w hr Q hQ
    exact wp_loop_rounds m (hm ρ a w hr Q hQ)

theorem Tri.x {c : Code} {s s' : St} {e : Ex} (h : Tri P c s e s') (hc : ∀ b, c ≠ .loop b) : TriX P c s e s' := by
  cases c <;> try exact h
  case loop b => exact absurd rfl (hc b)

theorem SRel.drew {ρ : Rho} {c : Cf} {a : Act} {w : World} (h : SRel ρ c a w) : SRel ρ c a { w with drawn := w.drawn + 1 } :=
  ⟨h.tm, h.df, h.good, fun i row hi => (h.rows i row hi).keep (Rho.le.refl _) (fun _ _ => rfl), h.apart, h.free⟩
theorem Prg.drew {ρ ρ' : Rho} {m m' : Rws} {w w' : World} (h : Prg ρ m { w with drawn := w.drawn + 1 } ρ' m' w') : Prg ρ m w ρ' m' w' :=
  ⟨h.le, h.keep, h.live, h.dom, h.new, ⟨h.frm.os, h.frm.tape, h.frm.output, h.frm.size, h.frm.block⟩⟩

/-! Results. -/
theorem resOne_ok (hX : COk P X) {s : St} {rv : ResultVar} {v : SV} (h : resOne X s rv = some v) {ρ : Rho} {a : Act} {w : World} (hr : SRel ρ s.cf a w) : ∃ u, (resRun a.tmps rv).run P w = .ok u w ∧ Rel ρ v u := by
  cases rv with
  | tmp t =>
    simp only [resOne, Option.some.injEq] at h
    subst h
    have := ev_rel hr.tm (.tmp t)
    rw [St.cf_ev] at this
    exact ⟨a.eval (.tmp t), rfl, this⟩
  | cell t ty =>
    simp only [resOne] at h
    split at h
    · rename_i id st i j ti hp hT
      split at h
      · rename_i cells hrow
        have hev := ev_rel hr.tm (.tmp t)
        rw [St.cf_ev] at hev
        simp only [St.ev] at hev
        rw [hp] at hev
        simp only [Rel] at hev
        obtain ⟨p, hpp, hv⟩ := hev
        obtain ⟨p', vs, tyy, hp', hb, hm, hh, hrl⟩ := hr.rows id _ hrow
        rw [hpp] at hp'
        cases hp'
        obtain ⟨rv, h1, h2⟩ := loadVar_cells (hX.T _ _ hT) w p.b 0 hrl (fun j v hv => by rw [Nat.zero_add, heap_cell hh]; exact hv) h
        refine ⟨rv, ?_, h2⟩
        simp only [resRun]
        rw [show a.tmps.getD t undef = _ from hv, show p.base + i * st + j = 0 + (i * st + j) by omega]
        rw [Nat.zero_add] at h1
        simp [asAddr, h1]
      · cases h
    · cases h

theorem resAll_ok (hX : COk P X) {s : St} {ρ : Rho} {a : Act} {w : World} (hr : SRel ρ s.cf a w) : ∀ {l : List ResultVar} {vs : List SV}, resAll X s l = some vs → ∃ us : List Value, (l.mapM (resRun a.tmps)).run P w = .ok us w ∧ RelL ρ vs us
  | [], vs, h => by
    simp only [resAll, Option.some.injEq] at h
    subst h
    exact ⟨[], by simp, by simp [RelL]⟩
  | rv :: l, vs, h => by
    simp only [resAll] at h
    split at h
    · rename_i v vs' h1 h2
      cases h
      obtain ⟨u, g1, g2⟩ := resOne_ok hX h1 hr
      obtain ⟨us, k1, k2⟩ := resAll_ok hX hr h2
      exact ⟨u :: us, by simp [List.mapM_cons, Sem.run_bind, g1, k1], relL_cons.2 ⟨g2, k2⟩⟩
    · cases h

theorem resS_ok (hX : COk P X) {fn : Func} {s : St} {v : SV} (h : resS X fn s = some v) {ρ : Rho} {a : Act} {w : World} (hr : SRel ρ s.cf a w) : ∃ u, (results fn a.tmps).run P w = .ok u w ∧ Rel ρ v u := by
  rw [results_eq]
  simp only [Array.mapM_eq_mapM_toList]
  unfold resS at h
  split at h
  · rename_i v' hv
    cases h
    obtain ⟨us, h1, h2⟩ := resAll_ok hX hr hv
    cases us with
    | nil => simp [RelL] at h2
    | cons u us =>
      rw [relL_cons, relL_nil] at h2
      obtain ⟨h2, rfl⟩ := h2
      exact ⟨u, by simp [Sem.run_bind, h1], h2⟩
  · rename_i vs hne hv
    cases h
    obtain ⟨us, h1, h2⟩ := resAll_ok hX hr hv
    refine ⟨.tuple us.toArray, ?_, by simp only [Rel]; exact ⟨us, rfl, h2⟩⟩
    have hlen : us.length ≠ 1 := by
      have := h2.length
      intro h
      rw [h] at this
      obtain ⟨v, rfl⟩ := List.length_eq_one_iff.1 this
      exact hne v rfl
    simp [Sem.run_bind, h1, hlen]
  · cases h

theorem enter_rel {ρ : Rho} {args : List SV} {vargs : List Value} {rows : List Row} {w : World} (fn : Func) (h : RelL ρ args vargs) (hg : Good ρ w) (hrows : ∀ i row, rows[i]? = some row → RowAt ρ i row w) (ha : Apart ρ (liveAt (fun i => rows[i]?))) (hf : ∀ i, rows.length ≤ i → ρ i = none) :
    SRel ρ (enterS fn args rows).cf { tmps := vargs.toArray ++ Array.replicate (fn.ntmps - vargs.toArray.size) undef, defers := [] } w := by
  refine ⟨?_, rfl, hg, hrows, ha, fun i hi => hf i (by simpa [enterS, St.cf] using hi)⟩
  simp only [enterS, St.cf, Tm.of_list, Array.toList_append, Array.toList_replicate]
  refine RelL.append h ?_
  rw [h.length]
  simp only [List.size_toArray]
  generalize fn.ntmps - vargs.length = n
  induction n with
  | zero => simp [RelL]
  | succ n ih =>
    simp only [List.replicate_succ, relL_cons]
    exact ⟨by simp [Rel, RelL, undef], ih⟩

theorem callOk_of {fid : Nat} {fn : Func} {body : Code} (hX : COk P X) (hfu : P.funcs[fid]? = some fn) (hb : fn.body = some body) {args : List SV} {rows : List Row} {e : Ex} {s' : St} (he : e = .normal ∨ e = .ret) {v : SV} (hv : resS X fn s' = some v)
    (h : Tri P body (enterS fn args rows) e s') : CallOk P fid args rows v s'.rows := by
  intro ρ vargs w hargs hg hrows ha hf
  refine calls_of_wp hfu hb (h ρ _ w (enter_rel fn hargs hg hrows ha hf) _ fun ρ' a' w' hr hp => ?_)
  obtain ⟨u, h1, h2⟩ := resS_ok hX hv hr
  have hfree : ∀ i, s'.rows.length ≤ i → ρ' i = none := fun i hi => hr.free i (by simpa [St.cf] using hi)
  rcases he with rfl | rfl <;> exact ⟨hr.df, u, h1, u, ρ', rfl, h2, hr.good, hr.rows, hr.apart, hfree, hp⟩

theorem exec_ok (hX : COk P X) {L : Nat → List Nat → Option LoopF} (hL : LOk P L) : ∀ (n f : Nat) (p : List Nat) (c : Code) (s : St) (K : Ex → St → Option Res2) (r : Res2), exec X L n f p c s K = some r → At P f p c → ∃ e s', K e s' = some r ∧ TriX P c s e s' := by
  intro n
  induction n with
  | zero => intro f p c s K r h _; simp [exec] at h
  | succ n ih =>
    intro f p c s K r h hat
    cases c with
    | skip =>
      simp only [exec] at h
      exact ⟨.normal, s, h, fun ρ a w hr Q hQ => wp_skip (hQ ρ a w hr hr.prg)⟩
    | exit id =>
      simp only [exec] at h
      exact ⟨.exit id, s, h, fun ρ a w hr Q hQ => wp_exit (hQ ρ a w hr hr.prg)⟩
    | ret =>
      simp only [exec] at h
      exact ⟨.ret, s, h, fun ρ a w hr Q hQ => wp_ret (hQ ρ a w hr hr.prg)⟩
    | seq a b =>
      simp only [exec] at h
      obtain ⟨e, s1, h1, t1⟩ := ih _ _ _ _ _ _ h (hat.child rfl)
      cases e with
      | normal =>
        obtain ⟨e2, s2, h2, t2⟩ := ih _ _ _ _ _ _ h1 (hat.child rfl)
        refine ⟨e2, s2, h2, fun ρ ac w hr Q hQ => wp_seq (t1.tri ρ ac w hr _ fun ρ' a' w' hr' hp' => ?_)⟩
        exact t2.tri ρ' a' w' hr' Q fun ρ'' a'' w'' hr'' hp'' => hQ _ _ _ hr'' (hp'.trans hp'')
      | exit i => exact ⟨.exit i, s1, h1, fun ρ ac w hr Q hQ => wp_seq (t1.tri ρ ac w hr _ hQ)⟩
      | ret => exact ⟨.ret, s1, h1, fun ρ ac w hr Q hQ => wp_seq (t1.tri ρ ac w hr _ hQ)⟩
    | cond x a b =>
      simp only [exec] at h
      split at h
      · rename_i t hx
        have hxt : ∀ {ρ : Rho} {ac : Act} {w : World}, SRel ρ s.cf ac w → ac.eval x = .bool t := by
          intro ρ ac w hr
          have := ev_rel hr.tm x
          rw [St.cf_ev, hx] at this
          simpa [Rel] using this
        cases t with
        | true =>
          obtain ⟨e, s1, h1, t1⟩ := ih _ _ _ _ _ _ h (hat.child rfl)
          exact ⟨e, s1, h1, fun ρ ac w hr Q hQ => wp_cond_true (hxt hr) (t1.tri ρ ac w hr Q hQ)⟩
        | false =>
          obtain ⟨e, s1, h1, t1⟩ := ih _ _ _ _ _ _ h (hat.child rfl)
          exact ⟨e, s1, h1, fun ρ ac w hr Q hQ => wp_cond_false (hxt hr) (t1.tri ρ ac w hr Q hQ)⟩
      · cases h
    | block id b =>
      simp only [exec] at h
      obtain ⟨e, s1, h1, t1⟩ := ih _ _ _ _ _ _ h (hat.child rfl)
      cases e with
      | normal => exact ⟨.normal, s1, h1, fun ρ ac w hr Q hQ => wp_block (t1.tri ρ ac w hr _ hQ)⟩
      | ret => exact ⟨.ret, s1, h1, fun ρ ac w hr Q hQ => wp_block (t1.tri ρ ac w hr _ hQ)⟩
      | exit i =>
        cases hb : Nat.beq i id with
        | true =>
          simp only [hb, cond_true] at h1
          have := Nat.eq_of_beq_eq_true hb
          subst this
          exact ⟨.normal, s1, h1, fun ρ ac w hr Q hQ => wp_block (t1.tri ρ ac w hr _ fun ρ' a' w' g1 g2 => by
            show (if i = i then Q .normal a' w' else _)
            rw [if_pos rfl]
            exact hQ ρ' a' w' g1 g2)⟩
        | false =>
          simp only [hb, cond_false] at h1
          have hne := Nat.ne_of_beq_eq_false hb
          exact ⟨.exit i, s1, h1, fun ρ ac w hr Q hQ => wp_block (t1.tri ρ ac w hr _ fun ρ' a' w' g1 g2 => by
            show (if i = id then _ else Q (.exit i) a' w')
            rw [if_neg hne]
            exact hQ ρ' a' w' g1 g2)⟩
    | loop b =>
      simp only [exec] at h
      split at h
      · rename_i F hF
        obtain ⟨e, s', h1, h2⟩ := hL f p F hF b hat s K r h
        exact ⟨e, s', h1, h2⟩
      · obtain ⟨e, s1, h1, t1⟩ := ih _ _ _ _ _ _ h (hat.child rfl)
        cases e with
        | normal =>
          obtain ⟨e2, s2, h2, t2⟩ := ih _ _ _ _ _ _ h1 hat
          obtain ⟨m, hm⟩ := t2
          refine ⟨e2, s2, h2, m + 1, fun ρ ac w hr Q hQ => ?_⟩
          rw [rounds_succ]
          exact t1.tri ρ ac w hr _ fun ρ' a' w' hr' hp' => hm ρ' a' w' hr' Q fun ρ'' a'' w'' hr'' hp'' => hQ _ _ _ hr'' (hp'.trans hp'')
        | exit i => exact ⟨.exit i, s1, h1, 1, fun ρ ac w hr Q hQ => by rw [rounds_succ]; exact t1.tri ρ ac w hr _ hQ⟩
        | ret => exact ⟨.ret, s1, h1, 1, fun ρ ac w hr Q hQ => by rw [rounds_succ]; exact t1.tri ρ ac w hr _ hQ⟩
    | region id ops draw =>
      simp only [exec] at h
      have hgo : ∀ fid fn args rows (k : SV → List Row → Option Res2) r, (match fn.body with
          | some body => exec X L n fid [] body (enterS fn args rows) (endS X fn k)
          | none => none) = some r → X.fn fid = some fn → ∃ v rows', k v rows' = some r ∧ CallOk P fid args rows v rows' := by
        intro fid fn args rows k r h hfn
        have hfu := (hX.fn _ _ hfn).1
        split at h
        · rename_i body hb
          obtain ⟨e, s', h1, h2⟩ := ih _ _ _ _ _ _ h ⟨fn, body, hfu, hb, rfl⟩
          unfold endS at h1
          cases e with
          | exit i => simp at h1
          | normal =>
            simp only at h1
            split at h1
            · rename_i v hv; exact ⟨v, s'.rows, h1, callOk_of hX hfu hb (.inl rfl) hv h2.tri⟩
            · cases h1
          | ret =>
            simp only at h1
            split at h1
            · rename_i v hv; exact ⟨v, s'.rows, h1, callOk_of hX hfu hb (.inr rfl) hv h2.tri⟩
            · cases h1
        · cases h
      obtain ⟨l, s', hrun, hidx, hK, hind⟩ := execOps_ok hX hgo _ [] 0 s [] _ r h rfl
      rw [Nat.add_zero, Nat.sub_zero] at hidx
      refine ⟨.normal, s', hK, fun ρ ac w hr Q hQ => ?_⟩
      have hsz : ops.toList.length = ops.size := by simp
      cases draw with
      | false =>
        refine wp_region ?_
        have := runsW_wpOps (Q := Q) hrun hr hQ
        rw [hidx] at this
        simpa [List.range_eq_range', hsz] using this
      | true =>
        refine wp_region_any hX.mixed ?_
        obtain ⟨hrun, hi⟩ := hind rfl rfl
        simp only [List.nil_append] at hi
        unfold indep at hi
        rw [Bool.and_eq_true, Bool.and_eq_true] at hi
        obtain ⟨hback, _, hgoi⟩ := hi
        have hl : l.length = ops.toList.length := by have := congrArg List.length hidx; simpa using this
        have hidxk : ∀ k (hk : k < l.length), l[k].1 = k := by
          intro k hk
          have := congrArg (fun l => l[k]?) hidx
          simp only [List.getElem?_map, List.getElem?_eq_getElem hk, Option.map_some, List.length_nil] at this
          rw [List.getElem?_range' (by omega)] at this
          simp at this
          exact this
        have := runs_wpAny (P := P) (all := ops.toList) (Q := Q) (fun k o ho e he hb => by have := backGo_spec hback k o ho e he hb; omega) ops.size l (Array.replicate ops.size false) s.cf ρ ac { w with drawn := w.drawn + 1 } hrun (by omega) (by simp)
          (fun j => by
            rw [hidx]
            simp only [List.length_nil, List.mem_range', Array.length_toList]
            constructor
            · rintro ⟨i, hi, rfl⟩
              exact ⟨by omega, by simp [Array.getD, hi]⟩
            · rintro ⟨hj, _⟩
              exact ⟨j, hj, by omega⟩)
          (by
            rw [List.pairwise_iff_getElem]
            intro i j hi hj hij
            rw [hidxk i hi, hidxk j hj]
            refine ⟨hij, ?_⟩
            have := indepGo_spec hgoi j (recOf ops.toList l[j].2.o l[j].2.n l[j].2.e) (by simp [hj]) i (recOf ops.toList l[i].2.o l[i].2.n l[i].2.e) (by simpa using hij) (by simp [hi])
            rcases this with ⟨anc, h1, h2⟩ | h1
            · exact .inl (ancsGo_spec ops.toList [] rfl (fun k anc hk => by simp at hk) j anc h1 i h2)
            · exact .inr (ind_of h1))
          (fun j o ho hl => by simp [Array.getD] at hl)
          hr.drew (fun ρ' a' w' h1 h2 => hQ _ _ _ h1 h2.drew)
        simpa using this
    | rangeFunc g ps x bd => simp [exec] at h
    | scope b => simp [exec] at h
    | label l => simp [exec] at h
    | goto l => simp [exec] at h
    | refuse w => simp [exec] at h

/-- What the small machine says of a call of f. -/
theorem runF_ok (hX : COk P X) {L : Nat → List Nat → Option LoopF} (hL : LOk P L) {n f : Nat} {fn : Func} (hfu : P.funcs[f]? = some fn) {args : List SV} {rows rows' : List Row} {v : SV} (h : runF X L n f fn args rows = some (v, rows')) : CallOk P f args rows v rows' := by
  unfold runF at h
  split at h
  · rename_i body hb
    obtain ⟨e, s', h1, h2⟩ := exec_ok hX hL _ _ _ _ _ _ _ h ⟨fn, body, hfu, hb, rfl⟩
    unfold endS at h1
    cases e with
    | exit i => simp at h1
    | normal =>
      simp only at h1
      split at h1
      · rename_i u hu
        cases h1
        exact callOk_of hX hfu hb (.inl rfl) hu h2.tri
      · cases h1
    | ret =>
      simp only at h1
      split at h1
      · rename_i u hu
        cases h1
        exact callOk_of hX hfu hb (.inr rfl) hu h2.tri
      · cases h1
  · cases h

/-- As runF, but of the rows only the first k are told. -/
def runK (X : Ctx) (L : Nat → List Nat → Option LoopF) (n : Nat) (f : Nat) (fn : Func) (k : Nat) (args : List SV) (rows : List Row) : Option Res2 := match fn.body with
  | some body => exec X L n f [] body (enterS fn args rows) (endS X fn fun v rows => some (v, rows.take k))
  | none => none

theorem runK_ok (hX : COk P X) {L : Nat → List Nat → Option LoopF} (hL : LOk P L) {n f k : Nat} {fn : Func} (hfu : P.funcs[f]? = some fn) {args : List SV} {rows rs : List Row} {v : SV} (h : runK X L n f fn k args rows = some (v, rs)) : ∃ rows', CallOk P f args rows v rows' ∧ rows'.take k = rs := by
  unfold runK at h
  split at h
  · rename_i body hb
    obtain ⟨e, s', h1, h2⟩ := exec_ok hX hL _ _ _ _ _ _ _ h ⟨fn, body, hfu, hb, rfl⟩
    unfold endS at h1
    cases e with
    | exit i => simp at h1
    | normal =>
      simp only at h1
      split at h1
      · rename_i u hu
        cases h1
        exact ⟨_, callOk_of hX hfu hb (.inl rfl) hu h2.tri, rfl⟩
      · cases h1
    | ret =>
      simp only at h1
      split at h1
      · rename_i u hu
        cases h1
        exact ⟨_, callOk_of hX hfu hb (.inr rfl) hu h2.tri, rfl⟩
      · cases h1
  · cases h

theorem lok_none : LOk P (fun _ _ => none) := fun _ _ _ h => by cases h
end
end Go.Proofs.Ytikifgbbiffclaa
