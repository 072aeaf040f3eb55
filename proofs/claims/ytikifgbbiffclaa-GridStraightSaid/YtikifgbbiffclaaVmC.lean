/- The small machine: the model does with an operation that looks at no memory what the small machine says. Of whatever program. -/
import Derived.Test.YtikifgbbiffclaaVmB
namespace Go.Proofs.Ytikifgbbiffclaa
set_option linter.unusedSimpArgs false
set_option linter.unusedVariables false
open Go.RowKit

section
variable {P : Program} {T : Nat → Option TI} {ρ : Rho} {w : World}

theorem dat_run {r : Sem Value} {s : SV} (hs : s.isDat = true) (h : r.run P w = .ok (dval s) w) : ∃ rv, r.run P w = .ok rv w ∧ Rel ρ s rv := ⟨_, h, (rel_dat hs).2 rfl⟩

theorem TIOk.sizeOf {t : Nat} {ti : TI} (h : TIOk P t ti) (w : World) : (sizeOf t).run P w = .ok ti.size w := sizeOf_run h.size w

theorem TIOk.isAgg {t : Nat} {ti : TI} (h : TIOk P t ti) (w : World) : (isAgg t).run P w = .ok ti.td.isAgg w := by
  have htd := h.td
  unfold Go.isAgg
  rw [Sem.run_bind]
  cases hq : ti.td <;> simp only [hq] at htd
  case struct fs =>
    obtain ⟨fields, hu, _⟩ := htd
    rw [run_underlying hu w]
    simp [TD.isAgg]
  case other =>
    obtain ⟨d, hu, hd⟩ := htd
    rw [run_underlying hu w]
    cases d <;> simp_all [TD.isAgg]
  all_goals
    rw [run_underlying htd w]
    simp [TD.isAgg]

theorem TIOk.some_desc {t : Nat} {ti : TI} (h : TIOk P t ti) : ∃ d, P.underlying t = some d := by
  have htd := h.td
  cases hq : ti.td <;> simp only [hq] at htd
  case struct fs => obtain ⟨fields, hu, _⟩ := htd; exact ⟨_, hu⟩
  case other => obtain ⟨d, hu, _⟩ := htd; exact ⟨_, hu⟩
  all_goals exact ⟨_, htd⟩

theorem relL_extract {xs : List SV} {vs : List Value} (h : RelL ρ xs vs) (off n : Nat) : RelL ρ ((xs.drop off).take n) ((vs.toArray.extract off (off + n)).toList) := by
  have := (h.drop off).take n
  simpa [List.extract_eq_take_drop] using this

theorem partS_ok {t : Nat} {ti : TI} (ht : TIOk P t ti) {cs : List SV} {vs : List Value} (h : RelL ρ cs vs) {off : Nat} {v : SV} (hp : partS ti cs off = some v) (w : World) :
    ∃ rv, (part t vs.toArray off).run P w = .ok rv w ∧ Rel ρ v rv := by
  unfold partS at hp
  unfold part
  rw [Sem.run_bind, ht.isAgg]
  cases hq : ti.td.isAgg with
  | true =>
    simp only [hq, cond_true] at hp
    cases hb : Nat.ble (off + ti.size) cs.length with
    | false => simp [hb] at hp
    | true =>
      simp only [hb, cond_true, Option.some.injEq] at hp
      subst hp
      refine ⟨.agg (vs.toArray.extract off (off + ti.size)), by simp [Sem.run_bind, ht.sizeOf], ?_⟩
      simp only [Rel]
      exact ⟨(vs.toArray.extract off (off + ti.size)).toList, by simp, relL_extract h off ti.size⟩
  | false =>
    simp only [hq, cond_false] at hp
    obtain ⟨u, hu, hr⟩ := h.get hp
    exact ⟨u, by simp [hu], hr⟩

theorem bitsOf_ok {op : BinOp} {k : IntKind} {x y n : Int} (h : bitsOf op k x y = some n) (w : World) : (Op.intBits op k x y).run P w = .ok (.int k n) w := by
  unfold bitsOf at h
  unfold Op.intBits
  cases op <;> simp_all

theorem binInt_ok {t : TypeId} {op : BinOp} {k : IntKind} {x y : Int} {ok : Bool} {v : SV} (h : binInt op k x y = some (ok, v)) (hok : ok = true) (hs : op ≠ .shl ∧ op ≠ .shr) (w : World) :
    ∃ rv, (binOp op t (.int k x) (.int k y)).run P w = .ok rv w ∧ Rel ρ v rv := by
  subst hok
  cases op <;> simp only [binInt] at h
  case shl => exact absurd rfl hs.1
  case shr => exact absurd rfl hs.2
  case quo =>
    simp only [Option.some.injEq, Prod.mk.injEq, Bool.not_eq_true', decide_eq_false_iff_not] at h
    obtain ⟨h0, rfl⟩ := h
    refine ⟨.int k (k.wrap (x.tdiv y)), ?_, by simp [Rel]⟩
    simp [binOp, Op.intDiv, h0]
  case rem =>
    simp only [Option.some.injEq, Prod.mk.injEq, Bool.not_eq_true', decide_eq_false_iff_not] at h
    obtain ⟨h0, rfl⟩ := h
    refine ⟨.int k (x.tmod y), ?_, by simp [Rel]⟩
    simp [binOp, Op.intDiv, h0]
  case and | or | xor | andNot =>
    split at h
    · rename_i n hn
      simp only [Option.some.injEq, Prod.mk.injEq, true_and] at h
      subst h
      exact ⟨.int k n, by simp [binOp, bitsOf_ok hn], by simp [Rel]⟩
    · cases h
  all_goals
    simp only [Option.some.injEq, Prod.mk.injEq, true_and] at h
    subst h
    exact dat_run rfl (by simp [binOp, Op.intArith, Op.intCmp, dval])

theorem eqC_dat {z x y : SV} {r : Bool} (h : eqC z x y = some r) : x.isDat = true ∧ y.isDat = true := by
  unfold eqC at h
  split at h <;> simp_all [SV.isDat]
theorem eqL_dat : ∀ {zs xs ys : List SV} {r : Bool}, eqL zs xs ys = some r → (∀ s ∈ xs, s.isDat = true) ∧ (∀ s ∈ ys, s.isDat = true)
  | [], [], [], _, _ => by simp
  | z :: zs, x :: xs, y :: ys, r, h => by
    simp only [eqL] at h
    cases hc : eqC z x y with
    | none => simp [hc] at h
    | some a =>
      cases hl : eqL zs xs ys with
      | none => simp [hc, hl] at h
      | some b =>
        have h1 := eqC_dat hc
        have h2 := eqL_dat hl
        refine ⟨fun s hs => ?_, fun s hs => ?_⟩
        · rcases List.mem_cons.1 hs with rfl | hs
          · exact h1.1
          · exact h2.1 s hs
        · rcases List.mem_cons.1 hs with rfl | hs
          · exact h1.2
          · exact h2.2 s hs
  | [], [], _ :: _, _, h => by simp [eqL] at h
  | [], _ :: _, _, _, h => by simp [eqL] at h
  | _ :: _, [], _, _, h => by simp [eqL] at h
  | _ :: _, _ :: _, [], _, h => by simp [eqL] at h
theorem relL_dats : ∀ {xs : List SV} {vs : List Value}, RelL ρ xs vs → (∀ s ∈ xs, s.isDat = true) → vs = xs.map dval
  | [], vs, h, _ => by simpa [RelL] using h
  | x :: xs, [], h, _ => by simp [RelL] at h
  | x :: xs, v :: vs, h, hd => by
    rw [relL_cons] at h
    rw [(rel_dat (hd x (by simp))).1 h.1, relL_dats h.2 (fun s hs => hd s (by simp [hs]))]
    rfl

/-- The operation with its operands' values, behind the model's guard for '=='. -/
def guarded (op : BinOp) (t : TypeId) (x y : Operand) (u v : Value) : Sem Value := do eqGuard op t x y u v; binOp op t u v

theorem guarded_plain {op : BinOp} {t : TypeId} {x y : Operand} {u v : Value} {r : Result Value} (hn : (match u, v with | .nilIface, .nilIface => true | .agg _, .agg _ => true | _, _ => false) = false)
    (h : (binOp op t u v).run P w = r) : (guarded op t x y u v).run P w = r := by
  subst h
  have : (eqGuard op t x y u v).run P w = .ok () w := by
    unfold eqGuard
    cases u <;> cases v <;> simp at hn <;> (cases op <;> simp [Sem.run_bind])
  unfold guarded
  rw [Sem.run_bind, this]
  rfl

theorem run_equalIn_nilp (w : World) (d : Nat) {t e : TypeId} (hu : P.underlying t = some (.pointer e)) (a : Option Addr) : (Op.equalIn (d + 1) t (.pointer a) (.pointer none)).run P w = .ok a.isNone w := by
  unfold Op.equalIn
  rw [Sem.run_bind, run_underlying hu]
  cases a <;> simp

theorem binS_ok (hT : ∀ t ti, T t = some ti → TIOk P t ti) {op : BinOp} {t : TypeId} {a b : SV} {ok : Bool} {v : SV} (h : binS T op t a b = some (ok, v)) (hok : ok = true) {x y : Operand} {u u' : Value}
    (ha : Rel ρ a u) (hb : Rel ρ b u') (w : World) : ∃ rv, (guarded op t x y u u').run P w = .ok rv w ∧ Rel ρ v rv := by
  subst hok
  unfold binS at h
  split at h
  · -- shl
    simp only [Rel] at ha hb
    subst ha hb
    simp only [Option.some.injEq, Prod.mk.injEq, Bool.not_eq_true', decide_eq_false_iff_not] at h
    obtain ⟨h0, rfl⟩ := h
    exact ⟨_, guarded_plain rfl (by simp only [binOp, Op.shift, if_neg h0]; rfl), by simp [Rel]⟩
  · simp only [Rel] at ha hb
    subst ha hb
    simp only [Option.some.injEq, Prod.mk.injEq, Bool.not_eq_true', decide_eq_false_iff_not] at h
    obtain ⟨h0, rfl⟩ := h
    exact ⟨_, guarded_plain rfl (by simp only [binOp, Op.shift, if_neg h0]; rfl), by simp [Rel]⟩
  · rename_i k m k' n hs1 hs2
    simp only [Rel] at ha hb
    subst ha hb
    by_cases hk : k = k'
    · subst hk
      simp only [decide_true, cond_true] at h
      obtain ⟨rv, h1, h2⟩ := binInt_ok (P := P) (ρ := ρ) (t := t) h rfl ⟨hs1, hs2⟩ w
      exact ⟨rv, guarded_plain rfl h1, h2⟩
    · simp [hk] at h
  · simp only [Rel] at ha hb
    subst ha hb
    split at h
    · rename_i hq
      have hu := (hT _ _ hq).td
      simp only at hu
      simp only [Option.some.injEq, Prod.mk.injEq, true_and] at h
      subst h
      exact dat_run rfl (guarded_plain rfl (by simp [binOp, Op.equal, Op.maxDepth, run_equalIn_bool w _ t _ _ hu, dval]))
    · cases h
  · simp only [Rel] at ha hb
    subst ha hb
    split at h
    · rename_i hq
      have hu := (hT _ _ hq).td
      simp only at hu
      simp only [Option.some.injEq, Prod.mk.injEq, true_and] at h
      subst h
      exact dat_run rfl (guarded_plain rfl (by simp [binOp, Op.equal, Op.maxDepth, run_equalIn_bool w _ t _ _ hu, dval]))
    · cases h
  · simp only [Rel] at ha hb
    obtain ⟨vs, rfl, hr1⟩ := ha
    obtain ⟨us, rfl, hr2⟩ := hb
    split at h
    · rename_i ti hq
      cases heq : ti.eq with
      | false => simp [heq] at h
      | true =>
        simp only [heq, cond_true] at h
        split at h
        · rename_i r hr
          simp only [Option.some.injEq, Prod.mk.injEq, true_and] at h
          subst h
          obtain ⟨hm, hlaw⟩ := (hT _ _ hq).eq heq
          obtain ⟨d1, d2⟩ := eqL_dat hr
          obtain rfl := relL_dats hr1 d1
          obtain rfl := relL_dats hr2 d2
          exact ⟨.bool r, by unfold guarded; simp [Sem.run_bind, run_eqGuard_agg w .eql t x y _ _ hm, run_eql_struct, hlaw _ _ _ hr], by simp [Rel]⟩
        · cases h
    · cases h
  · simp only [Rel] at ha hb
    obtain ⟨vs, rfl, hr1⟩ := ha
    obtain ⟨us, rfl, hr2⟩ := hb
    split at h
    · rename_i ti hq
      cases heq : ti.eq with
      | false => simp [heq] at h
      | true =>
        simp only [heq, cond_true] at h
        split at h
        · rename_i r hr
          simp only [Option.some.injEq, Prod.mk.injEq, true_and] at h
          subst h
          obtain ⟨hm, hlaw⟩ := (hT _ _ hq).eq heq
          obtain ⟨d1, d2⟩ := eqL_dat hr
          obtain rfl := relL_dats hr1 d1
          obtain rfl := relL_dats hr2 d2
          exact ⟨.bool (!r), by unfold guarded; simp [Sem.run_bind, run_eqGuard_agg w .neq t x y _ _ hm, run_neq_struct, hlaw _ _ _ hr], by simp [Rel]⟩
        · cases h
    · cases h
  all_goals first
    | (cases h; done)
    | (simp only [Rel] at ha hb
       split at h
       · rename_i hq
         have hu := (hT _ _ hq).td
         simp only at hu
         simp only [Option.some.injEq, Prod.mk.injEq, true_and] at h
         subst h
         first
           | (obtain ⟨p, _, rfl⟩ := ha
              subst hb
              exact dat_run rfl (guarded_plain rfl (by simp [binOp, Op.equal, Op.maxDepth, run_equalIn_nilp w 9999 hu, dval])))
           | (subst ha hb
              exact dat_run rfl (guarded_plain rfl (by simp [binOp, Op.equal, Op.maxDepth, run_equalIn_nilp w 9999 hu, dval])))
       · cases h)

theorem unS_ok {op : UnOp} {a : SV} {v : SV} (h : unS op a = some v) {u : Value} (ha : Rel ρ a u) (w : World) : ∃ rv, (Op.unary op u).run P w = .ok rv w ∧ Rel ρ v rv := by
  unfold unS at h
  split at h
  · simp only [Rel] at ha
    subst ha
    cases h
    exact dat_run rfl (by simp [Op.unary, Op.intArith, dval])
  · simp only [Rel] at ha
    subst ha
    split at h
    · rename_i hm
      cases h
      exact dat_run rfl (by simp [Op.unary, bitsOf_ok hm, dval])
    · cases h
  · simp only [Rel] at ha
    subst ha
    cases h
    exact dat_run rfl (by simp [Op.unary, dval])
  · cases h

theorem maxS_ok {k : IntKind} (w : World) : ∀ {l : List SV} {x n : Int} {vs : List Value}, RelL ρ l vs → maxS k x l = some n → (vs.foldlM Builtin.max2 (.int k x)).run P w = .ok (.int k n) w
  | [], x, n, vs, h, hm => by
    simp [RelL] at h
    simp only [maxS, Option.some.injEq] at hm
    simp [h, hm]
  | s :: l, x, n, [], h, _ => by simp [RelL] at h
  | s :: l, x, n, v :: vs, h, hm => by
    rw [relL_cons] at h
    cases s <;> simp only [maxS, reduceCtorEq] at hm
    rename_i k' y
    by_cases hk : k' = k
    · subst hk
      simp only [decide_true, cond_true] at hm
      have hv := h.1
      simp only [Rel] at hv
      subst hv
      have ih := maxS_ok w h.2 hm
      have e : max x y = if y > x then y else x := by rw [Int.max_def]; split <;> split <;> omega
      rw [List.foldlM_cons, Sem.run_bind]
      simp only [Builtin.max2, Sem.run_pure, Result.andThen_ok]
      rw [← e]
      exact ih
    · simp [hk] at hm

theorem minS_ok {k : IntKind} (w : World) : ∀ {l : List SV} {x n : Int} {vs : List Value}, RelL ρ l vs → minS k x l = some n → (vs.foldlM Builtin.min2 (.int k x)).run P w = .ok (.int k n) w
  | [], x, n, vs, h, hm => by
    simp [RelL] at h
    simp only [minS, Option.some.injEq] at hm
    simp [h, hm]
  | s :: l, x, n, [], h, _ => by simp [RelL] at h
  | s :: l, x, n, v :: vs, h, hm => by
    rw [relL_cons] at h
    cases s <;> simp only [minS, reduceCtorEq] at hm
    rename_i k' y
    by_cases hk : k' = k
    · subst hk
      simp only [decide_true, cond_true] at hm
      have hv := h.1
      simp only [Rel] at hv
      subst hv
      have ih := minS_ok w h.2 hm
      have e : min x y = if y < x then y else x := by rw [Int.min_def]; split <;> split <;> omega
      rw [List.foldlM_cons, Sem.run_bind]
      simp only [Builtin.min2, Sem.run_pure, Result.andThen_ok]
      rw [← e]
      exact ih
    · simp [hk] at hm

theorem places_ok (hT : ∀ t ti, T t = some ti → TIOk P t ti) : ∀ (fields : List Field) (places : List (Nat × Nat)), placesS T (fields.map fun f => (f.offset, f.type)) = some places → fields.mapM (fun f => (P.info? f.type).map fun i => (f.offset, i.size)) = some places
  | [], places, h => by simpa [placesS] using h
  | f :: fields, places, h => by
    simp only [placesS, List.map_cons] at h
    cases hf : T f.type with
    | none => simp [hf] at h
    | some ti =>
      have hs := (hT _ _ hf).size
      cases hi : P.info? f.type with
      | none => simp [hi] at hs
      | some i =>
        simp [hi] at hs
        cases hr : placesS T (fields.map fun f => (f.offset, f.type)) with
        | none => simp [hf, hr] at h
        | some rest =>
          have ih := places_ok hT fields rest hr
          simp only [hf, hr, Option.some.injEq] at h
          subst h
          simp [List.mapM_cons, hi, ih, hs]

theorem built_ok (hT : ∀ t ti, T t = some ti → TIOk P t ti) {ev : Operand → SV} {a : Act} {t : TypeId} {parts : Array (Nat × Operand)} {ok : Bool} {v : SV} (h : pureS T ev (.build t parts) = some (ok, v))
    (hev : ∀ x ∈ parts.toList.map (·.2), Rel ρ (ev x) (a.eval x)) : ∃ cs us, v = .agg cs ∧ P.built t (parts.map fun (i, x) => (i, a.eval x)).toList = some us ∧ RelL ρ cs us.toList := by
  have hparts : ∀ l : List (Nat × Operand), (∀ x ∈ l.map (·.2), Rel ρ (ev x) (a.eval x)) → (l.map fun p => (p.1, ev p.2)).map (·.1) = (l.map fun p => (p.1, a.eval p.2)).map (·.1) ∧ RelL ρ ((l.map fun p => (p.1, ev p.2)).map (·.2)) ((l.map fun p => (p.1, a.eval p.2)).map (·.2)) := by
    intro l
    induction l with
    | nil => intro _; simp [RelL]
    | cons p l ih =>
      intro hl
      obtain ⟨h1, h2⟩ := ih (fun x hx => hl x (by simp at hx ⊢; exact .inr hx))
      simp only [List.map_cons, relL_cons]
      exact ⟨by simp, hl p.2 (by simp), h2⟩
  obtain ⟨hp1, hp2⟩ := hparts parts.toList hev
  have hlist : (parts.map fun (i, x) => (i, a.eval x)).toList = parts.toList.map fun p => (p.1, a.eval p.2) := by simp
  rw [hlist]
  simp only [pureS] at h
  split at h
  · rename_i fs size z0 bytes knd eq hq
    have ht := hT _ _ hq
    obtain ⟨z, hz, hzr⟩ := ht.zero
    have htd := ht.td
    simp only at htd hzr
    obtain ⟨fields, hu, hfs⟩ := htd
    split at h
    · rename_i places hpl
      split at h
      · rename_i cs hcs
        cases h
        rw [← hfs] at hpl
        have hpo := places_ok hT _ _ hpl
        obtain ⟨us, h1, h2⟩ := fillS_rel (places[·]?) _ _ hp1 hp2 z0 z.cells (RelL.mono (fun _ _ h => by cases h) _ _ hzr) cs hcs
        refine ⟨cs, us, rfl, ?_, h2⟩
        cases hi : P.info? t with
        | none => simp [hi] at hz
        | some it =>
          simp [hi] at hz
          simp only [Program.built, hi, hu, hz, hpo]
          simpa using h1
      · cases h
    · cases h
  · rename_i n e size z0 bytes knd eq hq
    have ht := hT _ _ hq
    obtain ⟨z, hz, hzr⟩ := ht.zero
    have hu := ht.td
    simp only at hu hzr
    split at h
    · rename_i ti hti
      split at h
      · rename_i cs hcs
        cases h
        have hs := (hT _ _ hti).size
        obtain ⟨us, h1, h2⟩ := fillS_rel (fun i => some (i * ti.size, ti.size)) _ _ hp1 hp2 z0 z.cells (RelL.mono (fun _ _ h => by cases h) _ _ hzr) cs hcs
        refine ⟨cs, us, rfl, ?_, h2⟩
        cases hi : P.info? t with
        | none => simp [hi] at hz
        | some it =>
          cases hie : P.info? e with
          | none => simp [hie] at hs
          | some ie =>
            simp [hi] at hz
            simp [hie] at hs
            simp only [Program.built, hi, hu, hz, hie, hs]
            exact h1
      · cases h
    · cases h
  · cases h

theorem relL_map {ev : Operand → SV} {a : Act} : ∀ {l : List Operand}, (∀ x ∈ l, Rel ρ (ev x) (a.eval x)) → RelL ρ (l.map ev) (l.map a.eval)
  | [], _ => by simp [RelL]
  | x :: l, h => by
    simp only [List.map_cons, relL_cons]
    exact ⟨h x (by simp), relL_map fun y hy => h y (by simp [hy])⟩

theorem sliceBound_ok {k : IntKind} {i : Int} {y : Nat} (h0 : 0 ≤ i) (h1 : i ≤ y) (code : BoundsCode) (w : World) : (Instr.sliceBound (.int k i) y code).run P w = .ok i.toNat w := by
  unfold Instr.sliceBound
  simp [Sem.run_bind, asIntOf, h0, h1]

theorem sliceS_ok {t e : TypeId} {ti : TI} (hu : P.underlying t = some (.slice e)) (he : TIOk P e ti) {id off len : Nat} {cap : Option Nat} {lo hi : Option Int} {p : Plc} {o c : Nat} (hp : ρ id = some p)
    (hc : ∀ c', cap = some c' → c = c') (ho : o = p.base + off * ti.size ∨ (len = 0 ∧ cap = none)) (hlc : len ≤ c) (hm : p.mine = true → o + c * ti.size ≤ p.size) {vlo vhi : Option Value}
    (hlo : vlo = lo.map (fun n => Value.int .i64 n) ∨ ∃ k, vlo = lo.map (fun n => Value.int k n)) (hhi : ∃ k, vhi = hi.map (fun n => Value.int k n)) {v : SV} (h : sliceS ti.size id off len cap lo hi = (true, v)) (w : World) :
    ∃ rv, (Instr.sliceAt t (.slice (some ⟨p.b, o, none⟩) len c) vlo vhi none).run P w = .ok rv w ∧ Rel ρ v rv := by
  have hlo' : ∃ k, vlo = lo.map (fun n => Value.int k n) := by
    rcases hlo with h | h
    · exact ⟨_, h⟩
    · exact h
  obtain ⟨kl, rfl⟩ := hlo'
  obtain ⟨kh, rfl⟩ := hhi
  have hcap : capOr cap len ≤ c := by
    cases cap with
    | none => exact hlc
    | some c' => have := hc _ rfl; simp [capOr]; omega
  have go : ∀ (l h : Nat), l ≤ h → h ≤ c → (Instr.sliceBounds true len c (lo.map (fun n => Value.int kl n)) (hi.map (fun n => Value.int kh n)) none).run P w = .ok (l, h, c) w →
      (Instr.sliceAt t (.slice (some ⟨p.b, o, none⟩) len c) (lo.map (fun n => Value.int kl n)) (hi.map (fun n => Value.int kh n)) none).run P w = .ok (.slice (some (if c = l then ⟨p.b, o, none⟩ else ⟨p.b, o + l * ti.size, none⟩)) (h - l) (c - l)) w := by
    intro l h hlh hhc hb
    unfold Instr.sliceAt Instr.slice
    simp only [Sem.run_bind, run_underlying hu, Result.andThen_ok, hb, he.sizeOf, Sem.run_pure, Option.map_some, addr_add]
    by_cases hcl : c = l <;> simp [hcl]
  have bounds : ∀ (lz hz : Int), (lo = none → lz = 0) → (∀ n, lo = some n → lz = n) → (hi = none → hz = len) → (∀ n, hi = some n → hz = n) → 0 ≤ lz → lz ≤ hz → hz ≤ (capOr cap len : Nat) ∨ hz = len →
      (Instr.sliceBounds true len c (lo.map (fun n => Value.int kl n)) (hi.map (fun n => Value.int kh n)) none).run P w = .ok (lz.toNat, hz.toNat, c) w := by
    intro lz hz l1 l2 h1 h2 l0 lh hb
    have hc' : hz ≤ c := by omega
    have h0 : 0 ≤ hz := by omega
    clear h go
    unfold Instr.sliceBounds
    cases hi with
    | none =>
      have e1 := h1 rfl
      cases lo with
      | none => have e2 := l1 rfl; subst e1 e2; simp [Sem.run_bind]
      | some n => have e2 := l2 n rfl; subst e1 e2; simp [Sem.run_bind, sliceBound_ok l0 lh]
    | some m =>
      have e1 := h2 m rfl
      subst e1
      cases lo with
      | none => have e2 := l1 rfl; subst e2; simp [Sem.run_bind, sliceBound_ok h0 hc']
      | some n =>
        have e2 := l2 n rfl
        subst e2
        simp [Sem.run_bind, sliceBound_ok h0 hc', sliceBound_ok (y := hz.toNat) l0 (by omega)]
  cases lo with
  | none => cases hi with
    | none =>
      simp only [sliceS, Prod.mk.injEq, true_and] at h
      subst h
      refine ⟨_, go 0 len (by omega) hlc (by simpa using bounds 0 len (fun _ => rfl) (by simp) (fun _ => rfl) (by simp) (by omega) (by omega) (.inr rfl)), ?_⟩
      simp only [Rel]
      exact .inl ⟨p, o, c, hp, by split <;> simp, hc, ho, hlc, hm⟩
    | some h' =>
      simp only [sliceS, Prod.mk.injEq, Bool.and_eq_true, decide_eq_true_eq] at h
      obtain ⟨⟨h0, h1⟩, rfl⟩ := h
      refine ⟨_, go 0 h'.toNat (by omega) (by omega) (by simpa using bounds 0 h' (fun _ => rfl) (by simp) (by simp) (by simp) (by omega) h0 (.inl h1)), ?_⟩
      simp only [Rel]
      refine .inl ⟨p, o, c, hp, by split <;> simp, hc, ?_, by omega, hm⟩
      rcases ho with ho | ⟨ho, hn⟩
      · exact .inl ho
      · refine .inr ⟨?_, hn⟩
        subst hn
        simp only [capOr] at h1
        omega
  | some l =>
    have tail : ∀ (h : Int), 0 ≤ l → l ≤ h → (h ≤ (capOr cap len : Nat) ∨ h = len) → (Instr.sliceBounds true len c ((some l).map (fun n => Value.int kl n)) (hi.map (fun n => Value.int kh n)) none).run P w = .ok (l.toNat, h.toNat, c) w →
        ∃ rv, (Instr.sliceAt t (.slice (some ⟨p.b, o, none⟩) len c) ((some l).map (fun n => Value.int kl n)) (hi.map (fun n => Value.int kh n)) none).run P w = .ok rv w ∧ Rel ρ (.slice id ti.size (off + l.toNat) (h.toNat - l.toNat) none) rv := by
      intro h l0 lh hb hrun
      have hc' : h ≤ c := by omega
      refine ⟨_, go l.toNat h.toNat (by omega) (by omega) hrun, ?_⟩
      simp only [Rel]
      refine .inl ⟨p, (if c = l.toNat then o else o + l.toNat * ti.size), c - l.toNat, hp, by split <;> rfl, by simp, ?_, by omega, fun hmm => ?_⟩
      · by_cases hcl : c = l.toNat
        · exact .inr ⟨by omega, trivial⟩
        · rw [if_neg hcl]
          rcases ho with ho | ⟨ho, hn⟩
          · exact .inl (by rw [ho, Nat.add_mul]; omega)
          · refine .inr ⟨?_, trivial⟩
            subst hn
            simp only [capOr] at hb
            omega
      · have hmm := hm hmm
        have e : (c - l.toNat) * ti.size + l.toNat * ti.size = c * ti.size := by rw [← Nat.add_mul]; congr 1; omega
        split
        · omega
        · omega
    cases hi with
    | none =>
      simp only [sliceS, Prod.mk.injEq, Bool.and_eq_true, decide_eq_true_eq] at h
      obtain ⟨⟨l0, l1⟩, rfl⟩ := h
      exact tail len l0 l1 (.inr rfl) (bounds l len (by simp) (by simp) (fun _ => rfl) (by simp) l0 l1 (.inr rfl))
    | some h' =>
      simp only [sliceS, Prod.mk.injEq, Bool.and_eq_true, decide_eq_true_eq] at h
      obtain ⟨⟨⟨h0, h1⟩, l0, l1⟩, rfl⟩ := h
      exact tail h' l0 l1 (.inl h1) (bounds l h' (by simp) (by simp) (by simp) (by simp) l0 l1 (.inl h1))

theorem sliceS_nil {t e : TypeId} {ti : TI} (hu : P.underlying t = some (.slice e)) (he : TIOk P e ti) {id off len : Nat} {cap : Option Nat} {lo hi : Option Int} (h0 : len = 0) (hc : cap = none) {vlo vhi : Option Value}
    (hlo : ∃ k, vlo = lo.map (fun n => Value.int k n)) (hhi : ∃ k, vhi = hi.map (fun n => Value.int k n)) {v : SV} (h : sliceS ti.size id off len cap lo hi = (true, v)) (oa : Option Addr) (oc : Nat) (w : World) :
    ∃ rv, (Instr.sliceAt t (.slice oa 0 oc) vlo vhi none).run P w = .ok rv w ∧ Rel ρ v rv := by
  obtain ⟨kl, rfl⟩ := hlo
  obtain ⟨kh, rfl⟩ := hhi
  subst h0 hc
  have hadd : oa.map (fun a => a.add 0) = oa := by cases oa <;> simp [Addr.add]
  refine ⟨.slice oa 0 oc, ?_, ?_⟩
  · unfold Instr.sliceAt Instr.slice Instr.sliceBounds
    cases lo with
    | none => cases hi with
      | none => simp [Sem.run_bind, run_underlying hu, he.sizeOf, hadd]
      | some n =>
        simp only [sliceS, show capOr none 0 = 0 from rfl, Prod.mk.injEq, Bool.and_eq_true, decide_eq_true_eq] at h
        have : n = 0 := by omega
        subst this
        simp [Sem.run_bind, run_underlying hu, he.sizeOf, sliceBound_ok, hadd]
    | some l => cases hi with
      | none =>
        simp only [sliceS, Prod.mk.injEq, Bool.and_eq_true, decide_eq_true_eq] at h
        have : l = 0 := by omega
        subst this
        simp [Sem.run_bind, run_underlying hu, he.sizeOf, sliceBound_ok, hadd]
      | some n =>
        simp only [sliceS, show capOr none 0 = 0 from rfl, Prod.mk.injEq, Bool.and_eq_true, decide_eq_true_eq] at h
        have e1 : n = 0 := by omega
        have e2 : l = 0 := by omega
        subst e1 e2
        simp [Sem.run_bind, run_underlying hu, he.sizeOf, sliceBound_ok, hadd]
  · cases lo with
    | none => cases hi with
      | none => simp only [sliceS, Prod.mk.injEq, true_and] at h; subst h; simp [Rel]
      | some n =>
        simp only [sliceS, show capOr none 0 = 0 from rfl, Prod.mk.injEq, Bool.and_eq_true, decide_eq_true_eq] at h
        obtain ⟨h1, rfl⟩ := h
        simp only [Rel]
        exact .inr ⟨by omega, trivial, _, _, rfl⟩
    | some l => cases hi with
      | none =>
        simp only [sliceS, Prod.mk.injEq, Bool.and_eq_true, decide_eq_true_eq] at h
        obtain ⟨h1, rfl⟩ := h
        simp only [Rel]
        exact .inr ⟨by omega, trivial, _, _, rfl⟩
      | some n =>
        simp only [sliceS, show capOr none 0 = 0 from rfl, Prod.mk.injEq, Bool.and_eq_true, decide_eq_true_eq] at h
        obtain ⟨h1, rfl⟩ := h
        simp only [Rel]
        exact .inr ⟨by omega, trivial, _, _, rfl⟩

theorem intOfS_ok {ev : Operand → SV} {a : Act} {x : Option Operand} (hx : ∀ y, x = some y → Rel ρ (ev y) (a.eval y)) {n : Option Int} (h : intOfS (x.map ev) = some n) : ∃ k, x.map a.eval = n.map (fun n => Value.int k n) := by
  cases x with
  | none => simp [intOfS] at h; subst h; exact ⟨.i64, rfl⟩
  | some y =>
    simp only [Option.map_some] at h
    have := hx y rfl
    unfold intOfS at h
    split at h
    · rename_i hq; cases hq
    · rename_i k m hq
      cases h
      simp only [Option.some.injEq] at hq
      rw [hq] at this
      simp only [Rel] at this
      exact ⟨k, by simp [this]⟩
    · cases h

theorem pureS_ok (hT : ∀ t ti, T t = some ti → TIOk P t ti) {o : Oper} {ev : Operand → SV} {ok : Bool} {v : SV} (h : pureS T ev o.op = some (ok, v)) (hok : ok = true) {a : Act} (hev : ∀ x ∈ o.op.operands, Rel ρ (ev x) (a.eval x)) (w : World) :
    ∃ rv, (execOp a.eval o).run P w = .ok (.value rv) w ∧ Rel ρ v rv := by
  subst hok
  have lift : ∀ s : Sem Value, (∃ rv, s.run P w = .ok rv w ∧ Rel ρ v rv) → ∃ rv, (do pure (.value (← s)) : Sem Next).run P w = .ok (.value rv) w ∧ Rel ρ v rv := by
    rintro s ⟨rv, h1, h2⟩
    exact ⟨rv, by rw [Sem.run_bind, h1]; rfl, h2⟩
  obtain ⟨dst, op, type, pos, after, guard⟩ := o
  simp only at h hev
  cases op <;> simp only [pureS, reduceCtorEq] at h <;> unfold execOp <;> simp only
  case move x =>
    cases h
    exact ⟨_, rfl, hev x (by simp [Op.operands])⟩
  case assign x =>
    cases h
    exact ⟨_, rfl, hev x (by simp [Op.operands])⟩
  case binOp op t x y yt =>
    exact lift _ (binS_ok hT h rfl (hev x (by simp [Op.operands])) (hev y (by simp [Op.operands])) w)
  case unOp op t x =>
    split at h
    · rename_i u hu
      cases h
      exact lift _ (unS_ok hu (hev x (by simp [Op.operands])) w)
    · cases h
  case pick c x y =>
    have hc := hev c (by simp [Op.operands])
    have hx := hev x (by simp [Op.operands])
    have hy := hev y (by simp [Op.operands])
    split at h
    · rename_i b hq
      rw [hq] at hc
      simp only [Rel] at hc
      rw [hc]
      split at h
      · rename_i u v' h1 h2
        cases h
        rw [h1] at hx
        rw [h2] at hy
        simp only [Rel] at hx hy
        rw [hx, hy]
        refine ⟨.bool (bif b then u else v'), ?_, by simp [Rel]⟩
        cases b <;> simp [asBool]
      · simp only [Option.some.injEq, Prod.mk.injEq, Bool.not_eq_true'] at h
        obtain ⟨rfl, rfl⟩ := h
        exact ⟨a.eval y, by simp [asBool], hy⟩
      · simp only [Option.some.injEq, Prod.mk.injEq] at h
        obtain ⟨rfl, rfl⟩ := h
        exact ⟨a.eval x, by simp [asBool], hx⟩
      · rename_i k m k' n h1 h2
        by_cases hk : k = k'
        · subst hk
          simp only [decide_true, cond_true, Option.some.injEq, Prod.mk.injEq, true_and] at h
          subst h
          rw [h1] at hx
          rw [h2] at hy
          simp only [Rel] at hx hy
          rw [hx, hy]
          refine ⟨.int k (bif b then m else n), ?_, by simp [Rel]⟩
          cases b <;> simp [asBool]
        · simp [hk] at h
      · cases h
    · cases h
  case nilCheck x =>
    have hx := hev x (by simp [Op.operands])
    split at h
    · rename_i id st i j hq
      cases h
      rw [hq] at hx
      have hx0 := hx
      simp only [Rel] at hx
      obtain ⟨p, _, hv⟩ := hx
      rw [hv]
      exact ⟨_, rfl, hv ▸ hx0⟩
    · rename_i f cs hq
      cases h
      rw [hq] at hx
      have hx0 := hx
      simp only [Rel] at hx
      obtain ⟨p, hv, _⟩ := hx
      rw [hv]
      exact ⟨_, rfl, hv ▸ hx0⟩
    · cases h
  case convert src dst x =>
    have hx := hev x (by simp [Op.operands])
    split at h
    · rename_i ts size z0 bytes knd eq k k' n h1 h2 h3
      cases h
      rw [h3] at hx
      simp only [Rel] at hx
      have hd := (hT _ _ h2).td
      simp only at hd
      obtain ⟨d, hsrc⟩ := (hT _ _ h1).some_desc
      refine lift _ (dat_run rfl ?_)
      rw [hx]
      unfold Go.convert
      rw [Sem.run_bind, run_underlying hsrc]
      simp only [Result.andThen_ok]
      rw [Sem.run_bind, run_underlying hd]
      simp [Conv.intToInt, dval]
    · cases h
  case makeFunc fn first captured =>
    cases fn with
    | func f =>
      simp only at h
      cases hb : Nat.beq first.size 0 with
      | false => simp [hb] at h
      | true =>
        simp only [hb, cond_true, Option.some.injEq, Prod.mk.injEq, true_and] at h
        subst h
        have h0 : first = #[] := by
          have := Nat.eq_of_beq_eq_true hb
          exact Array.eq_empty_of_size_eq_zero this
        subst h0
        refine lift _ ⟨_, rfl, ?_⟩
        simp only [Rel]
        refine ⟨captured.toList.map a.eval, by congr 1 <;> (apply Array.ext'; simp), relL_map fun x hx => hev x (by simp [Op.operands]; simpa using hx)⟩
    | _ => simp at h
  case extract x i =>
    have hx := hev x (by simp [Op.operands])
    split at h
    · rename_i vs hq
      split at h
      · rename_i u hu
        cases h
        rw [hq] at hx
        simp only [Rel] at hx
        obtain ⟨us, hv, hr⟩ := hx
        obtain ⟨y, hy, hry⟩ := hr.get hu
        refine lift _ ⟨y, ?_, hry⟩
        rw [hv]
        simp [Instr.extract, hy]
      · cases h
    · cases h
  case field t x f =>
    have hx := hev x (by simp [Op.operands])
    split at h
    · rename_i fs size z0 bytes knd eq cs h1 h2
      split at h
      · rename_i off ft hf
        split at h
        · rename_i ti hti
          split at h
          · rename_i u hu
            cases h
            rw [h2] at hx
            simp only [Rel] at hx
            obtain ⟨us, hv, hr⟩ := hx
            have htd := (hT _ _ h1).td
            simp only at htd
            obtain ⟨fields, hun, hfs⟩ := htd
            obtain ⟨rv, g1, g2⟩ := partS_ok (hT _ _ hti) hr hu w
            rw [← hfs, List.getElem?_map] at hf
            cases hfd : fields.toList[f]? with
            | none => simp [hfd] at hf
            | some fd =>
              simp [hfd] at hf
              obtain ⟨rfl, rfl⟩ := hf
              refine lift _ ⟨rv, ?_, g2⟩
              rw [hv]
              unfold Instr.field
              rw [Sem.run_bind, run_underlying hun]
              have hfd' : fields[f]? = some fd := by simpa using hfd
              simp [hfd', asAgg, g1]
          · cases h
        · cases h
      · cases h
    · cases h
  case index t x i =>
    have hx := hev x (by simp [Op.operands])
    have hi := hev i (by simp [Op.operands])
    split at h
    · rename_i n e size z0 bytes knd eq cs k q h1 h2 h3
      split at h
      · rename_i ti hti
        split at h
        · rename_i u hu
          simp only [Option.some.injEq, Prod.mk.injEq, Bool.and_eq_true, decide_eq_true_eq] at h
          obtain ⟨⟨k0, k1⟩, rfl⟩ := h
          rw [h2] at hx
          rw [h3] at hi
          simp only [Rel] at hx hi
          obtain ⟨us, hv, hr⟩ := hx
          have hun := (hT _ _ h1).td
          simp only at hun
          obtain ⟨rv, g1, g2⟩ := partS_ok (hT _ _ hti) hr hu w
          refine lift _ ⟨rv, ?_, g2⟩
          rw [hv, hi]
          unfold Instr.index
          simp [Sem.run_bind, asIntOf, run_underlying hun, k0, k1, (hT _ _ hti).sizeOf, g1]
        · cases h
      · cases h
    · cases h
  case fieldAddr t x f =>
    have hx := hev x (by simp [Op.operands])
    split at h
    · rename_i fs size z0 bytes knd eq id st i j h1 h2
      split at h
      · rename_i off ft hf
        split at h
        · rename_i ti hti
          cases hb : Nat.beq ti.size 0 with
          | true => simp [hb] at h
          | false =>
            simp only [hb, cond_false, Option.some.injEq, Prod.mk.injEq, true_and] at h
            subst h
            rw [h2] at hx
            simp only [Rel] at hx
            obtain ⟨p, hp, hv⟩ := hx
            have htd := (hT _ _ h1).td
            simp only at htd
            obtain ⟨fields, hun, hfs⟩ := htd
            rw [← hfs, List.getElem?_map] at hf
            cases hfd : fields.toList[f]? with
            | none => simp [hfd] at hf
            | some fd =>
              simp [hfd] at hf
              obtain ⟨rfl, rfl⟩ := hf
              have hne : ti.size ≠ 0 := Nat.ne_of_beq_eq_false hb
              have hfd' : fields[f]? = some fd := by simpa using hfd
              refine lift _ ⟨.pointer (some ⟨p.b, p.base + i * st + j + fd.offset, none⟩), ?_, ?_⟩
              · rw [hv]
                unfold Instr.fieldAt
                rw [Sem.run_bind, run_underlying hun]
                simp [hfd', Instr.sureAddr, fieldPlace, Sem.run_bind, (hT _ _ hti).sizeOf, hne, addr_add]
              · simp only [Rel]
                exact ⟨p, hp, by simp [Nat.add_assoc]⟩
        · cases h
      · cases h
    · cases h
  case indexAddr t x i =>
    have hx := hev x (by simp [Op.operands])
    have hi := hev i (by simp [Op.operands])
    split at h
    · rename_i e size z0 bytes knd eq id st off len cap k q h1 h2 h3
      split at h
      · rename_i ti hti
        cases hb : Nat.beq ti.size st with
        | false => simp [hb] at h
        | true =>
          simp only [hb, cond_true, Option.some.injEq, Prod.mk.injEq, Bool.and_eq_true, decide_eq_true_eq] at h
          obtain ⟨⟨k0, k1⟩, rfl⟩ := h
          have hst := Nat.eq_of_beq_eq_true hb
          subst hst
          rw [h2] at hx
          rw [h3] at hi
          simp only [Rel] at hx hi
          have hx2 : ∃ p o c, ρ id = some p ∧ a.eval x = .slice (some ⟨p.b, o, none⟩) len c ∧ (o = p.base + off * ti.size ∨ len = 0 ∧ cap = none) := by
            rcases hx with ⟨p, o, c, hp, hv, _, ho, _⟩ | ⟨h0, _, _⟩
            · exact ⟨p, o, c, hp, hv, ho⟩
            · omega
          obtain ⟨p, o, c, hp, hv, ho⟩ := hx2
          have hun := (hT _ _ h1).td
          simp only at hun
          have hoo : o = p.base + off * ti.size := by
            rcases ho with ho | ⟨h0, _⟩
            · exact ho
            · omega
          refine lift _ ⟨.pointer (some ⟨p.b, o + q.toNat * ti.size, none⟩), ?_, ?_⟩
          · rw [hv, hi]
            unfold Instr.indexAt
            simp [Sem.run_bind, asIntOf, run_underlying hun, k0, k1, (hT _ _ hti).sizeOf, addr_add]
          · simp only [Rel]
            exact ⟨p, hp, by rw [hoo, Nat.add_mul]; simp [Nat.add_assoc]⟩
      · cases h
    · rename_i n e size z0 bytes knd eq id st i' j k q h1 h2 h3
      split at h
      · rename_i ti hti
        simp only [Option.some.injEq, Prod.mk.injEq, Bool.and_eq_true, decide_eq_true_eq] at h
        obtain ⟨⟨k0, k1⟩, rfl⟩ := h
        rw [h2] at hx
        rw [h3] at hi
        simp only [Rel] at hx hi
        obtain ⟨p, hp, hv⟩ := hx
        have hun := (hT _ _ h1).td
        simp only at hun
        refine lift _ ⟨.pointer (some ⟨p.b, p.base + i' * st + j + q.toNat * ti.size, none⟩), ?_, ?_⟩
        · rw [hv, hi]
          unfold Instr.indexAt
          simp [Sem.run_bind, asIntOf, run_underlying hun, k0, k1, (hT _ _ hti).sizeOf, addr_add, Instr.sureAddr]
        · simp only [Rel]
          exact ⟨p, hp, by simp [Nat.add_assoc]⟩
      · cases h
    · cases h
  case build t parts =>
    obtain ⟨cs, us, rfl, h1, h2⟩ := built_ok (a := a) hT h (fun x hx => hev x (by simpa [Op.operands] using hx))
    refine lift _ ⟨.agg us, run_build w t _ us h1, ?_⟩
    simp only [Rel]
    exact ⟨us.toList, by simp, h2⟩
  case slice t x lo hi mx =>
    cases mx with
    | some m => simp at h
    | none =>
      have hx := hev x (by simp [Op.operands])
      simp only at h
      split at h
      · rename_i e size z0 bytes knd eq id st off len cap l hh h1 h2 h3 h4
        split at h
        · rename_i ti hti
          cases hb : Nat.beq ti.size st with
          | false => simp [hb] at h
          | true =>
            simp only [hb, cond_true, Option.some.injEq] at h
            have hst := Nat.eq_of_beq_eq_true hb
            subst hst
            rw [h2] at hx
            simp only [Rel] at hx
            have hun := (hT _ _ h1).td
            simp only at hun
            have hl := intOfS_ok (ρ := ρ) (a := a) (fun y hy => hev y (by simp [Op.operands, hy])) h3
            have hhh := intOfS_ok (ρ := ρ) (a := a) (fun y hy => hev y (by simp [Op.operands, hy])) h4
            rcases hx with ⟨p, o, c, hp, hv, hc, ho, hlc, hm⟩ | ⟨h0, hcn, oa, oc, hv⟩
            · rw [hv]
              exact lift _ (sliceS_ok hun (hT _ _ hti) hp hc ho hlc hm (.inr hl) hhh h w)
            · rw [hv]
              exact lift _ (sliceS_nil hun (hT _ _ hti) h0 hcn hl hhh h oa oc w)
        · cases h
      · rename_i e size z0 bytes knd eq hh h1 h2 h3 h4
        split at h
        · rename_i ti hti
          rw [h2] at hx
          simp only [Rel] at hx
          have hun := (hT _ _ h1).td
          simp only at hun
          obtain ⟨k, hl⟩ := intOfS_ok (ρ := ρ) (a := a) (fun y hy => hev y (by simp [Op.operands, hy])) h3
          obtain ⟨k', hhh⟩ := intOfS_ok (ρ := ρ) (a := a) (fun y hy => hev y (by simp [Op.operands, hy])) h4
          rw [hx, hl, hhh]
          have run : ∀ h' : Option Int, (∀ n, h' = some n → n = 0) → (Instr.sliceAt t (.slice none 0 0) ((none : Option Int).map (fun n => Value.int k n)) (h'.map (fun n => Value.int k' n)) none).run P w = .ok (.slice none 0 0) w := by
            intro h' hz
            unfold Instr.sliceAt Instr.slice Instr.sliceBounds
            cases h' with
            | none => simp [Sem.run_bind, run_underlying hun, (hT _ _ hti).sizeOf]
            | some n => have := hz n rfl; subst this; simp [Sem.run_bind, run_underlying hun, (hT _ _ hti).sizeOf, sliceBound_ok]
          split at h
          · cases h
            exact lift _ ⟨_, run none (by simp), by simp [Rel]⟩
          · rename_i n
            simp only [Option.some.injEq, Prod.mk.injEq, decide_eq_true_eq] at h
            obtain ⟨h0, rfl⟩ := h
            exact lift _ ⟨_, run (some n) (by simp [h0]), by simp [Rel]⟩
        · cases h
      · cases h
  case call c =>
    obtain ⟨callee, args, ts⟩ := c
    cases callee with
    | value f => simp at h
    | invoke r m => simp at h
    | builtin b =>
      have hargs : RelL ρ (args.toList.map ev) (args.toList.map a.eval) := relL_map fun x hx => hev x (by simpa [Op.operands, Call.operands] using hx)
      cases b <;> simp only [reduceCtorEq] at h
      case len =>
        split at h
        · rename_i x t h1 h2
          have e1 : args = #[x] := by apply Array.ext'; simpa using h1
          have e2 : ts = #[t] := by apply Array.ext'; simpa using h2
          subst e1 e2
          have hx := hev x (by simp [Op.operands, Call.operands])
          split at h
          · rename_i e size z0 bytes knd eq id st off len cap g1 g2
            cases h
            rw [g2] at hx
            simp only [Rel] at hx
            have hun := (hT _ _ g1).td
            simp only at hun
            refine ⟨.int .i64 len, ?_, by simp [Rel]⟩
            rcases hx with ⟨p, o, c, hp, hv, _⟩ | ⟨h0, _, _, _, hv⟩
            · simp [resolve, invoke, builtin, Builtin.len_, Sem.run_bind, run_underlying hun, hv, goInt]
            · subst h0
              simp [resolve, invoke, builtin, Builtin.len_, Sem.run_bind, run_underlying hun, hv, goInt]
          · rename_i e size z0 bytes knd eq g1 g2
            cases h
            rw [g2] at hx
            simp only [Rel] at hx
            have hun := (hT _ _ g1).td
            simp only at hun
            refine ⟨.int .i64 0, ?_, by simp [Rel]⟩
            simp [resolve, invoke, builtin, Builtin.len_, Sem.run_bind, run_underlying hun, hx, goInt]
          · rename_i n e size z0 bytes knd eq g1
            cases h
            have hun := (hT _ _ g1).td
            simp only at hun
            refine ⟨.int .i64 n, ?_, by simp [Rel]⟩
            simp [resolve, invoke, builtin, Builtin.len_, Sem.run_bind, run_underlying hun, goInt]
          · cases h
        · cases h
      case max =>
        split at h
        · rename_i k x l hq
          split at h
          · rename_i n hn
            cases h
            rw [hq] at hargs
            cases hvs : args.toList.map a.eval with
            | nil => rw [hvs] at hargs; simp [RelL] at hargs
            | cons v vs =>
              rw [hvs, relL_cons] at hargs
              have hv := hargs.1
              simp only [Rel] at hv
              subst hv
              have hm := maxS_ok (P := P) w hargs.2 hn
              refine ⟨.int k n, ?_, by simp [Rel]⟩
              have hl : (args.map a.eval).toList = .int k x :: vs := by simpa using hvs
              simp only [resolve, invoke, builtin, Builtin.max_, Sem.run_bind, Sem.run_pure, Result.andThen_ok, hl, hm]
          · cases h
        · cases h
      case min =>
        split at h
        · rename_i k x l hq
          split at h
          · rename_i n hn
            cases h
            rw [hq] at hargs
            cases hvs : args.toList.map a.eval with
            | nil => rw [hvs] at hargs; simp [RelL] at hargs
            | cons v vs =>
              rw [hvs, relL_cons] at hargs
              have hv := hargs.1
              simp only [Rel] at hv
              subst hv
              have hm := minS_ok (P := P) w hargs.2 hn
              refine ⟨.int k n, ?_, by simp [Rel]⟩
              have hl : (args.map a.eval).toList = .int k x :: vs := by simpa using hvs
              simp only [resolve, invoke, builtin, Builtin.min_, Sem.run_bind, Sem.run_pure, Result.andThen_ok, hl, hm]
          · cases h
        · cases h
end
end Go.Proofs.Ytikifgbbiffclaa
