/- The small machine: what it says of a function holds in the model. Of whatever program. -/
import Derived.Test.YtikifgbbiffclaaVmHb
import Derived.LoopN
namespace Go.Proofs.Ytikifgbbiffclaa
set_option linter.unusedSimpArgs false
set_option linter.unusedVariables false
open Go.RowKit

section
variable {P : Program} {X : Ctx}

theorem wrOk_spec {rows : List Row} : ∀ {l : List (Nat × Row)}, wrOk rows l = true → (∀ x ∈ l, liveAt (fun i => rows[i]?) x.1) ∧ (l.map (·.1)).Nodup
  | [], _ => by simp
  | (i, r) :: l, h => by
    simp only [wrOk, Bool.and_eq_true, Bool.not_eq_true'] at h
    obtain ⟨h1, h2, h3⟩ := h
    obtain ⟨h4, h5⟩ := wrOk_spec h3
    refine ⟨fun x hx => ?_, ?_⟩
    · rcases List.mem_cons.1 hx with rfl | hx
      · split at h1
        · rename_i c hc; exact ⟨.own c, hc, rfl⟩
        · rename_i k xs hc; exact ⟨.vec false k xs, hc, rfl⟩
        · cases h1
      · exact h4 x hx
    · simp only [List.map_cons, List.nodup_cons]
      refine ⟨fun hm => ?_, h5⟩
      rw [memN_iff.2 hm] at h2
      cases h2

theorem mask_bit {x : Nat} : ∀ {l : List Nat}, x ∈ l → (maskOf l).testBit x = true
  | [], h => by simp at h
  | y :: l, h => by
    rw [maskOf]
    change (1 <<< y ||| maskOf l).testBit x = true
    rw [Nat.testBit_or, Bool.or_eq_true]
    rcases List.mem_cons.1 h with rfl | h
    · left
      rw [Nat.testBit_shiftLeft]
      simp
    · exact .inr (mask_bit h)

theorem meets_false {l m : List Nat} (h : meets (maskOf l) (maskOf m) = false) : ∀ x ∈ l, x ∉ m := by
  intro x hx hm
  unfold meets at h
  rw [Bool.not_eq_false'] at h
  have h0 : (maskOf l &&& maskOf m) = 0 := Nat.eq_of_beq_eq_true h
  have h1 : (maskOf l &&& maskOf m).testBit x = true := by rw [Nat.testBit_and, mask_bit hx, mask_bit hm]; rfl
  rw [h0] at h1
  simp at h1

theorem touch_rec {x : Item} {i : Nat} : x.touch i → i ∈ x.e.wr.map (·.1) ++ (List.range x.e.nw.length).map (x.n + ·) := by
  rintro (⟨r, hr⟩ | h)
  · exact List.mem_append_left _ (List.mem_map.2 ⟨(i, r), hr, rfl⟩)
  · exact List.mem_append_right _ (List.mem_map.2 ⟨i - x.n, List.mem_range.2 (by omega), by omega⟩)

theorem ind_of {all : List Oper} {x y : Item} (h : clash (recOf all x.o x.n x.e) (recOf all y.o y.n y.e) = false) : Ind all x y := by
  unfold clash at h
  simp only [Bool.or_eq_false_iff] at h
  obtain ⟨h1, h2, h3, h4, h5, h6⟩ := h
  refine ⟨fun d hd => ?_, fun d hd => ?_, fun d hd hd2 => ?_, fun i hi hr => ?_, fun i hi hr => ?_, fun i hi hj => ?_⟩
  · exact meets_false h1 d (by simp [ofDst, hd])
  · exact meets_false h2 d (by simp [ofDst, hd])
  · exact meets_false h3 d (by simp [ofDst, hd]) (by simp [ofDst, hd2])
  · exact meets_false h4 i (touch_rec hi) hr
  · exact meets_false h5 i (touch_rec hi) hr
  · exact meets_false h6 i (touch_rec hi) (touch_rec hj)

theorem clashFree_spec {anc : Nat} {r : Rec} : ∀ {l : List Rec} {i : Nat}, clashFree anc r i l = true → ∀ j q, l[j]? = some q → anc.testBit (i + j) = true ∨ clash q r = false
  | [], _, _, j, q, hq => by simp at hq
  | p :: l, i, h, 0, q, hq => by
    simp only [clashFree, Bool.and_eq_true, Bool.or_eq_true, Bool.not_eq_true'] at h
    simp at hq
    subst hq
    exact h.1.symm
  | p :: l, i, h, j + 1, q, hq => by
    simp only [clashFree, Bool.and_eq_true] at h
    have := clashFree_spec h.2 j q (by simpa using hq)
    rwa [show i + 1 + j = i + (j + 1) by omega] at this

theorem indepGo_spec : ∀ {A : List Nat} {pre l : List Rec}, indepGo A pre l = true → ∀ k r, l[k]? = some r → ∀ i q, i < pre.length + k → (pre ++ l)[i]? = some q → (∃ anc, A[k]? = some anc ∧ anc.testBit i = true) ∨ clash q r = false
  | _, _, [], _, k, r, hk, _, _, _, _ => by simp at hk
  | [], _, _ :: _, h, _, _, _, _, _, _, _ => by simp [indepGo] at h
  | anc :: A, pre, p :: l, h, k, r, hk, i, q, hi, hq => by
    simp only [indepGo, Bool.and_eq_true] at h
    cases k with
    | zero =>
      simp at hk
      subst hk
      rw [List.getElem?_append_left (by omega)] at hq
      rcases clashFree_spec h.1 i q hq with h1 | h1
      · exact .inl ⟨anc, rfl, by simpa using h1⟩
      · exact .inr h1
    | succ k =>
      have := indepGo_spec h.2 k r (by simpa using hk) i q (by simp; omega) (by simpa using hq)
      simpa using this

theorem mem_edges {o : Oper} {i : Nat} : i ∈ edgesOf o ↔ ∃ e ∈ o.after, Region.binds .any e = true ∧ e.on = i := by
  unfold edgesOf
  rw [List.mem_filterMap]
  constructor
  · rintro ⟨e, he, h⟩
    split at h
    · rename_i hb; simp at h; exact ⟨e, by simpa using he, hb, h⟩
    · cases h
  · rintro ⟨e, he, hb, rfl⟩
    exact ⟨e, by simpa using he, by simp [hb]⟩

theorem ancOf_spec {acc : List Nat} {i : Nat} : ∀ {l : List Nat}, (ancOf acc l).testBit i = true → i ∈ l ∨ ∃ j ∈ l, (acc.getD j 0).testBit i = true
  | [], h => by simp [ancOf] at h
  | j :: l, h => by
    rw [ancOf] at h
    change ((1 <<< j ||| acc.getD j 0) ||| ancOf acc l).testBit i = true at h
    rw [Nat.testBit_or, Nat.testBit_or, Bool.or_eq_true, Bool.or_eq_true] at h
    rcases h with (h | h) | h
    · left
      rw [Nat.testBit_shiftLeft, Bool.and_eq_true, decide_eq_true_eq] at h
      have : i = j := by
        obtain ⟨h1, h2⟩ := h
        rw [Nat.testBit_one_eq_true_iff_self_eq_zero] at h2
        omega
      simp [this]
    · exact .inr ⟨j, by simp, h⟩
    · rcases ancOf_spec h with h | ⟨k, hk, h⟩
      · exact .inl (by simp [h])
      · exact .inr ⟨k, by simp [hk], h⟩

theorem ancsGo_spec {all : List Oper} : ∀ (l : List Oper) (acc : List Nat), all.drop acc.length = l → (∀ k anc, acc[k]? = some anc → ∀ i, anc.testBit i = true → Bef all i k) → ∀ k anc, (ancsGo l acc)[k]? = some anc → ∀ i, anc.testBit i = true → Bef all i k
  | [], acc, _, h => by simpa [ancsGo] using h
  | o :: l, acc, hd, h => by
    rw [ancsGo]
    have ho : all[acc.length]? = some o := by
      have := congrArg (fun l => l[0]?) hd
      simpa using this
    refine ancsGo_spec l _ ?_ ?_
    · have := congrArg List.tail hd
      simpa using this
    · intro k anc hk i hi
      by_cases hlt : k < acc.length
      · rw [List.getElem?_append_left hlt] at hk
        exact h k anc hk i hi
      · rw [List.getElem?_append_right (by omega)] at hk
        have hk0 : k = acc.length := by
          have := (List.getElem?_eq_some_iff.1 hk).1
          simp at this
          omega
        subst hk0
        simp at hk
        subst hk
        rcases ancOf_spec hi with hi | ⟨j, hj, hij⟩
        · obtain ⟨e, he, hb, hon⟩ := mem_edges.1 hi
          exact .edge ho he hb hon
        · obtain ⟨e, he, hb, hon⟩ := mem_edges.1 hj
          cases hq : acc[j]? with
          | none => simp [List.getD, hq] at hij
          | some an =>
            simp [List.getD, hq] at hij
            exact .trans (h j an hq i hij) (.edge ho he hb hon)

theorem backGo_spec : ∀ {l : List Oper} {k0 : Nat}, backGo k0 l = true → ∀ k o, l[k]? = some o → ∀ e ∈ o.after, Region.binds .any e = true → e.on < k0 + k
  | [], _, _, k, o, hk, _, _, _ => by simp at hk
  | p :: l, k0, h, 0, o, hk, e, he, hb => by
    simp only [backGo, Bool.and_eq_true, List.all_eq_true] at h
    simp at hk
    subst hk
    have := h.1 e.on (mem_edges.2 ⟨e, he, hb, rfl⟩)
    simpa [Nat.blt_eq] using this
  | p :: l, k0, h, k + 1, o, hk, e, he, hb => by
    simp only [backGo, Bool.and_eq_true] at h
    have := backGo_spec h.2 k o (by simpa using hk) e he hb
    omega

theorem inlS_spec {ev : Operand → SV} {op : Op} {fid : Nat} {fn : Func} {args : List SV} (h : inlS X ev op = some (fid, fn, args)) : ∃ f xs ts caps, op = .call ⟨.value f, xs, ts⟩ ∧ ev f = .fn fid caps ∧ X.fn fid = some fn ∧ args = xs.toList.map ev ++ caps := by
  unfold inlS at h
  split at h
  · rename_i f xs ts
    split at h
    · rename_i fid' caps hf
      split at h
      · rename_i fn' hfn
        cases h
        exact ⟨f, xs, ts, caps, rfl, hf, hfn, rfl⟩
      · cases h
    · cases h
  · cases h

theorem set_same {ts : List SV} {t : Nat} {v : SV} (h : ts[t]? = some v) : ts.set t v = ts := by
  apply List.ext_getElem?
  intro i
  by_cases hi : i = t
  · subst hi
    have hlt := (List.getElem?_eq_some_iff.1 h).1
    rw [List.getElem?_set_self hlt, h]
  · rw [List.getElem?_set_ne (Ne.symm hi)]

theorem execOps_ok (hX : COk P X) {go : Nat → Func → List SV → List Row → (SV → List Row → Option Res2) → Option Res2} {draw : Bool} {all : List Oper}
    (hgo : ∀ fid fn args rows k r, go fid fn args rows k = some r → X.fn fid = some fn → ∃ v rows', k v rows' = some r ∧ CallOk P fid args rows v rows') :
    ∀ (ops pre : List Oper) (k : Nat) (s : St) (recs : List Rec) (K : St → Option Res2) (r : Res2), execOps X go draw all ops k s recs K = some r → all = pre ++ ops →
      ∃ (l : List (Nat × Item)) (s' : St), RunsW P all s.cf l s'.cf ∧ l.map (·.1) = List.range' (pre.length + k) (ops.length - k) ∧ K s' = some r ∧ (draw = true → k = 0 → Runs P all s.cf l s'.cf ∧ indep all (recs ++ l.map fun x => recOf all x.2.o x.2.n x.2.e) = true) := by
  intro ops
  induction ops with
  | nil =>
    intro pre k s recs K r h _
    simp only [execOps] at h
    cases hb : !draw || indep all recs with
    | false => simp [hb] at h
    | true =>
      simp only [hb, cond_true] at h
      refine ⟨[], s, .nil _, by simp, h, fun hd _ => ⟨.nil _, ?_⟩⟩
      subst hd
      simpa using hb
  | cons o rest ih =>
    intro pre k s recs K r h hall
    cases k with
    | succ k =>
      simp only [execOps] at h
      obtain ⟨l, s', h1, h2, h3, h4⟩ := ih (pre ++ [o]) k s recs K r h (by simp [hall])
      refine ⟨l, s', h1, ?_, h3, fun _ hk => by cases hk⟩
      rw [h2]
      simp only [List.length_append, List.length_cons, List.length_nil]
      congr 1 <;> omega
    | zero =>
    have hpre : all = (pre ++ [o]) ++ rest := by simp [hall]
    have hoi : all[pre.length]? = some o := by rw [hall]; simp
    -- what a step leaves
    have fin : ∀ (e : Eff) (s1 : St), s1.cf = s.cf.after o.dst s.rows.length e → StepOk P all o s.rows.length e s.cf → execOps X go draw all rest 0 s1 (recs ++ [recOf all o s.rows.length e]) K = some r →
        ∃ (l : List (Nat × Item)) (s' : St), RunsW P all s.cf l s'.cf ∧ l.map (·.1) = List.range' (pre.length + 0) ((o :: rest).length - 0) ∧ K s' = some r ∧ (draw = true → 0 = 0 → Runs P all s.cf l s'.cf ∧ indep all (recs ++ l.map fun x => recOf all x.2.o x.2.n x.2.e) = true) := by
      intro e s1 hs1 hstep hex
      obtain ⟨l, s', h1, h2, h3, h4⟩ := ih (pre ++ [o]) 0 s1 _ K r hex hpre
      refine ⟨(pre.length, ⟨o, s.rows.length, e⟩) :: l, s', .cons hoi hstep (by rw [hs1] at h1; exact h1), ?_, h3, fun hd _ => ?_⟩
      · simp only [List.map_cons, h2, List.length_cons, List.length_append, List.length_nil, Nat.add_zero, Nat.sub_zero]
        rw [List.range'_succ]
      · have := h4 hd rfl
        exact ⟨.cons hoi hstep (by rw [hs1] at this; exact this.1), by simpa using this.2⟩
    have quiet : ∀ ts : Tm, ts.list = s.tmps.list → inT ts o.dst = true → ∀ v : SV, (⟨putT ts o.dst v, s.rows⟩ : St).cf = s.cf.after o.dst s.rows.length { val := v } := by
      intro ts hts hin v
      have := St.cf_after ⟨ts, s.rows⟩ hin { val := v }
      have hc : (⟨ts, s.rows⟩ : St).cf = s.cf := by simp only [St.cf, hts]
      rw [hc] at this
      rw [← this]
      simp [St.after, wrRows]
    have body : ∀ (b : Bool) (ts : Tm), ts.list = s.tmps.list → wantIs all s.tmps.list o b → (bif !inT ts o.dst then none else match b with
      | false => execOps X go draw all rest 0 ⟨putT ts o.dst (.tuple []), s.rows⟩ (recs ++ [recOf all o s.rows.length { val := .tuple [] }]) K
      | true => match inlS X (St.mk ts s.rows).ev o.op with
        | some (fid, fn, args) => bif reachOk s.rows (reach s.rows args) then go fid fn args (maskFrom (reach s.rows args) 0 s.rows) fun v rows' =>
            bif wrOk s.rows (inlEff s.rows (reach s.rows args) v rows').wr then execOps X go draw all rest 0 ((St.mk ts s.rows).after o.dst (inlEff s.rows (reach s.rows args) v rows')) (recs ++ [recOf all o s.rows.length (inlEff s.rows (reach s.rows args) v rows')]) K else none
          else none
        | none => match pureS X.T (St.mk ts s.rows).ev o.op with
          | some (ok, v) => bif ok then execOps X go draw all rest 0 ⟨putT ts o.dst v, s.rows⟩ (recs ++ [recOf all o s.rows.length { val := v }]) K else none
          | none => match memS X (St.mk ts s.rows).ev s.rows o.op with
            | some e => bif wrOk s.rows e.wr then (bif e.ok then execOps X go draw all rest 0 ((St.mk ts s.rows).after o.dst e) (recs ++ [recOf all o s.rows.length e]) K else none) else none
            | none => none) = some r →
        ∃ (l : List (Nat × Item)) (s' : St), RunsW P all s.cf l s'.cf ∧ l.map (·.1) = List.range' (pre.length + 0) ((o :: rest).length - 0) ∧ K s' = some r ∧ (draw = true → 0 = 0 → Runs P all s.cf l s'.cf ∧ indep all (recs ++ l.map fun x => recOf all x.2.o x.2.n x.2.e) = true) := by
      intro b ts hts hb h
      cases hin' : inT ts o.dst with
      | false => simp [hin'] at h
      | true =>
      simp only [hin', Bool.not_true, cond_false] at h
      have hc : (⟨ts, s.rows⟩ : St).cf = s.cf := by simp only [St.cf, hts]
      have hcev : s.cf.ev = (St.mk ts s.rows).ev := by rw [← hc, St.cf_ev]
      cases b with
      | false => exact fin _ _ (quiet ts hts hin' _) ⟨.inl ⟨hb, rfl⟩, by simp, by simp, fun j h1 h2 => by simp at h2; omega⟩ h
      | true =>
        simp only at h
        split at h
        · rename_i fid fn args hin
          obtain ⟨f, xs, ts', caps, hop, hf, hfn, rfl⟩ := inlS_spec hin
          cases hr : reachOk s.rows (reach s.rows (xs.toList.map (St.mk ts s.rows).ev ++ caps)) with
          | false => simp [hr] at h
          | true =>
            simp only [hr, cond_true] at h
            obtain ⟨v, rows', h1, h2⟩ := hgo _ _ _ _ _ _ h hfn
            have hfnok := inl_ok h2 hr
            cases hw : wrOk s.rows (inlEff s.rows (reach s.rows (xs.toList.map (St.mk ts s.rows).ev ++ caps)) v rows').wr with
            | false => simp [hw] at h1
            | true =>
              simp only [hw, cond_true] at h1
              obtain ⟨w1, w2⟩ := wrOk_spec hw
              have hfu := hX.fn _ _ hfn
              refine fin _ _ (by rw [St.cf_after ⟨ts, s.rows⟩ hin', hc]) ⟨.inr ⟨hb, ?_⟩, w1, w2, fun j g1 g2 => List.getElem?_eq_none g1⟩ h1
              rw [hcev]
              exact opOk_call hop hf hfnok hfu.1 hfu.2
        · split at h
          · rename_i ok v hpu
            cases hok : ok with
            | false => simp [hok] at h
            | true =>
              simp only [hok, cond_true] at h
              refine fin _ _ (quiet ts hts hin' _) ⟨.inr ⟨hb, ?_⟩, by simp, by simp, fun j h1 h2 => by simp at h2; omega⟩ h
              rw [hcev]
              refine opOk_of fun ρ pres a w hev hg ha _ _ => ?_
              obtain ⟨rv, g1, g2⟩ := pureS_ok hX.T hpu hok hev w
              exact ⟨rv, ρ, w, .inl g1, After.quiet hg ha g2 rfl rfl⟩
          · split at h
            · rename_i e hme
              cases hw : wrOk s.rows e.wr with
              | false => simp [hw] at h
              | true =>
                simp only [hw, cond_true] at h
                cases hok : e.ok with
                | false => simp [hok] at h
                | true =>
                  simp only [hok, cond_true] at h
                  obtain ⟨w1, w2⟩ := wrOk_spec hw
                  refine fin _ _ (by rw [St.cf_after ⟨ts, s.rows⟩ hin', hc]) ⟨.inr ⟨hb, ?_⟩, w1, w2, fun j g1 g2 => List.getElem?_eq_none g1⟩ h
                  rw [hcev]
                  exact memS_ok hX hme hok
            · cases h
    simp only [execOps, forceSt_eq] at h
    split at h
    · cases h
    · rename_i hw
      refine body true _ rfl ?_ h
      unfold wantS at hw
      unfold wantIs
      split at hw
      · rename_i hg; simp only [hg]
      · rename_i j want hg
        split at hw
        · cases hw
        · rename_i t hd
          cases hbl : Nat.blt t s.tmps.n with
          | false => simp [hbl] at hw
          | true =>
            simp only [hbl, cond_true] at hw
            split at hw <;> cases hw
    · rename_i hw
      refine body false _ rfl ?_ h
      unfold wantS at hw
      unfold wantIs
      split at hw
      · cases hw
      · rename_i j want hg
        simp only [hg]
        split at hw
        · rename_i hd; simp only [hd]
        · rename_i t hd
          simp only [hd, Tm.list_get?]
          cases hbl : Nat.blt t s.tmps.n with
          | false => simp
          | true =>
            simp only [hbl, cond_true] at hw ⊢
            split at hw
            · cases hw
            · rename_i hsv
              simp [hsv]
            · cases hw
    · rename_i t b want hw
      have hask : s.tmps.list[t]? = some (.bool b) ∧ wantIs all s.tmps.list o (b == want) := by
        unfold wantS at hw
        unfold wantIs
        split at hw
        · cases hw
        · rename_i j want' hg
          simp only [hg]
          split at hw
          · cases hw
          · rename_i t' hd
            simp only [hd]
            cases hbl : Nat.blt t' s.tmps.n with
            | false => simp [hbl] at hw
            | true =>
              simp only [hbl, cond_true] at hw
              split at hw
              · rename_i b' ht
                cases hw
                have : s.tmps.list[t]? = some (.bool b) := by rw [Tm.list_get?, hbl, ht]; rfl
                exact ⟨this, by rw [this]⟩
              · cases hw
              · cases hw
      split at h
      · rename_i k ok ts hm
        cases draw with
        | true => cases hm
        | false =>
          simp only [cond_false] at hm
          cases ok with
          | false => cases h
          | true =>
            simp only [cond_true] at h
            have hi : all.length - (o :: rest).length = pre.length := by rw [hall]; simp
            rw [hi] at hm
            obtain ⟨l1, m1, m2⟩ := mergeT_ok (P := P) hX hm (fun k' o' hk' => by rw [hall, List.getElem?_append_right (by omega)]; rw [← hk']; congr 1; omega)
            obtain ⟨l2, s', h1, h2, h3, h4⟩ := ih (pre ++ [o]) k _ recs K r h hpre
            refine ⟨l1 ++ l2, s', m1.append h1, ?_, h3, fun hd => by cases hd⟩
            rw [List.map_append, m2, h2]
            simp only [List.length_take, List.length_cons, List.length_append, List.length_nil, Nat.add_zero, Nat.sub_zero]
            by_cases hkn : k ≤ rest.length
            · rw [Nat.min_eq_left (by omega), show pre.length + (0 + 1) + k = pre.length + 1 * (k + 1) by omega, List.range'_append]
              congr 1
              omega
            · rw [Nat.min_eq_right (by omega), show rest.length - k = 0 by omega]
              simp
      · cases hinb : s.tmps.inb t with
        | false => cases b <;> simp [hinb] at h
        | true =>
          cases b with
          | true =>
            simp only [hinb, cond_true] at h
            refine body want _ (by rw [Tm.list_set hinb, set_same hask.1]) ?_ h
            have := hask.2
            cases want <;> exact this
          | false =>
            simp only [hinb, cond_true] at h
            refine body (!want) _ (by rw [Tm.list_set hinb, set_same hask.1]) ?_ h
            have := hask.2
            cases want <;> exact this
end
end Go.Proofs.Ytikifgbbiffclaa
