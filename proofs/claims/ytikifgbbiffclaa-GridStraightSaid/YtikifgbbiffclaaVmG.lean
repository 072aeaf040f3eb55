/- The small machine: statements whose order is fixed, and statements whose order is open. Of whatever program. -/
import Derived.Test.YtikifgbbiffclaaVmF
namespace Go.Proofs.Ytikifgbbiffclaa
set_option linter.unusedSimpArgs false
set_option linter.unusedVariables false
open Go.RowKit

structure Item where
  o : Oper
  n : Nat
  e : Eff

def Item.touch (x : Item) (i : Nat) : Prop := (∃ r, (i, r) ∈ x.e.wr) ∨ (x.n ≤ i ∧ i < x.n + x.e.nw.length)
abbrev Item.on (x : Item) (c : Cf) : Cf := c.after x.o.dst x.n x.e
abbrev Item.Ok (P : Program) (all : List Oper) (x : Item) (c : Cf) : Prop := StepOk P all x.o x.n x.e c

inductive Runs (P : Program) (all : List Oper) : Cf → List (Nat × Item) → Cf → Prop
  | nil (c : Cf) : Runs P all c [] c
  | cons {c c' : Cf} {i : Nat} {x : Item} {l : List (Nat × Item)} (hi : all[i]? = some x.o) (hs : x.Ok P all c) (h : Runs P all (x.on c) l c') : Runs P all c ((i, x) :: l) c'

section
variable {P : Program} {all : List Oper}

/-- In the order of the text. -/
theorem runs_wpOps {Q : Exit → Act → World → Prop} {c c' : Cf} {l : List (Nat × Item)} (h : Runs P all c l c') : ∀ {ρ : Rho} {a : Act} {w : World}, SRel ρ c a w →
    (∀ ρ' a' w', SRel ρ' c' a' w' → Prg ρ c.m w ρ' c'.m w' → Q .normal a' w') → wpOps P all.toArray Q (l.map (·.1)) a w := by
  induction h with
  | nil c =>
    intro ρ a w hr hQ
    exact hQ ρ a w hr (Prg.refl _ _ _ hr.free)
  | cons hi hs h ih =>
    intro ρ a w hr hQ
    rw [List.map_cons, wpOps_cons]
    refine step_wp hi hs hr fun v ρ' w' hr' hp => ih hr' fun ρ'' a'' w'' hr'' hp' => hQ _ _ _ hr'' (hp.trans hp')

/-- A state of which less is said. -/
structure Weak (c c0 : Cf) : Prop where
  m : c0.m = c.m
  tm : ∀ (ρ : Rho) (us : List Value), RelL ρ c.tm us → RelL ρ c0.tm us
theorem SRel.weak {ρ : Rho} {c c0 : Cf} {a : Act} {w : World} (h : SRel ρ c a w) (hw : Weak c c0) : SRel ρ c0 a w :=
  ⟨hw.tm ρ _ h.tm, h.df, h.good, by rw [hw.m]; exact h.rows, by rw [hw.m]; exact h.apart, by rw [hw.m]; exact h.free⟩
theorem relL_weak {ρ : Rho} : ∀ {xs ys : List SV} {us : List Value}, xs.length = ys.length → (∀ (i : Nat) (v : SV), ys[i]? = some v → v = .top ∨ xs[i]? = some v) → RelL ρ xs us → RelL ρ ys us
  | [], [], us, _, _, h => h
  | [], _ :: _, _, hl, _, _ => by simp at hl
  | _ :: _, [], _, hl, _, _ => by simp at hl
  | x :: xs, y :: ys, us, hl, hp, h => by
    rw [RelL] at h
    obtain ⟨u, us', rfl, h1, h2⟩ := h
    rw [relL_cons]
    refine ⟨?_, relL_weak (by simpa using hl) (fun i v hi => by simpa using hp (i + 1) v (by simpa using hi)) h2⟩
    rcases hp 0 y (by simp) with h3 | h3
    · rw [h3]; simp [Rel]
    · simp at h3; rw [← h3]; exact h1

inductive RunsW (P : Program) (all : List Oper) : Cf → List (Nat × Item) → Cf → Prop
  | nil (c : Cf) : RunsW P all c [] c
  | cons {c c' : Cf} {i : Nat} {x : Item} {l : List (Nat × Item)} (hi : all[i]? = some x.o) (hs : x.Ok P all c) (h : RunsW P all (x.on c) l c') : RunsW P all c ((i, x) :: l) c'
  | weak {c c0 c' : Cf} {l : List (Nat × Item)} (hw : Weak c c0) (h : RunsW P all c0 l c') : RunsW P all c l c'

theorem Runs.w {c c' : Cf} {l : List (Nat × Item)} (h : Runs P all c l c') : RunsW P all c l c' := by
  induction h with
  | nil c => exact .nil c
  | cons hi hs _ ih => exact .cons hi hs ih
theorem RunsW.append {c c1 c' : Cf} {l l' : List (Nat × Item)} (h : RunsW P all c l c1) (k : RunsW P all c1 l' c') : RunsW P all c (l ++ l') c' := by
  induction h with
  | nil c => exact k
  | cons hi hs _ ih => exact .cons hi hs (ih k)
  | weak hw _ ih => exact .weak hw (ih k)

theorem runsW_wpOps {Q : Exit → Act → World → Prop} {c c' : Cf} {l : List (Nat × Item)} (h : RunsW P all c l c') : ∀ {ρ : Rho} {a : Act} {w : World}, SRel ρ c a w →
    (∀ ρ' a' w', SRel ρ' c' a' w' → Prg ρ c.m w ρ' c'.m w' → Q .normal a' w') → wpOps P all.toArray Q (l.map (·.1)) a w := by
  induction h with
  | nil c =>
    intro ρ a w hr hQ
    exact hQ ρ a w hr (Prg.refl _ _ _ hr.free)
  | cons hi hs h ih =>
    intro ρ a w hr hQ
    rw [List.map_cons, wpOps_cons]
    refine step_wp hi hs hr fun v ρ' w' hr' hp => ih hr' fun ρ'' a'' w'' hr'' hp' => hQ _ _ _ hr'' (hp.trans hp')
  | weak hw h ih =>
    intro ρ a w hr hQ
    exact ih (hr.weak hw) fun ρ' a' w' hr' hp => hQ ρ' a' w' hr' (by rw [hw.m] at hp; exact hp)

theorem after_touch {x : Item} {c : Cf} (hs : x.Ok P all c) (i : Nat) : ((x.n ≤ i ∧ i < x.n + x.e.nw.length) ∧ (x.on c).m i = x.e.nw[i - x.n]? ∧ c.m i = none) ∨
    ((¬ (x.n ≤ i ∧ i < x.n + x.e.nw.length)) ∧ ((∃ r, (i, r) ∈ x.e.wr ∧ (x.on c).m i = some r) ∨ ((∀ r, (i, r) ∉ x.e.wr) ∧ (x.on c).m i = c.m i))) := by
  unfold Item.on Cf.after updN
  by_cases h : x.n ≤ i ∧ i < x.n + x.e.nw.length
  · exact .inl ⟨h, by simp [h], hs.nw i h.1 h.2⟩
  · refine .inr ⟨h, ?_⟩
    simp only [if_neg h]
    by_cases hw : ∃ r, (i, r) ∈ x.e.wr
    · obtain ⟨r, hr⟩ := hw
      obtain ⟨row, h1, _⟩ := hs.wr _ hr
      exact .inl ⟨r, hr, (updW_get x.e.wr c.m hs.nd i).1 r hr (by simp [h1])⟩
    · exact .inr ⟨fun r hr => hw ⟨r, hr⟩, (updW_get x.e.wr c.m hs.nd i).2 (fun r hr => hw ⟨r, hr⟩)⟩

theorem after_not {x : Item} {c : Cf} (hs : x.Ok P all c) {i : Nat} (h : ¬ x.touch i) : (x.on c).m i = c.m i := by
  rcases after_touch hs i with ⟨h1, _⟩ | ⟨_, ⟨r, h1, _⟩ | ⟨_, h1⟩⟩
  · exact absurd (.inr h1) h
  · exact absurd (.inl ⟨r, h1⟩) h
  · exact h1

structure Ind (all : List Oper) (x y : Item) : Prop where
  d1 : ∀ d, x.o.dst = some d → d ∉ looksOf all y.o
  d2 : ∀ d, y.o.dst = some d → d ∉ looksOf all x.o
  d3 : ∀ d, x.o.dst = some d → y.o.dst ≠ some d
  r1 : ∀ i, x.touch i → i ∉ y.e.rd
  r2 : ∀ i, y.touch i → i ∉ x.e.rd
  w : ∀ i, x.touch i → ¬ y.touch i

theorem StepOk.congr {o : Oper} {n : Nat} {e : Eff} {c c' : Cf} (h : StepOk P all o n e c) (h1 : ∀ t ∈ looksOf all o, c'.tm[t]? = c.tm[t]?) (h2 : ∀ i ∈ e.rd, c'.m i = c.m i) (h3 : ∀ x ∈ e.wr, c'.m x.1 = c.m x.1)
    (h4 : ∀ j, n ≤ j → j < n + e.nw.length → c'.m j = none) : StepOk P all o n e c' := by
  have hw : ∀ b, wantIs all c.tm o b → wantIs all c'.tm o b := by
    intro b hb
    unfold wantIs at hb ⊢
    cases hg : o.guard with
    | none => simpa [hg] using hb
    | some jw =>
      obtain ⟨j, want⟩ := jw
      simp only [hg] at hb ⊢
      cases hd : (all[j]?).bind (·.dst) with
      | none => simpa [hd] using hb
      | some t =>
        simp only [hd] at hb ⊢
        rw [h1 t (by unfold looksOf; simp [hg, hd])]
        exact hb
  have hev : ∀ x ∈ o.op.operands, c'.ev x = c.ev x := by
    intro x hx
    cases x with
    | tmp t =>
      simp only [Cf.ev, List.getD]
      rw [h1 t]
      unfold looksOf
      refine List.mem_append_left _ (List.mem_filterMap.2 ⟨.tmp t, by simpa using hx, rfl⟩)
    | const v => rfl
    | global g => rfl
    | func f => rfl
  refine ⟨?_, fun x hx => ?_, h.nd, h4⟩
  · rcases h.op with ⟨hb, he⟩ | ⟨hb, ho⟩
    · exact .inl ⟨hw _ hb, he⟩
    · refine .inr ⟨hw _ hb, fun ρ pres a w hx hg ha hrd hfree => ho ρ pres a w (fun x hxo => by rw [← hev x hxo]; exact hx x hxo) hg ha (fun id hid row hrow => hrd id hid row (by rw [h2 id hid]; exact hrow)) hfree⟩
  · obtain ⟨row, hr, hl⟩ := h.wr x hx
    exact ⟨row, by rw [h3 x hx]; exact hr, hl⟩

theorem putS_get {ts : List SV} {d : Option Nat} {v : SV} {t : Nat} (h : d ≠ some t) : (putS ts d v)[t]? = ts[t]? := by
  cases d with
  | none => rfl
  | some d => simp only [putS]; rw [List.getElem?_set_ne]; rintro rfl; exact h rfl

theorem runs_swap {c c' : Cf} {i k : Nat} {x y : Item} {l : List (Nat × Item)} (hi : Ind all x y) (h : Runs P all c ((i, x) :: (k, y) :: l) c') : Runs P all c ((k, y) :: (i, x) :: l) c' := by
  cases h with
  | cons hix hx h =>
    cases h with
    | cons hky hy h =>
      have hy' : y.Ok P all c := hy.congr (fun t ht => (putS_get (fun hd => hi.d1 t hd ht)).symm) (fun j hj => (after_not hx (fun ht => hi.r1 j ht hj)).symm)
        (fun z hz => (after_not hx (fun ht => hi.w _ ht (.inl ⟨z.2, hz⟩))).symm)
        (fun j h1 h2 => by rw [← after_not hx (i := j) (fun ht => hi.w _ ht (.inr ⟨h1, h2⟩))]; exact hy.nw j h1 h2)
      have hx' : x.Ok P all (y.on c) := hx.congr (fun t ht => putS_get (fun hd => hi.d2 t hd ht)) (fun j hj => after_not hy' (fun ht => hi.r2 j ht hj))
        (fun z hz => after_not hy' (fun ht => hi.w _ (.inl ⟨z.2, hz⟩) ht))
        (fun j h1 h2 => by rw [after_not hy' (i := j) (fun ht => hi.w _ (.inr ⟨h1, h2⟩) ht)]; exact hx.nw j h1 h2)
      refine .cons hky hy' (.cons hix hx' ?_)
      have : x.on (y.on c) = y.on (x.on c) := by
        have htm : (x.on (y.on c)).tm = (y.on (x.on c)).tm := by
          simp only [Item.on, Cf.after]
          cases hxd : x.o.dst with
          | none => rfl
          | some d =>
            cases hyd : y.o.dst with
            | none => rfl
            | some d' =>
              simp only [putS]
              rw [List.set_comm]
              rintro rfl
              exact hi.d3 _ hxd hyd
        have hm : (x.on (y.on c)).m = (y.on (x.on c)).m := by
          funext j
          by_cases tx : x.touch j
          · have ty : ¬ y.touch j := hi.w j tx
            rw [after_not hy ty]
            rcases after_touch hx' j with ⟨h1, h2, _⟩ | ⟨h0, ⟨r, h1, h2⟩ | ⟨h1, _⟩⟩
            · rw [h2]
              rcases after_touch hx j with ⟨_, k2, _⟩ | ⟨k0, _⟩
              · rw [k2]
              · exact absurd h1 k0
            · rw [h2]
              have k := (updW_get x.e.wr c.m hx.nd j).1 r h1 (by obtain ⟨row, g, _⟩ := hx.wr _ h1; simp [g])
              simp only [Item.on, Cf.after, updN]
              rw [if_neg h0, k]
            · rcases tx with ⟨r, hr⟩ | hr
              · exact absurd hr (h1 r)
              · exact absurd hr h0
          · rw [after_not hx' tx]
            by_cases ty : y.touch j
            · rcases after_touch hy' j with ⟨h1, h2, _⟩ | ⟨h0, ⟨r, h1, h2⟩ | ⟨h1, _⟩⟩
              · rw [h2]
                rcases after_touch hy j with ⟨_, k2, _⟩ | ⟨k0, _⟩
                · rw [k2]
                · exact absurd h1 k0
              · rw [h2]
                have k := (updW_get y.e.wr (x.on c).m hy.nd j).1 r h1 (by obtain ⟨row, g, _⟩ := hy.wr _ h1; simp [g])
                change _ = updN (updW (x.on c).m y.e.wr) y.n y.e.nw j
                simp only [updN]
                rw [if_neg h0, k]
              · rcases ty with ⟨r, hr⟩ | hr
                · exact absurd hr (h1 r)
                · exact absurd hr h0
            · rw [after_not hy' ty, after_not hy ty, after_not hx tx]
        cases h1 : x.on (y.on c)
        cases h2 : y.on (x.on c)
        rw [h1, h2] at htm hm
        simp only at htm hm
        rw [htm, hm]
      rw [this]
      exact h

theorem runs_front {c' : Cf} {k : Nat} {y : Item} {post : List (Nat × Item)} : ∀ (pre : List (Nat × Item)) (c : Cf), (∀ x ∈ pre, Ind all x.2 y) → Runs P all c (pre ++ (k, y) :: post) c' → Runs P all c ((k, y) :: (pre ++ post)) c'
  | [], _, _, h => h
  | (i, x) :: pre, c, hi, h => by
    cases h with
    | cons hix hx h =>
      exact runs_swap (hi (i, x) (by simp)) (.cons hix hx (runs_front pre _ (fun z hz => hi z (by simp [hz])) h))

/-- i stands before k by the edges that bind. -/
inductive Bef (all : List Oper) : Nat → Nat → Prop
  | edge {i k : Nat} {o : Oper} {e : Edge} (ho : all[k]? = some o) (he : e ∈ o.after) (hb : Region.binds .any e = true) (hi : e.on = i) : Bef all i k
  | trans {i j k : Nat} (h1 : Bef all i j) (h2 : Bef all j k) : Bef all i k

theorem bef_listed {listed : Array Bool} (hc : ∀ j o, all[j]? = some o → listed.getD j false = true → ∀ e ∈ o.after, Region.binds .any e = true → listed.getD e.on false = true) {i k : Nat} (h : Bef all i k) :
    listed.getD k false = true → listed.getD i false = true := by
  induction h with
  | edge ho he hb hi => intro hk; subst hi; exact hc _ _ ho hk _ he hb
  | trans _ _ ih1 ih2 => exact fun hk => ih1 (ih2 hk)

theorem bef_ready {listed : Array Bool} (hc : ∀ j o, all[j]? = some o → listed.getD j false = true → ∀ e ∈ o.after, Region.binds .any e = true → listed.getD e.on false = true) {i k : Nat} (h : Bef all i k) :
    (∀ o, all[k]? = some o → ∀ e ∈ o.after, Region.binds .any e = true → listed.getD e.on false = true) → listed.getD i false = true := by
  induction h with
  | edge ho he hb hi => intro hk; subst hi; exact hk _ ho _ he hb
  | trans h1 _ _ ih2 => exact fun hk => bef_listed hc h1 (ih2 hk)

theorem runs_wpAny {Q : Exit → Act → World → Prop} (hback : ∀ k o, all[k]? = some o → ∀ e ∈ o.after, Region.binds .any e = true → e.on < k) {c' : Cf} : ∀ (fuel : Nat) (l : List (Nat × Item)) (listed : Array Bool) (c : Cf) (ρ : Rho) (a : Act) (w : World),
    Runs P all c l c' → l.length = fuel → listed.size = all.length → (∀ j, j ∈ l.map (·.1) ↔ j < all.length ∧ listed.getD j true = false) →
    l.Pairwise (fun x y => x.1 < y.1 ∧ (Bef all x.1 y.1 ∨ Ind all x.2 y.2)) →
    (∀ j o, all[j]? = some o → listed.getD j false = true → ∀ e ∈ o.after, Region.binds .any e = true → listed.getD e.on false = true) →
    SRel ρ c a w → (∀ ρ' a' w', SRel ρ' c' a' w' → Prg ρ c.m w ρ' c'.m w' → Q .normal a' w') → wpAny P .any all.toArray Q fuel listed a w := by
  intro fuel
  have flip : ∀ (listed : Array Bool) (j : Nat), listed.size = all.length → j < all.length → (listed.getD j true = false ↔ listed.getD j false = false) := by
    intro listed j h1 h2
    have : j < listed.size := by omega
    simp [Array.getD, this]
  induction fuel with
  | zero =>
    intro l listed c ρ a w hrun hlen hsz hun hpw hcl hr hQ
    have : l = [] := List.length_eq_zero_iff.1 hlen
    subst this
    cases hrun
    refine ⟨?_, hQ _ _ _ hr (Prg.refl _ _ _ hr.free)⟩
    rw [List.eq_nil_iff_forall_not_mem]
    intro j hj
    obtain ⟨h1, o, ho, _⟩ := mem_ready.1 hj
    have hlt : j < all.length := by
      have := (Array.getElem?_eq_some_iff.1 ho).1
      simpa using this
    have := (hun j).2 ⟨hlt, h1⟩
    simp at this
  | succ fuel ih =>
    intro l listed c ρ a w hrun hlen hsz hun hpw hcl hr hQ
    refine ⟨fun hready => ?_, fun k hk => ?_⟩
    · exfalso
      cases l with
      | nil => simp at hlen
      | cons x l =>
        obtain ⟨k, x⟩ := x
        have hk := (hun k).1 (by simp)
        have hkr : k ∈ Region.ready .any all.toArray listed := by
          refine mem_ready.2 ⟨hk.2, all[k]'hk.1, by simp [hk.1], fun e he hb => ?_⟩
          have hlt := hback k _ (List.getElem?_eq_getElem hk.1) e he hb
          cases hl : listed.getD e.on false with
          | true => rfl
          | false =>
            exfalso
            have h1 : listed.getD e.on true = false := (flip listed e.on hsz (by omega)).2 hl
            have h2 := (hun e.on).2 ⟨by omega, h1⟩
            rw [List.map_cons, List.mem_cons] at h2
            rcases h2 with h2 | h2
            · omega
            · obtain ⟨y, hy, hye⟩ := List.mem_map.1 h2
              have := (List.pairwise_cons.1 hpw).1 y hy
              simp only at this
              omega
        rw [hready] at hkr
        cases hkr
    · obtain ⟨hkun, o, ho, hall⟩ := mem_ready.1 hk
      have ho' : all[k]? = some o := by simpa using ho
      have hklt : k < all.length := (List.getElem?_eq_some_iff.1 ho').1
      obtain ⟨y, hy, hyk⟩ := List.mem_map.1 ((hun k).2 ⟨hklt, hkun⟩)
      obtain ⟨k', y⟩ := y
      simp only at hyk
      subst hyk
      obtain ⟨pre, post, rfl⟩ := List.append_of_mem hy
      have hpw' := List.pairwise_append.1 hpw
      have hind : ∀ x ∈ pre, Ind all x.2 y := by
        intro x hx
        rcases (hpw'.2.2 x hx (k', y) (by simp)).2 with hb | hi
        · exfalso
          have h1 := bef_ready hcl hb (fun o2 ho2 e he hbind => by rw [ho'] at ho2; cases ho2; exact hall e he hbind)
          have h2 := (hun x.1).1 (by simp; exact .inl ⟨x.2, hx⟩)
          rw [(flip listed x.1 hsz h2.1).1 h2.2] at h1
          cases h1
        · exact hi
      have hfront := runs_front pre c hind hrun
      cases hfront with
      | cons hiy hy' h =>
        rw [ho'] at hiy
        cases hiy
        refine step_wp ho' hy' hr fun v ρ' w' hr' hp => ih (pre ++ post) (listed.setIfInBounds k' true) _ ρ' _ w' h ?_ (by simpa using hsz) ?_ ?_ ?_ hr' fun ρ'' a'' w'' hr'' hp' => hQ _ _ _ hr'' (hp.trans hp')
        · simp only [List.length_append, List.length_cons] at hlen ⊢
          omega
        · intro j
          have hnd : k' ∉ (pre ++ post).map (·.1) := by
            intro hm
            rw [List.map_append, List.mem_append] at hm
            rcases hm with hm | hm
            · obtain ⟨z, hz, hze⟩ := List.mem_map.1 hm
              have := (hpw'.2.2 z hz (k', y) (by simp)).1
              simp only at this
              omega
            · obtain ⟨z, hz, hze⟩ := List.mem_map.1 hm
              have := ((List.pairwise_cons.1 hpw'.2.1).1 z hz).1
              simp only at this
              omega
          by_cases hjk : j = k'
          · subst hjk
            constructor
            · exact fun h => absurd h hnd
            · rintro ⟨h1, h2⟩
              rw [Array.getD_eq_getD_getElem?, Array.getElem?_setIfInBounds_self_of_lt (by omega)] at h2
              simp at h2
          · rw [getD_set_ne true (Ne.symm hjk)]
            rw [← hun j]
            simp only [List.map_append, List.map_cons, List.mem_append, List.mem_cons]
            constructor
            · rintro (h | h)
              · exact .inl h
              · exact .inr (.inr h)
            · rintro (h | h | h)
              · exact .inl h
              · exact absurd h hjk
              · exact .inr h
        · exact hpw.sublist (List.Sublist.append (List.Sublist.refl _) (List.sublist_cons_self _ _))
        · intro j oj hoj hl e he hb
          by_cases hjk : j = k'
          · subst hjk
            rw [ho'] at hoj
            cases hoj
            exact getD_set_true (hall e he hb)
          · rw [getD_set_ne false (Ne.symm hjk)] at hl
            exact getD_set_true (hcl j oj hoj hl e he hb)
end
end Go.Proofs.Ytikifgbbiffclaa
