/- A statement whose order is open, whose operations read one's own rows, call what leaves all as it was, make new rows and store: what only reads or calls is taken first, the rest follows in its one order, in whatever world has grown. Of whatever program. More rules for statements whose order is open: a call of a function value. -/
import Derived.Test.YtimkhidniolpeaaLaw
import Derived.Deep.Quiet
import Derived.OrdersHeld
import Derived.StillTail
namespace Go.Proofs.Ytimkhidniolpeaa
set_option linter.unusedSimpArgs false
set_option linter.unusedVariables false
set_option maxRecDepth 100000
set_option maxHeartbeats 0
open Go.RowKit

def Ext (w w' : World) : Prop := Below w.heap.size w w'
theorem Ext.refl (w : World) : Ext w w := Below.refl _ _
theorem Ext.trans {a b c : World} (h : Ext a b) (k : Ext b c) : Ext a c := Below.trans h (Below.mono k h.size)

section
variable {P : Program} {ops : Array Oper} {md : Region.Mode} {Q : Exit → Act → World → Prop} {S : Array Bool → World → Prop} {T : World → Prop}

def YE (P : Program) (ops : Array Oper) (T : World → Prop) (o : Oper) (v : Value) (a : Act) : Prop :=
 (Region.wanted o (yielded ops a.tmps) = true ∧ ∀ w, T w → o.quietAt P a (Ext w) w v) ∨ (Region.wanted o (yielded ops a.tmps) = false ∧ v = undef)

theorem YE.of_same {o : Oper} {v : Value} {a a' : Act} (hy : YE P ops T o v a) (he : execOp a'.eval o = execOp a.eval o)
    (hw : Region.wanted o (yielded ops a'.tmps) = Region.wanted o (yielded ops a.tmps)) : YE P ops T o v a' := by
 unfold YE Oper.quietAt at *
 rw [he, hw]
 exact hy

theorem YE.wpOp {i : Nat} {o : Oper} {v : Value} {a : Act} (hi : ops[i]? = some o) (hy : YE P ops T o v a) {K : Act → World → Prop} {w : World} (hT : T w) (h : ∀ w', Ext w w' → K (a.put o.dst v) w') : Go.wpOp P ops Q i K a w := by
 unfold Go.wpOp
 simp only [hi]
 rcases hy with ⟨hw, hv⟩ | ⟨hw, rfl⟩
 · simp only [hw, if_true]
   refine .inl ?_
   have h3 := hv w hT
   unfold Oper.quietAt at h3
   unfold Oper.wp
   generalize (execOp a.eval o).run P w = r at *
   cases r with
   | ok n w' =>
    cases n <;> simp only [Oper.quietUpon] at h3 <;> simp only [Oper.upon]
    case value u =>
     obtain ⟨e1, e2⟩ := h3
     rw [e1, e2]
     exact h _ (Ext.refl _)
    case skip =>
     obtain ⟨e1, e2⟩ := h3
     rw [e1, ← e2]
     exact h _ (Ext.refl _)
    case enter f args =>
     obtain ⟨e1, hc⟩ := h3
     rw [e1]
     exact hc.mono fun e w'' ⟨he, hw''⟩ => by subst he; exact h _ hw''
   | halt x w' => simp only [Oper.quietUpon] at h3
 · simp only [hw, Bool.false_eq_true, if_false]
   exact h _ (Ext.refl _)

theorem wpOp_putE {j : Nat} {oi oj : Oper} {v : Value} (hj : ops[j]? = some oj) (hap : oi.apart ops oj = true)
    (hsi : ∀ cs b, oi.op ≠ .select cs b) (hsj : ∀ cs b, oj.op ≠ .select cs b)
    (hQ : ∀ c a w, Q (.panic c) (a.put oi.dst v) w → Q (.panic c) a w) {K : Act → World → Prop} {a : Act} {w : World}
    (hy : YE P ops T oi v a) (h : wpOp P ops Q j K (a.put oi.dst v) w) :
    wpOp P ops Q j (fun a' w' => YE P ops T oi v a' ∧ K (a'.put oi.dst v) w') a w := by
 obtain ⟨h1, h2, h3⟩ := Oper.apart_spec hap
 have keep : ∀ (a : Act), YE P ops T oi v a → ∀ u, YE P ops T oi v (a.put oj.dst u) := fun a hy u =>
  hy.of_same (execOp_put oi hsi a oj.dst u h3) (wanted_put oi a oj.dst u h3)
 have keepD : ∀ d, YE P ops T oi v { a with defers := d :: a.defers } := fun d => hy.of_same rfl rfl
 unfold wpOp at *
 simp only [hj] at *
 rw [wanted_put oj a oi.dst v h1] at h
 split
 · rename_i hw
   simp only [hw, if_true] at h
   rcases h with h | ⟨hasks, hlets⟩
   case inr => exact .inr ⟨by unfold Oper.asks at *; rw [execOp_put oj hsj a oi.dst v h1] at hasks; exact hasks, hlets⟩
   refine .inl ?_
   unfold Oper.wp at *
   rw [execOp_put oj hsj a oi.dst v h1] at h
   generalize (execOp a.eval oj).run P w = r at *
   cases r with
   | ok n w' =>
    cases n <;> simp only [Oper.upon] at h ⊢
    case value u => exact ⟨keep a hy u, by rw [← Act.put_comm a v u h2]; exact h⟩
    case skip => exact ⟨keep a hy _, by rw [← Act.put_comm a v undef h2]; exact h⟩
    case defer d =>
     refine ⟨keep _ (keepD d) _, ?_⟩
     rw [← Act.put_comm _ v undef h2, ← Act.put_defers]
     exact h
    case enter f args =>
     refine Calls.mono h fun e w'' he => ?_
     cases e with
     | returned u => exact ⟨keep a hy u, by rw [← Act.put_comm a v u h2]; exact he⟩
     | panicked c => exact hQ _ _ _ he
     | outgrown => exact he
    case row row args => exact Rows.mono h fun u w'' he => ⟨keep a hy u, by rw [← Act.put_comm a v u h2]; exact he⟩
   | halt x w' =>
    cases x <;> simp only [Oper.upon] at h ⊢
    case panic u => exact hQ _ _ _ h
 · rename_i hw
   simp only [hw] at h
   exact ⟨keep a hy _, by rw [← Act.put_comm a v undef h2]; exact h⟩

def wpAnyE (P : Program) (md : Region.Mode) (ops : Array Oper) (Q : Exit → Act → World → Prop) (S : Array Bool → World → Prop) : Nat → Array Bool → Act → World → Prop
 | 0, listed, a, w => Region.ready md ops listed = [] ∧ ∀ w', Ext w w' → Q .normal a w'
 | fuel + 1, listed, a, w =>
  (Region.ready md ops listed = [] → ∀ w', Ext w w' → Q .normal a w') ∧
  ∀ i ∈ Region.ready md ops listed, ∀ w', Ext w w' → S listed w' →
   wpOp P ops Q i (fun a'' w'' => S (listed.setIfInBounds i true) w'' ∧ wpAnyE P md ops Q S fuel (listed.setIfInBounds i true) a'' w'') a w'

theorem wpAnyE.ext {fuel : Nat} {listed : Array Bool} {a : Act} {w w' : World} (h : wpAnyE P md ops Q S fuel listed a w) (he : Ext w w') : wpAnyE P md ops Q S fuel listed a w' := by
 cases fuel with
 | zero => exact ⟨h.1, fun w'' h'' => h.2 w'' (he.trans h'')⟩
 | succ fuel => exact ⟨fun h0 w'' h'' => h.1 h0 w'' (he.trans h''), fun i hi w'' h'' hS => h.2 i hi w'' (he.trans h'') hS⟩

theorem wpAny_of_E : ∀ (fuel : Nat) (listed : Array Bool) (a : Act) (w : World), S listed w → wpAnyE P md ops Q S fuel listed a w → wpAny P md ops Q fuel listed a w
 | 0, _, _, w, _, h => ⟨h.1, h.2 w (Ext.refl w)⟩
 | fuel + 1, listed, a, w, hS, h => ⟨fun h0 => h.1 h0 w (Ext.refl w), fun i hi => wpOp_mono (fun a' w' h' => wpAny_of_E fuel _ a' w' h'.1 h'.2) (h.2 i hi w (Ext.refl w) hS)⟩

theorem getD_both' {listed : Array Bool} {i : Nat} (h : listed.getD i true = false) : listed.getD i false = false := by
 rcases Nat.lt_or_ge i listed.size with h' | h'
 · simpa [h'] using h
 · simp [Array.getElem?_eq_none h'] at h

theorem wpAnyE_first {i : Nat} {oi : Oper} {v : Value} (hi : ops[i]? = some oi) (hsel : ∀ (j : Nat) (o : Oper) cs b, ops[j]? = some o → o.op ≠ .select cs b)
    (hQ : ∀ c a w, Q (.panic c) (a.put oi.dst v) w → Q (.panic c) a w) (hST : ∀ (listed : Array Bool) (w : World), HeadInv md ops ops.size listed → listed.getD i true = false → S listed w → T w)
    (hSi : ∀ (listed : Array Bool) (w w' : World), Ext w w' → S listed w → S (listed.setIfInBounds i true) w')
    (hSj : ∀ (listed : Array Bool) (w : World) (j : Nat), j ≠ i → S ((listed.setIfInBounds i true).setIfInBounds j true) w → S (listed.setIfInBounds j true) w) :
    ∀ (fuel : Nat) (listed : Array Bool) (a : Act) (w : World), HeadInv md ops ops.size listed →
     (∀ j oj, ops[j]? = some oj → j ≠ i → listed.getD j true = false → (∀ e ∈ oj.after, Region.binds md e = true → e.on ≠ i) → oi.apart ops oj = true) →
     i ∈ Region.ready md ops listed → YE P ops T oi v a →
     wpAnyE P md ops Q S fuel (listed.setIfInBounds i true) (a.put oi.dst v) w → wpAnyE P md ops Q S (fuel + 1) listed a w := by
 intro fuel
 induction fuel with
 | zero =>
  intro listed a w inv _ hr hy H
  refine ⟨fun h => (by rw [h] at hr; cases hr), fun j hj w' he hS => ?_⟩
  by_cases hji : j = i
  · subst hji
    exact hy.wpOp hi (hST _ _ inv (mem_ready.1 hr).1 hS) fun w'' h'' => ⟨hSi _ _ _ h'' hS, H.ext (he.trans h'')⟩
  · have := ready_mono hj hji
    rw [H.1] at this
    cases this
 | succ fuel ih =>
  intro listed a w inv hfree hr hy H
  refine ⟨fun h => (by rw [h] at hr; cases hr), fun j hj w' he hS => ?_⟩
  by_cases hji : j = i
  · subst hji
    exact hy.wpOp hi (hST _ _ inv (mem_ready.1 hr).1 hS) fun w'' h'' => ⟨hSi _ _ _ h'' hS, H.ext (he.trans h'')⟩
  · have h1 := H.2 j (ready_mono hj hji) w' he (hSi _ _ _ (Ext.refl _) hS)
    obtain ⟨hjun, oj, hoj, hall⟩ := mem_ready.1 hj
    have hnot : ∀ e ∈ oj.after, Region.binds md e = true → e.on ≠ i := fun e he hb heq => by
     have h1 := hall e he hb
     rw [heq, getD_both' (mem_ready.1 hr).1] at h1
     cases h1
    have h2 := wpOp_putE hoj (hfree j oj hoj hji hjun hnot) (fun cs b => hsel i oi cs b hi) (fun cs b => hsel j oj cs b hoj) hQ hy h1
    have hfree' : ∀ k ok, ops[k]? = some ok → k ≠ i → (listed.setIfInBounds j true).getD k true = false →
        (∀ e ∈ ok.after, Region.binds md e = true → e.on ≠ i) → oi.apart ops ok = true := fun k ok hk hki hun hno => by
     refine hfree k ok hk hki ?_ hno
     by_cases hjk : j = k
     · subst hjk; exact hjun
     · rw [getD_set_ne true hjk] at hun; exact hun
    have hjn : j < ops.size := (Array.getElem?_eq_some_iff.1 hoj).1
    refine wpOp_mono (fun a' w'' h3 => ⟨hSj _ _ _ hji h3.2.1, ih (listed.setIfInBounds j true) a' w'' (inv.set hj hjn) hfree' (ready_mono hr (Ne.symm hji)) h3.1 ?_⟩) h2
    rw [Array.setIfInBounds_comm _ _ hji]
    exact h3.2.2

def wpE (P : Program) (ops : Array Oper) (T : World → Prop) (R : Act → Prop) : List Oper → Act → Prop
 | [], a => R a
 | o :: rest, a => if Region.wanted o (yielded ops a.tmps) then ∃ v, (∀ w, T w → o.quietAt P a (Ext w) w v) ∧ wpE P ops T R rest (a.put o.dst v) else wpE P ops T R rest (a.put o.dst undef)

def wpT (P : Program) (ops : Array Oper) (T : World → Prop) (Q : Exit → Act → World → Prop) : Nat → List Oper → Act → World → Prop
 | _, [], a, w => ∀ w', Ext w w' → Q .normal a w'
 | m, o :: rest, a, w => ∀ w', Ext w w' → (0 < m → T w') →
  if Region.wanted o (yielded ops a.tmps) then o.wp P a w' (fun a'' w'' => (1 < m → T w'') ∧ wpT P ops T Q (m - 1) rest a'' w'') Q else (1 < m → T w') ∧ wpT P ops T Q (m - 1) rest (a.put o.dst undef) w'

def permT (md : Region.Mode) (ops : Array Oper) : List Nat → Array Bool → Bool
 | [], listed => (Region.ready md ops listed).isEmpty
 | k :: t, listed => decide (Region.ready md ops listed = [k]) && permT md ops t (listed.setIfInBounds k true)
def permQ (md : Region.Mode) (ops : Array Oper) (n0 : Nat) (t : List Nat) : List Nat → Array Bool → Bool
 | [], listed => permT md ops t listed
 | i :: q, listed => (Region.ready md ops listed).contains i && Region.free md ops listed i && decide (i ≠ n0) && (Region.waitsFor md ops n0 i || decide (ops.size ≤ n0)) && permQ md ops n0 t q (listed.setIfInBounds i true)

def SAt (n0 : Nat) (T : World → Prop) (listed : Array Bool) (w : World) : Prop := listed.getD n0 false = false → T w
end

section
variable {P : Program} {ops : Array Oper} {md : Region.Mode} {Q : Exit → Act → World → Prop} {T : World → Prop} {n0 : Nat}

theorem getD_set_same' {listed : Array Bool} {i : Nat} (h : i < listed.size) (d : Bool) : (listed.setIfInBounds i true).getD i d = true := by simp [h]

theorem wpAnyE_tail (hT : ∀ w w', Ext w w' → T w → T w') : ∀ (t : List Nat) (tl : List Oper) (m : Nat) (listed : Array Bool) (a : Act) (w : World), t.map (ops[·]?) = tl.map some → HeadInv md ops ops.size listed →
    (∀ k, t[k]? = some n0 → m = k + 1) → (n0 ∉ t → (m = 0 ∧ listed.getD n0 false = true) ∨ (ops.size ≤ n0 ∧ t.length < m)) →
    permT md ops t listed = true → wpT P ops T Q m tl a w → wpAnyE P md ops Q (SAt n0 T) t.length listed a w
 | [], tl, m, listed, a, w, ht, inv, hm, hm0, hB, h => by
  cases tl with
  | nil => exact ⟨by simpa [permT] using hB, h⟩
  | cons o tl => simp at ht
 | k :: t, [], m, listed, a, w, ht, inv, hm, hm0, hB, h => by simp at ht
 | k :: t, o :: tl, m, listed, a, w, ht, inv, hm, hm0, hB, h => by
  simp only [List.map_cons, List.cons.injEq] at ht
  obtain ⟨hk, ht⟩ := ht
  simp only [permT, Bool.and_eq_true, decide_eq_true_eq] at hB
  refine ⟨fun h1 => (by rw [hB.1] at h1; cases h1), fun i hi w' he hS => ?_⟩
  have hrk : i ∈ Region.ready md ops listed := hi
  rw [hB.1] at hi
  have hik : i = k := by simpa using hi
  subst hik
  have hun := (mem_ready.1 hrk).1
  have hin : i < ops.size := (Array.getElem?_eq_some_iff.1 hk).1
  have inv' := inv.set hrk hin
  have key : 0 < m → listed.getD n0 false = false := by
   intro hm1
   by_cases hmem : n0 ∈ i :: t
   · cases hl : listed.getD n0 false with
     | false => rfl
     | true =>
      exfalso
      -- n0 lies ahead in the order, so it has not come up
      have : ∀ (t : List Nat) (listed : Array Bool), permT md ops t listed = true → n0 ∈ t → listed.getD n0 false = true → False := by
       intro t
       induction t with
       | nil => intro _ _ hn; cases hn
       | cons k t ih =>
        intro listed hB hn hl
        simp only [permT, Bool.and_eq_true, decide_eq_true_eq] at hB
        rcases List.mem_cons.1 hn with rfl | hn
        · have : n0 ∈ Region.ready md ops listed := by rw [hB.1]; simp
          have := getD_both' (mem_ready.1 this).1
          rw [hl] at this; cases this
        · exact ih _ hB.2 hn (getD_set_true hl)
      exact this (i :: t) listed (by simp only [permT, Bool.and_eq_true, decide_eq_true_eq]; exact hB) hmem hl
   · rcases hm0 hmem with ⟨h0, _⟩ | ⟨h0, _⟩
     · omega
     · have : listed.size ≤ n0 := by rw [inv.size]; exact h0
       simp [Array.getElem?_eq_none this]
  have h2 := h w' he (fun hm1 => hS (key hm1))
  have hS' : ∀ w'', (1 < m → T w'') → SAt n0 T (listed.setIfInBounds i true) w'' := by
   intro w'' hT'' hl
   by_cases hin0 : i = n0
   · subst hin0
     rw [getD_set_same' (by rw [inv.size]; exact hin)] at hl
     cases hl
   · rw [getD_set_ne false hin0] at hl
     by_cases hmem : n0 ∈ t
     · obtain ⟨j, hj⟩ := List.getElem?_of_mem hmem
       have := hm (j + 1) (by simpa using hj)
       exact hT'' (by omega)
     · rcases hm0 (by simp [hmem, Ne.symm hin0]) with ⟨_, h1⟩ | ⟨_, h1⟩
       · rw [hl] at h1; cases h1
       · exact hT'' (by simp only [List.length_cons] at h1; omega)
  have hm' : ∀ j, t[j]? = some n0 → m - 1 = j + 1 := fun j hj => by have := hm (j + 1) (by simpa using hj); omega
  have hm0' : n0 ∉ t → (m - 1 = 0 ∧ (listed.setIfInBounds i true).getD n0 false = true) ∨ (ops.size ≤ n0 ∧ t.length < m - 1) := by
   intro hmem
   by_cases hin0 : i = n0
   · subst hin0
     have := hm 0 (by simp)
     exact .inl ⟨by omega, getD_set_same' (by rw [inv.size]; exact hin) _⟩
   · rcases hm0 (by simp [hmem, Ne.symm hin0]) with ⟨h0, h1⟩ | ⟨h0, h1⟩
     · exact .inl ⟨by omega, getD_set_true h1⟩
     · exact .inr ⟨h0, by simp only [List.length_cons] at h1; omega⟩
  unfold wpOp
  simp only [hk]
  split
  · rename_i hw
    simp only [hw, if_true] at h2
    exact .inl (Oper.wp_mono (fun a'' w'' h3 => ⟨hS' w'' h3.1, wpAnyE_tail hT t tl (m - 1) _ a'' w'' ht inv' hm' hm0' hB.2 h3.2⟩) h2)
  · rename_i hw
    simp only [hw] at h2
    exact ⟨hS' w' h2.1, wpAnyE_tail hT t tl (m - 1) _ _ w' ht inv' hm' hm0' hB.2 h2.2⟩

theorem wpAnyE_head (hT : ∀ w w', Ext w w' → T w → T w') (hsel : Region.noSelect ops = true) (hQ : ∀ c a d v w, Q (.panic c) (a.put d v) w → Q (.panic c) a w) (t : List Nat) (w : World) (n : Nat) {R : Act → Prop}
    (hR : ∀ listed a, HeadInv md ops ops.size listed → permT md ops t listed = true → (ops.size ≤ n0 ∨ listed.getD n0 false = false) → R a → wpAnyE P md ops Q (SAt n0 T) n listed a w) :
    ∀ (q : List Nat) (ql : List Oper) (listed : Array Bool) (a : Act), q.map (ops[·]?) = ql.map some → HeadInv md ops ops.size listed → (ops.size ≤ n0 ∨ listed.getD n0 false = false) →
    permQ md ops n0 t q listed = true → wpE P ops T R ql a → wpAnyE P md ops Q (SAt n0 T) (q.length + n) listed a w
 | [], ql, listed, a, hq, inv, h0, hB, h => by
  cases ql with
  | nil => rw [List.length_nil, Nat.zero_add]; exact hR listed a inv hB h0 h
  | cons o ql => simp at hq
 | i :: q, [], listed, a, hq, inv, h0, hB, h => by simp at hq
 | i :: q, o :: ql, listed, a, hq, inv, h0, hB, h => by
  simp only [List.map_cons, List.cons.injEq] at hq
  obtain ⟨hi, hq⟩ := hq
  simp only [permQ, Bool.and_eq_true, decide_eq_true_eq, Bool.or_eq_true] at hB
  obtain ⟨⟨⟨⟨hr, hf⟩, hne⟩, hwait⟩, hB'⟩ := hB
  have hr' : i ∈ Region.ready md ops listed := by simpa using hr
  have hin : i < ops.size := (Array.getElem?_eq_some_iff.1 hi).1
  have hy : ∃ v, YE P ops T o v a ∧ wpE P ops T R ql (a.put o.dst v) := by
   unfold wpE at h
   by_cases hw : Region.wanted o (yielded ops a.tmps) = true
   · rw [if_pos hw] at h
     obtain ⟨v, h1, h2⟩ := h
     exact ⟨v, .inl ⟨hw, h1⟩, h2⟩
   · rw [if_neg hw] at h
     exact ⟨undef, .inr ⟨by simpa using hw, rfl⟩, h⟩
  obtain ⟨v, hy, hK⟩ := hy
  rw [show (i :: q).length + n = (q.length + n) + 1 by simp only [List.length_cons]; omega]
  refine wpAnyE_first hi (Region.noSelect_spec hsel) (fun c a w => hQ c a _ _ w) ?_ ?_ ?_ (q.length + n) listed a w inv (Region.free_spec hi hf) hr' hy ?_
  · intro listed' w' inv' hun hS
    refine hS ?_
    cases hl : listed'.getD n0 false with
    | false => rfl
    | true =>
     rcases hwait with hwait | hwait
     · obtain ⟨o', ho', e, he, hb, hon⟩ := Region.waitsFor_spec hwait
       have := inv'.closed n0 o' ho' hl e he hb
       rw [hon, getD_both' hun] at this
       cases this
     · have : listed'.size ≤ n0 := by rw [inv'.size]; exact hwait
       simp [Array.getElem?_eq_none this] at hl
  · intro listed' w1 w2 he hS hl
    rw [getD_set_ne false hne] at hl
    exact hT _ _ he (hS hl)
  · intro listed' w1 j hji hS hl
    refine hS ?_
    rw [Array.setIfInBounds_comm _ _ (Ne.symm hji), getD_set_ne false hne]
    exact hl
  · refine wpAnyE_head hT hsel hQ t w n hR q ql _ _ hq (inv.set hr' hin) ?_ hB' hK
    rcases h0 with h0 | h0
    · exact .inl h0
    · exact .inr (by rw [getD_set_ne false hne]; exact h0)
end

section
variable {P : Program} {l : List Oper} {rest : List Oper} {o : Oper} {a : Act} {w w0 : World} {B : Nat} {L E : List Ent} {Q : Exit → Act → World → Prop} {R : Act → Prop} {ops : Array Oper} {m : Nat}

def OwnE (B : Nat) (w0 : World) (L : List Ent) (w : World) : Prop := Own B w0 w L

def Tail (P : Program) (ops : Array Oper) (B : Nat) (w0 : World) (L : List Ent) (Q : Exit → Act → World → Prop) (m : Nat) (E : List Ent) (tl : List Oper) (a : Act) : Prop :=
 ∀ w, Own B w0 w E → wpT P ops (OwnE B w0 L) Q m tl a w

def pickOps (l : List Oper) : List Nat → Option (List Oper)
 | [] => some []
 | i :: q => match l[i]?, pickOps l q with
  | some o, some r => some (o :: r)
  | _, _ => none

theorem pickOps_map (l : List Oper) : ∀ (q : List Nat) (ql : List Oper), pickOps l q = some ql → q.map (l[·]?) = ql.map some
 | [], ql, h => by cases h; rfl
 | i :: q, ql, h => by
  unfold pickOps at h
  split at h
  · rename_i o r h1 h2
    cases h
    simp only [List.map_cons, h1, pickOps_map l q r h2]
  · cases h

def keepsOf (n0 : Nat) (size : Nat) (t : List Nat) : Nat := if size ≤ n0 then t.length + 1 else t.idxOf n0 + 1

theorem re_startE {id : Nat} (q t : List Nat) (n0 : Nat) {ql tl : List Oper} (hEL : ∀ w, Own B w0 w E → Own B w0 w L) (hm : P.follows .mixedOrders = true) (hsel : Region.noSelect l.toArray = true) (hq' : pickOps l q = some ql) (ht' : pickOps l t = some tl)
    (hlen : q.length + t.length = l.length) (hn0 : (decide (l.length ≤ n0) || t.contains n0) = true) (hB : permQ .any l.toArray n0 t q (Array.replicate l.length false) = true)
    (hQ' : ∀ c a d v w, Q (.panic c) (a.put (some d) v) w → Q (.panic c) a w)
    (h : wpE P l.toArray (OwnE B w0 L) (fun a' => Tail P l.toArray B w0 L Q (keepsOf n0 l.length t) E tl a') ql a) (hR : Own B w0 w E) : (Code.region id l.toArray true).wp P Q a w := by
 have hT : ∀ w w', Ext w w' → OwnE B w0 L w → OwnE B w0 L w' := fun _ _ he hw => Own.ext hw he
 have hq := pickOps_map l q ql hq'
 have ht := pickOps_map l t tl ht'
 have hQ : ∀ c a d v w, Q (.panic c) (a.put d v) w → Q (.panic c) a w := fun c a d v w h => by
  cases d with
  | none => exact h
  | some d => exact hQ' c a d v w h
 have inv0 : HeadInv .any l.toArray l.toArray.size (Array.replicate l.length false) :=
  ⟨by simp, fun j oj _ hl => (by rw [getD_replicate_false] at hl; cases hl), fun t h1 h2 => absurd h2 (by omega)⟩
 have hun : ∀ (t : List Nat) (listed : Array Bool), permT .any l.toArray t listed = true → n0 ∈ t → listed.getD n0 false = true → False := by
  intro t
  induction t with
  | nil => intro _ _ hn; cases hn
  | cons k t ih =>
   intro listed hB hn hl
   simp only [permT, Bool.and_eq_true, decide_eq_true_eq] at hB
   rcases List.mem_cons.1 hn with rfl | hn
   · have : n0 ∈ Region.ready .any l.toArray listed := by rw [hB.1]; simp
     have := getD_both' (mem_ready.1 this).1
     rw [hl] at this; cases this
   · exact ih _ hB.2 hn (getD_set_true hl)
 have hnd : ∀ (t : List Nat) (listed : Array Bool), permT .any l.toArray t listed = true → ∀ k, t[k]? = some n0 → t.idxOf n0 = k := by
  intro t
  induction t with
  | nil => intro _ _ k hk; simp at hk
  | cons x t ih =>
   intro listed hB k hk
   simp only [permT, Bool.and_eq_true, decide_eq_true_eq] at hB
   cases k with
   | zero => simp at hk; subst hk; simp
   | succ k =>
    have hk' : t[k]? = some n0 := by simpa using hk
    have hne : x ≠ n0 := by
     intro e
     have hx : x ∈ Region.ready .any l.toArray listed := by rw [hB.1]; simp
     obtain ⟨_, o, ho, _⟩ := mem_ready.1 hx
     have hxs : x < listed.size := by
      rcases Nat.lt_or_ge x listed.size with h' | h'
      · exact h'
      · have := (mem_ready.1 hx).1
        simp [Array.getElem?_eq_none h'] at this
     have h3 := getD_set_same' hxs false
     rw [e] at h3
     have h4 := hB.2
     rw [e] at h4
     exact hun t _ h4 (List.mem_of_getElem? hk') h3
    have hb : (x == n0) = false := beq_eq_false_iff_ne.2 hne
    rw [List.idxOf_cons, ih _ hB.2 k hk', hb]
    rfl
 refine wp_region_any hm (wpAny_of_E (S := SAt n0 (OwnE B w0 L)) _ _ _ _ ?_ ?_)
 · exact fun _ => (hEL _ hR).ext ⟨rfl, rfl, rfl, Nat.le_refl _, fun _ _ => rfl⟩
 · have hsz : l.toArray.size = q.length + t.length := by simp [hlen]
   rw [hsz]
   have hrep : Array.replicate (q.length + t.length) false = Array.replicate l.length false := by rw [hlen]
   rw [hrep]
   refine wpAnyE_head hT hsel hQ t _ t.length ?_ q ql _ a (by simpa using hq) inv0 ?_ hB h
   · intro listed a' inv hBt h0 hTail
     refine wpAnyE_tail hT t tl (keepsOf n0 l.length t) listed a' _ (by simpa using ht) inv ?_ ?_ hBt ?_
     · intro k hk
       have h1 := hnd t listed hBt k hk
       have : n0 ∈ t := List.mem_of_getElem? hk
       have hn : ¬ l.length ≤ n0 := by
        intro hge
        have hmap : (l[n0]?) ∈ t.map (l[·]?) := List.mem_map.2 ⟨n0, this, rfl⟩
        rw [ht] at hmap
        obtain ⟨x, _, hx⟩ := List.mem_map.1 hmap
        rw [List.getElem?_eq_none hge] at hx
        cases hx
       unfold keepsOf
       rw [if_neg hn, h1]
     · intro hmem
       have hge : l.length ≤ n0 := by
        simp only [Bool.or_eq_true, decide_eq_true_eq] at hn0
        rcases hn0 with h | h
        · exact h
        · exact absurd (by simpa using h) hmem
       refine .inr ⟨by simpa using hge, ?_⟩
       unfold keepsOf
       rw [if_pos hge]
       omega
     · exact hTail _ (hR.ext ⟨rfl, rfl, rfl, Nat.le_refl _, fun _ _ => rfl⟩)
   · right
     rw [getD_replicate_false]

theorem re_start {id : Nat} (q t : List Nat) (n0 : Nat) {ql tl : List Oper} (hm : P.follows .mixedOrders = true) (hsel : Region.noSelect l.toArray = true) (hq' : pickOps l q = some ql) (ht' : pickOps l t = some tl)
    (hlen : q.length + t.length = l.length) (hn0 : (decide (l.length ≤ n0) || t.contains n0) = true) (hB : permQ .any l.toArray n0 t q (Array.replicate l.length false) = true)
    (hQ' : ∀ c a d v w, Q (.panic c) (a.put (some d) v) w → Q (.panic c) a w)
    (h : wpE P l.toArray (OwnE B w0 L) (fun a' => Tail P l.toArray B w0 L Q (keepsOf n0 l.length t) L tl a') ql a) (hR : Own B w0 w L) : (Code.region id l.toArray true).wp P Q a w :=
 re_startE q t n0 (fun _ h => h) hm hsel hq' ht' hlen hn0 hB hQ' h hR

theorem re_skip {T : World → Prop} (hw : Region.wanted o (yielded ops a.tmps) = false) (h : wpE P ops T R rest (a.put o.dst undef)) : wpE P ops T R (o :: rest) a := by
 unfold wpE
 rw [if_neg (by rw [hw]; exact Bool.false_ne_true)]
 exact h
theorem re_do (hw : Region.wanted o (yielded ops a.tmps) = true) {v : Value} (hv : ∀ w, Own B w0 w L → o.quietAt P a (Ext w) w v) (h : wpE P ops (OwnE B w0 L) R rest (a.put o.dst v)) : wpE P ops (OwnE B w0 L) R (o :: rest) a := by
 unfold wpE
 rw [if_pos hw]
 exact ⟨v, hv, h⟩
theorem re_move (hw : Region.wanted o (yielded ops a.tmps) = true) {x : Operand} (ho : o.op = .move x) {v : Value} (hx : a.eval x = v) (h : wpE P ops (OwnE B w0 L) R rest (a.put o.dst v)) : wpE P ops (OwnE B w0 L) R (o :: rest) a := by
 refine re_do hw (fun w _ => ?_) h
 unfold Oper.quietAt execOp
 rw [ho]
 exact ⟨rfl, hx⟩
theorem re_assign (hw : Region.wanted o (yielded ops a.tmps) = true) {x : Operand} (ho : o.op = .assign x) {v : Value} (hx : a.eval x = v) (h : wpE P ops (OwnE B w0 L) R rest (a.put o.dst v)) : wpE P ops (OwnE B w0 L) R (o :: rest) a := by
 refine re_do hw (fun w _ => ?_) h
 unfold Oper.quietAt execOp
 rw [ho]
 exact ⟨rfl, hx⟩
theorem re_pure (hw : Region.wanted o (yielded ops a.tmps) = true) {v : Value} (hv : ∀ w, (execOp a.eval o).run P w = .ok (.value v) w) (h : wpE P ops (OwnE B w0 L) R rest (a.put o.dst v)) : wpE P ops (OwnE B w0 L) R (o :: rest) a := by
 refine re_do hw (fun w _ => ?_) h
 unfold Oper.quietAt
 rw [hv]
 exact ⟨rfl, rfl⟩
theorem re_read (hw : Region.wanted o (yielded ops a.tmps) = true) {v : Value} (hv : ∀ w, Own B w0 w L → (execOp a.eval o).run P w = .ok (.value v) w) (h : wpE P ops (OwnE B w0 L) R rest (a.put o.dst v)) : wpE P ops (OwnE B w0 L) R (o :: rest) a := by
 refine re_do hw (fun w hR => ?_) h
 unfold Oper.quietAt
 rw [hv w hR]
 exact ⟨rfl, rfl⟩
theorem re_load_agg (hw : Region.wanted o (yielded ops a.tmps) = true) {t : TypeId} {x : Operand} (ho : o.op = .load t x) {b off : Nat} (hx : a.eval x = .pointer (some ⟨b, off, none⟩))
    {n : Nat} (ht : Agg P t n) {cs : Array Value} {u : TypeId} (hm : ⟨b, cs, u⟩ ∈ L) (hn : Nat.ble (off + n) cs.size = true) {ds : Array Value} (hd : cs.extract off (off + n) = ds)
    (h : wpE P ops (OwnE B w0 L) R rest (a.put o.dst (.agg ds))) : wpE P ops (OwnE B w0 L) R (o :: rest) a := by
 refine re_read hw (fun w hR => ?_) h
 subst hd
 have hg := (hR.rows _ hm).2
 unfold execOp
 rw [ho]
 simp [hx, Instr.loadAt, Instr.sureAddr, Sem.run_bind, loadVar_agg ht w b off cs u _ hg (Nat.le_of_ble_eq_true hn)]
theorem re_load_all (hw : Region.wanted o (yielded ops a.tmps) = true) {t : TypeId} {x : Operand} (ho : o.op = .load t x) {b : Nat} (hx : a.eval x = .pointer (some ⟨b, 0, none⟩))
    {n : Nat} (ht : Agg P t n) {cs : Array Value} {u : TypeId} (hm : ⟨b, cs, u⟩ ∈ L) (hn : cs.size = n)
    (h : wpE P ops (OwnE B w0 L) R rest (a.put o.dst (.agg cs))) : wpE P ops (OwnE B w0 L) R (o :: rest) a :=
 re_load_agg hw ho hx ht hm (Nat.ble_eq_true_of_le (by omega)) (ds := cs) (by simp [← hn]) h
theorem re_load_one (hw : Region.wanted o (yielded ops a.tmps) = true) {t : TypeId} {x : Operand} (ho : o.op = .load t x) {b off : Nat} (hx : a.eval x = .pointer (some ⟨b, off, none⟩))
    (ht : One P t) {cs : Array Value} {u : TypeId} (hm : ⟨b, cs, u⟩ ∈ L) {v : Value} (hv : cs[off]? = some v)
    (h : wpE P ops (OwnE B w0 L) R rest (a.put o.dst v)) : wpE P ops (OwnE B w0 L) R (o :: rest) a := by
 refine re_read hw (fun w hR => ?_) h
 have hg := (hR.rows _ hm).2
 unfold execOp
 rw [ho]
 simp [hx, Instr.loadAt, Instr.sureAddr, Sem.run_bind, loadVar_one ht w b off cs u _ v hg hv]
theorem re_load_arg (hw : Region.wanted o (yielded ops a.tmps) = true) {t : TypeId} {x : Operand} (ho : o.op = .load t x) {b off : Nat} (hx : a.eval x = .pointer (some ⟨b, off, none⟩))
    (ht : One P t) (hb : b < B) {v : Value} (hv : w0.cell? ⟨b, off, none⟩ = some v) (h : wpE P ops (OwnE B w0 L) R rest (a.put o.dst v)) : wpE P ops (OwnE B w0 L) R (o :: rest) a := by
 refine re_read hw (fun w hR => ?_) h
 have hc : w.cell? ⟨b, off, none⟩ = some v := (hR.below.cell (p := ⟨b, off, none⟩) hb).trans hv
 unfold execOp
 rw [ho]
 simp [hx, Instr.loadAt, Instr.sureAddr, Sem.run_bind, loadVar_cell ht w _ v hc]
theorem re_index1 (hw : Region.wanted o (yielded ops a.tmps) = true) {t : TypeId} {x y : Operand} (ho : o.op = .indexAddr t x y) {e : TypeId} (hu : P.underlying t = some (.slice e)) (hs : (P.info? e).map (·.size) = some 1) {b off len cap k : Nat} {kd : IntKind}
    (hx : a.eval x = .slice (some ⟨b, off, none⟩) len cap) (hy : a.eval y = .int kd (k : Int)) (hk : k < len) (h : wpE P ops (OwnE B w0 L) R rest (a.put o.dst (.pointer (some ⟨b, off + k, none⟩)))) : wpE P ops (OwnE B w0 L) R (o :: rest) a := by
 refine re_pure hw (fun w => ?_) h
 unfold execOp
 rw [ho]
 simp [hx, hy, Sem.run_bind, run_index1 hu hs w b off len cap k kd hk]
theorem re_eql (hw : Region.wanted o (yielded ops a.tmps) = true) {t ty : TypeId} {x y : Operand} (ho : o.op = .binOp .eql t x y ty) {xs ys : Array Value} (hx : a.eval x = .agg xs) (hy : a.eval y = .agg ys)
    (hm : P.eqGuardType P.depth t = false) {r : Bool} (hr : ∀ w, (Op.equalIn 10000 t (.agg xs) (.agg ys)).run P w = .ok r w) (h : wpE P ops (OwnE B w0 L) R rest (a.put o.dst (.bool r))) : wpE P ops (OwnE B w0 L) R (o :: rest) a := by
 refine re_pure hw (fun w => ?_) h
 unfold execOp
 rw [ho]
 simp [hx, hy, Sem.run_bind, run_eqGuard_agg w .eql t x y xs ys hm, run_eql_struct, hr]
theorem re_neq (hw : Region.wanted o (yielded ops a.tmps) = true) {t ty : TypeId} {x y : Operand} (ho : o.op = .binOp .neq t x y ty) {xs ys : Array Value} (hx : a.eval x = .agg xs) (hy : a.eval y = .agg ys)
    (hm : P.eqGuardType P.depth t = false) {r : Bool} (hr : ∀ w, (Op.equalIn 10000 t (.agg xs) (.agg ys)).run P w = .ok r w) (h : wpE P ops (OwnE B w0 L) R rest (a.put o.dst (.bool (!r)))) : wpE P ops (OwnE B w0 L) R (o :: rest) a := by
 refine re_pure hw (fun w => ?_) h
 unfold execOp
 rw [ho]
 simp [hx, hy, Sem.run_bind, run_eqGuard_agg w .neq t x y xs ys hm, run_neq_struct, hr]
theorem re_max (hw : Region.wanted o (yielded ops a.tmps) = true) {x y : Operand} {ts : Array TypeId} (ho : o.op = .call { callee := .builtin .max, args := #[x, y], argTypes := ts }) {k : IntKind} {m n : Int} (hx : a.eval x = .int k m) (hy : a.eval y = .int k n)
    (h : wpE P ops (OwnE B w0 L) R rest (a.put o.dst (.int k (max m n)))) : wpE P ops (OwnE B w0 L) R (o :: rest) a := by
 refine re_pure hw (fun w => ?_) h
 have e : max m n = if n > m then n else m := by rw [Int.max_def]; split <;> split <;> omega
 unfold execOp
 rw [ho]
 simp only [resolve, builtin]
 simp [Sem.run_bind, hx, hy, e, invoke, builtin, run_max_int2]
theorem re_min (hw : Region.wanted o (yielded ops a.tmps) = true) {x y : Operand} {ts : Array TypeId} (ho : o.op = .call { callee := .builtin .min, args := #[x, y], argTypes := ts }) {k : IntKind} {m n : Int} (hx : a.eval x = .int k m) (hy : a.eval y = .int k n)
    (h : wpE P ops (OwnE B w0 L) R rest (a.put o.dst (.int k (min m n)))) : wpE P ops (OwnE B w0 L) R (o :: rest) a := by
 refine re_pure hw (fun w => ?_) h
 have e : min m n = if n < m then n else m := by rw [Int.min_def]; split <;> split <;> omega
 unfold execOp
 rw [ho]
 simp only [resolve, builtin]
 simp [Sem.run_bind, hx, hy, e, invoke, builtin, run_min_int2]
theorem re_call (hw : Region.wanted o (yielded ops a.tmps) = true) {f : FuncId} {xs : Array Operand} {ts : Array TypeId} (ho : o.op = .call { callee := .value (.func f), args := xs, argTypes := ts }) {args : Array Value}
    {v : Value} (hc : ∀ w, Own B w0 w L → Calls P f args w (Ret w v)) (ha' : xs.toList.map a.eval = args.toList) {fn : Func} (hf : P.funcs[f]? = some fn) (hok : (fn.name == "runtime.NumGoroutine" || fn.body.isNone) = false) (h : wpE P ops (OwnE B w0 L) R rest (a.put o.dst v)) : wpE P ops (OwnE B w0 L) R (o :: rest) a := by
 refine re_do hw (fun w hR => ?_) h
 obtain ⟨h1, h2⟩ := Bool.or_eq_false_iff.1 hok
 have ha : xs.map a.eval = args := by rw [← Array.toList_inj, Array.toList_map]; exact ha'
 have hr : (callFunc f args).run P w = .ok (.enter f args) w := by
  unfold callFunc
  rw [Sem.run_bind]
  simp only [run_program, Result.andThen_ok, hf, h1, h2]
  rfl
 have : (execOp a.eval o).run P w = .ok (.enter f args) w := by
  unfold execOp
  rw [ho]
  simp [resolve, Deferred.ofValue, Act.eval, ha, invoke, hr]
 unfold Oper.quietAt
 rw [this]
 exact ⟨rfl, hc w hR⟩

theorem rt_end (h : ∀ w', Own B w0 w' E → Q .normal a w') : Tail P ops B w0 L Q m E [] a := fun _ hw w' he => h w' (hw.ext he)

theorem rt_do (hw : Region.wanted o (yielded ops a.tmps) = true) (h : ∀ w', Own B w0 w' E → o.wp P a w' (fun a'' w'' => (1 < m → Own B w0 w'' L) ∧ wpT P ops (OwnE B w0 L) Q (m - 1) rest a'' w'') Q) : Tail P ops B w0 L Q m E (o :: rest) a := by
 intro w hR w' he _
 rw [if_pos hw]
 exact h w' (hR.ext he)

theorem rt_pure (hw : Region.wanted o (yielded ops a.tmps) = true) {v : Value} (hv : ∀ w, (execOp a.eval o).run P w = .ok (.value v) w) (hE : m ≤ 1 ∨ ∀ w, Own B w0 w E → Own B w0 w L) (h : Tail P ops B w0 L Q (m - 1) E rest (a.put o.dst v)) : Tail P ops B w0 L Q m E (o :: rest) a := by
 refine rt_do hw fun w hR => ?_
 unfold Oper.wp
 rw [hv]
 exact ⟨fun hm => hE.elim (fun h1 => absurd hm (by omega)) (fun h1 => h1 w hR), h w hR⟩
theorem rt_assign (hw : Region.wanted o (yielded ops a.tmps) = true) {x : Operand} (ho : o.op = .assign x) {v : Value} (hx : a.eval x = v) (hE : m ≤ 1 ∨ ∀ w, Own B w0 w E → Own B w0 w L) (h : Tail P ops B w0 L Q (m - 1) E rest (a.put o.dst v)) : Tail P ops B w0 L Q m E (o :: rest) a := by
 refine rt_pure hw (fun w => ?_) hE h
 unfold execOp
 rw [ho, ← hx]
 rfl
theorem rt_move (hw : Region.wanted o (yielded ops a.tmps) = true) {x : Operand} (ho : o.op = .move x) {v : Value} (hx : a.eval x = v) (hE : m ≤ 1 ∨ ∀ w, Own B w0 w E → Own B w0 w L) (h : Tail P ops B w0 L Q (m - 1) E rest (a.put o.dst v)) : Tail P ops B w0 L Q m E (o :: rest) a := by
 refine rt_pure hw (fun w => ?_) hE h
 unfold execOp
 rw [ho, ← hx]
 rfl
theorem rt_alloc (hw : Region.wanted o (yielded ops a.tmps) = true) {t : TypeId} (ho : o.op = .alloc t) {cs : Array Value} (hz : (P.info? t).bind (·.zero) = some (.agg cs)) (hE : ∀ w, Own B w0 w E → Own B w0 w L)
    (h : ∀ b : Nat, Tail P ops B w0 L Q (m - 1) (⟨b, cs, t⟩ :: E) rest (a.put o.dst (.pointer (some ⟨b, 0, none⟩)))) : Tail P ops B w0 L Q m E (o :: rest) a := by
 refine rt_do hw fun w hR => ?_
 have hz' : (zeroValue t).run P w = .ok (.agg cs) w := by
  cases hq : P.info? t with
  | none => simp [hq] at hz
  | some i => simp [hq] at hz; simp [zeroValue, typeInfo, hq, hz]
 have : (execOp a.eval o).run P w = .ok (.value (.pointer (some ⟨w.heap.size, 0, none⟩))) (w.alloc (.cells cs t)) := by
  unfold execOp
  rw [ho]
  simp [Instr.alloc, Sem.run_bind, hz', newVar, newRow, Value.cells]
 unfold Oper.wp
 rw [this]
 exact ⟨fun _ => hE _ (hR.alloc cs t).drop, h _ _ (hR.alloc _ _)⟩
theorem rt_box (hw : Region.wanted o (yielded ops a.tmps) = true) {t : TypeId} {x : Operand} (ho : o.op = .box t x) {cs : Array Value} (hc : (a.eval x).cells = cs) (hE : ∀ w, Own B w0 w E → Own B w0 w L)
    (h : ∀ b : Nat, Tail P ops B w0 L Q (m - 1) (⟨b, cs, t⟩ :: E) rest (a.put o.dst (.pointer (some ⟨b, 0, none⟩)))) : Tail P ops B w0 L Q m E (o :: rest) a := by
 refine rt_do hw fun w hR => ?_
 unfold Oper.wp execOp
 rw [ho]
 subst hc
 exact ⟨fun _ => hE _ (hR.alloc _ t).drop, h _ _ (hR.alloc _ _)⟩
theorem rt_store (hw : Region.wanted o (yielded ops a.tmps) = true) {t : TypeId} {x y : Operand} (ho : o.op = .store t x y) {b off : Nat} (hx : a.eval x = .pointer (some ⟨b, off, none⟩))
    {n : Nat} (ht : (P.info? t).map (·.size) = some n) {v : Value} (hy : a.eval y = v) (hv : v.cells.size = n) (hone : v.cells.toList.all (·.oneCell') = true)
    {cs cs' : Array Value} {u : TypeId} {E' : List Ent} (_ : ⟨b, cs, u⟩ ∈ E) (hn : Nat.ble (off + n) cs.size = true) (hc : layAt cs off v.cells.toList = cs') (hL : Upd b cs cs' u E E')
    (hE : m ≤ 1 ∨ ∀ w, Own B w0 w E' → Own B w0 w L) (h : Tail P ops B w0 L Q (m - 1) E' rest (a.put o.dst undef)) : Tail P ops B w0 L Q m E (o :: rest) a := by
 refine rt_do hw fun w hR => ?_
 subst hc
 obtain ⟨pre, post, h1, h2⟩ := hL.split
 have hg := (hR.rows ⟨b, cs, u⟩ (by rw [h1]; simp)).2
 have : (execOp a.eval o).run P w = .ok .skip (w.setRow b (layAt cs off v.cells.toList)) := by
  unfold execOp
  rw [ho]
  simp [hx, hy, Instr.storeAt, Instr.sureAddr, Sem.run_bind, storeVar_row ht w b off cs u _ hg hv hone (Nat.le_of_ble_eq_true hn)]
 unfold Oper.wp
 rw [this]
 subst h1
 have hR' : Own B w0 (w.setRow b (layAt cs off v.cells.toList)) E' := by subst h2; exact hR.set _
 exact ⟨fun hm => hE.elim (fun h1 => absurd hm (by omega)) (fun h1 => h1 _ hR'), h _ hR'⟩
theorem rt_store_all (hw : Region.wanted o (yielded ops a.tmps) = true) {t : TypeId} {x y : Operand} (ho : o.op = .store t x y) {b : Nat} (hx : a.eval x = .pointer (some ⟨b, 0, none⟩))
    {n : Nat} (ht : (P.info? t).map (·.size) = some n) {v : Value} (hy : a.eval y = v) (hv : v.cells.size = n) (hone : v.cells.toList.all (·.oneCell') = true)
    {cs cs' : Array Value} {u : TypeId} {E' : List Ent} (hm : ⟨b, cs, u⟩ ∈ E) (hn : cs.size = n) (hc : v.cells = cs') (hL : Upd b cs cs' u E E')
    (hE : m ≤ 1 ∨ ∀ w, Own B w0 w E' → Own B w0 w L) (h : Tail P ops B w0 L Q (m - 1) E' rest (a.put o.dst undef)) : Tail P ops B w0 L Q m E (o :: rest) a := by
 have : layAt cs 0 v.cells.toList = v.cells := layAt_all _ _ (by omega)
 exact rt_store hw ho hx ht hy hv hone hm (Nat.ble_eq_true_of_le (by omega)) (by rw [this]; exact hc) hL hE h
end
end Go.Proofs.Ytimkhidniolpeaa

namespace Go.Proofs.Ytimkhidniolpeaa
set_option linter.unusedSimpArgs false
set_option linter.unusedVariables false
set_option maxRecDepth 100000
set_option maxHeartbeats 0
open Go.RowKit
variable {P : Program} {ops : Array Oper} {rest : List Oper} {o : Oper} {a : Act} {w w0 : World} {B : Nat} {L E : List Ent} {R : Act → Prop} {Q : Exit → Act → World → Prop} {m : Nat}

theorem re_callv (hw : Region.wanted o (yielded ops a.tmps) = true) {f : FuncId} {x : Operand} {xs : Array Operand} {ts : Array TypeId} (ho : o.op = .call { callee := .value x, args := xs, argTypes := ts }) {cap : Array Value} (hx : a.eval x = .func (.func f) #[] cap) {args : Array Value}
    {v : Value} (ha' : xs.toList.map a.eval = args.toList) (hc : ∀ w, Own B w0 w L → Calls P f (args ++ cap) w (Ret w v)) {fn : Func} (hf : P.funcs[f]? = some fn) (hok : (fn.name == "runtime.NumGoroutine" || fn.body.isNone) = false) (h : wpE P ops (OwnE B w0 L) R rest (a.put o.dst v)) : wpE P ops (OwnE B w0 L) R (o :: rest) a := by
 refine re_do hw (fun w hR => ?_) h
 obtain ⟨h1, h2⟩ := Bool.or_eq_false_iff.1 hok
 have ha : xs.map a.eval = args := by rw [← Array.toList_inj, Array.toList_map]; exact ha'
 have hr : (callFunc f (args ++ cap)).run P w = .ok (.enter f (args ++ cap)) w := by
  unfold callFunc
  rw [Sem.run_bind]
  simp only [run_program, Result.andThen_ok, hf, h1, h2]
  rfl
 have : (execOp a.eval o).run P w = .ok (.enter f (args ++ cap)) w := by
  unfold execOp
  rw [ho]
  simp [resolve, Deferred.ofValue, hx, ha, invoke, hr]
 unfold Oper.quietAt
 rw [this]
 exact ⟨rfl, hc w hR⟩

def RetO (B : Nat) (w0 : World) (E' : List Ent) (v : Value) (e : Ending) (w : World) : Prop := e = .returned v ∧ Own B w0 w E'

theorem RetO.of_ret {w : World} {E : List Ent} {v : Value} {f : FuncId} {args : Array Value} (h : Calls P f args w (Ret w v)) (hR : Own B w0 w E) : Calls P f args w (RetO B w0 E v) :=
 h.mono fun _ _ ⟨he, hb⟩ => ⟨he, hR.ext hb⟩

theorem own_callO {E' : List Ent} {f : FuncId} {args : Array Value} {v : Value} {R : Ending → World → Prop} (hc : Calls P f args w (RetO B w0 E' v)) (h : ∀ w' : World, Own B w0 w' E' → R (.returned v) w') : Calls P f args w R :=
 hc.mono fun _ w' ⟨he, hb⟩ => by subst he; exact h w' hb

theorem Own.perm {E' : List Ent} (h : Own B w0 w E) (hp : E.Perm E') : Own B w0 w E' :=
 ⟨h.below, h.big, fun e he => h.rows e (hp.mem_iff.2 he), ((hp.map _).nodup_iff).1 h.apart⟩

theorem Own.sub {E' : List Ent} (h : Own B w0 w E) (hp : E'.Sublist E) : Own B w0 w E' :=
 ⟨h.below, h.big, fun e he => h.rows e (hp.subset he), h.apart.sublist (hp.map _)⟩

theorem rt_callv (hw : Region.wanted o (yielded ops a.tmps) = true) {f : FuncId} {x : Operand} {xs : Array Operand} {ts : Array TypeId} (ho : o.op = .call { callee := .value x, args := xs, argTypes := ts }) {cap : Array Value} (hx : a.eval x = .func (.func f) #[] cap) {args : Array Value}
    {v : Value} (ha' : xs.toList.map a.eval = args.toList) {E' : List Ent} (hc : ∀ w, Own B w0 w E → Calls P f (args ++ cap) w (RetO B w0 E' v)) {fn : Func} (hf : P.funcs[f]? = some fn) (hok : (fn.name == "runtime.NumGoroutine" || fn.body.isNone) = false)
    (hE : ∀ w, Own B w0 w E' → Own B w0 w L) (h : Tail P ops B w0 L Q (m - 1) E' rest (a.put o.dst v)) : Tail P ops B w0 L Q m E (o :: rest) a := by
 refine rt_do hw fun w hR => ?_
 obtain ⟨h1, h2⟩ := Bool.or_eq_false_iff.1 hok
 have ha : xs.map a.eval = args := by rw [← Array.toList_inj, Array.toList_map]; exact ha'
 have hr : (callFunc f (args ++ cap)).run P w = .ok (.enter f (args ++ cap)) w := by
  unfold callFunc
  rw [Sem.run_bind]
  simp only [run_program, Result.andThen_ok, hf, h1, h2]
  rfl
 have : (execOp a.eval o).run P w = .ok (.enter f (args ++ cap)) w := by
  unfold execOp
  rw [ho]
  simp [resolve, Deferred.ofValue, hx, ha, invoke, hr]
 unfold Oper.wp
 rw [this]
 refine (hc w hR).mono fun e w' he => ?_
 obtain ⟨he, hR'⟩ := he
 subst he
 exact ⟨fun _ => hE w' hR', h w' hR'⟩

theorem calls_hideO {f : FuncId} {args : Array Value} {v : Value} (h : ∀ V : Value, Hid (V = v) → Calls P f args w (RetO B w0 E V)) : Calls P f args w (RetO B w0 E v) := h v rfl

theorem RetO.around {S0 S1 F : List Ent} {f : FuncId} {args : Array Value} {v : Value} (T : List Ent) (h : ∀ w' E, Own B w0 w' (S0 ++ E) → Calls P f args w' (RetO B w0 (S1 ++ E) v)) (hR : Own B w0 w (T ++ (S0 ++ F))) :
    Calls P f args w (RetO B w0 (T ++ (S1 ++ F)) v) :=
 (h w (T ++ F) (hR.perm (List.perm_append_comm_assoc _ _ _))).mono fun _ _ ⟨he, hO⟩ => ⟨he, hO.perm (List.perm_append_comm_assoc _ _ _)⟩

theorem Own.front {T E : List Ent} (h : Own B w0 w (T ++ E)) : Own B w0 w T := h.sub (List.sublist_append_left _ _)

theorem Own.retO {v : Value} {e : Ending} (h : Own B w0 w E) (he : e = .returned v) : RetO B w0 E v e w := ⟨he, h⟩

theorem Own.front1 {e1 : Ent} (h : Own B w0 w (e1 :: E)) : Own B w0 w [e1] := h.front (T := [e1])
theorem Own.front2 {e1 e2 : Ent} (h : Own B w0 w (e1 :: e2 :: E)) : Own B w0 w [e1, e2] := h.front (T := [e1, e2])
theorem Own.front3 {e1 e2 e3 : Ent} (h : Own B w0 w (e1 :: e2 :: e3 :: E)) : Own B w0 w [e1, e2, e3] := h.front (T := [e1, e2, e3])
theorem Own.front4 {e1 e2 e3 e4 : Ent} (h : Own B w0 w (e1 :: e2 :: e3 :: e4 :: E)) : Own B w0 w [e1, e2, e3, e4] := h.front (T := [e1, e2, e3, e4])

theorem setRow_same {g : Nat} {cs : Array Value} {u : TypeId} {fr : Nat × Nat} (hg : w.heap[g]? = some (.cells cs u fr)) : w.setRow g cs = w := by
 have hlt := (Array.getElem?_eq_some_iff.1 hg).1
 cases w with
 | mk heap tape drawn os output =>
  unfold World.setRow
  congr 1
  apply Array.ext
  · simp
  · intro k h1 h2
    rw [Array.getElem_modify]
    split
    · rename_i hk
      subst hk
      rw [(Array.getElem?_eq_some_iff.1 hg).2]
    · rfl

theorem re_store_same (hw : Region.wanted o (yielded ops a.tmps) = true) {t : TypeId} {x y : Operand} (ho : o.op = .store t x y) {b : Nat} (hx : a.eval x = .pointer (some ⟨b, 0, none⟩))
    {n : Nat} (ht : (P.info? t).map (·.size) = some n) {v : Value} (hy : a.eval y = v) (hv : v.cells.size = n) (hone : v.cells.toList.all (·.oneCell') = true)
    {cs : Array Value} {u : TypeId} (hm : ⟨b, cs, u⟩ ∈ L) (hn : cs.size = n) (hc : v.cells = cs) (h : wpE P ops (OwnE B w0 L) R rest (a.put o.dst undef)) : wpE P ops (OwnE B w0 L) R (o :: rest) a := by
 refine re_do hw (fun w hR => ?_) h
 have hg := (hR.rows _ hm).2
 have hl : layAt cs 0 v.cells.toList = v.cells := layAt_all _ _ (by omega)
 have : (execOp a.eval o).run P w = .ok .skip w := by
  unfold execOp
  rw [ho]
  simp [hx, hy, Instr.storeAt, Instr.sureAddr, Sem.run_bind, storeVar_row ht w b 0 cs u _ hg hv hone (by omega), hl]
  rw [hc]
  exact setRow_same hg
 unfold Oper.quietAt
 rw [this]
 exact ⟨rfl, rfl⟩

end Go.Proofs.Ytimkhidniolpeaa
