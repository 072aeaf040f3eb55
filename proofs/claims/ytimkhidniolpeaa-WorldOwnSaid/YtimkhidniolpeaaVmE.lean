/- The small machine: how it runs. Of whatever program. The small machine: games, whose blocks nobody else knows, stay as they are while other rows are written. Of whatever program. -/
import Derived.Test.YtimkhidniolpeaaVmA
namespace Go.Proofs.Ytimkhidniolpeaa
set_option linter.unusedSimpArgs false
set_option linter.unusedVariables false
set_option maxRecDepth 100000
set_option maxHeartbeats 0
open Go.RowKit

structure Tm where
 n : Nat
 cs : List (List SV)

def Tm.get (t : Tm) (i : Nat) : SV := bif Nat.blt i t.n then (t.cs.getD (i / 8) []).getD (i % 8) .top else .top
def Tm.set (t : Tm) (i : Nat) (v : SV) : Tm := ⟨t.n, t.cs.set (i / 8) ((t.cs.getD (i / 8) []).set (i % 8) v)⟩
def Tm.inb (t : Tm) (i : Nat) : Bool := Nat.blt (i % 8) (t.cs.getD (i / 8) []).length
def Tm.list (t : Tm) : List SV := (List.range t.n).map t.get
def chunkGo : Nat → List SV → List (List SV)
 | 0, _ => []
 | n + 1, l => match l with
  | [] => []
  | x :: l' => (x :: l').take 8 :: chunkGo n ((x :: l').drop 8)
def Tm.of (l : List SV) : Tm := ⟨l.length, chunkGo l.length l⟩

theorem Tm.list_get (t : Tm) (i : Nat) : t.list.getD i .top = t.get i := by
 unfold Tm.list
 by_cases h : i < t.n
 · simp [List.getD, h]
 · have hb : Nat.blt i t.n = false := by
    cases hb : Nat.blt i t.n with
    | false => rfl
    | true => exact absurd (by simpa [Nat.blt_eq] using hb) h
   simp [List.getD, h, Tm.get, hb]

theorem Tm.list_get? (t : Tm) (i : Nat) : t.list[i]? = bif Nat.blt i t.n then some (t.get i) else none := by
 unfold Tm.list
 by_cases h : i < t.n
 · have hb : Nat.blt i t.n = true := by simpa [Nat.blt_eq] using h
   simp [h, hb]
 · have hb : Nat.blt i t.n = false := by
    cases hb : Nat.blt i t.n with
    | false => rfl
    | true => exact absurd (by simpa [Nat.blt_eq] using hb) h
   simp [h, hb]

theorem Tm.list_set {t : Tm} {i : Nat} (h : t.inb i = true) (v : SV) : (t.set i v).list = t.list.set i v := by
 have hin : i % 8 < (t.cs.getD (i / 8) []).length := by
  unfold Tm.inb at h
  simpa [Nat.blt_eq] using h
 have hq : i / 8 < t.cs.length := by
  rcases Nat.lt_or_ge (i / 8) t.cs.length with h1 | h1
  · exact h1
  · simp [List.getD, List.getElem?_eq_none h1] at hin
 apply List.ext_getElem?
 intro j
 by_cases hj : j < t.n
 · have hget : (t.set i v).list[j]? = some ((t.set i v).get j) := by unfold Tm.list; simp [Tm.set, hj]
   rw [hget, List.getElem?_set]
   have hl : t.list.length = t.n := by unfold Tm.list; simp
   have hbj : Nat.blt j t.n = true := by simpa [Nat.blt_eq] using hj
   by_cases hij : i = j
   · subst hij
     rw [if_pos rfl, if_pos (by omega)]
     congr 1
     unfold Tm.get Tm.set
     simp only [hbj, cond_true]
     have : (t.cs.set (i / 8) ((t.cs.getD (i / 8) []).set (i % 8) v)).getD (i / 8) [] = (t.cs.getD (i / 8) []).set (i % 8) v := by
      rw [List.getD_eq_getElem?_getD, List.getElem?_set_self hq]
      rfl
     rw [this, List.getD_eq_getElem?_getD, List.getElem?_set_self hin]
     rfl
   · rw [if_neg hij]
     have h2 : t.list[j]? = some (t.get j) := by unfold Tm.list; simp [hj]
     rw [h2]
     congr 1
     unfold Tm.get Tm.set
     simp only [hbj, cond_true]
     by_cases hd : i / 8 = j / 8
     · rw [← hd]
       have : (t.cs.set (i / 8) ((t.cs.getD (i / 8) []).set (i % 8) v)).getD (i / 8) [] = (t.cs.getD (i / 8) []).set (i % 8) v := by
        rw [List.getD_eq_getElem?_getD, List.getElem?_set_self hq]
        rfl
       rw [this, List.getD_eq_getElem?_getD, List.getElem?_set_ne, ← List.getD_eq_getElem?_getD]
       intro hm
       have h3 := Nat.div_add_mod i 8
       have h4 := Nat.div_add_mod j 8
       omega
     · have : (t.cs.set (i / 8) ((t.cs.getD (i / 8) []).set (i % 8) v)).getD (j / 8) [] = t.cs.getD (j / 8) [] := by
        rw [List.getD_eq_getElem?_getD, List.getElem?_set_ne hd, ← List.getD_eq_getElem?_getD]
       rw [this]
 · have h1 : (t.set i v).list[j]? = none := by unfold Tm.list; simp [Tm.set]; omega
   rw [h1, List.getElem?_set]
   have hl : t.list.length = t.n := by unfold Tm.list; simp
   by_cases hij : i = j
   · subst hij; rw [if_pos rfl, if_neg (by omega)]
   · rw [if_neg hij, List.getElem?_eq_none (by omega)]

theorem chunkGo_get : ∀ (n : Nat) (l : List SV), l.length ≤ n → ∀ i, i < l.length → ((chunkGo n l).getD (i / 8) []).getD (i % 8) .top = l.getD i .top
 | 0, l, h, i, hi => by omega
 | n + 1, [], h, i, hi => by simp at hi
 | n + 1, x :: l, h, i, hi => by
  rw [chunkGo]
  by_cases h8 : i < 8
  · rw [show i / 8 = 0 by omega, show i % 8 = i by omega]
    simp only [List.getD_cons_zero]
    rw [List.getD_eq_getElem?_getD, List.getElem?_take_of_lt h8, ← List.getD_eq_getElem?_getD]
  · obtain ⟨q, hq⟩ : ∃ q, i / 8 = q + 1 := ⟨i / 8 - 1, by omega⟩
    rw [hq, List.getD_cons_succ]
    have := chunkGo_get n ((x :: l).drop 8) (by simp at h ⊢; omega) (i - 8) (by simp at hi ⊢; omega)
    rw [show (i - 8) / 8 = q by omega, show (i - 8) % 8 = i % 8 by omega] at this
    rw [this, List.getD_eq_getElem?_getD, List.getElem?_drop, show 8 + (i - 8) = i by omega, ← List.getD_eq_getElem?_getD]

theorem Tm.of_list (l : List SV) : (Tm.of l).list = l := by
 apply List.ext_getElem?
 intro i
 rw [Tm.list_get?]
 by_cases h : i < l.length
 · have hb : Nat.blt i (Tm.of l).n = true := by simpa [Nat.blt_eq, Tm.of] using h
   rw [hb, cond_true]
   unfold Tm.get
   rw [hb, cond_true]
   have := chunkGo_get l.length l (Nat.le_refl _) i h
   change some (((chunkGo l.length l).getD (i / 8) []).getD (i % 8) .top) = _
   rw [this, List.getD_eq_getElem?_getD, List.getElem?_eq_getElem h]
   rfl
 · have hb : Nat.blt i (Tm.of l).n = false := by
    cases hb : Nat.blt i (Tm.of l).n with
    | false => rfl
    | true => exact absurd (by simpa [Nat.blt_eq, Tm.of] using hb) h
   rw [hb, List.getElem?_eq_none (by omega)]
   rfl

structure St where
 tmps : Tm
 rows : List Row

inductive Ex where
 | normal
 | exit (id : Nat)
 | ret

abbrev Res2 := SV × List Row

def St.ev (s : St) : Operand → SV
 | .tmp t => s.tmps.get t
 | .const v => ofValue v
 | .global _ => .top
 | .func f => .fn f []

def putS (ts : List SV) (d : Option Nat) (v : SV) : List SV := match d with
 | some d => ts.set d v
 | none => ts

def putT (ts : Tm) (d : Option Nat) (v : SV) : Tm := match d with
 | some d => ts.set d v
 | none => ts
def inT (ts : Tm) (d : Option Nat) : Bool := match d with
 | some d => ts.inb d
 | none => true
theorem putT_list {ts : Tm} {d : Option Nat} (h : inT ts d = true) (v : SV) : (putT ts d v).list = putS ts.list d v := by
 cases d with
 | none => rfl
 | some d => exact Tm.list_set h v

def wrRows (rows : List Row) : List (Nat × Row) → List Row
 | [] => rows
 | (i, r) :: l => wrRows (rows.set i r) l

def St.after (s : St) (d : Option Nat) (e : Eff) : St := ⟨putT s.tmps d e.val, wrRows s.rows e.wr ++ e.nw⟩

inductive Want where
 | yes
 | no
 | ask (t : Nat) (b want : Bool)
 | lost

def wantS (all : List Oper) (ts : Tm) (o : Oper) : Want :=
 match o.guard with
 | none => .yes
 | some (j, want) => match (all[j]?).bind (·.dst) with
  | none => .no
  | some t => bif Nat.blt t ts.n then (match ts.get t with
   | .bool b => .ask t b want
   | .tuple [] => .no
   | _ => .lost) else .no

structure Rec where
 looks : Nat
 dst : Nat
 rd : Nat
 wr : Nat

def memN (x : Nat) : List Nat → Bool
 | [] => false
 | y :: l => bif Nat.beq x y then true else memN x l
def maskOf : List Nat → Nat
 | [] => 0
 | x :: l => Nat.lor (Nat.shiftLeft 1 x) (maskOf l)
def meets (l m : Nat) : Bool := !(Nat.beq (Nat.land l m) 0)
def ofDst (d : Option Nat) : List Nat := match d with | some d => [d] | none => []
def clash (a b : Rec) : Bool := meets a.dst b.looks || (meets b.dst a.looks || (meets a.dst b.dst || (meets a.wr b.rd || (meets b.wr a.rd || meets a.wr b.wr))))

def looksOf (all : List Oper) (o : Oper) : List Nat :=
 (o.op.operands.toList.filterMap fun | .tmp t => some t | _ => none) ++ (match o.guard with
  | some (g, _) => ((all[g]?).bind (·.dst)).toList
  | none => [])

def edgesOf (o : Oper) : List Nat := o.after.toList.filterMap fun e => if Region.binds .any e then some e.on else none
def ancOf (acc : List Nat) : List Nat → Nat
 | [] => 0
 | i :: l => Nat.lor (Nat.lor (Nat.shiftLeft 1 i) (acc.getD i 0)) (ancOf acc l)
def ancsGo : List Oper → List Nat → List Nat
 | [], acc => acc
 | o :: l, acc => ancsGo l (acc ++ [ancOf acc (edgesOf o)])
def ancs (all : List Oper) : List Nat := ancsGo all []

def clashFree (anc : Nat) (r : Rec) : Nat → List Rec → Bool
 | _, [] => true
 | i, q :: l => (!clash q r || Nat.testBit anc i) && clashFree anc r (i + 1) l
def indepGo : List Nat → List Rec → List Rec → Bool
 | _, _, [] => true
 | [], _, _ => false
 | anc :: ancs, pre, r :: l => clashFree anc r 0 pre && indepGo ancs (pre ++ [r]) l
def backGo : Nat → List Oper → Bool
 | _, [] => true
 | k, o :: l => ((edgesOf o).all fun i => Nat.blt i k) && backGo (k + 1) l
def noSel (all : List Oper) : Bool := all.all fun o => match o.op with
 | .select .. => false
 | _ => true
def indep (all : List Oper) (recs : List Rec) : Bool := backGo 0 all && (noSel all && indepGo (ancs all) [] recs)

def ancF (k : Nat) (acc : List Nat) : List Nat → Nat
 | [] => 0
 | e :: l => Nat.lor (acc.getD (k - 1 - e) 0) (ancF k acc l)
def fastGo : Nat → List Oper → List Rec → List Nat → Nat → Nat → Nat → Nat → Bool
 | _, _, [], _, _, _, _, _ => true
 | _, [], _ :: _, _, _, _, _, _ => false
 | k, o :: os, r :: rs, acc, D, L, R, W =>
  (Nat.beq (Nat.land (Nat.land D r.looks) (ancF k acc (edgesOf o))) (Nat.land D r.looks) && (!meets D r.dst && (!meets L r.dst && (!meets W r.rd && (!meets R r.wr && !meets W r.wr))))) &&
   fastGo (k + 1) os rs (Nat.lor r.dst (ancF k acc (edgesOf o)) :: acc) (Nat.lor D r.dst) (Nat.lor L r.looks) (Nat.lor R r.rd) (Nat.lor W r.wr)
theorem meets_no {a b : Nat} : meets a b = false ↔ ∀ s, a.testBit s = true → b.testBit s = true → False := by
 unfold meets
 rw [Bool.not_eq_false', Nat.beq_eq]
 constructor
 · intro h s h1 h2
   have := Nat.testBit_and a b s
   rw [show Nat.land a b = a &&& b from rfl] at h
   rw [h, h1, h2] at this
   simp at this
 · intro h
   show a &&& b = 0
   apply Nat.eq_of_testBit_eq
   intro s
   rw [Nat.testBit_and]
   cases h1 : a.testBit s with
   | false => simp
   | true =>
    cases h2 : b.testBit s with
    | false => simp
    | true => exact (h s h1 h2).elim
theorem meets_le {a b c : Nat} (h : meets a c = false) (hb : ∀ s, b.testBit s = true → a.testBit s = true) : meets b c = false := meets_no.2 fun s h1 h2 => meets_no.1 h s (hb s h1) h2
theorem meets_sw {a b : Nat} (h : meets a b = false) : meets b a = false := meets_no.2 fun s h1 h2 => meets_no.1 h s h2 h1
theorem lorF_bit (a b s : Nat) : (Nat.lor a b).testBit s = (a.testBit s || b.testBit s) := Nat.testBit_or a b s
theorem ancsGo_pre : ∀ (os : List Oper) (acc : List Nat), ∃ t, ancsGo os acc = acc ++ t
 | [], acc => ⟨[], by simp [ancsGo]⟩
 | o :: os, acc => by
  obtain ⟨t, ht⟩ := ancsGo_pre os (acc ++ [ancOf acc (edgesOf o)])
  exact ⟨ancOf acc (edgesOf o) :: t, by rw [ancsGo, ht]; simp⟩
structure FastI (k : Nat) (pre : List Rec) (ancP acc : List Nat) (D L R W : Nat) : Prop where
 len : pre.length = k
 lanc : ancP.length = k
 dD : ∀ q ∈ pre, ∀ s, q.dst.testBit s = true → D.testBit s = true
 dL : ∀ q ∈ pre, ∀ s, q.looks.testBit s = true → L.testBit s = true
 dR : ∀ q ∈ pre, ∀ s, q.rd.testBit s = true → R.testBit s = true
 dW : ∀ q ∈ pre, ∀ s, q.wr.testBit s = true → W.testBit s = true
 one : ∀ (i j : Nat) (p q : Rec) (s : Nat), pre[i]? = some p → pre[j]? = some q → p.dst.testBit s = true → q.dst.testBit s = true → i = j
 acc : ∀ i, i < k → ∀ s : Nat, (acc.getD (k - 1 - i) 0).testBit s = true → ∃ j q, (j = i ∨ (ancP.getD i 0).testBit j = true) ∧ pre[j]? = some q ∧ q.dst.testBit s = true
theorem ancF_spec {k : Nat} {pre : List Rec} {ancP acc : List Nat} {D L R W : Nat} (h : FastI k pre ancP acc D L R W) : ∀ (es : List Nat), (∀ e ∈ es, e < k) → ∀ s, (ancF k acc es).testBit s = true → ∃ j q, (ancOf ancP es).testBit j = true ∧ pre[j]? = some q ∧ q.dst.testBit s = true
 | [], _, s, hs => by simp [ancF] at hs
 | e :: es, he, s, hs => by
  rw [ancF, lorF_bit, Bool.or_eq_true] at hs
  rcases hs with hs | hs
  · obtain ⟨j, q, hj, h1, h2⟩ := h.acc e (he e (by simp)) s hs
    refine ⟨j, q, ?_, h1, h2⟩
    rw [ancOf, lorF_bit, lorF_bit, Bool.or_eq_true, Bool.or_eq_true]
    rcases hj with rfl | hj
    · exact .inl (.inl (by show (1 <<< j).testBit j = true; simp))
    · exact .inl (.inr hj)
  · obtain ⟨j, q, hj, h1, h2⟩ := ancF_spec h es (fun e' h' => he e' (by simp [h'])) s hs
    refine ⟨j, q, ?_, h1, h2⟩
    rw [ancOf, lorF_bit, hj]
    simp
theorem clashFree_of {anc : Nat} {r : Rec} : ∀ (l : List Rec) (i : Nat), (∀ (j : Nat) (q : Rec), l[j]? = some q → clash q r = false ∨ anc.testBit (i + j) = true) → clashFree anc r i l = true
 | [], _, _ => rfl
 | q :: l, i, h => by
  rw [clashFree, Bool.and_eq_true, Bool.or_eq_true]
  refine ⟨?_, clashFree_of l (i + 1) fun j q' hq => ?_⟩
  · rcases h 0 q (by simp) with h1 | h1
    · exact .inl (by rw [h1]; rfl)
    · exact .inr (by simpa using h1)
  · have := h (j + 1) q' (by simpa using hq)
    rwa [show i + 1 + j = i + (j + 1) by omega]
theorem fast_ok : ∀ (rs : List Rec) (os : List Oper) (k : Nat) (pre : List Rec) (ancP acc : List Nat) (D L R W : Nat), FastI k pre ancP acc D L R W → backGo k os = true → fastGo k os rs acc D L R W = true → indepGo ((ancsGo os ancP).drop k) pre rs = true
 | [], _, _, _, _, _, _, _, _, _, _, _, _ => by simp [indepGo]
 | _ :: _, [], _, _, _, _, _, _, _, _, _, _, h => by simp [fastGo] at h
 | r :: rs, o :: os, k, pre, ancP, acc, D, L, R, W, hI, hb, h => by
  rw [fastGo, Bool.and_eq_true] at h
  obtain ⟨h, hrest⟩ := h
  simp only [Bool.and_eq_true, Bool.not_eq_true'] at h
  obtain ⟨hs, h1, h2, h3, h4, h5⟩ := h
  rw [backGo, Bool.and_eq_true, List.all_eq_true] at hb
  obtain ⟨he, hb⟩ := hb
  have he : ∀ e ∈ edgesOf o, e < k := fun e h => by have := he e h; rwa [Nat.blt_eq] at this
  have hs := Nat.eq_of_beq_eq_true hs
  obtain ⟨t, ht⟩ := ancsGo_pre os (ancP ++ [ancOf ancP (edgesOf o)])
  have hd : (ancsGo (o :: os) ancP).drop k = ancOf ancP (edgesOf o) :: (ancsGo os (ancP ++ [ancOf ancP (edgesOf o)])).drop (k + 1) := by
   rw [ancsGo, ht, ← hI.lanc]
   simp [List.append_assoc, List.drop_append]
  rw [hd, indepGo, Bool.and_eq_true]
  refine ⟨clashFree_of pre 0 fun j q hq => ?_, fast_ok rs os (k + 1) (pre ++ [r]) _ _ _ _ _ _ ?_ hb hrest⟩
  · have hm := List.mem_of_getElem? hq
    cases hk : (ancOf ancP (edgesOf o)).testBit j with
    | true => exact .inr (by rw [Nat.zero_add]; exact hk)
    | false =>
     left
     unfold clash
     have c1 : meets q.dst r.looks = false := meets_no.2 fun s s1 s2 => by
      have hin : (Nat.land D r.looks).testBit s = true := by
       show (D &&& r.looks).testBit s = true
       rw [Nat.testBit_and, hI.dD q hm s s1, s2]; rfl
      rw [← hs] at hin
      have hin2 : ((D &&& r.looks) &&& ancF k acc (edgesOf o)).testBit s = true := hin
      rw [Nat.testBit_and, Bool.and_eq_true] at hin2
      obtain ⟨j', q', hj', hq', hs'⟩ := ancF_spec hI _ he s hin2.2
      have := hI.one j j' q q' s hq hq' s1 hs'
      rw [← this, hk] at hj'
      cases hj'
     rw [c1, meets_sw (meets_le h2 (hI.dL q hm)), meets_le h1 (hI.dD q hm), meets_le h3 (hI.dW q hm), meets_sw (meets_le h4 (hI.dR q hm)), meets_le h5 (hI.dW q hm)]
     rfl
  · have hmem : ∀ q ∈ pre ++ [r], q ∈ pre ∨ q = r := fun q hq => by simpa using hq
    refine ⟨by simp [hI.len], by simp [hI.lanc], fun q hq s hz => ?_, fun q hq s hz => ?_, fun q hq s hz => ?_, fun q hq s hz => ?_, fun i j p q s hi hj hp hq => ?_, fun i hi s hs => ?_⟩
    · rw [lorF_bit, Bool.or_eq_true]
      rcases hmem q hq with hq | rfl
      · exact .inl (hI.dD q hq s hz)
      · exact .inr hz
    · rw [lorF_bit, Bool.or_eq_true]
      rcases hmem q hq with hq | rfl
      · exact .inl (hI.dL q hq s hz)
      · exact .inr hz
    · rw [lorF_bit, Bool.or_eq_true]
      rcases hmem q hq with hq | rfl
      · exact .inl (hI.dR q hq s hz)
      · exact .inr hz
    · rw [lorF_bit, Bool.or_eq_true]
      rcases hmem q hq with hq | rfl
      · exact .inl (hI.dW q hq s hz)
      · exact .inr hz
    · have cs : ∀ (i : Nat) (p : Rec), (pre ++ [r])[i]? = some p → pre[i]? = some p ∨ (i = k ∧ p = r) := fun i p h => by
       by_cases hlt : i < pre.length
       · rw [List.getElem?_append_left hlt] at h; exact .inl h
       · rw [List.getElem?_append_right (by omega)] at h
         have hl := hI.len
         cases hz : i - pre.length with
         | zero => rw [hz] at h; simp at h; exact .inr ⟨by omega, h.symm⟩
         | succ n => rw [hz] at h; simp at h
      have no : ∀ (i : Nat) (p : Rec), pre[i]? = some p → p.dst.testBit s = true → r.dst.testBit s = true → False := fun i p h hp hr => meets_no.1 h1 s (hI.dD p (List.mem_of_getElem? h) s hp) hr
      rcases cs i p hi with hi2 | ⟨e1, e2⟩ <;> rcases cs j q hj with hj2 | ⟨e3, e4⟩
      · exact hI.one i j p q s hi2 hj2 hp hq
      · exact (no i p hi2 hp (e4 ▸ hq)).elim
      · exact (no j q hj2 hq (e2 ▸ hp)).elim
      · omega
    · have pg : ∀ (j : Nat) (q : Rec), pre[j]? = some q → (pre ++ [r])[j]? = some q := fun j q h => by rw [List.getElem?_append_left (List.getElem?_eq_some_iff.1 h).1]; exact h
      by_cases hik : i = k
      · subst hik
        rw [show i + 1 - 1 - i = 0 by omega] at hs
        simp only [List.getD_cons_zero] at hs
        rw [lorF_bit, Bool.or_eq_true] at hs
        have hl := hI.len
        have hla := hI.lanc
        rcases hs with hs | hs
        · exact ⟨i, r, .inl rfl, by rw [List.getElem?_append_right (by omega), hl]; simp, hs⟩
        · obtain ⟨j, q, a1, a2, a3⟩ := ancF_spec hI _ he s hs
          refine ⟨j, q, .inr ?_, pg j q a2, a3⟩
          rw [List.getD_eq_getElem?_getD, List.getElem?_append_right (by omega), hla]
          simpa using a1
      · rw [show k + 1 - 1 - i = (k - 1 - i) + 1 by omega, List.getD_cons_succ] at hs
        obtain ⟨j, q, a1, a2, a3⟩ := hI.acc i (by omega) s hs
        refine ⟨j, q, ?_, pg j q a2, a3⟩
        rcases a1 with a1 | a1
        · exact .inl a1
        · right
          have hla := hI.lanc
          rw [List.getD_eq_getElem?_getD, List.getElem?_append_left (by omega), ← List.getD_eq_getElem?_getD]
          exact a1
def indepF (all : List Oper) (recs : List Rec) : Bool := backGo 0 all && (noSel all && (fastGo 0 all recs [] 0 0 0 0 || indepGo (ancs all) [] recs))
theorem indepF_eq {all : List Oper} {recs : List Rec} (h : indepF all recs = true) : indep all recs = true := by
 unfold indepF at h
 unfold indep
 simp only [Bool.and_eq_true, Bool.or_eq_true] at h ⊢
 refine ⟨h.1, h.2.1, ?_⟩
 rcases h.2.2 with h3 | h3
 · have := fast_ok recs all 0 [] [] [] 0 0 0 0 ⟨rfl, rfl, by simp, by simp, by simp, by simp, by simp, by simp⟩ h.1 h3
   simpa [ancs] using this
 · exact h3

def reachStep (rows : List Row) (ids : List Nat) : List Nat := ids ++ (ids.flatMap fun i => (rows.getD i .gone).idsR)
def dedup : List Nat → List Nat
 | [] => []
 | x :: l => bif memN x l then dedup l else x :: dedup l
def reach (rows : List Row) (args : List SV) : List Nat := dedup (reachStep rows (dedup (reachStep rows (dedup (SV.idsL args)))))
def maskFrom (rch : List Nat) : Nat → List Row → List Row
 | _, [] => []
 | i, r :: l => (bif memN i rch && !r.isObj then r else .gone) :: maskFrom rch (i + 1) l
def wrOf (old rows : List Row) : List Nat → List (Nat × Row)
 | [] => []
 | i :: l => match old[i]?, rows[i]? with
  | some (.own _), some r => (i, r) :: wrOf old rows l
  | some (.vec false _ _), some r => (i, r) :: wrOf old rows l
  | some (.pre false _), some r => (i, r) :: wrOf old rows l
  | _, _ => wrOf old rows l
def closedN (n : Nat) (l : List Nat) : Bool := l.all fun i => Nat.blt i n
def reachOk (rows : List Row) (rch : List Nat) : Bool := closedN rows.length rch && rch.all fun i => (rows.getD i .gone).idsR.all fun j => memN j rch
def inlEff (old : List Row) (rch : List Nat) (v : SV) (rows : List Row) : Eff :=
 bif closedN old.length (v.ids ++ (wrOf old rows rch).flatMap fun x => x.2.idsR) then { val := v, rd := rch, wr := wrOf old rows rch, nw := [] }
 else { val := v, rd := rch, wr := wrOf old rows rch, nw := rows.drop old.length }

def frzRow : Row → Row
 | .own cs => .pre true cs
 | .pre _ cs => .pre true cs
 | .vec _ k xs => .vec true k xs
 | r => r
def roVal (n : Nat) : SV → Bool
 | .ptr _ _ _ _ => true
 | .slice id _ _ _ _ => Nat.ble n id
 | v => v.ids.isEmpty
def newOnly (n : Nat) (r : Row) : Row := bif r.isObj || !(r.idsR.all fun i => Nat.ble n i) then .gone else r
def roEff (old : List Row) (rch : List Nat) (v : SV) (rows : List Row) : Eff :=
 { val := v, rd := rch, nw := bif closedN old.length v.ids then [] else (rows.drop old.length).map (newOnly old.length) }

def wrOk (rows : List Row) : List (Nat × Row) → Bool
 | [] => true
 | (i, _) :: l => (match rows[i]? with
  | some (.own _) => true
  | some (.vec false _ _) => true
  | some (.pre false _) => true
  | _ => false) && ((!memN i (l.map (·.1))) && wrOk rows l)
def wrOkO (rows : List Row) : List (Nat × Row) → Bool
 | [] => true
 | (i, _) :: l => (match rows[i]? with
  | some _ => true
  | none => false) && ((!memN i (l.map (·.1))) && wrOkO rows l)
def plainE (e : Eff) : Bool := (e.wr.all fun x => !x.2.isObj) && e.nw.all fun r => !r.isObj
def effOk (rows : List Row) (op : Op) (e : Eff) : Bool := match e.obj with
 | true => callV op && wrOkO rows e.wr
 | false => wrOk rows e.wr && plainE e

def inlS (X : Ctx) (ev : Operand → SV) : Op → Option (Nat × Func × List SV)
 | .call ⟨.value f, args, _⟩ => match ev f with
  | .fn fid caps => match X.fn fid with
   | some fn => some (fid, fn, args.toList.map ev ++ caps)
   | none => none
  | _ => none
 | _ => none

def recOf (all : List Oper) (o : Oper) (n : Nat) (e : Eff) : Rec := ⟨maskOf (looksOf all o), maskOf (ofDst o.dst), maskOf e.rd, maskOf (e.wr.map (·.1) ++ (List.range e.nw.length).map (n + ·))⟩

def forceL {α β : Type} : List α → (List α → β) → β
 | [], k => k []
 | x :: l, k => forceL l fun m => k (x :: m)
theorem forceL_eq {α β : Type} : ∀ (l : List α) (k : List α → β), forceL l k = k l
 | [], _ => rfl
 | x :: l, k => by rw [forceL, forceL_eq l]
def forceSt {β : Type} (s : St) (k : St → β) : β := forceL s.tmps.cs fun t => forceL s.rows fun r => k ⟨⟨s.tmps.n, t⟩, r⟩
theorem forceSt_eq {β : Type} (s : St) (k : St → β) : forceSt s k = k s := by unfold forceSt; rw [forceL_eq, forceL_eq]

def quietS (X : Ctx) (ev : Operand → SV) (rows : List Row) (op : Op) : Option (Bool × SV) := match pureS X.T ev op with
 | some r => some r
 | none => match memS X ev rows op with
  | some e => match e.obj, e.wr, e.nw with
   | false, [], [] => some (e.ok, e.val)
   | _, _, _ => none
  | none => none
abbrev Knw := List (Nat × Bool × Nat)
def knows (kn : Knw) (j : Nat) (w : Bool) : Bool := kn.any fun x => Nat.beq x.1 j && (x.2.1 == w)
def free? (kn : Knw) (d : Option Nat) : Bool := match d with
 | some d => kn.all fun x => !Nat.beq x.2.2 d
 | none => true
def inBlk (i j0 : Nat) (want : Bool) (o : Oper) : Bool := match o.guard with
 | some (j, w) => (Nat.beq j j0 && (w == want)) || Nat.ble i j
 | none => false
def skipB (all : List Oper) (t : Nat) (want : Bool) : List Oper → Tm → Option Tm
 | [], ts => some ts
 | o :: rest, ts => bif inT ts o.dst && free? [(0, true, t)] o.dst then (match o.guard with
  | some (j, w) => match (all[j]?).bind (·.dst) with
   | none => skipB all t want rest (putT ts o.dst (.tuple []))
   | some g => bif Nat.beq g t && (w == want) then skipB all t want rest (putT ts o.dst (.tuple [])) else match ts.get g with
    | .tuple [] => skipB all t want rest (putT ts o.dst (.tuple []))
    | _ => none
  | none => none) else none
def topB : List Oper → Tm → Tm
 | [], ts => ts
 | o :: rest, ts => topB rest (putT ts o.dst .top)

def wantD (all : List Oper) (kn : Knw) (ts : Tm) (o : Oper) : Want := match o.guard with
 | none => .yes
 | some (j, w) => bif knows kn j w then .yes else wantS all ts o
def pgOk (kn : Knw) (p : Oper) : Bool := match p.guard with
 | none => true
 | some (j, w) => knows kn j w
def evalB (X : Ctx) (all : List Oper) (rows : List Row) : Nat → Nat → Knw → List Oper → Tm → Option (Bool × Tm)
 | 0, _, _, _, _ => none
 | _ + 1, _, _, [], ts => some (true, ts)
 | n + 1, i, kn, o :: rest, ts => bif inT ts o.dst && free? kn o.dst then
     (match wantD all kn ts o with
     | .lost => none
     | .no => evalB X all rows n (i + 1) kn rest (putT ts o.dst (.tuple []))
     | .yes => match quietS X (St.mk ts rows).ev rows o.op with
      | some (ok, v) => match evalB X all rows n (i + 1) kn rest (putT ts o.dst v) with
       | some (ok', ts') => some (ok && ok', ts')
       | none => none
      | none => none
     | .ask t b w => match o.guard with
      | none => none
      | some (j, _) =>
       match (o :: rest).drop ((o :: rest).takeWhile (inBlk i j w)).length with
       | [] => none
       | p :: rest2 =>
        bif pgOk kn p && (inT ts p.dst && (free? ((j, w, t) :: kn) p.dst && ts.inb t)) then
         (match evalB X all rows n i ((j, w, t) :: kn) ((o :: rest).takeWhile (inBlk i j w)) ts, skipB all t w ((o :: rest).takeWhile (inBlk i j w)) ts with
         | some (ok1, ts1), some ts0 => match pureS X.T (St.mk (ts1.set t (.bool w)) rows).ev p.op, pureS X.T (St.mk (ts0.set t (.bool (!w))) rows).ev p.op with
          | some (okA, .bool d1), some (okB, .bool d2) =>
           (match evalB X all rows n (i + ((o :: rest).takeWhile (inBlk i j w)).length + 1) kn rest2 (putT (topB ((o :: rest).takeWhile (inBlk i j w)) ts) p.dst (.bool (bif (b == w) then d1 else d2))) with
           | some (ok', ts') => some ((((ok1 && okA) || b != w) && (okB || b == w)) && ok', ts')
           | none => none)
          | _, _ => none
         | _, _ => none)
        else none)
  else none

def mergeT (X : Ctx) (all : List Oper) (rows : List Row) (i : Nat) (ops : List Oper) (ts : Tm) : Option (Nat × Bool × Tm) := match ops with
 | [] => none
 | o :: _ => match o.guard with
  | none => none
  | some (j, w) => match evalB X all rows (2 * ops.length + 2) i [] (ops.take ((ops.takeWhile (inBlk i j w)).length + 1)) ts with
   | some (ok, ts') => some ((ops.takeWhile (inBlk i j w)).length, ok, ts')
   | none => none

def execOps (X : Ctx) (go : Nat → Func → List SV → List Row → (SV → List Row → Option Res2) → Option Res2) (draw : Bool) (all : List Oper) : List Oper → Nat → St → List Rec → (St → Option Res2) → Option Res2
 | [], _, s, recs, K => bif !draw || indepF all recs.reverse then K s else none
 | _ :: rest, k + 1, s, recs, K => execOps X go draw all rest k s recs K
 | o :: rest, 0, s0, recs, K => forceSt s0 fun s =>
  let body : Bool → Tm → Option Res2 := fun b ts => bif !inT ts o.dst then none else match b with
   | false => execOps X go draw all rest 0 ⟨putT ts o.dst (.tuple []), s.rows⟩ (recOf all o s.rows.length { val := .tuple [] } :: recs) K
   | true => match inlS X (St.mk ts s.rows).ev o.op with
    | some (fid, fn, args) => bif X.ro fid then (bif reachOk s.rows (reach s.rows args) then go fid fn args ((maskFrom (reach s.rows args) 0 s.rows).map frzRow) fun v rows' =>
        bif roVal s.rows.length v then execOps X go draw all rest 0 ((St.mk ts s.rows).after o.dst (roEff s.rows (reach s.rows args) v rows')) (recOf all o s.rows.length (roEff s.rows (reach s.rows args) v rows') :: recs) K else none
     else none) else bif reachOk s.rows (reach s.rows args) then go fid fn args (maskFrom (reach s.rows args) 0 s.rows) fun v rows' =>
      bif wrOk s.rows (inlEff s.rows (reach s.rows args) v rows').wr && plainE (inlEff s.rows (reach s.rows args) v rows') then execOps X go draw all rest 0 ((St.mk ts s.rows).after o.dst (inlEff s.rows (reach s.rows args) v rows')) (recOf all o s.rows.length (inlEff s.rows (reach s.rows args) v rows') :: recs) K else none
     else none
    | none => match pureS X.T (St.mk ts s.rows).ev o.op with
     | some (ok, v) => bif ok then execOps X go draw all rest 0 ⟨putT ts o.dst v, s.rows⟩ (recOf all o s.rows.length { val := v } :: recs) K else none
     | none => match memS X (St.mk ts s.rows).ev s.rows o.op with
      | some e => bif effOk s.rows o.op e then (bif e.ok then execOps X go draw all rest 0 ((St.mk ts s.rows).after o.dst e) (recOf all o s.rows.length e :: recs) K else none) else none
      | none => none
  match wantS all s.tmps o with
  | .lost => none
  | .yes => body true s.tmps
  | .no => body false s.tmps
  | .ask t b want => match (bif draw then none else mergeT X all s.rows (all.length - (o :: rest).length) (o :: rest) s.tmps) with
   | some (k, ok, ts) => bif ok then execOps X go draw all rest k ⟨ts, s.rows⟩ recs K else none
   | none => match b with
    | true => bif s.tmps.inb t then body want (s.tmps.set t (.bool true)) else none
    | false => bif s.tmps.inb t then body (!want) (s.tmps.set t (.bool false)) else none

def resOne (X : Ctx) (s : St) : ResultVar → Option SV
 | .tmp t => some (s.tmps.get t)
 | .cell t ty => match s.tmps.get t, X.T ty with
  | .ptr id st i j, some ti => match s.rows[id]? with
   | some (.own cells) => partS ti cells (i * st + j)
   | _ => none
  | _, _ => none
def resAll (X : Ctx) (s : St) : List ResultVar → Option (List SV)
 | [] => some []
 | r :: l => match resOne X s r, resAll X s l with
  | some v, some vs => some (v :: vs)
  | _, _ => none
def resS (X : Ctx) (fn : Func) (s : St) : Option SV := match resAll X s fn.results.toList with
 | some [v] => some v
 | some vs => some (.tuple vs)
 | none => none

def endS (X : Ctx) (fn : Func) (k : SV → List Row → Option Res2) (e : Ex) (s : St) : Option Res2 := match e with
 | .exit _ => none
 | .normal => match resS X fn s with
  | some v => k v s.rows
  | none => none
 | .ret => match resS X fn s with
  | some v => k v s.rows
  | none => none

abbrev LoopF := St → (Ex → St → Option Res2) → Option Res2

def enterS (fn : Func) (args : List SV) (rows : List Row) : St := ⟨Tm.of (args ++ List.replicate (fn.ntmps - args.length) (.tuple [])), rows⟩

def exec (X : Ctx) (L : Nat → List Nat → Option LoopF) : Nat → Nat → List Nat → Code → St → (Ex → St → Option Res2) → Option Res2
 | 0, _, _, _, _, _ => none
 | n + 1, f, p, c, s, K => match c with
  | .skip => K .normal s
  | .seq a b => exec X L n f (0 :: p) a s fun e s' => match e with
   | .normal => exec X L n f (1 :: p) b s' K
   | .exit i => K (.exit i) s'
   | .ret => K .ret s'
  | .cond c a b => match s.ev c with
   | .bool t => match t with
    | true => exec X L n f (0 :: p) a s K
    | false => exec X L n f (1 :: p) b s K
   | _ => none
  | .block id b => exec X L n f (0 :: p) b s fun e s' => match e with
   | .normal => K .normal s'
   | .exit i => bif Nat.beq i id then K .normal s' else K (.exit i) s'
   | .ret => K .ret s'
  | .loop b => match L f p with
   | some F => F s K
   | none => exec X L n f (0 :: p) b s fun e s' => match e with
    | .normal => exec X L n f p (.loop b) s' K
    | .exit i => K (.exit i) s'
    | .ret => K .ret s'
  | .exit id => K (.exit id) s
  | .ret => K .ret s
  | .region _ ops draw => execOps X (fun fid fn args rows k => match fn.body with
      | some body => exec X L n fid [] body (enterS fn args rows) (endS X fn k)
      | none => none) draw ops.toList ops.toList 0 s [] fun s' => K .normal s'
  | _ => none

def noObj (rows : List Row) : Bool := rows.all fun r => !r.isObj
def runF (X : Ctx) (L : Nat → List Nat → Option LoopF) (n : Nat) (f : Nat) (fn : Func) (args : List SV) (rows : List Row) : Option Res2 := match fn.body with
 | some body => bif noObj rows then exec X L n f [] body (enterS fn args rows) (endS X fn fun v rows => some (v, rows)) else none
 | none => none

end Go.Proofs.Ytimkhidniolpeaa

namespace Go.Proofs.Ytimkhidniolpeaa
set_option linter.unusedSimpArgs false
set_option linter.unusedVariables false
set_option maxRecDepth 100000
set_option maxHeartbeats 0
open Go.RowKit

theorem ptrsS_len : ∀ (n k : Nat), (ptrsS k n).length = n
 | 0, _ => rfl
 | n + 1, k => by rw [ptrsS, List.length_cons, ptrsS_len n]
theorem ptrsS_get : ∀ (n k j : Nat), j < n → (ptrsS k n)[j]? = some (.ptr (k + j) 0 0 0)
 | 0, _, _, h => by omega
 | n + 1, k, 0, _ => by simp [ptrsS]
 | n + 1, k, j + 1, h => by
  rw [ptrsS, List.getElem?_cons_succ, ptrsS_get n (k + 1) j (by omega)]
  congr 2
  omega

theorem WS.rows_len (s : WS) (l : WLay) : (s.rows l).length = 5 + s.ps.length := by
 simp [WS.rows]; omega
theorem WS.rows_player (s : WS) (l : WLay) (k : Nat) : (s.rows l)[5 + k]? = (s.ps[k]?).map fun p => .own p.sv := by
 rw [show 5 + k = k + 5 by omega]
 simp [WS.rows]

section
variable {ρ0 : Rho} {l : WLay} {s : WS} {w : World}

theorem slice_blk {ρ : Rho} {w : World} {b j id st len c : Nat} {v : Value} (h : Rel ρ (.slice id st 0 len (some c)) v) (hc : w.cell? ⟨b, j, none⟩ = some v) : ∃ q, ρ id = some q ∧ sblk w b j = some (q.b, len) ∧ v = .slice (some ⟨q.b, q.base, none⟩) len c := by
 simp only [Rel] at h
 rcases h with ⟨q, o, c', hq, rfl, hcc, ho, _⟩ | ⟨_, h, _⟩
 · have ho : o = q.base := by
    rcases ho with ho | ⟨_, ho⟩
    · omega
    · cases ho
   subst ho
   obtain rfl := hcc _ rfl
   exact ⟨q, hq, by unfold sblk; rw [hc], rfl⟩
 · cases h

theorem WAt.foot (hW : WAt ρ0 l s w) {p : Plc} (h0 : ρ0 0 = some p) (x : Nat) : WFoot w p.b x ↔ ∃ i q, ρ0 i = some q ∧ q.b = x := by
 obtain ⟨p', vs, ty, hp', hb0, hm, hh, hr⟩ := hW.rows 0 _ (by simp [WS.rows]; rfl)
 rw [h0] at hp'; cases hp'
 have hcell : ∀ j v, vs[j]? = some v → w.cell? ⟨p.b, j, none⟩ = some v := fun j v h => by rw [heap_cell hh]; exact h
 obtain ⟨v3, g3, r3⟩ := hr.get (i := 3) (x := .slice 1 1 0 s.cells.length (some l.cc)) rfl
 obtain ⟨v4, g4, r4⟩ := hr.get (i := 4) (x := .slice 2 3 0 s.spawns.length (some l.sc)) rfl
 obtain ⟨q1, e1, s1, _⟩ := slice_blk r3 (hcell _ _ g3)
 obtain ⟨q2, e2, s2, _⟩ := slice_blk r4 (hcell _ _ g4)
 have h6 : (l.pc = none ∧ sblk w p.b 6 = none) ∨ ∃ c q, l.pc = some c ∧ ρ0 3 = some q ∧ sblk w p.b 6 = some (q.b, s.ps.length) ∧ ∀ k, k < s.ps.length → ∃ r, ρ0 (5 + k) = some r ∧ pblk w q.b k = some r.b := by
  cases hpc : l.pc with
  | none =>
   obtain ⟨v, g, r⟩ := hr.get (i := 6) (x := .nils) (by simp [WS.cellsS, hpc])
   simp only [Rel] at r
   subst r
   exact .inl ⟨rfl, by unfold sblk; rw [hcell _ _ g]⟩
  | some c =>
   obtain ⟨v, g, r⟩ := hr.get (i := 6) (x := .slice 3 1 0 s.ps.length (some c)) (by simp [WS.cellsS, hpc])
   obtain ⟨q, e, sb, _⟩ := slice_blk r (hcell _ _ g)
   refine .inr ⟨c, q, rfl, e, sb, fun k hk => ?_⟩
   obtain ⟨q', vs', ty', hq', hqb, _, hqh, _, hqr⟩ := hW.rows 3 (.pre false (ptrsS 5 s.ps.length)) (by simp [WS.rows, hpc])
   rw [e] at hq'; cases hq'
   obtain ⟨u, hu, ru⟩ := hqr.get (ptrsS_get _ 5 k hk)
   simp only [Rel] at ru
   obtain ⟨r, hr1, rfl⟩ := ru
   rw [List.getElem?_take] at hu
   split at hu
   · exact ⟨r, hr1, by unfold pblk; rw [heap_cell hqh, hu]⟩
   · cases hu
 have h7 : (l.hc = none ∧ sblk w p.b 7 = none) ∨ ∃ c q, l.hc = some c ∧ ρ0 4 = some q ∧ sblk w p.b 7 = some (q.b, s.shots.length) := by
  cases hhc : l.hc with
  | none =>
   obtain ⟨v, g, r⟩ := hr.get (i := 7) (x := .nils) (by simp [WS.cellsS, hhc])
   simp only [Rel] at r
   subst r
   exact .inl ⟨rfl, by unfold sblk; rw [hcell _ _ g]⟩
  | some c =>
   obtain ⟨v, g, r⟩ := hr.get (i := 7) (x := .slice 4 11 0 s.shots.length (some c)) (by simp [WS.cellsS, hhc])
   obtain ⟨q, e, sb, _⟩ := slice_blk r (hcell _ _ g)
   exact .inr ⟨c, q, rfl, e, sb⟩
 constructor
 · rintro (rfl | ⟨j, n, hj, hs⟩ | ⟨y, n, k, hs, hk, hp⟩)
   · exact ⟨0, p, h0, rfl⟩
   · rcases hj with rfl | rfl | rfl | rfl
     · rw [s1] at hs; cases hs; exact ⟨1, q1, e1, rfl⟩
     · rw [s2] at hs; cases hs; exact ⟨2, q2, e2, rfl⟩
     · rcases h6 with ⟨_, h6⟩ | ⟨c, q, _, e, h6, _⟩
       · rw [h6] at hs; cases hs
       · rw [h6] at hs; cases hs; exact ⟨3, q, e, rfl⟩
     · rcases h7 with ⟨_, h7⟩ | ⟨c, q, _, e, h7⟩
       · rw [h7] at hs; cases hs
       · rw [h7] at hs; cases hs; exact ⟨4, q, e, rfl⟩
   · rcases h6 with ⟨_, h6⟩ | ⟨c, q, _, e, h6, hpl⟩
     · rw [h6] at hs; cases hs
     · rw [h6] at hs; cases hs
       obtain ⟨r, hr1, hr2⟩ := hpl k hk
       rw [hr2] at hp; cases hp
       exact ⟨5 + k, r, hr1, rfl⟩
 · rintro ⟨i, q, hq, rfl⟩
   match i, hq with
   | 0, hq => rw [h0] at hq; cases hq; exact .inl rfl
   | 1, hq => rw [e1] at hq; cases hq; exact .inr (.inl ⟨3, _, .inl rfl, s1⟩)
   | 2, hq => rw [e2] at hq; cases hq; exact .inr (.inl ⟨4, _, .inr (.inl rfl), s2⟩)
   | 3, hq =>
    rcases h6 with ⟨h6, _⟩ | ⟨c, q', _, e, h6, _⟩
    · rw [(hW.pc h6).1] at hq; cases hq
    · rw [e] at hq; cases hq; exact .inr (.inl ⟨6, _, .inr (.inr (.inl rfl)), h6⟩)
   | 4, hq =>
    rcases h7 with ⟨h7, _⟩ | ⟨c, q', _, e, h7⟩
    · rw [(hW.hc h7).1] at hq; cases hq
    · rw [e] at hq; cases hq; exact .inr (.inl ⟨7, _, .inr (.inr (.inr rfl)), h7⟩)
   | i + 5, hq =>
    by_cases hi : i < s.ps.length
    · rcases h6 with ⟨h6, _⟩ | ⟨c, q', _, e, h6, hpl⟩
      · rw [(hW.pc h6).2] at hi; simp at hi
      · obtain ⟨r, hr1, hr2⟩ := hpl i hi
        rw [show 5 + i = i + 5 by omega, hq] at hr1
        cases hr1
        exact .inr (.inr ⟨_, _, i, h6, hi, hr2⟩)
    · rw [hW.free (i + 5) (by rw [WS.rows_len]; omega)] at hq
      cases hq

theorem WAt.keep (hW : WAt ρ0 l s w) {w' : World} (hs : w.heap.size ≤ w'.heap.size) (hb : ∀ i q, ρ0 i = some q → w'.heap[q.b]? = w.heap[q.b]?) : WAt ρ0 l s w' :=
 ⟨fun i row hi => (hW.rows i row hi).keep (Rho.le.refl _) fun p hp => hb i p hp, fun i p hp => Nat.lt_of_lt_of_le (hW.good i p hp) hs, hW.apart, hW.free, hW.pc, hW.hc, hW.few⟩
end

theorem WIs.size {w : World} {b : Nat} {s : WS} (h : WIs w b s) {x : Nat} (hx : WFoot w b x) : x < w.heap.size := by
 obtain ⟨ρ0, l, p, hW, h0, rfl⟩ := h
 obtain ⟨i, q, hq, rfl⟩ := (hW.foot h0 x).1 hx
 exact hW.good i q hq

theorem WIs.keep {w w' : World} {b : Nat} {s : WS} (h : WIs w b s) (hs : w.heap.size ≤ w'.heap.size) (hb : ∀ x, WFoot w b x → w'.heap[x]? = w.heap[x]?) : WIs w' b s ∧ ∀ x, WFoot w' b x ↔ WFoot w b x := by
 obtain ⟨ρ0, l, p, hW, h0, rfl⟩ := h
 have hW' := hW.keep hs fun i q hq => hb _ ((hW.foot h0 _).2 ⟨i, q, hq, rfl⟩)
 exact ⟨⟨ρ0, l, p, hW', h0, rfl⟩, fun x => (hW'.foot h0 x).trans (hW.foot h0 x).symm⟩

theorem not_both {m : Rws} {i : Nat} {s : WS} (h : m i = some (.obj s)) : ¬ liveAt m i := by
 rintro ⟨row, h1, h2⟩
 rw [h] at h1; cases h1
 simp [Row.live] at h2

theorem mayO_lt {ρ : Rho} {m : Rws} {w : World} (hg : Good ρ w) (ho : ObjI ρ m w) {b : Nat} (h : mayO ρ m w b) : b < w.heap.size := by
 rcases h with ⟨i, p, _, hp, _, rfl⟩ | ⟨i, s, p, hi, hp, hx⟩
 · exact hg i p hp
 · obtain ⟨p', hp', _, _, hs⟩ := ho.is i s hi
   rw [hp] at hp'; cases hp'
   exact hs.size hx

theorem ObjI.step {ρ ρ' : Rho} {m m' : Rws} {w w' : World} (h : ObjI ρ m w) (hle : ρ.le ρ') (hobj : ∀ i s, m' i = some (.obj s) → m i = some (.obj s)) (hs : w.heap.size ≤ w'.heap.size)
    (hb : ∀ b, b < w.heap.size → ¬ mayOf ρ m b → w'.heap[b]? = w.heap[b]?) (hn : ∀ j q, liveAt m' j → ρ' j = some q → (liveAt m j ∧ ρ j = some q) ∨ w.heap.size ≤ q.b ∨ mayOf ρ m q.b) :
    ObjI ρ' m' w' ∧ ∀ i s p, m' i = some (.obj s) → ρ' i = some p → ρ i = some p ∧ ∀ x, WFoot w' p.b x ↔ WFoot w p.b x := by
 have key : ∀ i s, m' i = some (.obj s) → ∃ p, ρ i = some p ∧ ρ' i = some p ∧ p.base = 0 ∧ p.mine = true ∧ WIs w p.b s ∧ WIs w' p.b s ∧ ∀ x, WFoot w' p.b x ↔ WFoot w p.b x := by
  intro i s hi
  have hi0 := hobj i s hi
  obtain ⟨p, hp, h1, h2, h3⟩ := h.is i s hi0
  obtain ⟨h4, h5⟩ := h3.keep hs fun x hx => hb x (h3.size hx) (by
   rintro ⟨j, q, hj, hq, _, rfl⟩
   exact h.out i s p hi0 hp _ hx j q hj hq rfl)
  exact ⟨p, hp, hle i p hp, h1, h2, h3, h4, h5⟩
 refine ⟨⟨fun i s hi => ?_, fun i s p hi hp x hx j q hj hq => ?_, fun i j s t p q hi hj hij hp hq x hx => ?_⟩, fun i s p hi hp => ?_⟩
 · obtain ⟨p, _, h2, h3, h4, _, h6, _⟩ := key i s hi
   exact ⟨p, h2, h3, h4, h6⟩
 · obtain ⟨p', h1, h2, _, _, h5, _, h7⟩ := key i s hi
   rw [hp] at h2; cases h2
   have hx' := (h7 x).1 hx
   rcases hn j q hj hq with ⟨k1, k2⟩ | k1 | ⟨j', q', k1, k2, _, k4⟩
   · exact h.out i s p (hobj i s hi) h1 x hx' j q k1 k2
   · have := h5.size hx'; omega
   · rw [← k4]; exact h.out i s p (hobj i s hi) h1 x hx' j' q' k1 k2
 · obtain ⟨p', h1, h2, _, _, _, _, h7⟩ := key i s hi
   rw [hp] at h2; cases h2
   obtain ⟨q', k1, k2, _, _, _, _, k7⟩ := key j t hj
   rw [hq] at k2; cases k2
   rw [k7]
   exact h.two i j s t p q (hobj i s hi) (hobj j t hj) hij h1 k1 x ((h7 x).1 hx)
 · obtain ⟨p', h1, h2, _, _, _, _, h7⟩ := key i s hi
   rw [hp] at h2; cases h2
   exact ⟨h1, h7⟩

theorem ObjI.none {ρ : Rho} {m : Rws} {w : World} (h : ∀ i s, m i ≠ some (.obj s)) : ObjI ρ m w :=
 ⟨fun i s hi => absurd hi (h i s), fun i s _ hi => absurd hi (h i s), fun i _ s _ _ _ hi => absurd hi (h i s)⟩
theorem noObj_spec {rows : List Row} (h : noObj rows = true) (i : Nat) (s : WS) : rows[i]? ≠ some (.obj s) := by
 intro hi
 have := List.all_eq_true.1 h _ (List.mem_of_getElem? hi)
 simp [Row.isObj] at this

theorem PrgO.refl (ρ : Rho) (m : Rws) (w : World) (h : ∀ i, m i = none → ρ i = none) : PrgO ρ m w ρ m w :=
 ⟨Rho.le.refl ρ, fun _ h => h, fun _ h => .inl h, fun _ _ h => .inl h, fun i p hi hp => (by rw [h i hi] at hp; cases hp), Frm.refl _ _, fun i s p hi hp x hx => .inr (.inr ⟨i, s, p, hi, hp, hx⟩)⟩

theorem PrgO.trans {ρ ρ' ρ'' : Rho} {m m' m'' : Rws} {w w' w'' : World} (h : PrgO ρ m w ρ' m' w') (k : PrgO ρ' m' w' ρ'' m'' w'') : PrgO ρ m w ρ'' m'' w'' := by
 have may : ∀ b, b < w.heap.size → mayO ρ' m' w' b → mayO ρ m w b := by
  rintro b hb (⟨i, p, hl, hp, hm, rfl⟩ | ⟨i, s, p, hi, hp, hx⟩)
  · rcases h.live i hl with hl0 | hn
    · obtain ⟨row, hr, hlv⟩ := hl0
      rcases h.dom i p hp with hq | hq
      · exact .inl ⟨i, p, ⟨row, hr, hlv⟩, hq, hm, rfl⟩
      · rw [hr] at hq; cases hq
    · rcases h.new i p hn hp with h1 | h1
      · omega
      · exact h1
  · rcases h.foot i s p hi hp b hx with h1 | h1
    · omega
    · exact h1
 refine ⟨h.le.trans k.le, fun i hi => h.keep i (k.keep i hi), fun i hi => ?_, fun i p hp => ?_, fun i p hi hp => ?_, h.frm.trans k.frm may, fun i s p hi hp x hx => ?_⟩
 · rcases k.live i hi with h1 | h1
   · exact h.live i h1
   · exact .inr (h.keep i h1)
 · rcases k.dom i p hp with h1 | h1
   · exact h.dom i p h1
   · exact .inr (h.keep i h1)
 · rcases k.dom i p hp with h1 | h1
   · exact h.new i p hi h1
   · rcases k.new i p h1 hp with h2 | h2
     · exact .inl (Nat.le_trans h.frm.size h2)
     · by_cases hb : p.b < w.heap.size
       · exact .inr (may _ hb h2)
       · exact .inl (by omega)
 · rcases k.foot i s p hi hp x hx with h1 | h1
   · exact .inl (Nat.le_trans h.frm.size h1)
   · by_cases hb : x < w.heap.size
     · exact .inr (may _ hb h1)
     · exact .inl (by omega)

end Go.Proofs.Ytimkhidniolpeaa
