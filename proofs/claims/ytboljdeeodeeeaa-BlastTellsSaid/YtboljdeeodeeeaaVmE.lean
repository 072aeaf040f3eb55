/- The small machine: how it runs. Of whatever program. -/
import Derived.Test.YtboljdeeodeeeaaVmA
namespace Go.Proofs.Ytboljdeeodeeeaa
set_option linter.unusedSimpArgs false
set_option linter.unusedVariables false
set_option maxRecDepth 100000
open Go.RowKit

/-- The slots, in rows of eight, for quick reckoning. -/
structure Tm where
  n : Nat
  cs : List (List SV)

def Tm.get (t : Tm) (i : Nat) : SV := bif Nat.blt i t.n then (t.cs.getD (i / 8) []).getD (i % 8) .top else .top
def Tm.set (t : Tm) (i : Nat) (v : SV) : Tm := ⟨t.n, t.cs.set (i / 8) ((t.cs.getD (i / 8) []).set (i % 8) v)⟩
def Tm.inb (t : Tm) (i : Nat) : Bool := Nat.blt (i % 8) (t.cs.getD (i / 8) []).length
def Tm.list (t : Tm) : List SV := (List.range t.n).map t.get
def chunkGo : Nat → List SV → List (List SV)
  | 0, _ => []
  | n + 1, l => match l with
    | [] => []
    | x :: l' => (x :: l').take 8 :: chunkGo n ((x :: l').drop 8)
def Tm.of (l : List SV) : Tm := ⟨l.length, chunkGo l.length l⟩

theorem Tm.list_get (t : Tm) (i : Nat) : t.list.getD i .top = t.get i := by
  unfold Tm.list
  by_cases h : i < t.n
  · simp [List.getD, h]
  · have hb : Nat.blt i t.n = false := by
      cases hb : Nat.blt i t.n with
      | false => rfl
      | true => exact absurd (by simpa [Nat.blt_eq] using hb) h
    simp [List.getD, h, Tm.get, hb]

theorem Tm.list_get? (t : Tm) (i : Nat) : t.list[i]? = bif Nat.blt i t.n then some (t.get i) else none := by
  unfold Tm.list
  by_cases h : i < t.n
  · have hb : Nat.blt i t.n = true := by simpa [Nat.blt_eq] using h
    simp [h, hb]
  · have hb : Nat.blt i t.n = false := by
      cases hb : Nat.blt i t.n with
      | false => rfl
      | true => exact absurd (by simpa [Nat.blt_eq] using hb) h
    simp [h, hb]

theorem Tm.list_set {t : Tm} {i : Nat} (h : t.inb i = true) (v : SV) : (t.set i v).list = t.list.set i v := by
  have hin : i % 8 < (t.cs.getD (i / 8) []).length := by
    unfold Tm.inb at h
    simpa [Nat.blt_eq] using h
  have hq : i / 8 < t.cs.length := by
    rcases Nat.lt_or_ge (i / 8) t.cs.length with h1 | h1
    · exact h1
    · simp [List.getD, List.getElem?_eq_none h1] at hin
  apply List.ext_getElem?
  intro j
  by_cases hj : j < t.n
  · have hget : (t.set i v).list[j]? = some ((t.set i v).get j) := by unfold Tm.list; simp [Tm.set, hj]
    rw [hget, List.getElem?_set]
    have hl : t.list.length = t.n := by unfold Tm.list; simp
    have hbj : Nat.blt j t.n = true := by simpa [Nat.blt_eq] using hj
    by_cases hij : i = j
    · subst hij
      rw [if_pos rfl, if_pos (by omega)]
      congr 1
      unfold Tm.get Tm.set
      simp only [hbj, cond_true]
      have : (t.cs.set (i / 8) ((t.cs.getD (i / 8) []).set (i % 8) v)).getD (i / 8) [] = (t.cs.getD (i / 8) []).set (i % 8) v := by
        rw [List.getD_eq_getElem?_getD, List.getElem?_set_self hq]
        rfl
      rw [this, List.getD_eq_getElem?_getD, List.getElem?_set_self hin]
      rfl
    · rw [if_neg hij]
      have h2 : t.list[j]? = some (t.get j) := by unfold Tm.list; simp [hj]
      rw [h2]
      congr 1
      unfold Tm.get Tm.set
      simp only [hbj, cond_true]
      by_cases hd : i / 8 = j / 8
      · rw [← hd]
        have : (t.cs.set (i / 8) ((t.cs.getD (i / 8) []).set (i % 8) v)).getD (i / 8) [] = (t.cs.getD (i / 8) []).set (i % 8) v := by
          rw [List.getD_eq_getElem?_getD, List.getElem?_set_self hq]
          rfl
        rw [this, List.getD_eq_getElem?_getD, List.getElem?_set_ne, ← List.getD_eq_getElem?_getD]
        intro hm
        have h3 := Nat.div_add_mod i 8
        have h4 := Nat.div_add_mod j 8
        omega
      · have : (t.cs.set (i / 8) ((t.cs.getD (i / 8) []).set (i % 8) v)).getD (j / 8) [] = t.cs.getD (j / 8) [] := by
          rw [List.getD_eq_getElem?_getD, List.getElem?_set_ne hd, ← List.getD_eq_getElem?_getD]
        rw [this]
  · have h1 : (t.set i v).list[j]? = none := by unfold Tm.list; simp [Tm.set]; omega
    rw [h1, List.getElem?_set]
    have hl : t.list.length = t.n := by unfold Tm.list; simp
    by_cases hij : i = j
    · subst hij; rw [if_pos rfl, if_neg (by omega)]
    · rw [if_neg hij, List.getElem?_eq_none (by omega)]

theorem chunkGo_get : ∀ (n : Nat) (l : List SV), l.length ≤ n → ∀ i, i < l.length → ((chunkGo n l).getD (i / 8) []).getD (i % 8) .top = l.getD i .top
  | 0, l, h, i, hi => by omega
  | n + 1, [], h, i, hi => by simp at hi
  | n + 1, x :: l, h, i, hi => by
    rw [chunkGo]
    by_cases h8 : i < 8
    · rw [show i / 8 = 0 by omega, show i % 8 = i by omega]
      simp only [List.getD_cons_zero]
      rw [List.getD_eq_getElem?_getD, List.getElem?_take_of_lt h8, ← List.getD_eq_getElem?_getD]
    · obtain ⟨q, hq⟩ : ∃ q, i / 8 = q + 1 := ⟨i / 8 - 1, by omega⟩
      rw [hq, List.getD_cons_succ]
      have := chunkGo_get n ((x :: l).drop 8) (by simp at h ⊢; omega) (i - 8) (by simp at hi ⊢; omega)
      rw [show (i - 8) / 8 = q by omega, show (i - 8) % 8 = i % 8 by omega] at this
      rw [this, List.getD_eq_getElem?_getD, List.getElem?_drop, show 8 + (i - 8) = i by omega, ← List.getD_eq_getElem?_getD]

theorem Tm.of_list (l : List SV) : (Tm.of l).list = l := by
  apply List.ext_getElem?
  intro i
  rw [Tm.list_get?]
  by_cases h : i < l.length
  · have hb : Nat.blt i (Tm.of l).n = true := by simpa [Nat.blt_eq, Tm.of] using h
    rw [hb, cond_true]
    unfold Tm.get
    rw [hb, cond_true]
    have := chunkGo_get l.length l (Nat.le_refl _) i h
    change some (((chunkGo l.length l).getD (i / 8) []).getD (i % 8) .top) = _
    rw [this, List.getD_eq_getElem?_getD, List.getElem?_eq_getElem h]
    rfl
  · have hb : Nat.blt i (Tm.of l).n = false := by
      cases hb : Nat.blt i (Tm.of l).n with
      | false => rfl
      | true => exact absurd (by simpa [Nat.blt_eq, Tm.of] using hb) h
    rw [hb, List.getElem?_eq_none (by omega)]
    rfl

structure St where
  tmps : Tm
  rows : List Row

inductive Ex where
  | normal
  | exit (id : Nat)
  | ret

abbrev Res2 := SV × List Row

def St.ev (s : St) : Operand → SV
  | .tmp t => s.tmps.get t
  | .const v => ofValue v
  | .global _ => .top
  | .func f => .fn f []

def putS (ts : List SV) (d : Option Nat) (v : SV) : List SV := match d with
  | some d => ts.set d v
  | none => ts

def putT (ts : Tm) (d : Option Nat) (v : SV) : Tm := match d with
  | some d => ts.set d v
  | none => ts
def inT (ts : Tm) (d : Option Nat) : Bool := match d with
  | some d => ts.inb d
  | none => true
theorem putT_list {ts : Tm} {d : Option Nat} (h : inT ts d = true) (v : SV) : (putT ts d v).list = putS ts.list d v := by
  cases d with
  | none => rfl
  | some d => exact Tm.list_set h v

def wrRows (rows : List Row) : List (Nat × Row) → List Row
  | [] => rows
  | (i, r) :: l => wrRows (rows.set i r) l

def St.after (s : St) (d : Option Nat) (e : Eff) : St := ⟨putT s.tmps d e.val, wrRows s.rows e.wr ++ e.nw⟩

/-- Whether an operation is wanted: it is, it is not, or a slot's Bool says so. -/
inductive Want where
  | yes
  | no
  | ask (t : Nat) (b want : Bool)
  | lost

def wantS (all : List Oper) (ts : Tm) (o : Oper) : Want :=
  match o.guard with
  | none => .yes
  | some (j, want) => match (all[j]?).bind (·.dst) with
    | none => .no
    | some t => bif Nat.blt t ts.n then (match ts.get t with
      | .bool b => .ask t b want
      | .tuple [] => .no
      | _ => .lost) else .no

/-! What operations touch: for statements whose order is open. -/
structure Rec where
  looks : Nat
  dst : Nat
  rd : Nat
  wr : Nat

def memN (x : Nat) : List Nat → Bool
  | [] => false
  | y :: l => bif Nat.beq x y then true else memN x l
/-- A set of numbers as one number's bits. -/
def maskOf : List Nat → Nat
  | [] => 0
  | x :: l => Nat.lor (Nat.shiftLeft 1 x) (maskOf l)
def meets (l m : Nat) : Bool := !(Nat.beq (Nat.land l m) 0)
def ofDst (d : Option Nat) : List Nat := match d with | some d => [d] | none => []
def clash (a b : Rec) : Bool := meets a.dst b.looks || (meets b.dst a.looks || (meets a.dst b.dst || (meets a.wr b.rd || (meets b.wr a.rd || meets a.wr b.wr))))

def looksOf (all : List Oper) (o : Oper) : List Nat :=
  (o.op.operands.toList.filterMap fun | .tmp t => some t | _ => none) ++ (match o.guard with
    | some (g, _) => ((all[g]?).bind (·.dst)).toList
    | none => [])

/-- Who must come before: the edges that bind, and what these bind in turn. -/
def edgesOf (o : Oper) : List Nat := o.after.toList.filterMap fun e => if Region.binds .any e then some e.on else none
def ancOf (acc : List Nat) : List Nat → Nat
  | [] => 0
  | i :: l => Nat.lor (Nat.lor (Nat.shiftLeft 1 i) (acc.getD i 0)) (ancOf acc l)
def ancsGo : List Oper → List Nat → List Nat
  | [], acc => acc
  | o :: l, acc => ancsGo l (acc ++ [ancOf acc (edgesOf o)])
def ancs (all : List Oper) : List Nat := ancsGo all []

def clashFree (anc : Nat) (r : Rec) : Nat → List Rec → Bool
  | _, [] => true
  | i, q :: l => (!clash q r || Nat.testBit anc i) && clashFree anc r (i + 1) l
def indepGo : List Nat → List Rec → List Rec → Bool
  | _, _, [] => true
  | [], _, _ => false
  | anc :: ancs, pre, r :: l => clashFree anc r 0 pre && indepGo ancs (pre ++ [r]) l
/-- The edges that bind lead back. -/
def backGo : Nat → List Oper → Bool
  | _, [] => true
  | k, o :: l => ((edgesOf o).all fun i => Nat.blt i k) && backGo (k + 1) l
def noSel (all : List Oper) : Bool := all.all fun o => match o.op with
  | .select .. => false
  | _ => true
def indep (all : List Oper) (recs : List Rec) : Bool := backGo 0 all && (noSel all && indepGo (ancs all) [] recs)

/-! Calls that are walked in place. -/
def reachStep (rows : List Row) (ids : List Nat) : List Nat := ids ++ (ids.flatMap fun i => (rows.getD i .gone).idsR)
def dedup : List Nat → List Nat
  | [] => []
  | x :: l => bif memN x l then dedup l else x :: dedup l
def reach (rows : List Row) (args : List SV) : List Nat := dedup (reachStep rows (dedup (reachStep rows (dedup (SV.idsL args)))))
def maskFrom (rch : List Nat) : Nat → List Row → List Row
  | _, [] => []
  | i, r :: l => (bif memN i rch then r else .gone) :: maskFrom rch (i + 1) l
/-- The rows that a call may have written: those of one's own that it could reach. -/
def wrOf (old rows : List Row) : List Nat → List (Nat × Row)
  | [] => []
  | i :: l => match old[i]?, rows[i]? with
    | some (.own _), some r => (i, r) :: wrOf old rows l
    | some (.vec false _ _), some r => (i, r) :: wrOf old rows l
    | _, _ => wrOf old rows l
def closedN (n : Nat) (l : List Nat) : Bool := l.all fun i => Nat.blt i n
/-- What can be reached is closed, and there. -/
def reachOk (rows : List Row) (rch : List Nat) : Bool := closedN rows.length rch && rch.all fun i => (rows.getD i .gone).idsR.all fun j => memN j rch
def inlEff (old : List Row) (rch : List Nat) (v : SV) (rows : List Row) : Eff :=
  bif closedN old.length (v.ids ++ (wrOf old rows rch).flatMap fun x => x.2.idsR) then { val := v, rd := rch, wr := wrOf old rows rch, nw := [] }
  else { val := v, rd := rch, wr := wrOf old rows rch, nw := rows.drop old.length }

/-- Each row that is written is there, and is written once. -/
def wrOk (rows : List Row) : List (Nat × Row) → Bool
  | [] => true
  | (i, _) :: l => (match rows[i]? with
    | some (.own _) => true
    | some (.vec false _ _) => true
    | _ => false) && ((!memN i (l.map (·.1))) && wrOk rows l)

def inlS (X : Ctx) (ev : Operand → SV) : Op → Option (Nat × Func × List SV)
  | .call ⟨.value f, args, _⟩ => match ev f with
    | .fn fid caps => match X.fn fid with
      | some fn => some (fid, fn, args.toList.map ev ++ caps)
      | none => none
    | _ => none
  | _ => none

def recOf (all : List Oper) (o : Oper) (n : Nat) (e : Eff) : Rec := ⟨maskOf (looksOf all o), maskOf (ofDst o.dst), maskOf e.rd, maskOf (e.wr.map (·.1) ++ (List.range e.nw.length).map (n + ·))⟩

/-- For quick reckoning: a list laid out whole. -/
def forceL {α β : Type} : List α → (List α → β) → β
  | [], k => k []
  | x :: l, k => forceL l fun m => k (x :: m)
theorem forceL_eq {α β : Type} : ∀ (l : List α) (k : List α → β), forceL l k = k l
  | [], _ => rfl
  | x :: l, k => by rw [forceL, forceL_eq l]
def forceSt {β : Type} (s : St) (k : St → β) : β := forceL s.tmps.cs fun t => forceL s.rows fun r => k ⟨⟨s.tmps.n, t⟩, r⟩
theorem forceSt_eq {β : Type} (s : St) (k : St → β) : forceSt s k = k s := by unfold forceSt; rw [forceL_eq, forceL_eq]

/-! Guarded operations that change no row, taken at once: '&&', '||'. -/
def quietS (X : Ctx) (ev : Operand → SV) (rows : List Row) (op : Op) : Option (Bool × SV) := match pureS X.T ev op with
  | some r => some r
  | none => match memS X ev rows op with
    | some e => match e.wr, e.nw with
      | [], [] => some (e.ok, e.val)
      | _, _ => none
    | none => none
/-- The guards that are known to hold: the operation, what is wanted, its slot. -/
abbrev Knw := List (Nat × Bool × Nat)
def knows (kn : Knw) (j : Nat) (w : Bool) : Bool := kn.any fun x => Nat.beq x.1 j && (x.2.1 == w)
def free? (kn : Knw) (d : Option Nat) : Bool := match d with
  | some d => kn.all fun x => !Nat.beq x.2.2 d
  | none => true
def inBlk (i j0 : Nat) (want : Bool) (o : Oper) : Bool := match o.guard with
  | some (j, w) => (Nat.beq j j0 && (w == want)) || Nat.ble i j
  | none => false
def skipB (all : List Oper) (t : Nat) (want : Bool) : List Oper → Tm → Option Tm
  | [], ts => some ts
  | o :: rest, ts => bif inT ts o.dst && free? [(0, true, t)] o.dst then (match o.guard with
    | some (j, w) => match (all[j]?).bind (·.dst) with
      | none => skipB all t want rest (putT ts o.dst (.tuple []))
      | some g => bif Nat.beq g t && (w == want) then skipB all t want rest (putT ts o.dst (.tuple [])) else match ts.get g with
        | .tuple [] => skipB all t want rest (putT ts o.dst (.tuple []))
        | _ => none
    | none => none) else none
def topB : List Oper → Tm → Tm
  | [], ts => ts
  | o :: rest, ts => topB rest (putT ts o.dst .top)

def wantD (all : List Oper) (kn : Knw) (ts : Tm) (o : Oper) : Want := match o.guard with
  | none => .yes
  | some (j, w) => bif knows kn j w then .yes else wantS all ts o
def pgOk (kn : Knw) (p : Oper) : Bool := match p.guard with
  | none => true
  | some (j, w) => knows kn j w
def evalB (X : Ctx) (all : List Oper) (rows : List Row) : Nat → Nat → Knw → List Oper → Tm → Option (Bool × Tm)
  | 0, _, _, _, _ => none
  | _ + 1, _, _, [], ts => some (true, ts)
  | n + 1, i, kn, o :: rest, ts => bif inT ts o.dst && free? kn o.dst then
      (match wantD all kn ts o with
      | .lost => none
      | .no => evalB X all rows n (i + 1) kn rest (putT ts o.dst (.tuple []))
      | .yes => match quietS X (St.mk ts rows).ev rows o.op with
        | some (ok, v) => match evalB X all rows n (i + 1) kn rest (putT ts o.dst v) with
          | some (ok', ts') => some (ok && ok', ts')
          | none => none
        | none => none
      | .ask t b w => match o.guard with
        | none => none
        | some (j, _) =>
          match (o :: rest).drop ((o :: rest).takeWhile (inBlk i j w)).length with
          | [] => none
          | p :: rest2 =>
            bif pgOk kn p && (inT ts p.dst && (free? ((j, w, t) :: kn) p.dst && ts.inb t)) then
              (match evalB X all rows n i ((j, w, t) :: kn) ((o :: rest).takeWhile (inBlk i j w)) ts, skipB all t w ((o :: rest).takeWhile (inBlk i j w)) ts with
              | some (ok1, ts1), some ts0 => match pureS X.T (St.mk (ts1.set t (.bool w)) rows).ev p.op, pureS X.T (St.mk (ts0.set t (.bool (!w))) rows).ev p.op with
                | some (okA, .bool d1), some (okB, .bool d2) =>
                  (match evalB X all rows n (i + ((o :: rest).takeWhile (inBlk i j w)).length + 1) kn rest2 (putT (topB ((o :: rest).takeWhile (inBlk i j w)) ts) p.dst (.bool (bif (b == w) then d1 else d2))) with
                  | some (ok', ts') => some ((((ok1 && okA) || b != w) && (okB || b == w)) && ok', ts')
                  | none => none)
                | _, _ => none
              | _, _ => none)
            else none)
    else none

/-- A guarded block and what picks from it, at the head of these operations: how many they are, whether all goes well, and the slots behind it. -/
def mergeT (X : Ctx) (all : List Oper) (rows : List Row) (i : Nat) (ops : List Oper) (ts : Tm) : Option (Nat × Bool × Tm) := match ops with
  | [] => none
  | o :: _ => match o.guard with
    | none => none
    | some (j, w) => match evalB X all rows (2 * ops.length + 2) i [] (ops.take ((ops.takeWhile (inBlk i j w)).length + 1)) ts with
      | some (ok, ts') => some ((ops.takeWhile (inBlk i j w)).length, ok, ts')
      | none => none

def execOps (X : Ctx) (go : Nat → Func → List SV → List Row → (SV → List Row → Option Res2) → Option Res2) (draw : Bool) (all : List Oper) : List Oper → Nat → St → List Rec → (St → Option Res2) → Option Res2
  | [], _, s, recs, K => bif !draw || indep all recs then K s else none
  | _ :: rest, k + 1, s, recs, K => execOps X go draw all rest k s recs K
  | o :: rest, 0, s0, recs, K => forceSt s0 fun s =>
    let body : Bool → Tm → Option Res2 := fun b ts => bif !inT ts o.dst then none else match b with
      | false => execOps X go draw all rest 0 ⟨putT ts o.dst (.tuple []), s.rows⟩ (recs ++ [recOf all o s.rows.length { val := .tuple [] }]) K
      | true => match inlS X (St.mk ts s.rows).ev o.op with
        | some (fid, fn, args) => bif reachOk s.rows (reach s.rows args) then go fid fn args (maskFrom (reach s.rows args) 0 s.rows) fun v rows' =>
            bif wrOk s.rows (inlEff s.rows (reach s.rows args) v rows').wr then execOps X go draw all rest 0 ((St.mk ts s.rows).after o.dst (inlEff s.rows (reach s.rows args) v rows')) (recs ++ [recOf all o s.rows.length (inlEff s.rows (reach s.rows args) v rows')]) K else none
          else none
        | none => match pureS X.T (St.mk ts s.rows).ev o.op with
          | some (ok, v) => bif ok then execOps X go draw all rest 0 ⟨putT ts o.dst v, s.rows⟩ (recs ++ [recOf all o s.rows.length { val := v }]) K else none
          | none => match memS X (St.mk ts s.rows).ev s.rows o.op with
            | some e => bif wrOk s.rows e.wr then (bif e.ok then execOps X go draw all rest 0 ((St.mk ts s.rows).after o.dst e) (recs ++ [recOf all o s.rows.length e]) K else none) else none
            | none => none
    match wantS all s.tmps o with
    | .lost => none
    | .yes => body true s.tmps
    | .no => body false s.tmps
    | .ask t b want => match (bif draw then none else mergeT X all s.rows (all.length - (o :: rest).length) (o :: rest) s.tmps) with
      | some (k, ok, ts) => bif ok then execOps X go draw all rest k ⟨ts, s.rows⟩ recs K else none
      | none => match b with
        | true => bif s.tmps.inb t then body want (s.tmps.set t (.bool true)) else none
        | false => bif s.tmps.inb t then body (!want) (s.tmps.set t (.bool false)) else none

def resOne (X : Ctx) (s : St) : ResultVar → Option SV
  | .tmp t => some (s.tmps.get t)
  | .cell t ty => match s.tmps.get t, X.T ty with
    | .ptr id st i j, some ti => match s.rows[id]? with
      | some (.own cells) => partS ti cells (i * st + j)
      | _ => none
    | _, _ => none
def resAll (X : Ctx) (s : St) : List ResultVar → Option (List SV)
  | [] => some []
  | r :: l => match resOne X s r, resAll X s l with
    | some v, some vs => some (v :: vs)
    | _, _ => none
def resS (X : Ctx) (fn : Func) (s : St) : Option SV := match resAll X s fn.results.toList with
  | some [v] => some v
  | some vs => some (.tuple vs)
  | none => none

def endS (X : Ctx) (fn : Func) (k : SV → List Row → Option Res2) (e : Ex) (s : St) : Option Res2 := match e with
  | .exit _ => none
  | .normal => match resS X fn s with
    | some v => k v s.rows
    | none => none
  | .ret => match resS X fn s with
    | some v => k v s.rows
    | none => none

abbrev LoopF := St → (Ex → St → Option Res2) → Option Res2

def enterS (fn : Func) (args : List SV) (rows : List Row) : St := ⟨Tm.of (args ++ List.replicate (fn.ntmps - args.length) (.tuple [])), rows⟩

def exec (X : Ctx) (L : Nat → List Nat → Option LoopF) : Nat → Nat → List Nat → Code → St → (Ex → St → Option Res2) → Option Res2
  | 0, _, _, _, _, _ => none
  | n + 1, f, p, c, s, K => match c with
    | .skip => K .normal s
    | .seq a b => exec X L n f (0 :: p) a s fun e s' => match e with
      | .normal => exec X L n f (1 :: p) b s' K
      | .exit i => K (.exit i) s'
      | .ret => K .ret s'
    | .cond c a b => match s.ev c with
      | .bool t => match t with
        | true => exec X L n f (0 :: p) a s K
        | false => exec X L n f (1 :: p) b s K
      | _ => none
    | .block id b => exec X L n f (0 :: p) b s fun e s' => match e with
      | .normal => K .normal s'
      | .exit i => bif Nat.beq i id then K .normal s' else K (.exit i) s'
      | .ret => K .ret s'
    | .loop b => match L f p with
      | some F => F s K
      | none => exec X L n f (0 :: p) b s fun e s' => match e with
        | .normal => exec X L n f p (.loop b) s' K
        | .exit i => K (.exit i) s'
        | .ret => K .ret s'
    | .exit id => K (.exit id) s
    | .ret => K .ret s
    | .region _ ops draw => execOps X (fun fid fn args rows k => match fn.body with
        | some body => exec X L n fid [] body (enterS fn args rows) (endS X fn k)
        | none => none) draw ops.toList ops.toList 0 s [] fun s' => K .normal s'
    | _ => none

/-- A call of f. -/
def runF (X : Ctx) (L : Nat → List Nat → Option LoopF) (n : Nat) (f : Nat) (fn : Func) (args : List SV) (rows : List Row) : Option Res2 := match fn.body with
  | some body => exec X L n f [] body (enterS fn args rows) (endS X fn fun v rows => some (v, rows))
  | none => none

end Go.Proofs.Ytboljdeeodeeeaa
