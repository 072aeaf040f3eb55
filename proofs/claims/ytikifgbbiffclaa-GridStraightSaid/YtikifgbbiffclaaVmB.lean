/- The small machine: what an operation that looks at no memory makes of its operands, and that the model agrees. Of whatever program. -/
import Derived.Test.YtikifgbbiffclaaVmA
import Derived.Great.BuildSlice
namespace Go.Proofs.Ytikifgbbiffclaa
set_option linter.unusedSimpArgs false
set_option linter.unusedVariables false
open Go.RowKit

/-! A table of types. -/
inductive TD where
  | int (k : IntKind)
  | bool
  | ptr (e : Nat)
  | slice (e : Nat)
  | array (n e : Nat)
  | struct (fs : List (Nat × Nat))
  | other

def TD.isAgg : TD → Bool
  | .array .. => true
  | .struct _ => true
  | _ => false

structure TI where
  td : TD
  size : Nat
  zero : List SV
  bytes : Nat
  knd : Option Knd := none
  eq : Bool := false

/-- Two lists of data compared, in the shape of the first list. -/
def eqC : SV → SV → SV → Option Bool
  | .int k _, .int k1 a, .int k2 b => bif decide (k1 = k) && decide (k2 = k) then some (a == b) else none
  | .bool _, .bool a, .bool b => some (a == b)
  | _, _, _ => none
def eqL : List SV → List SV → List SV → Option Bool
  | [], [], [] => some true
  | z :: zs, x :: xs, y :: ys => match eqC z x y, eqL zs xs ys with
    | some a, some b => some (a && b)
    | _, _ => none
  | _, _, _ => none

structure TIOk (P : Program) (t : Nat) (ti : TI) : Prop where
  size : (P.info? t).map (·.size) = some ti.size
  bytes : (P.info? t).map (·.bytes) = some ti.bytes
  td : match ti.td with
    | .int k => P.underlying t = some (.int k)
    | .bool => P.underlying t = some .bool
    | .ptr e => P.underlying t = some (.pointer e)
    | .slice e => P.underlying t = some (.slice e)
    | .array n e => P.underlying t = some (.array n e)
    | .struct fs => ∃ fields : Array Field, P.underlying t = some (.struct fields) ∧ fields.toList.map (fun f => (f.offset, f.type)) = fs
    | .other => ∃ d, P.underlying t = some d ∧ (match d with | .struct _ | .array _ _ => true | _ => false) = false
  zero : ∃ z : Value, (P.info? t).bind (·.zero) = some z ∧ RelL (fun _ => none) ti.zero z.cells.toList
  eq : ti.eq = true → P.eqGuardType P.depth t = false ∧ ∀ (xs ys : List SV) (r : Bool), eqL ti.zero xs ys = some r →
    ∀ w, (Op.equalIn 10000 t (.agg (xs.map dval).toArray) (.agg (ys.map dval).toArray)).run P w = .ok r w

/-- A call's effect: what it returns, what it reads, what it writes, what is new. -/
structure Eff where
  ok : Bool := true
  val : SV
  rd : List Nat := []
  wr : List (Nat × Row) := []
  nw : List Row := []

structure Ctx where
  T : Nat → Option TI
  fn : Nat → Option Func
  call : Nat → List SV → List Row → Option Eff

def Apart (ρ : Rho) (pres : Nat → Prop) : Prop := ∀ i j p q, pres i → pres j → i ≠ j → ρ i = some p → ρ j = some q → (p.mine || q.mine) = true → p.b ≠ q.b

def presAfter (pres : Nat → Prop) (n : Nat) (e : Eff) (i : Nat) : Prop := (pres i ∧ ∀ x ∈ e.wr, x.1 = i → x.2.live = true) ∨ ((n ≤ i ∧ i < n + e.nw.length) ∧ ∀ row, e.nw[i - n]? = some row → row.live = true)

structure After (ρ : Rho) (pres : Nat → Prop) (n : Nat) (e : Eff) (w : World) (v : Value) (ρ' : Rho) (w' : World) : Prop where
  le : ρ.le ρ'
  good : Good ρ' w'
  dom : ∀ i p, ρ' i = some p → ρ i = some p ∨ (n ≤ i ∧ i < n + e.nw.length)
  new : ∀ i p, n ≤ i → i < n + e.nw.length → ρ' i = some p → w.heap.size ≤ p.b ∨ ∃ j q, pres j ∧ (∃ row, (j, row) ∈ e.wr) ∧ ρ j = some q ∧ q.mine = true ∧ q.b = p.b
  apart : Apart ρ' (presAfter pres n e)
  val : Rel ρ' e.val v
  wr : ∀ x ∈ e.wr, RowAt ρ' x.1 x.2 w'
  nw : ∀ j row, e.nw[j]? = some row → RowAt ρ' (n + j) row w'
  frm : Frm (fun b => ∃ x ∈ e.wr, ∃ p, ρ x.1 = some p ∧ p.mine = true ∧ p.b = b) w w'

/-- What a call of f with these arguments does, whatever the world is beside the rows that it reads. -/
def FnOk (P : Program) (f : Nat) (args : List SV) (m : Nat → Option Row) (n : Nat) (e : Eff) : Prop :=
  ∀ (ρ : Rho) (pres : Nat → Prop) (vargs : List Value) (w : World), RelL ρ args vargs → Good ρ w → Apart ρ pres →
    (∀ id ∈ e.rd, ∀ row, m id = some row → RowAt ρ id row w ∧ (row.live = true → pres id)) → (∀ j, n ≤ j → j < n + e.nw.length → ρ j = none ∧ ¬ pres j) →
    Calls P f vargs.toArray w fun en w' => ∃ v ρ', en = .returned v ∧ After ρ pres n e w v ρ' w'

structure COk (P : Program) (X : Ctx) : Prop where
  mixed : P.follows .mixedOrders = true
  T : ∀ t ti, X.T t = some ti → TIOk P t ti
  fn : ∀ f fn, X.fn f = some fn → P.funcs[f]? = some fn ∧ (fn.name == "runtime.NumGoroutine" || fn.body.isNone) = false
  call : ∀ f args rows e, X.call f args rows = some e → e.ok = true → FnOk P f args (rows[·]?) rows.length e ∧ (∃ fn, P.funcs[f]? = some fn ∧ (fn.name == "runtime.NumGoroutine" || fn.body.isNone) = false)

/-- An operation's effect. -/
def OpOk (P : Program) (o : Oper) (ev : Operand → SV) (m : Nat → Option Row) (n : Nat) (e : Eff) : Prop :=
  ∀ (ρ : Rho) (pres : Nat → Prop) (a : Act) (w : World), (∀ x ∈ o.op.operands, Rel ρ (ev x) (a.eval x)) → Good ρ w → Apart ρ pres →
    (∀ id ∈ e.rd, ∀ row, m id = some row → RowAt ρ id row w ∧ (row.live = true → pres id)) → (∀ j, n ≤ j → j < n + e.nw.length → ρ j = none ∧ ¬ pres j) →
    ∀ (K : Act → World → Prop) (Q : Exit → Act → World → Prop), (∀ v ρ' w', After ρ pres n e w v ρ' w' → K (a.put o.dst v) w') → o.wp P a w K Q

/-! Cells. -/
def SV.cells : SV → Option (List SV)
  | .agg xs => some xs
  | .top => none
  | .tuple _ => none
  | v => some [v]

theorem SV.cells_rel {ρ : Rho} {s : SV} {v : Value} {cs : List SV} (h : Rel ρ s v) (hc : s.cells = some cs) : RelL ρ cs v.cells.toList := by
  cases s <;> simp only [SV.cells, Option.some.injEq, reduceCtorEq] at hc <;> subst hc
  case agg xs =>
    simp only [Rel] at h
    obtain ⟨vs, rfl, hr⟩ := h
    simpa [Value.cells] using hr
  all_goals
    have h0 := h
    simp only [Rel] at h
  case unk => rw [h.2]; simp only [relL_cons, relL_nil, Rel]; exact ⟨h, trivial⟩
  case int => subst h; simp [Value.cells, relL_cons, relL_nil, Rel]
  case bool => subst h; simp [Value.cells, relL_cons, relL_nil, Rel]
  case nilp => subst h; simp [Value.cells, relL_cons, relL_nil, Rel]
  case nils => subst h; simp [Value.cells, relL_cons, relL_nil, Rel]
  case ptr =>
    obtain ⟨p, hp, rfl⟩ := h
    simp only [Value.cells, relL_cons, relL_nil]
    exact ⟨h0, trivial⟩
  case slice =>
    rcases h with ⟨p, o, c, hp, rfl, _⟩ | ⟨_, _, _, _, rfl⟩
    · simp only [Value.cells, relL_cons, relL_nil]
      exact ⟨h0, trivial⟩
    · simp only [Value.cells, relL_cons, relL_nil]
      exact ⟨h0, trivial⟩
  case fn =>
    obtain ⟨vs, rfl, _⟩ := h
    simp only [Value.cells, relL_cons, relL_nil]
    exact ⟨h0, trivial⟩

/-- One cell's value. -/
def SV.one : SV → Bool
  | .agg _ => false
  | .tuple _ => false
  | .top => false
  | _ => true

theorem SV.one_rel {ρ : Rho} {s : SV} {v : Value} (h : Rel ρ s v) (h1 : s.one = true) : v.oneCell' = true := by
  cases s <;> simp only [SV.one, reduceCtorEq] at h1 <;> simp only [Rel] at h
  case unk => exact h.1
  case int => subst h; rfl
  case bool => subst h; rfl
  case nilp => subst h; rfl
  case nils => subst h; rfl
  case ptr => obtain ⟨p, _, rfl⟩ := h; rfl
  case slice => rcases h with ⟨p, o, c, _, rfl, _⟩ | ⟨_, _, _, _, rfl⟩ <;> rfl
  case fn => obtain ⟨vs, rfl, _⟩ := h; rfl

theorem RelL.ones {ρ : Rho} : ∀ {xs : List SV} {vs : List Value}, RelL ρ xs vs → xs.all SV.one = true → vs.all (·.oneCell') = true
  | [], vs, h, _ => by simp [RelL] at h; simp [h]
  | x :: xs, [], h, _ => by simp [RelL] at h
  | x :: xs, v :: vs, h, h1 => by
    rw [relL_cons] at h
    simp only [List.all_cons, Bool.and_eq_true] at h1 ⊢
    exact ⟨SV.one_rel h.1 h1.1, h.2.ones h1.2⟩

def layS (cs : List SV) (i : Nat) : List SV → List SV
  | [] => cs
  | v :: vs => layS (cs.set i v) (i + 1) vs

theorem layS_rel {ρ : Rho} : ∀ {xs : List SV} {us : List Value}, RelL ρ xs us → ∀ {cs : List SV} {vs : Array Value} (i : Nat), RelL ρ cs vs.toList → RelL ρ (layS cs i xs) (layAt vs i us).toList
  | [], us, h, cs, vs, i, hc => by simp [RelL] at h; subst h; simpa [layS, layAt] using hc
  | x :: xs, [], h, _, _, _, _ => by simp [RelL] at h
  | x :: xs, u :: us, h, cs, vs, i, hc => by
    rw [relL_cons] at h
    simp only [layS, layAt]
    refine layS_rel h.2 (i + 1) ?_
    simpa using hc.set h.1 i

def fillS (place : Nat → Option (Nat × Nat)) (cells : List SV) : List (Nat × SV) → Option (List SV)
  | [] => some cells
  | (i, v) :: rest => match place i, v.cells with
    | some (off, size), some vc => bif Nat.beq vc.length size && Nat.ble (off + size) cells.length then fillS place (layS cells off vc) rest else none
    | _, _ => none

theorem foldl_lay (off : Nat) : ∀ (us : List Value) (j : Nat) (vs : Array Value), (us.zipIdx j).foldl (fun cs (x : Value × Nat) => cs.setIfInBounds (off + x.2) x.1) vs = layAt vs (off + j) us
  | [], j, vs => rfl
  | u :: us, j, vs => by
    simp only [List.zipIdx_cons, List.foldl_cons, layAt]
    exact foldl_lay off us (j + 1) _

theorem fillS_rel {ρ : Rho} (place : Nat → Option (Nat × Nat)) : ∀ (parts : List (Nat × SV)) (vparts : List (Nat × Value)), parts.map (·.1) = vparts.map (·.1) → RelL ρ (parts.map (·.2)) (vparts.map (·.2)) →
    ∀ (cs : List SV) (vs : Array Value), RelL ρ cs vs.toList → ∀ out, fillS place cs parts = some out → ∃ us, Instr.fill place vs vparts = some us ∧ RelL ρ out us.toList
  | [], [], _, _, cs, vs, hc, out, h => by
    simp only [fillS, Option.some.injEq] at h
    subst h
    exact ⟨vs, rfl, hc⟩
  | [], _ :: _, h, _, _, _, _, _, _ => by simp at h
  | _ :: _, [], h, _, _, _, _, _, _ => by simp at h
  | (i, v) :: parts, (i', u) :: vparts, hi, hr, cs, vs, hc, out, h => by
    simp only [List.map_cons, List.cons.injEq] at hi
    obtain ⟨rfl, hi⟩ := hi
    simp only [List.map_cons, relL_cons] at hr
    simp only [fillS] at h
    cases hp : place i with
    | none => simp [hp] at h
    | some os =>
      obtain ⟨off, size⟩ := os
      cases hv : v.cells with
      | none => simp [hp, hv] at h
      | some vc =>
        simp only [hp, hv] at h
        cases hb : Nat.beq vc.length size && Nat.ble (off + size) cs.length with
        | false => simp [hb] at h
        | true =>
          simp only [hb, cond_true] at h
          rw [Bool.and_eq_true] at hb
          have hb1 := Nat.eq_of_beq_eq_true hb.1
          have hb2 := Nat.le_of_ble_eq_true hb.2
          have hvc := SV.cells_rel hr.1 hv
          have hl := hvc.length
          have hcl := hc.length
          simp only [Array.length_toList] at hl hcl
          obtain ⟨us, h1, h2⟩ := fillS_rel place parts vparts hi hr.2 _ _ (layS_rel hvc off hc) out h
          refine ⟨us, ?_, h2⟩
          rw [Instr.fill, hp]
          simp only
          rw [if_neg (by simp; omega)]
          rw [← h1]
          congr 1
          have := foldl_lay off u.cells.toList 0 vs
          rw [← Array.foldl_toList]
          simpa using this

/-! Constants. -/
def ofCell : Value → SV
  | .int k n => .int k n
  | .bool b => .bool b
  | .pointer none => .nilp
  | .slice none 0 0 => .nils
  | _ => .top
def ofValue : Value → SV
  | .int k n => .int k n
  | .bool b => .bool b
  | .pointer none => .nilp
  | .slice none 0 0 => .nils
  | .func (.func f) ⟨[]⟩ ⟨[]⟩ => .fn f []
  | .tuple ⟨[]⟩ => .tuple []
  | .agg ⟨cs⟩ => .agg (cs.map ofCell)
  | _ => .top

theorem ofCell_rel (ρ : Rho) (v : Value) : Rel ρ (ofCell v) v := by
  unfold ofCell
  split <;> simp [Rel]
theorem ofCells_rel (ρ : Rho) : ∀ vs : List Value, RelL ρ (vs.map ofCell) vs
  | [] => by simp [RelL]
  | v :: vs => by simp only [List.map_cons, relL_cons]; exact ⟨ofCell_rel ρ v, ofCells_rel ρ vs⟩
theorem ofValue_rel (ρ : Rho) (v : Value) : Rel ρ (ofValue v) v := by
  unfold ofValue
  split <;> simp [Rel, RelL]
  exact ofCells_rel ρ _

/-! Pure operations. -/
def bitsOf (op : BinOp) (k : IntKind) (x y : Int) : Option Int :=
  match op with
  | .and => some (k.wrap ((BitVec.ofInt k.bits x &&& BitVec.ofInt k.bits y).toNat : Int))
  | .or => some (k.wrap ((BitVec.ofInt k.bits x ||| BitVec.ofInt k.bits y).toNat : Int))
  | .xor => some (k.wrap ((BitVec.ofInt k.bits x ^^^ BitVec.ofInt k.bits y).toNat : Int))
  | .andNot => some (k.wrap ((BitVec.ofInt k.bits x &&& ~~~(BitVec.ofInt k.bits y)).toNat : Int))
  | _ => none

def binInt (op : BinOp) (k : IntKind) (x y : Int) : Option (Bool × SV) :=
  match op with
  | .add => some (true, .int k (k.wrap (x + y)))
  | .sub => some (true, .int k (k.wrap (x - y)))
  | .mul => some (true, .int k (k.wrap (x * y)))
  | .quo => some (!decide (y = 0), .int k (k.wrap (x.tdiv y)))
  | .rem => some (!decide (y = 0), .int k (x.tmod y))
  | .eql => some (true, .bool (x == y))
  | .neq => some (true, .bool (x != y))
  | .lss => some (true, .bool (decide (x < y)))
  | .leq => some (true, .bool (decide (x ≤ y)))
  | .gtr => some (true, .bool (decide (x > y)))
  | .geq => some (true, .bool (decide (x ≥ y)))
  | op => match bitsOf op k x y with
    | some n => some (true, .int k n)
    | none => none

def binS (T : Nat → Option TI) (op : BinOp) (t : Nat) (x y : SV) : Option (Bool × SV) :=
  match op, x, y with
  | .shl, .int k a, .int _ b => some (!decide (b < 0), .int k (k.wrap (a * 2 ^ (min b.toNat k.bits))))
  | .shr, .int k a, .int _ b => some (!decide (b < 0), .int k (a.fdiv (2 ^ (min b.toNat k.bits))))
  | op, .int k a, .int k' b => bif decide (k = k') then binInt op k a b else none
  | .eql, .bool a, .bool b => match T t with
    | some ⟨.bool, _, _, _, _, _⟩ => some (true, .bool (a == b))
    | _ => none
  | .neq, .bool a, .bool b => match T t with
    | some ⟨.bool, _, _, _, _, _⟩ => some (true, .bool (!(a == b)))
    | _ => none
  | .eql, .agg a, .agg b => match T t with
    | some ti => bif ti.eq then (match eqL ti.zero a b with | some r => some (true, .bool r) | none => none) else none
    | _ => none
  | .neq, .agg a, .agg b => match T t with
    | some ti => bif ti.eq then (match eqL ti.zero a b with | some r => some (true, .bool (!r)) | none => none) else none
    | _ => none
  | .eql, .ptr .., .nilp => match T t with
    | some ⟨.ptr _, _, _, _, _, _⟩ => some (true, .bool false)
    | _ => none
  | .eql, .nilp, .nilp => match T t with
    | some ⟨.ptr _, _, _, _, _, _⟩ => some (true, .bool true)
    | _ => none
  | .neq, .ptr .., .nilp => match T t with
    | some ⟨.ptr _, _, _, _, _, _⟩ => some (true, .bool true)
    | _ => none
  | .neq, .nilp, .nilp => match T t with
    | some ⟨.ptr _, _, _, _, _, _⟩ => some (true, .bool false)
    | _ => none
  | _, _, _ => none

def unS (op : UnOp) (x : SV) : Option SV :=
  match op, x with
  | .neg, .int k n => some (.int k (k.wrap (0 - n)))
  | .xor, .int k n => match bitsOf .xor k (if k.signed then -1 else k.max) n with
    | some m => some (.int k m)
    | none => none
  | .not, .bool b => some (.bool !b)
  | _, _ => none

/-- A part of an aggregate. -/
def partS (ti : TI) (cs : List SV) (off : Nat) : Option SV :=
  bif ti.td.isAgg then (bif Nat.ble (off + ti.size) cs.length then some (.agg ((cs.drop off).take ti.size)) else none) else cs[off]?

def maxS (k : IntKind) (x : Int) : List SV → Option Int
  | [] => some x
  | .int k' y :: l => bif decide (k' = k) then maxS k (max x y) l else none
  | _ => none
def minS (k : IntKind) (x : Int) : List SV → Option Int
  | [] => some x
  | .int k' y :: l => bif decide (k' = k) then minS k (min x y) l else none
  | _ => none

def placesS (T : Nat → Option TI) : List (Nat × Nat) → Option (List (Nat × Nat))
  | [] => some []
  | f :: fs => match T f.2, placesS T fs with
    | some ti, some l => some ((f.1, ti.size) :: l)
    | _, _ => none

def capOr (cap : Option Nat) (len : Nat) : Nat := match cap with
  | some c => c
  | none => len

def sliceS (st id off len : Nat) (cap : Option Nat) (lo hi : Option Int) : Bool × SV :=
  match lo, hi with
  | none, none => (true, .slice id st off len cap)
  | none, some h => (decide (0 ≤ h) && decide (h ≤ ((capOr cap len : Nat) : Int)), .slice id st off h.toNat cap)
  | some l, none => (decide (0 ≤ l) && decide (l ≤ (len : Int)), .slice id st (off + l.toNat) (len - l.toNat) none)
  | some l, some h => (decide (0 ≤ h) && decide (h ≤ ((capOr cap len : Nat) : Int)) && (decide (0 ≤ l) && decide (l ≤ h)), .slice id st (off + l.toNat) (h.toNat - l.toNat) none)

def intOfS : Option SV → Option (Option Int)
  | none => some none
  | some (.int _ n) => some (some n)
  | _ => none

/-- What an operation makes of its operands, and what must hold. -/
def pureS (T : Nat → Option TI) (ev : Operand → SV) : Op → Option (Bool × SV)
  | .move x => some (true, ev x)
  | .assign x => some (true, ev x)
  | .nilCheck x => match ev x with
    | .ptr id st i j => some (true, .ptr id st i j)
    | .fn f cs => some (true, .fn f cs)
    | _ => none
  | .pick c x y => match ev c with
    | .bool b => match ev x, ev y with
      | .bool u, .bool v => some (true, .bool (bif b then u else v))
      | .tuple [], v => some (!b, v)
      | u, .tuple [] => some (b, u)
      | .int k m, .int k' n => bif decide (k = k') then some (true, .int k (bif b then m else n)) else none
      | _, _ => none
    | _ => none
  | .binOp op t x y _ => binS T op t (ev x) (ev y)
  | .unOp op _ x => match unS op (ev x) with
    | some v => some (true, v)
    | none => none
  | .convert src dst x => match T src, T dst, ev x with
    | some _, some ⟨.int k, _, _, _, _, _⟩, .int _ n => some (true, .int k (k.wrap n))
    | _, _, _ => none
  | .makeFunc (.func f) first captured => bif Nat.beq first.size 0 then some (true, .fn f (captured.toList.map ev)) else none
  | .extract x i => match ev x with
    | .tuple vs => match vs[i]? with
      | some v => some (true, v)
      | none => none
    | _ => none
  | .field t x f => match T t, ev x with
    | some ⟨.struct fs, _, _, _, _, _⟩, .agg cs => match fs[f]? with
      | some (off, ft) => match T ft with
        | some ti => match partS ti cs off with
          | some v => some (true, v)
          | none => none
        | none => none
      | none => none
    | _, _ => none
  | .index t x i => match T t, ev x, ev i with
    | some ⟨.array n e, _, _, _, _, _⟩, .agg cs, .int _ k => match T e with
      | some ti => match partS ti cs (k.toNat * ti.size) with
        | some v => some (decide (0 ≤ k) && decide (k < (n : Int)), v)
        | none => none
      | none => none
    | _, _, _ => none
  | .fieldAddr t x f => match T t, ev x with
    | some ⟨.struct fs, _, _, _, _, _⟩, .ptr id st i j => match fs[f]? with
      | some (off, ft) => match T ft with
        | some ti => bif Nat.beq ti.size 0 then none else some (true, .ptr id st i (j + off))
        | none => none
      | none => none
    | _, _ => none
  | .indexAddr t x i => match T t, ev x, ev i with
    | some ⟨.slice e, _, _, _, _, _⟩, .slice id st off len _, .int _ k => match T e with
      | some ti => bif Nat.beq ti.size st then some (decide (0 ≤ k) && decide (k < (len : Int)), .ptr id st (off + k.toNat) 0) else none
      | none => none
    | some ⟨.array n e, _, _, _, _, _⟩, .ptr id st i j, .int _ k => match T e with
      | some ti => some (decide (0 ≤ k) && decide (k < (n : Int)), .ptr id st i (j + k.toNat * ti.size))
      | none => none
    | _, _, _ => none
  | .slice t x lo hi none => match T t, ev x, intOfS (lo.map ev), intOfS (hi.map ev) with
    | some ⟨.slice e, _, _, _, _, _⟩, .slice id st off len cap, some l, some h => match T e with
      | some ti => bif Nat.beq ti.size st then some (sliceS st id off len cap l h) else none
      | none => none
    | some ⟨.slice e, _, _, _, _, _⟩, .nils, some none, some h => match T e with
      | some _ => (match h with | none => some (true, .nils) | some h => some (decide (h = 0), .nils))
      | none => none
    | _, _, _, _ => none
  | .build t parts => match T t with
    | some ⟨.struct fs, _, zero, _, _, _⟩ => match placesS T fs with
      | some places => match fillS (places[·]?) zero (parts.toList.map fun p => (p.1, ev p.2)) with
        | some cs => some (true, .agg cs)
        | none => none
      | none => none
    | some ⟨.array _ e, _, zero, _, _, _⟩ => match T e with
      | some ti => match fillS (fun i => some (i * ti.size, ti.size)) zero (parts.toList.map fun p => (p.1, ev p.2)) with
        | some cs => some (true, .agg cs)
        | none => none
      | none => none
    | _ => none
  | .call ⟨.builtin .len, args, ts⟩ => match args.toList, ts.toList with
    | [x], [t] => match T t, ev x with
      | some ⟨.slice _, _, _, _, _, _⟩, .slice _ _ _ len _ => some (true, .int .i64 (len : Int))
      | some ⟨.slice _, _, _, _, _, _⟩, .nils => some (true, .int .i64 0)
      | some ⟨.array n _, _, _, _, _, _⟩, _ => some (true, .int .i64 (n : Int))
      | _, _ => none
    | _, _ => none
  | .call ⟨.builtin .max, args, _⟩ => match args.toList.map ev with
    | .int k x :: l => match maxS k x l with
      | some n => some (true, .int k n)
      | none => none
    | _ => none
  | .call ⟨.builtin .min, args, _⟩ => match args.toList.map ev with
    | .int k x :: l => match minS k x l with
      | some n => some (true, .int k n)
      | none => none
    | _ => none
  | _ => none

end Go.Proofs.Ytikifgbbiffclaa
