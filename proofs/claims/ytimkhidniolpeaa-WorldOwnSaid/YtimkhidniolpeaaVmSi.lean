/- grid's axes of a line: due, ahead, along. grid's Sight, plainly: the line's axes step from cell to cell, and meet just the cells that the line's points lie in. -/
import Derived.Test.YtimkhidniolpeaaVmOra
import Derived.Test.YtimkhidniolpeaaVmI
namespace Go.Proofs.Ytimkhidniolpeaa
set_option linter.unusedSimpArgs false
set_option linter.unusedVariables false
set_option maxRecDepth 100000
set_option maxHeartbeats 0
open Go.RowKit

structure Ax where
 c : Int
 d : Int
 n : Int
 e : Int
def Ax.sv (a : Ax) : List SV := [.int .i64 a.c, .int .i64 a.d, .int .i64 a.n, .int .i64 a.e]
def Ax.due (a : Ax) : Bool := (decide (0 < a.d) && decide (a.n ≤ a.e)) || (decide (a.d < 0) && decide (a.n < a.e))
def Ax.ahead (x y : Ax) : Bool := decide (IntKind.i64.wrap (x.n * y.e) < IntKind.i64.wrap (y.n * x.e))
def Ax.step (a : Ax) : Ax := ⟨IntKind.i64.wrap (a.c + a.d), a.d, IntKind.i64.wrap (a.n + 65536), a.e⟩
def alongA (a b : Int) : Ax := bif decide (a < b) then ⟨a / 65536, 1, (a / 65536 + 1) * 65536 - a, b - a⟩ else bif decide (b < a) then ⟨a / 65536, -1, a - a / 65536 * 65536, a - b⟩ else ⟨a / 65536, 0, 0, 0⟩
def smallB (a : Int) : Bool := decide (-1099511627776 ≤ a) && decide (a ≤ 1099511627776)

noncomputable def x0 : Ctx := ⟨vmT, fun _ => none, fun _ _ _ => none, fun _ => false⟩
theorem x0_ok : COk Try.prog x0 where
 mixed := by kernel_rfl
 T := vmT_ok
 fn := fun _ _ h => by cases h
 call := fun _ _ _ _ h _ => by cases h

theorem due_tree (c d n e : Int) : runK x0 (fun _ _ => none) 100 94 Try.f94 0 [.agg [.int .i64 c, .int .i64 d, .int .i64 n, .int .i64 e]] [] =
 some (SV.bool (bif (bif decide (d > 0) == true then decide (n ≤ e) else false) == false then bif decide (d < 0) == true then decide (n < e) else false else true), []) := by kernel_rfl

theorem ahead_tree (c d n e c' d' n' e' : Int) : runK x0 (fun _ _ => none) 100 95 Try.f95 0 [.agg [.int .i64 c, .int .i64 d, .int .i64 n, .int .i64 e], .agg [.int .i64 c', .int .i64 d', .int .i64 n', .int .i64 e']] [] =
 some (SV.bool (decide (IntKind.i64.wrap (n * e') < IntKind.i64.wrap (n' * e))), []) := by kernel_rfl

theorem along_tree (a b : Int) : runK x0 (fun _ _ => none) 100 92 Try.f92 0 [.int .i64 a, .int .i64 b] [] =
 bif decide (b > a) then
  some
   (SV.agg
       [.int .i64 (a.fdiv (2 ^ min (Int.toNat 16) IntKind.i64.bits)), .int .i64 1,
        .int .i64 (IntKind.i64.wrap (IntKind.i64.wrap (IntKind.i64.wrap (a.fdiv (2 ^ min (Int.toNat 16) IntKind.i64.bits) + 1) * 2 ^ min (Int.toNat 16) IntKind.i64.bits) - a)),
        .int .i64 (IntKind.i64.wrap (b - a))],
    [])
 else
  bif decide (b < a) then
   some
    (SV.agg
        [.int .i64 (a.fdiv (2 ^ min (Int.toNat 16) IntKind.i64.bits)), .int .i64 (-1),
         .int .i64 (IntKind.i64.wrap (a - IntKind.i64.wrap (a.fdiv (2 ^ min (Int.toNat 16) IntKind.i64.bits) * 2 ^ min (Int.toNat 16) IntKind.i64.bits))),
         .int .i64 (IntKind.i64.wrap (a - b))],
     [])
  else some (SV.agg [.int .i64 (a.fdiv (2 ^ min (Int.toNat 16) IntKind.i64.bits)), .int .i64 0, .int .i64 0, .int .i64 0], []) := by kernel_rfl

theorem due_val (c d n e : Int) : runK x0 (fun _ _ => none) 100 94 Try.f94 0 [.agg [.int .i64 c, .int .i64 d, .int .i64 n, .int .i64 e]] [] = some (.bool (Ax.due ⟨c, d, n, e⟩), []) := by
 rw [due_tree]
 unfold Ax.due
 simp only [gt_iff_lt]
 cases decide (0 < d) <;> cases decide (n ≤ e) <;> cases decide (d < 0) <;> cases decide (n < e) <;> rfl

theorem ahead_val (c d n e c' d' n' e' : Int) : runK x0 (fun _ _ => none) 100 95 Try.f95 0 [.agg [.int .i64 c, .int .i64 d, .int .i64 n, .int .i64 e], .agg [.int .i64 c', .int .i64 d', .int .i64 n', .int .i64 e']] [] =
    some (.bool (Ax.ahead ⟨c, d, n, e⟩ ⟨c', d', n', e'⟩), []) := ahead_tree c d n e c' d' n' e'

theorem along_val {a b : Int} (ha : smallB a = true) (hb : smallB b = true) : runK x0 (fun _ _ => none) 100 92 Try.f92 0 [.int .i64 a, .int .i64 b] [] = some (.agg (alongA a b).sv, []) := by
 unfold smallB at ha hb
 simp only [Bool.and_eq_true, decide_eq_true_eq] at ha hb
 rw [along_tree]
 have p16 : (2 ^ min (Int.toNat 16) IntKind.i64.bits : Int) = 65536 := by decide
 have f16 : a.fdiv 65536 = a / 65536 := Int.fdiv_eq_ediv_of_nonneg a (by omega)
 rw [p16, f16, IntWalk.i64_in (a / 65536 + 1) (by omega), IntWalk.i64_in ((a / 65536 + 1) * 65536) (by omega), IntWalk.i64_in ((a / 65536 + 1) * 65536 - a) (by omega), IntWalk.i64_in (b - a) (by omega),
  IntWalk.i64_in (a / 65536 * 65536) (by omega), IntWalk.i64_in (a - a / 65536 * 65536) (by omega), IntWalk.i64_in (a - b) (by omega)]
 unfold alongA Ax.sv
 simp only [gt_iff_lt]
 cases decide (a < b)
 · cases decide (b < a) <;> rfl
 · rfl

def oDue : List SV → Option Eff
 | [.agg [.int .i64 c, .int .i64 d, .int .i64 n, .int .i64 e]] => some { val := .bool (Ax.due ⟨c, d, n, e⟩) }
 | _ => none
def oAhead : List SV → Option Eff
 | [.agg [.int .i64 c, .int .i64 d, .int .i64 n, .int .i64 e], .agg [.int .i64 c', .int .i64 d', .int .i64 n', .int .i64 e']] => some { val := .bool (Ax.ahead ⟨c, d, n, e⟩ ⟨c', d', n', e'⟩) }
 | _ => none
def oAlong : List SV → Option Eff
 | [.int .i64 a, .int .i64 b] => some { ok := smallB a && smallB b, val := .agg (alongA a b).sv }
 | _ => none

theorem oDue_ok {m : Nat → Option Row} {n : Nat} {args : List SV} {e : Eff} (h : oDue args = some e) : FnOk Try.prog 94 args m n e := by
 unfold oDue at h
 split at h
 · rename_i c d k f
   cases h
   obtain ⟨rows', hc, _⟩ := runK_ok x0_ok lok_none Try.func94 (due_val c d k f)
   exact fnOk_pure hc rfl rfl
 · cases h

theorem oAhead_ok {m : Nat → Option Row} {n : Nat} {args : List SV} {e : Eff} (h : oAhead args = some e) : FnOk Try.prog 95 args m n e := by
 unfold oAhead at h
 split at h
 · rename_i c d k f c' d' k' f'
   cases h
   obtain ⟨rows', hc, _⟩ := runK_ok x0_ok lok_none Try.func95 (ahead_val c d k f c' d' k' f')
   exact fnOk_pure hc rfl rfl
 · cases h

theorem oAlong_ok {m : Nat → Option Row} {n : Nat} {args : List SV} {e : Eff} (h : oAlong args = some e) (hok : e.ok = true) : FnOk Try.prog 92 args m n e := by
 unfold oAlong at h
 split at h
 · rename_i a b
   cases h
   simp only [Bool.and_eq_true] at hok
   obtain ⟨rows', hc, _⟩ := runK_ok x0_ok lok_none Try.func92 (along_val hok.1 hok.2)
   exact fnOk_pure hc rfl rfl
 · cases h

end Go.Proofs.Ytimkhidniolpeaa

namespace Go.Proofs.Ytimkhidniolpeaa
set_option linter.unusedSimpArgs false
set_option linter.unusedVariables false
set_option maxRecDepth 100000
set_option maxHeartbeats 0
open Go.RowKit

def Ax.goes (x : Ax) (dir : Int) (a : Ax) : Bool := (a.d == dir) && (a.due && !(x.ahead a))
def Ax.next (x : Ax) (dir : Int) (a : Ax) : Ax := bif x.goes dir a then a.step else a
def Ax.anyGo (x : Ax) (dir : Int) (a b c : Ax) : Bool := x.goes dir c || (x.goes dir b || (x.goes dir a || false))
def Ax.pick (now x : Ax) : Ax := bif x.due && (now.d == 0 || x.ahead now) then x else now
def Ax.pick3 (a b c : Ax) : Ax := ((Ax.pick ⟨0, 0, 0, 0⟩ a).pick b).pick c
def hitF (F : Int → Int → Int → Bool) (x : Ax) (dir : Int) (a b c : Ax) : Bool := bif x.anyGo dir a b c == true then F (x.next dir a).c (x.next dir b).c (x.next dir c).c else false
def sightL (F : Int → Int → Int → Bool) : Nat → Ax → Ax → Ax → Bool
 | 0, _, _, _ => false
 | n + 1, a, b, c =>
  bif (Ax.pick3 a b c).d == 0 then true else
  bif hitF F (Ax.pick3 a b c) 1 a b c then false else
  bif hitF F (Ax.pick3 a b c) (-1) ((Ax.pick3 a b c).next 1 a) ((Ax.pick3 a b c).next 1 b) ((Ax.pick3 a b c).next 1 c) then false else
  sightL F n ((Ax.pick3 a b c).next (-1) ((Ax.pick3 a b c).next 1 a)) ((Ax.pick3 a b c).next (-1) ((Ax.pick3 a b c).next 1 b)) ((Ax.pick3 a b c).next (-1) ((Ax.pick3 a b c).next 1 c))

def sightE (F : Int → Int → Int → Bool) : Nat → Ax → Ax → Ax → Ax × Ax × Ax
 | 0, a, b, c => (a, b, c)
 | n + 1, a, b, c =>
  bif (Ax.pick3 a b c).d == 0 then (a, b, c) else
  bif hitF F (Ax.pick3 a b c) 1 a b c then ((Ax.pick3 a b c).next 1 a, (Ax.pick3 a b c).next 1 b, (Ax.pick3 a b c).next 1 c) else
  bif hitF F (Ax.pick3 a b c) (-1) ((Ax.pick3 a b c).next 1 a) ((Ax.pick3 a b c).next 1 b) ((Ax.pick3 a b c).next 1 c) then ((Ax.pick3 a b c).next (-1) ((Ax.pick3 a b c).next 1 a), (Ax.pick3 a b c).next (-1) ((Ax.pick3 a b c).next 1 b), (Ax.pick3 a b c).next (-1) ((Ax.pick3 a b c).next 1 c)) else
  sightE F n ((Ax.pick3 a b c).next (-1) ((Ax.pick3 a b c).next 1 a)) ((Ax.pick3 a b c).next (-1) ((Ax.pick3 a b c).next 1 b)) ((Ax.pick3 a b c).next (-1) ((Ax.pick3 a b c).next 1 c))

def cellAt (a b p q : Int) : Int := (a * q + (b - a) * p) / (q * 65536)

def Lin (a b : Int) (A : Ax) : Prop := (a < b ∧ A.d = 1 ∧ A.e = b - a ∧ A.n = (A.c + 1) * 65536 - a) ∨ (b < a ∧ A.d = -1 ∧ A.e = a - b ∧ A.n = a - A.c * 65536) ∨ (a = b ∧ A.d = 0 ∧ A.e = 0 ∧ A.n = 0 ∧ A.c = a / 65536)
def Bd (a b : Int) (A : Ax) : Prop := 0 ≤ a ∧ a < 2097152 ∧ 0 ≤ b ∧ b < 2097152 ∧ 0 ≤ A.n ∧ A.n ≤ 4194304

theorem bd_of {a b : Int} {A : Ax} (h : Lin a b A) (k : Bd a b A) : 0 ≤ A.e ∧ A.e < 2097152 ∧ -100 < A.c ∧ A.c < 100 ∧ -1 ≤ A.d ∧ A.d ≤ 1 := by
 unfold Bd at k
 rcases h with ⟨h1, h2, h3, h4⟩ | ⟨h1, h2, h3, h4⟩ | ⟨h1, h2, h3, h4, h5⟩
 · omega
 · omega
 · omega

theorem mul_bd {x y : Int} (h1 : 0 ≤ x) (h2 : x ≤ 4194304) (h3 : 0 ≤ y) (h4 : y ≤ 4194304) : 0 ≤ x * y ∧ x * y ≤ 17592186044416 := by
 constructor
 · exact Int.mul_nonneg h1 h3
 · have := Int.mul_le_mul h2 h4 h3 (by omega)
   omega

theorem step_plain {a b : Int} {A : Ax} (h : Lin a b A) (k : Bd a b A) : A.step = ⟨A.c + A.d, A.d, A.n + 65536, A.e⟩ := by
 have hb := bd_of h k
 unfold Bd at k
 unfold Ax.step
 rw [IntWalk.i64_in (A.c + A.d) (by omega), IntWalk.i64_in (A.n + 65536) (by omega)]

theorem ahead_plain {a b a' b' : Int} {A B : Ax} (h : Lin a b A) (k : Bd a b A) (h' : Lin a' b' B) (k' : Bd a' b' B) : A.ahead B = decide (A.n * B.e < B.n * A.e) := by
 have hb := bd_of h k
 have hb' := bd_of h' k'
 unfold Bd at k k'
 unfold Ax.ahead
 have m1 := mul_bd (x := A.n) (y := B.e) (by omega) (by omega) (by omega) (by omega)
 have m2 := mul_bd (x := B.n) (y := A.e) (by omega) (by omega) (by omega) (by omega)
 rw [IntWalk.i64_in (A.n * B.e) (by omega), IntWalk.i64_in (B.n * A.e) (by omega)]

theorem due_iff {A : Ax} : A.due = true ↔ (0 < A.d ∧ A.n ≤ A.e) ∨ (A.d < 0 ∧ A.n < A.e) := by
 unfold Ax.due
 simp

theorem lin_pos {a b : Int} {A : Ax} (h : Lin a b A) (hd : A.d ≠ 0) : 0 < A.e := by
 rcases h with ⟨h1, h2, h3, h4⟩ | ⟨h1, h2, h3, h4⟩ | ⟨h1, h2, h3, h4, h5⟩ <;> omega
theorem lin_dir {a b : Int} {A : Ax} (h : Lin a b A) : A.d = 1 ∨ A.d = -1 ∨ A.d = 0 := by
 rcases h with ⟨h1, h2, h3, h4⟩ | ⟨h1, h2, h3, h4⟩ | ⟨h1, h2, h3, h4, h5⟩ <;> omega

def Upp (A : Ax) (p q : Int) : Prop := (A.d = 1 → A.e * p < A.n * q) ∧ (A.d = -1 → A.e * p ≤ A.n * q)
def Low (A : Ax) (p q : Int) : Prop := (A.d = 1 → (A.n - 65536) * q ≤ A.e * p) ∧ (A.d = -1 → (A.n - 65536) * q < A.e * p)

theorem cell_is {a b p q : Int} {A : Ax} (h : Lin a b A) (hq : 0 < q) (hl : Low A p q) (hu : Upp A p q) : cellAt a b p q = A.c := by
 have hq6 : 0 < q * 65536 := by omega
 have key : A.c * (q * 65536) ≤ a * q + (b - a) * p → a * q + (b - a) * p < (A.c + 1) * (q * 65536) → cellAt a b p q = A.c := by
  intro h1 h2
  unfold cellAt
  have h3 := (Int.le_ediv_iff_mul_le hq6).2 h1
  have h4 := (Int.ediv_lt_iff_lt_mul hq6).2 h2
  omega
 rcases h with ⟨h1, h2, h3, h4⟩ | ⟨h1, h2, h3, h4⟩ | ⟨h1, h2, h3, h4, h5⟩
 · have l := hl.1 h2
   have u := hu.1 h2
   rw [h3, h4] at l u
   apply key <;> grind
 · have l := hl.2 h2
   have u := hu.2 h2
   rw [h3, h4] at l u
   apply key <;> grind
 · subst h1
   have e : a * q + (a - a) * p = a * q := by grind
   have e1 := Int.mul_ediv_add_emod a 65536
   have e2 := Int.emod_lt_of_pos a (show (0 : Int) < 65536 by omega)
   have e3 := Int.emod_nonneg a (show (65536 : Int) ≠ 0 by omega)
   rw [← h5] at e1
   apply key
   · rw [e]
     have : A.c * 65536 ≤ a := by omega
     have := Int.mul_le_mul_of_nonneg_right this (Int.le_of_lt hq)
     grind
   · rw [e]
     have : a < (A.c + 1) * 65536 := by omega
     have := Int.mul_lt_mul_of_pos_right this hq
     grind

theorem cross_lt {e n N E p q : Int} (he : 0 < e) (hE : 0 < E) (hq : 0 < q) (h1 : p * E < N * q) (h2 : N * e ≤ n * E) : e * p < n * q := by
 apply Int.lt_of_mul_lt_mul_left (a := E) _ (Int.le_of_lt hE)
 have a1 : e * (p * E) < e * (N * q) := Int.mul_lt_mul_of_pos_left h1 he
 have a2 : (N * e) * q ≤ (n * E) * q := Int.mul_le_mul_of_nonneg_right h2 (Int.le_of_lt hq)
 grind
theorem cross_lt' {e n N E p q : Int} (he : 0 < e) (hE : 0 < E) (hq : 0 < q) (h1 : p * E = N * q) (h2 : N * e < n * E) : e * p < n * q := by
 apply Int.lt_of_mul_lt_mul_left (a := E) _ (Int.le_of_lt hE)
 have a1 : e * (p * E) = e * (N * q) := by rw [h1]
 have a2 : (N * e) * q < (n * E) * q := Int.mul_lt_mul_of_pos_right h2 hq
 grind
theorem cross_le {e n N E p q : Int} (hE : 0 < E) (hq : 0 < q) (h1 : p * E = N * q) (h2 : N * e ≤ n * E) : e * p ≤ n * q := by
 apply Int.le_of_mul_le_mul_left (a := E) _ hE
 have a1 : e * (p * E) = e * (N * q) := by rw [h1]
 have a2 : (N * e) * q ≤ (n * E) * q := Int.mul_le_mul_of_nonneg_right h2 (Int.le_of_lt hq)
 grind
theorem cross_eq {e n N E p q : Int} (hE : 0 < E) (h1 : p * E = N * q) (h2 : N * e = n * E) : e * p = n * q := by
 apply Int.eq_of_mul_eq_mul_left (a := E) (by omega)
 have a1 : e * (p * E) = e * (N * q) := by rw [h1]
 have a2 : (N * e) * q = (n * E) * q := by rw [h2]
 grind
theorem cross_gt {e n N E p q : Int} (he : 0 < e) (hE : 0 < E) (h1 : N * q < p * E) (h2 : N * e = n * E) : n * q < e * p := by
 apply Int.lt_of_mul_lt_mul_left (a := E) _ (Int.le_of_lt hE)
 have a1 : e * (N * q) < e * (p * E) := Int.mul_lt_mul_of_pos_left h1 he
 have a2 : (N * e) * q = (n * E) * q := by rw [h2]
 grind

theorem upp_undue {a b p q : Int} {A : Ax} (h : Lin a b A) (hq : 0 < q) (hp : p ≤ q) (hd : ¬ A.due = true) : Upp A p q := by
 rw [due_iff] at hd
 constructor
 · intro d1
   have e0 := lin_pos h (by omega)
   have h1 : A.e < A.n := by omega
   have h2 := Int.mul_le_mul_of_nonneg_left hp (Int.le_of_lt e0)
   have h3 := Int.mul_lt_mul_of_pos_right h1 hq
   omega
 · intro d1
   have e0 := lin_pos h (by omega)
   have h1 : A.e ≤ A.n := by omega
   have h2 := Int.mul_le_mul_of_nonneg_left hp (Int.le_of_lt e0)
   have h3 := Int.mul_le_mul_of_nonneg_right h1 (Int.le_of_lt hq)
   omega

structure Nxt (N E : Int) (A : Ax) : Prop where
 pos : 0 < E
 le : A.due = true → N * A.e ≤ A.n * E

theorem upp_before {a b p q N E : Int} {A : Ax} (h : Lin a b A) (hn : Nxt N E A) (hq : 0 < q) (hp : p ≤ q) (ht : p * E < N * q) : Upp A p q := by
 by_cases hd : A.due = true
 · constructor
   · intro d1
     exact cross_lt (lin_pos h (by omega)) hn.pos hq ht (hn.le hd)
   · intro d1
     exact Int.le_of_lt (cross_lt (lin_pos h (by omega)) hn.pos hq ht (hn.le hd))
 · exact upp_undue h hq hp hd

def Goes (N E : Int) (A : Ax) (dir : Int) : Prop := A.d = dir ∧ A.due = true ∧ N * A.e = A.n * E
def Nx (N E : Int) (dir : Int) (A A' : Ax) : Prop := (Goes N E A dir ∧ A' = ⟨A.c + A.d, A.d, A.n + 65536, A.e⟩) ∨ (¬ Goes N E A dir ∧ A' = A)

theorem nx_lin {a b N E dir : Int} {A A' : Ax} (h : Lin a b A) (k : Bd a b A) (hdir : dir = 1 ∨ dir = -1) (hx : Nx N E dir A A') : Lin a b A' ∧ Bd a b A' := by
 have hb := bd_of h k
 rcases hx with ⟨hg, rfl⟩ | ⟨_, rfl⟩
 · have hdd : A.d ≠ 0 := by have := hg.1; omega
   have hdue := due_iff.1 hg.2.1
   unfold Bd at k ⊢
   rcases h with ⟨h1, h2, h3, h4⟩ | ⟨h1, h2, h3, h4⟩ | ⟨h1, h2, h3, h4, h5⟩
   · refine ⟨.inl ⟨h1, h2, h3, ?_⟩, ?_⟩
     · simp only; omega
     · simp only; omega
   · refine ⟨.inr (.inl ⟨h1, h2, h3, ?_⟩), ?_⟩
     · simp only; omega
     · simp only; omega
   · omega
 · exact ⟨h, k⟩

theorem at_cross {a b p q N E : Int} {A A' : Ax} (h : Lin a b A) (hn : Nxt N E A) (hq : 0 < q) (hp : p ≤ q) (ht : p * E = N * q) (hl : Low A p q) (hx : Nx N E 1 A A') (h' : Lin a b A') : cellAt a b p q = A'.c := by
 rcases hx with ⟨hg, rfl⟩ | ⟨hg, rfl⟩
 · have e0 := lin_pos h (by have := hg.1; omega)
   have he := cross_eq hn.pos ht hg.2.2
   refine cell_is h' hq ⟨fun _ => ?_, fun hd => ?_⟩ ⟨fun _ => ?_, fun hd => ?_⟩
   · simp only; rw [he]; have : (A.n + 65536 - 65536) * q = A.n * q := by grind
     omega
   · have := hg.1; simp only at hd; omega
   · simp only; rw [he]; have : (A.n + 65536) * q = A.n * q + 65536 * q := by grind
     omega
   · have := hg.1; simp only at hd; omega
 · refine cell_is h hq hl ?_
   by_cases hd : A'.due = true
   · have hle := hn.le hd
     constructor
     · intro d1
       have hne : N * A'.e ≠ A'.n * E := fun hc => hg ⟨d1, hd, hc⟩
       exact cross_lt' (lin_pos h (by omega)) hn.pos hq ht (by omega)
     · intro d1
       exact cross_le hn.pos hq ht hle
   · exact upp_undue h hq hp hd

theorem low_after {a b p q N E : Int} {A A' A'' : Ax} (h : Lin a b A) (hE : 0 < E) (hl : Low A p q) (ht : N * q < p * E) (hx : Nx N E 1 A A') (hx' : Nx N E (-1) A' A'') : Low A'' p q := by
 rcases hx with ⟨hg, rfl⟩ | ⟨hg, rfl⟩
 · rcases hx' with ⟨hg', rfl⟩ | ⟨hg', rfl⟩
   · have h1 := hg.1; have h2 := hg'.1; simp only at h2; omega
   · have e0 := lin_pos h (by have := hg.1; omega)
     have hgt := cross_gt e0 hE ht hg.2.2
     refine ⟨fun _ => ?_, fun hd => ?_⟩
     · simp only; have : (A.n + 65536 - 65536) * q = A.n * q := by grind
       omega
     · have := hg.1; simp only at hd; omega
 · rcases hx' with ⟨hg', rfl⟩ | ⟨hg', rfl⟩
   · have e0 := lin_pos h (by have := hg'.1; omega)
     have hgt := cross_gt e0 hE ht hg'.2.2
     refine ⟨fun hd => ?_, fun _ => ?_⟩
     · have := hg'.1; simp only at hd; omega
     · simp only; have : (A'.n + 65536 - 65536) * q = A'.n * q := by grind
       omega
   · exact hl

theorem goes_iff {a b a' b' dir : Int} {X A : Ax} (hX : Lin a' b' X) (kX : Bd a' b' X) (h : Lin a b A) (k : Bd a b A) (hn : Nxt X.n X.e A) : X.goes dir A = true ↔ Goes X.n X.e A dir := by
 unfold Ax.goes Goes
 rw [ahead_plain hX kX h k]
 simp only [Bool.and_eq_true, beq_iff_eq, Bool.not_eq_true', decide_eq_false_iff_not]
 constructor
 · rintro ⟨h1, h2, h3⟩
   have := hn.le h2
   exact ⟨h1, h2, by omega⟩
 · rintro ⟨h1, h2, h3⟩
   exact ⟨h1, h2, by omega⟩

theorem next_nx {a b a' b' dir : Int} {X A : Ax} (hX : Lin a' b' X) (kX : Bd a' b' X) (h : Lin a b A) (k : Bd a b A) (hn : Nxt X.n X.e A) : Nx X.n X.e dir A (X.next dir A) := by
 unfold Ax.next
 have hg := goes_iff (dir := dir) hX kX h k hn
 cases hc : X.goes dir A with
 | true => rw [hc] at hg; exact .inl ⟨hg.1 rfl, step_plain h k⟩
 | false => rw [hc] at hg; exact .inr ⟨fun hh => absurd (hg.2 hh) (by simp), rfl⟩

theorem nx_nxt {a b N E : Int} {A A' : Ax} (h : Lin a b A) (hn : Nxt N E A) (hx : Nx N E 1 A A') : Nxt N E A' := by
 rcases hx with ⟨hg, rfl⟩ | ⟨_, rfl⟩
 · refine ⟨hn.pos, fun _ => ?_⟩
   simp only
   have := hg.2.2
   have h2 : (A.n + 65536) * E = A.n * E + 65536 * E := by grind
   have := hn.pos
   omega
 · exact hn

def Pk (X : Ax) (A : Ax) : Prop := A.due = true → X.d ≠ 0 ∧ X.n * A.e ≤ A.n * X.e
theorem ahead_trans {x y z : Ax} (h1 : x.n * y.e ≤ y.n * x.e) (h2 : y.n * z.e ≤ z.n * y.e) (hx : 0 < x.e) (hy : 0 < y.e) (hz : 0 < z.e) : x.n * z.e ≤ z.n * x.e := by
 apply Int.le_of_mul_le_mul_left (a := y.e) _ hy
 have a1 := Int.mul_le_mul_of_nonneg_right h1 (Int.le_of_lt hz)
 have a2 := Int.mul_le_mul_of_nonneg_right h2 (Int.le_of_lt hx)
 grind

theorem due_pos {a b : Int} {A : Ax} (h : Lin a b A) (hd : A.due = true) : A.d ≠ 0 ∧ 0 < A.e := by
 rw [due_iff] at hd
 exact ⟨by omega, lin_pos h (by omega)⟩

structure Pkd (X : Ax) (l : List (Int × Int × Ax)) : Prop where
 from_ : X.d ≠ 0 → X.due = true ∧ ∃ x ∈ l, x.2.2 = X
 min : ∀ x ∈ l, Pk X x.2.2

theorem pick_more {X : Ax} {l : List (Int × Int × Ax)} {a b : Int} {A : Ax} (hl : ∀ x ∈ l, Lin x.1 x.2.1 x.2.2 ∧ Bd x.1 x.2.1 x.2.2) (h : Lin a b A) (k : Bd a b A) (hp : Pkd X l) : Pkd (X.pick A) (l ++ [(a, b, A)]) := by
 unfold Ax.pick
 have old : ∀ {Y : Ax}, Y = X → Pk X A → Pkd Y (l ++ [(a, b, A)]) := by
  rintro _ rfl hA
  refine ⟨fun hd => ?_, fun x hx => ?_⟩
  · obtain ⟨h1, x, hx, h2⟩ := hp.from_ hd
    exact ⟨h1, x, List.mem_append_left _ hx, h2⟩
  · rcases List.mem_append.1 hx with hx | hx
    · exact hp.min x hx
    · simp at hx; subst hx; exact hA
 cases hd : A.due with
 | false =>
  simp only [Bool.false_and, cond_false]
  exact old rfl (fun h => by rw [hd] at h; cases h)
 | true =>
  obtain ⟨hd0, he0⟩ := due_pos h hd
  simp only [Bool.true_and]
  by_cases hx0 : X.d = 0
  · simp only [hx0, beq_self_eq_true, Bool.true_or, cond_true]
    refine ⟨fun _ => ⟨hd, _, List.mem_append_right _ (List.mem_singleton.2 rfl), rfl⟩, fun x hx hxd => ?_⟩
    rcases List.mem_append.1 hx with hx | hx
    · exact absurd hx0 (hp.min x hx hxd).1
    · simp at hx; subst hx; exact ⟨hd0, Int.le_refl _⟩
  · obtain ⟨hXd, y, hy, rfl⟩ := hp.from_ hx0
    obtain ⟨hY, kY⟩ := hl y hy
    rw [ahead_plain h k hY kY]
    simp only [beq_eq_false_iff_ne.2 hx0, Bool.false_or]
    by_cases hlt : A.n * y.2.2.e < y.2.2.n * A.e
    · simp only [hlt, decide_true, cond_true]
      refine ⟨fun _ => ⟨hd, _, List.mem_append_right _ (List.mem_singleton.2 rfl), rfl⟩, fun x hx hxd => ⟨hd0, ?_⟩⟩
      rcases List.mem_append.1 hx with hx | hx
      · have hm := (hp.min x hx hxd).2
        exact ahead_trans (Int.le_of_lt hlt) hm he0 (due_pos hY hXd).2 (due_pos (hl x hx).1 hxd).2
      · simp at hx; subst hx; exact Int.le_refl _
    · simp only [hlt, decide_false, cond_false]
      exact old rfl (fun _ => ⟨hx0, by omega⟩)

theorem pick3_ok {a1 b1 a2 b2 a3 b3 : Int} {A B C : Ax} (h1 : Lin a1 b1 A) (k1 : Bd a1 b1 A) (h2 : Lin a2 b2 B) (k2 : Bd a2 b2 B) (h3 : Lin a3 b3 C) (k3 : Bd a3 b3 C) :
    Pkd (Ax.pick3 A B C) [(a1, b1, A), (a2, b2, B), (a3, b3, C)] := by
 unfold Ax.pick3
 have p0 : Pkd ⟨0, 0, 0, 0⟩ [] := ⟨fun h => absurd rfl h, fun x hx => by cases hx⟩
 have p1 := pick_more (by simp) h1 k1 p0
 have p2 := pick_more (l := [] ++ [(a1, b1, A)]) (fun x hx => by simp at hx; subst hx; exact ⟨h1, k1⟩) h2 k2 p1
 exact pick_more (l := [] ++ [(a1, b1, A)] ++ [(a2, b2, B)]) (fun x hx => by simp at hx; rcases hx with rfl | rfl <;> first | exact ⟨h1, k1⟩ | exact ⟨h2, k2⟩) h3 k3 p2

structure S3 (a1 b1 a2 b2 a3 b3 : Int) (A B C : Ax) : Prop where
 l1 : Lin a1 b1 A
 k1 : Bd a1 b1 A
 l2 : Lin a2 b2 B
 k2 : Bd a2 b2 B
 l3 : Lin a3 b3 C
 k3 : Bd a3 b3 C

section
variable {a1 b1 a2 b2 a3 b3 : Int} {A B C : Ax}

theorem none_due (s : S3 a1 b1 a2 b2 a3 b3 A B C) (h : (Ax.pick3 A B C).d = 0) : ¬ A.due = true ∧ ¬ B.due = true ∧ ¬ C.due = true := by
 have hp := pick3_ok s.l1 s.k1 s.l2 s.k2 s.l3 s.k3
 exact ⟨fun hd => (hp.min (a1, b1, A) (by simp) hd).1 h, fun hd => (hp.min (a2, b2, B) (by simp) hd).1 h, fun hd => (hp.min (a3, b3, C) (by simp) hd).1 h⟩

structure Now (a1 b1 a2 b2 a3 b3 : Int) (A B C X : Ax) : Prop where
 due : X.due = true
 is : X = A ∨ X = B ∨ X = C
 lin : ∃ a b, Lin a b X ∧ Bd a b X
 n1 : Nxt X.n X.e A
 n2 : Nxt X.n X.e B
 n3 : Nxt X.n X.e C

theorem now_ok (s : S3 a1 b1 a2 b2 a3 b3 A B C) (h : (Ax.pick3 A B C).d ≠ 0) : Now a1 b1 a2 b2 a3 b3 A B C (Ax.pick3 A B C) := by
 have hp := pick3_ok s.l1 s.k1 s.l2 s.k2 s.l3 s.k3
 generalize Ax.pick3 A B C = X at hp h
 obtain ⟨hd, x, hx, hxe⟩ := hp.from_ h
 have hlin : ∃ a b, Lin a b X ∧ Bd a b X := by
  simp only [List.mem_cons, List.not_mem_nil, or_false] at hx
  rcases hx with rfl | rfl | rfl <;> simp only at hxe <;> subst hxe
  · exact ⟨_, _, s.l1, s.k1⟩
  · exact ⟨_, _, s.l2, s.k2⟩
  · exact ⟨_, _, s.l3, s.k3⟩
 have hE : 0 < X.e := by obtain ⟨a, b, hl, _⟩ := hlin; exact lin_pos hl h
 refine ⟨hd, ?_, hlin, ⟨hE, fun hd => (hp.min (a1, b1, A) (by simp) hd).2⟩, ⟨hE, fun hd => (hp.min (a2, b2, B) (by simp) hd).2⟩, ⟨hE, fun hd => (hp.min (a3, b3, C) (by simp) hd).2⟩⟩
 simp only [List.mem_cons, List.not_mem_nil, or_false] at hx
 rcases hx with rfl | rfl | rfl <;> simp only at hxe <;> subst hxe <;> simp

theorem s3_next {X : Ax} {dir : Int} (hdir : dir = 1 ∨ dir = -1) (s : S3 a1 b1 a2 b2 a3 b3 A B C) {A' B' C' : Ax} (x1 : Nx X.n X.e dir A A') (x2 : Nx X.n X.e dir B B') (x3 : Nx X.n X.e dir C C') : S3 a1 b1 a2 b2 a3 b3 A' B' C' :=
 ⟨(nx_lin s.l1 s.k1 hdir x1).1, (nx_lin s.l1 s.k1 hdir x1).2, (nx_lin s.l2 s.k2 hdir x2).1, (nx_lin s.l2 s.k2 hdir x2).2, (nx_lin s.l3 s.k3 hdir x3).1, (nx_lin s.l3 s.k3 hdir x3).2⟩

theorem hit_false {F : Int → Int → Int → Bool} {X : Ax} {dir : Int} (h : hitF F X dir A B C = false) (h0 : F A.c B.c C.c = false) : F (X.next dir A).c (X.next dir B).c (X.next dir C).c = false := by
 unfold hitF at h
 cases hg : X.anyGo dir A B C with
 | true => simpa [hg] using h
 | false =>
  unfold Ax.anyGo at hg
  simp only [Bool.or_false, Bool.or_eq_false_iff] at hg
  unfold Ax.next
  rw [hg.1, hg.2.1, hg.2.2]
  exact h0

structure Rnd (a1 b1 a2 b2 a3 b3 : Int) (A B C X A1 B1 C1 A2 B2 C2 : Ax) : Prop where
 s1 : S3 a1 b1 a2 b2 a3 b3 A1 B1 C1
 s2 : S3 a1 b1 a2 b2 a3 b3 A2 B2 C2
 x1 : Nx X.n X.e 1 A A1
 x2 : Nx X.n X.e 1 B B1
 x3 : Nx X.n X.e 1 C C1
 y1 : Nx X.n X.e (-1) A1 A2
 y2 : Nx X.n X.e (-1) B1 B2
 y3 : Nx X.n X.e (-1) C1 C2

theorem rnd_ok {X : Ax} (s : S3 a1 b1 a2 b2 a3 b3 A B C) (h : Now a1 b1 a2 b2 a3 b3 A B C X) :
    Rnd a1 b1 a2 b2 a3 b3 A B C X (X.next 1 A) (X.next 1 B) (X.next 1 C) (X.next (-1) (X.next 1 A)) (X.next (-1) (X.next 1 B)) (X.next (-1) (X.next 1 C)) := by
 obtain ⟨a, b, hl, hk⟩ := h.lin
 have x1 := next_nx (dir := 1) hl hk s.l1 s.k1 h.n1
 have x2 := next_nx (dir := 1) hl hk s.l2 s.k2 h.n2
 have x3 := next_nx (dir := 1) hl hk s.l3 s.k3 h.n3
 have s1 := s3_next (.inl rfl) s x1 x2 x3
 have y1 := next_nx (dir := -1) hl hk s1.l1 s1.k1 (nx_nxt s.l1 h.n1 x1)
 have y2 := next_nx (dir := -1) hl hk s1.l2 s1.k2 (nx_nxt s.l2 h.n2 x2)
 have y3 := next_nx (dir := -1) hl hk s1.l3 s1.k3 (nx_nxt s.l3 h.n3 x3)
 exact ⟨s1, s3_next (.inr rfl) s1 y1 y2 y3, x1, x2, x3, y1, y2, y3⟩
end

theorem sight_sound {F : Int → Int → Int → Bool} {a1 b1 a2 b2 a3 b3 : Int} : ∀ (n : Nat) (A B C : Ax) (R : Int → Int → Prop), S3 a1 b1 a2 b2 a3 b3 A B C →
    (∀ p q, R p q → 0 < q ∧ p ≤ q ∧ Low A p q ∧ Low B p q ∧ Low C p q) → F A.c B.c C.c = false → sightL F n A B C = true → ∀ p q, R p q → F (cellAt a1 b1 p q) (cellAt a2 b2 p q) (cellAt a3 b3 p q) = false
 | 0, _, _, _, _, _, _, _, h, _, _, _ => by simp [sightL] at h
 | n + 1, A, B, C, R, s, hR, h0, h, p, q, hpq => by
  obtain ⟨hq, hp, w1, w2, w3⟩ := hR p q hpq
  unfold sightL at h
  by_cases hd : (Ax.pick3 A B C).d = 0
  · obtain ⟨u1, u2, u3⟩ := none_due s hd
    rw [cell_is s.l1 hq w1 (upp_undue s.l1 hq hp u1), cell_is s.l2 hq w2 (upp_undue s.l2 hq hp u2), cell_is s.l3 hq w3 (upp_undue s.l3 hq hp u3)]
    exact h0
  · have hnow := now_ok s hd
    generalize Ax.pick3 A B C = X at *
    rw [beq_eq_false_iff_ne.2 hd, cond_false] at h
    have hr := rnd_ok s hnow
    cases hh1 : hitF F X 1 A B C with
    | true => simp [hh1] at h
    | false =>
     simp only [hh1, cond_false] at h
     have f1 := hit_false hh1 h0
     generalize X.next 1 A = A1 at *
     generalize X.next 1 B = B1 at *
     generalize X.next 1 C = C1 at *
     cases hh2 : hitF F X (-1) A1 B1 C1 with
     | true => simp [hh2] at h
     | false =>
      simp only [hh2, cond_false] at h
      have f2 := hit_false hh2 f1
      generalize X.next (-1) A1 = A2 at *
      generalize X.next (-1) B1 = B2 at *
      generalize X.next (-1) C1 = C2 at *
      rcases Int.lt_trichotomy (p * X.e) (X.n * q) with ht | ht | ht
      · rw [cell_is s.l1 hq w1 (upp_before s.l1 hnow.n1 hq hp ht), cell_is s.l2 hq w2 (upp_before s.l2 hnow.n2 hq hp ht), cell_is s.l3 hq w3 (upp_before s.l3 hnow.n3 hq hp ht)]
        exact h0
      · rw [at_cross s.l1 hnow.n1 hq hp ht w1 hr.x1 hr.s1.l1, at_cross s.l2 hnow.n2 hq hp ht w2 hr.x2 hr.s1.l2, at_cross s.l3 hnow.n3 hq hp ht w3 hr.x3 hr.s1.l3]
        exact f1
      · refine sight_sound n A2 B2 C2 (fun p q => R p q ∧ X.n * q < p * X.e) hr.s2 ?_ f2 h p q ⟨hpq, ht⟩
        rintro p q ⟨hpq, ht⟩
        obtain ⟨hq, hp, w1, w2, w3⟩ := hR p q hpq
        exact ⟨hq, hp, low_after s.l1 hnow.n1.pos w1 ht hr.x1 hr.y1, low_after s.l2 hnow.n1.pos w2 ht hr.x2 hr.y2, low_after s.l3 hnow.n1.pos w3 ht hr.x3 hr.y3⟩

def Ax.left (A : Ax) : Nat := (A.e - A.n + 65536).toNat / 65536

theorem left_nx {N E dir : Int} {A A' : Ax} (hdir : dir = 1 ∨ dir = -1) (hx : Nx N E dir A A') : A'.left ≤ A.left ∧ (Goes N E A dir → A'.left < A.left) := by
 rcases hx with ⟨hg, rfl⟩ | ⟨hg, rfl⟩
 · have hd := due_iff.1 hg.2.1
   unfold Ax.left
   simp only
   have h1 : A.n ≤ A.e := by omega
   constructor
   · omega
   · intro _; omega
 · exact ⟨Nat.le_refl _, fun h => absurd h hg⟩

theorem rnd_left {a1 b1 a2 b2 a3 b3 xa xb : Int} {A B C X A1 B1 C1 A2 B2 C2 : Ax} (hXl : Lin xa xb X) (hd : ¬ X.d = 0) (hnow : Now a1 b1 a2 b2 a3 b3 A B C X) (hr : Rnd a1 b1 a2 b2 a3 b3 A B C X A1 B1 C1 A2 B2 C2) : A2.left + B2.left + C2.left < A.left + B.left + C.left := by
 have m1 := left_nx (.inl rfl) hr.x1
 have m2 := left_nx (.inl rfl) hr.x2
 have m3 := left_nx (.inl rfl) hr.x3
 have m4 := left_nx (.inr rfl) hr.y1
 have m5 := left_nx (.inr rfl) hr.y2
 have m6 := left_nx (.inr rfl) hr.y3
 have hXd : X.d = 1 ∨ X.d = -1 := by have := lin_dir hXl; omega
 have same : ∀ {A A1 : Ax}, Goes X.n X.e A (-1) → Nx X.n X.e 1 A A1 → Goes X.n X.e A1 (-1) := by
  rintro A A1 hg (⟨hg1, rfl⟩ | ⟨_, rfl⟩)
  · have h1 := hg.1; have h2 := hg1.1; omega
  · exact hg
 rcases hnow.is with rfl | rfl | rfl
 · rcases hXd with h1 | h1
   · have := m1.2 ⟨h1, hnow.due, rfl⟩; omega
   · have := m4.2 (same ⟨h1, hnow.due, rfl⟩ hr.x1); omega
 · rcases hXd with h1 | h1
   · have := m2.2 ⟨h1, hnow.due, rfl⟩; omega
   · have := m5.2 (same ⟨h1, hnow.due, rfl⟩ hr.x2); omega
 · rcases hXd with h1 | h1
   · have := m3.2 ⟨h1, hnow.due, rfl⟩; omega
   · have := m6.2 (same ⟨h1, hnow.due, rfl⟩ hr.x3); omega

theorem upp_after {a b N E K : Int} {A A1 A2 : Ax} (h : Lin a b A) (k : Bd a b A) (hn : Nxt N E A) (hK : A.e < K) (hE : N < E) (hx : Nx N E 1 A A1) (hy : Nx N E (-1) A1 A2) : Upp A2 (N * K + 1) (E * K) := by
 have hE0 := hn.pos
 have hb := bd_of h k
 have hK0 : 0 < K := by omega
 have hEK : K ≤ E * K := by have := Int.mul_le_mul_of_nonneg_right (show (1 : Int) ≤ E by omega) (Int.le_of_lt hK0); omega
 have hp : N * K + 1 ≤ E * K := by have := Int.mul_le_mul_of_nonneg_right (show N + 1 ≤ E by omega) (Int.le_of_lt hK0); grind
 have stepped : N * A.e = A.n * E → A.e * (N * K + 1) < (A.n + 65536) * (E * K) := by
  intro ht
  have e1 : A.e * (N * K + 1) = (N * A.e) * K + A.e := by grind
  have e2 : (A.n + 65536) * (E * K) = (A.n * E) * K + 65536 * (E * K) := by grind
  rw [e1, e2, ht]
  omega
 by_cases hd : A.due = true
 · by_cases ht : N * A.e = A.n * E
   · rcases hx with ⟨hg, rfl⟩ | ⟨hg, rfl⟩
     · rcases hy with ⟨hg', rfl⟩ | ⟨_, rfl⟩
       · have h1 := hg.1; have h2 := hg'.1; simp only at h2; omega
       · exact ⟨fun _ => stepped ht, fun _ => Int.le_of_lt (stepped ht)⟩
     · rcases hy with ⟨hg', rfl⟩ | ⟨hg', rfl⟩
       · exact ⟨fun _ => stepped ht, fun _ => Int.le_of_lt (stepped ht)⟩
       · have := (due_pos h hd).1
         rcases lin_dir h with hd1 | hd1 | hd1
         · exact absurd ⟨hd1, hd, ht⟩ hg
         · exact absurd ⟨hd1, hd, ht⟩ hg'
         · exact absurd hd1 this
   · have h2 : A2 = A := by
      rcases hx with ⟨hg, rfl⟩ | ⟨hg, rfl⟩
      · exact absurd hg.2.2 ht
      · rcases hy with ⟨hg', rfl⟩ | ⟨hg', rfl⟩
        · exact absurd hg'.2.2 ht
        · rfl
     subst h2
     have hle := hn.le hd
     have hlt : A2.e * (N * K + 1) < A2.n * (E * K) := by
      have e1 : A2.e * (N * K + 1) = (N * A2.e) * K + A2.e := by grind
      have e2 : A2.n * (E * K) = (A2.n * E) * K := by grind
      rw [e1, e2]
      have := Int.mul_le_mul_of_nonneg_right (show N * A2.e + 1 ≤ A2.n * E by omega) (Int.le_of_lt hK0)
      grind
     exact ⟨fun _ => hlt, fun _ => Int.le_of_lt hlt⟩
 · have h2 : A2 = A := by
    rcases hx with ⟨hg, rfl⟩ | ⟨hg, rfl⟩
    · exact absurd hg.2.1 hd
    · rcases hy with ⟨hg', rfl⟩ | ⟨hg', rfl⟩
      · exact absurd hg'.2.1 hd
      · rfl
   subst h2
   exact upp_undue h (by omega) hp hd

theorem due_after {a b N E : Int} {A A1 A2 : Ax} {R : Int → Int → Prop} (h : Lin a b A) (hn : Nxt N E A) (hR : A.due = true → R A.n A.e) (hup : ∀ p q p' q', R p q → 0 < q' → p' ≤ q' → p * q' ≤ p' * q → R p' q')
    (hx : Nx N E 1 A A1) (hy : Nx N E (-1) A1 A2) (hd : A2.due = true) : R A2.n A2.e ∧ N * A2.e < A2.n * E := by
 have stepped : Goes N E A 1 ∨ Goes N E A (-1) → A2 = ⟨A.c + A.d, A.d, A.n + 65536, A.e⟩ → R A2.n A2.e ∧ N * A2.e < A2.n * E := by
  rintro hg rfl
  have hdA : A.due = true := by rcases hg with hg | hg <;> exact hg.2.1
  have htA : N * A.e = A.n * E := by rcases hg with hg | hg <;> exact hg.2.2
  have hpos := (due_pos h hdA).2
  have hdue := due_iff.1 hd
  simp only at hdue ⊢
  have hE := hn.pos
  constructor
  · refine hup _ _ _ _ (hR hdA) hpos (by omega) ?_
    have : (A.n + 65536) * A.e = A.n * A.e + 65536 * A.e := by grind
    omega
  · have : (A.n + 65536) * E = A.n * E + 65536 * E := by grind
    omega
 rcases hx with ⟨hg, rfl⟩ | ⟨hg, rfl⟩
 · rcases hy with ⟨hg', rfl⟩ | ⟨hg', rfl⟩
   · have h1 := hg.1; have h2 := hg'.1; simp only at h2; omega
   · exact stepped (.inl hg) rfl
 · rcases hy with ⟨hg', rfl⟩ | ⟨hg', rfl⟩
   · exact stepped (.inr hg') rfl
   · refine ⟨hR hd, ?_⟩
     have hle := hn.le hd
     have hne : N * A2.e ≠ A2.n * E := by
      intro hc
      have := (due_pos h hd).1
      rcases lin_dir h with h1 | h1 | h1
      · exact hg ⟨h1, hd, hc⟩
      · exact hg' ⟨h1, hd, hc⟩
      · exact this h1
     omega

theorem hit_none {F : Int → Int → Int → Bool} {X : Ax} {dir : Int} {A B C : Ax} (h : X.anyGo dir A B C = true → F (X.next dir A).c (X.next dir B).c (X.next dir C).c = false) : hitF F X dir A B C = false := by
 unfold hitF
 cases hg : X.anyGo dir A B C with
 | true => simpa using h hg
 | false => rfl

theorem sight_whole {F : Int → Int → Int → Bool} {a1 b1 a2 b2 a3 b3 : Int} (H : ∀ p q, 0 ≤ p → p ≤ q → 0 < q → F (cellAt a1 b1 p q) (cellAt a2 b2 p q) (cellAt a3 b3 p q) = false) : ∀ (n : Nat) (A B C : Ax) (R : Int → Int → Prop), S3 a1 b1 a2 b2 a3 b3 A B C →
    (∀ p q, R p q → 0 < q ∧ p ≤ q ∧ Low A p q ∧ Low B p q ∧ Low C p q) → (∀ p q p' q', R p q → 0 < q' → p' ≤ q' → p * q' ≤ p' * q → R p' q') → (A.due = true → R A.n A.e) → (B.due = true → R B.n B.e) → (C.due = true → R C.n C.e) →
    A.left + B.left + C.left < n → sightL F n A B C = true
 | 0, _, _, _, _, _, _, _, _, _, _, h => by omega
 | n + 1, A, B, C, R, s, hR, hup, r1, r2, r3, hm => by
  unfold sightL
  by_cases hd : (Ax.pick3 A B C).d = 0
  · rw [hd]; rfl
  · have hnow := now_ok s hd
    generalize Ax.pick3 A B C = X at *
    rw [beq_eq_false_iff_ne.2 hd, cond_false]
    have hr := rnd_ok s hnow
    have hE : 0 < X.e := hnow.n1.pos
    have hXR : R X.n X.e := by
     rcases hnow.is with rfl | rfl | rfl
     · exact r1 hnow.due
     · exact r2 hnow.due
     · exact r3 hnow.due
    obtain ⟨xa, xb, hXl, hXk⟩ := hnow.lin
    have hN0 : 0 ≤ X.n := hXk.2.2.2.2.1
    have hdue := due_iff.1 hnow.due
    have hNE : X.n ≤ X.e := by omega
    -- upward
    have hh1 : hitF F X 1 A B C = false := by
     refine hit_none fun _ => ?_
     obtain ⟨hq, hp, w1, w2, w3⟩ := hR X.n X.e hXR
     rw [← at_cross s.l1 hnow.n1 hE hNE rfl w1 hr.x1 hr.s1.l1, ← at_cross s.l2 hnow.n2 hE hNE rfl w2 hr.x2 hr.s1.l2, ← at_cross s.l3 hnow.n3 hE hNE rfl w3 hr.x3 hr.s1.l3]
     exact H X.n X.e hN0 hNE hE
    rw [hh1, cond_false]
    have gg : ∀ {a b : Int} {A1 : Ax}, Lin a b A1 → Bd a b A1 → Nxt X.n X.e A1 → X.goes (-1) A1 = true → X.n < X.e := by
     intro a b A1 hl hk hn hg
     have hg := (goes_iff hXl hXk hl hk hn).1 hg
     have h1 := due_iff.1 hg.2.1
     have h2 := hg.1
     have h3 : A1.n < A1.e := by omega
     have h4 := lin_pos hl (by omega)
     have h5 := Int.mul_lt_mul_of_pos_right h3 hE
     have h6 : X.n * A1.e < X.e * A1.e := by rw [hg.2.2]; rw [Int.mul_comm X.e]; exact h5
     exact Int.lt_of_mul_lt_mul_right h6 (Int.le_of_lt h4)
    have q1 := nx_nxt s.l1 hnow.n1 hr.x1
    have q2 := nx_nxt s.l2 hnow.n2 hr.x2
    have q3 := nx_nxt s.l3 hnow.n3 hr.x3
    have go1 := fun {dir : Int} => goes_iff (dir := dir) hXl hXk s.l1 s.k1 hnow.n1
    have go2 := fun {dir : Int} => goes_iff (dir := dir) hXl hXk s.l2 s.k2 hnow.n2
    have go3 := fun {dir : Int} => goes_iff (dir := dir) hXl hXk s.l3 s.k3 hnow.n3
    generalize X.next 1 A = A1 at *
    generalize X.next 1 B = B1 at *
    generalize X.next 1 C = C1 at *
    have hh2 : hitF F X (-1) A1 B1 C1 = false := by
     refine hit_none fun hany => ?_
     have hlt : X.n < X.e := by
      unfold Ax.anyGo at hany
      simp only [Bool.or_false, Bool.or_eq_true] at hany
      rcases hany with h | h | h
      · exact gg hr.s1.l3 hr.s1.k3 q3 h
      · exact gg hr.s1.l2 hr.s1.k2 q2 h
      · exact gg hr.s1.l1 hr.s1.k1 q1 h
     have b1 := bd_of s.l1 s.k1
     have b2 := bd_of s.l2 s.k2
     have b3 := bd_of s.l3 s.k3
     have hK0 : (0 : Int) < A.e + B.e + C.e + 1 := by omega
     have u1 := upp_after (K := A.e + B.e + C.e + 1) s.l1 s.k1 hnow.n1 (by omega) hlt hr.x1 hr.y1
     have u2 := upp_after (K := A.e + B.e + C.e + 1) s.l2 s.k2 hnow.n2 (by omega) hlt hr.x2 hr.y2
     have u3 := upp_after (K := A.e + B.e + C.e + 1) s.l3 s.k3 hnow.n3 (by omega) hlt hr.x3 hr.y3
     generalize A.e + B.e + C.e + 1 = K at *
     have hq : 0 < X.e * K := Int.mul_pos hE hK0
     have hp : X.n * K + 1 ≤ X.e * K := by have := Int.mul_le_mul_of_nonneg_right (show X.n + 1 ≤ X.e by omega) (Int.le_of_lt hK0); grind
     have hRt : R (X.n * K + 1) (X.e * K) := by
      refine hup _ _ _ _ hXR hq hp ?_
      have : (X.n * K + 1) * X.e = X.n * (X.e * K) + X.e := by grind
      omega
     have hgt : X.n * (X.e * K) < (X.n * K + 1) * X.e := by
      have : (X.n * K + 1) * X.e = X.n * (X.e * K) + X.e := by grind
      omega
     obtain ⟨_, _, w1, w2, w3⟩ := hR _ _ hRt
     rw [← cell_is hr.s2.l1 hq (low_after s.l1 hE w1 hgt hr.x1 hr.y1) u1, ← cell_is hr.s2.l2 hq (low_after s.l2 hE w2 hgt hr.x2 hr.y2) u2, ← cell_is hr.s2.l3 hq (low_after s.l3 hE w3 hgt hr.x3 hr.y3) u3]
     refine H _ _ ?_ hp hq
     have := Int.mul_nonneg hN0 (Int.le_of_lt hK0)
     omega
    rw [hh2, cond_false]
    generalize X.next (-1) A1 = A2 at *
    generalize X.next (-1) B1 = B2 at *
    generalize X.next (-1) C1 = C2 at *
    refine sight_whole H n A2 B2 C2 (fun p q => R p q ∧ X.n * q < p * X.e) hr.s2 ?_ ?_ ?_ ?_ ?_ ?_
    · rintro p q ⟨hpq, ht⟩
      obtain ⟨hq, hp, w1, w2, w3⟩ := hR p q hpq
      exact ⟨hq, hp, low_after s.l1 hE w1 ht hr.x1 hr.y1, low_after s.l2 hE w2 ht hr.x2 hr.y2, low_after s.l3 hE w3 ht hr.x3 hr.y3⟩
    · rintro p q p' q' ⟨hpq, ht⟩ hq' hp' hle
      refine ⟨hup p q p' q' hpq hq' hp' hle, ?_⟩
      have hq := (hR p q hpq).1
      apply Int.lt_of_mul_lt_mul_left (a := q) _ (Int.le_of_lt hq)
      have z1 := Int.mul_lt_mul_of_pos_right ht hq'
      have z2 := Int.mul_le_mul_of_nonneg_right hle (Int.le_of_lt hE)
      grind
    · exact fun hd => due_after s.l1 hnow.n1 r1 hup hr.x1 hr.y1 hd
    · exact fun hd => due_after s.l2 hnow.n2 r2 hup hr.x2 hr.y2 hd
    · exact fun hd => due_after s.l3 hnow.n3 r3 hup hr.x3 hr.y3 hd
    · have := rnd_left hXl hd hnow hr
      omega

theorem alongA_up {a b : Int} (h : a < b) : alongA a b = ⟨a / 65536, 1, (a / 65536 + 1) * 65536 - a, b - a⟩ := by unfold alongA; simp [h]
theorem alongA_down {a b : Int} (h : b < a) : alongA a b = ⟨a / 65536, -1, a - a / 65536 * 65536, a - b⟩ := by unfold alongA; simp [h, show ¬ a < b by omega]
theorem alongA_same (a : Int) : alongA a a = ⟨a / 65536, 0, 0, 0⟩ := by unfold alongA; simp
theorem along_lin {a b : Int} (ha : 0 ≤ a ∧ a < 2097152) (hb : 0 ≤ b ∧ b < 2097152) : Lin a b (alongA a b) ∧ Bd a b (alongA a b) ∧ (alongA a b).c = a / 65536 ∧ (alongA a b).left ≤ 33 ∧ (∀ p q, 0 ≤ p → 0 < q → Low (alongA a b) p q) ∧ ((alongA a b).due = true → 0 ≤ (alongA a b).n ∧ (alongA a b).n ≤ (alongA a b).e ∧ 0 < (alongA a b).e) := by
 have hl : Lin a b (alongA a b) := by
  rcases Int.lt_trichotomy a b with h | h | h
  · rw [alongA_up h]; exact .inl ⟨h, rfl, rfl, rfl⟩
  · subst h; rw [alongA_same]; exact .inr (.inr ⟨rfl, rfl, rfl, rfl, rfl⟩)
  · rw [alongA_down h]; exact .inr (.inl ⟨h, rfl, rfl, rfl⟩)
 have hn : 0 ≤ (alongA a b).n ∧ (alongA a b).n ≤ 65536 ∧ ((alongA a b).d = -1 → (alongA a b).n < 65536) ∧ (alongA a b).c = a / 65536 := by
  rcases Int.lt_trichotomy a b with h | h | h
  · rw [alongA_up h]; simp only; exact ⟨by omega, by omega, fun _ => by omega, trivial⟩
  · subst h; rw [alongA_same]; simp
  · rw [alongA_down h]; simp only; exact ⟨by omega, by omega, fun _ => by omega, trivial⟩
 have hk : Bd a b (alongA a b) := ⟨ha.1, ha.2, hb.1, hb.2, hn.1, by omega⟩
 have hbd := bd_of hl hk
 refine ⟨hl, hk, hn.2.2.2, ?_, ?_, ?_⟩
 · unfold Ax.left; omega
 · intro p q hp hq
   have h3 := Int.mul_nonneg hbd.1 hp
   constructor
   · intro _
     have h2 : ((alongA a b).n - 65536) * q ≤ 0 := Int.mul_nonpos_of_nonpos_of_nonneg (by omega) (Int.le_of_lt hq)
     omega
   · intro hd
     have h2 := Int.mul_lt_mul_of_pos_right (show (alongA a b).n - 65536 < 0 by have := hn.2.2.1 hd; omega) hq
     omega
 · intro hd
   have h1 := due_pos hl hd
   have h2 := due_iff.1 hd
   exact ⟨hn.1, by omega, h1.2⟩

theorem cellAt_start (a b : Int) : cellAt a b 0 1 = a / 65536 := by
 unfold cellAt
 have : a * 1 + (b - a) * 0 = a := by omega
 rw [this]
 rfl
theorem cellAt_end (a b : Int) : cellAt a b 1 1 = b / 65536 := by
 unfold cellAt
 have : a * 1 + (b - a) * 1 = b := by omega
 rw [this]
 rfl

def sightF (F : Int → Int → Int → Bool) (a b : V3) : Bool :=
 bif F (a.x / 65536) (a.y / 65536) (a.z / 65536) then false else bif F (b.x / 65536) (b.y / 65536) (b.z / 65536) then false else sightL F 101 (alongA a.x b.x) (alongA a.y b.y) (alongA a.z b.z)

def freeAt (F : Int → Int → Int → Bool) (a b : V3) (p q : Int) : Prop := F (cellAt a.x b.x p q) (cellAt a.y b.y p q) (cellAt a.z b.z p q) = false

theorem sight_iff {F : Int → Int → Int → Bool} (hF : ∀ x y z, F x y z = false → (0 ≤ x ∧ x < 32) ∧ (0 ≤ y ∧ y < 32) ∧ (0 ≤ z ∧ z < 32)) (a b : V3) : sightF F a b = true ↔ ∀ p q, 0 ≤ p → p ≤ q → 0 < q → freeAt F a b p q := by
 have main : F (a.x / 65536) (a.y / 65536) (a.z / 65536) = false → F (b.x / 65536) (b.y / 65536) (b.z / 65536) = false → (sightL F 101 (alongA a.x b.x) (alongA a.y b.y) (alongA a.z b.z) = true ↔ ∀ p q, 0 ≤ p → p ≤ q → 0 < q → freeAt F a b p q) := by
  intro fa fb
  have ha := hF _ _ _ fa
  have hb := hF _ _ _ fb
  obtain ⟨l1, k1, c1, m1, w1, d1⟩ := along_lin (a := a.x) (b := b.x) (by omega) (by omega)
  obtain ⟨l2, k2, c2, m2, w2, d2⟩ := along_lin (a := a.y) (b := b.y) (by omega) (by omega)
  obtain ⟨l3, k3, c3, m3, w3, d3⟩ := along_lin (a := a.z) (b := b.z) (by omega) (by omega)
  constructor
  · intro h p q hp hpq hq
    exact sight_sound 101 _ _ _ (fun p q => 0 ≤ p ∧ p ≤ q ∧ 0 < q) ⟨l1, k1, l2, k2, l3, k3⟩ (fun p q h => ⟨h.2.2, h.2.1, w1 p q h.1 h.2.2, w2 p q h.1 h.2.2, w3 p q h.1 h.2.2⟩) (by rw [c1, c2, c3]; exact fa) h p q ⟨hp, hpq, hq⟩
  · intro h
    refine sight_whole h 101 _ _ _ (fun p q => 0 ≤ p ∧ p ≤ q ∧ 0 < q) ⟨l1, k1, l2, k2, l3, k3⟩ (fun p q h => ⟨h.2.2, h.2.1, w1 p q h.1 h.2.2, w2 p q h.1 h.2.2, w3 p q h.1 h.2.2⟩) ?_ d1 d2 d3 (by omega)
    rintro p q p' q' ⟨h1, h2, h3⟩ hq' hp' hle
    refine ⟨?_, hp', hq'⟩
    have h4 := Int.mul_nonneg h1 (Int.le_of_lt hq')
    by_cases hp0 : 0 ≤ p'
    · exact hp0
    · have := Int.mul_lt_mul_of_pos_right (show p' < 0 by omega) h3
      omega
 unfold sightF
 cases fa : F (a.x / 65536) (a.y / 65536) (a.z / 65536) with
 | true =>
  simp only [cond_true, Bool.false_eq_true, false_iff]
  intro h
  have := h 0 1 (by omega) (by omega) (by omega)
  unfold freeAt at this
  rw [cellAt_start, cellAt_start, cellAt_start, fa] at this
  cases this
 | false =>
  cases fb : F (b.x / 65536) (b.y / 65536) (b.z / 65536) with
  | true =>
   simp only [cond_true, cond_false, Bool.false_eq_true, false_iff]
   intro h
   have := h 1 1 (by omega) (by omega) (by omega)
   unfold freeAt at this
   rw [cellAt_end, cellAt_end, cellAt_end, fb] at this
   cases this
  | false =>
   simp only [cond_false]
   exact main fa fb

end Go.Proofs.Ytimkhidniolpeaa
