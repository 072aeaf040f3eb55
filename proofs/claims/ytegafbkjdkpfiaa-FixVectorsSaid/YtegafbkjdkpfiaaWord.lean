/- Operations on words of 64 bits, as natural numbers: laws by which a walk takes them. -/
import Derived.Test.YtegafbkjdkpfiaaFixA
namespace Go.Proofs.Ytegafbkjdkpfiaa
set_option linter.unusedSimpArgs false
set_option linter.unusedVariables false
open Go.RowKit

section
variable {ops : Array Oper} {rest : List Oper} {o : Oper} {a : Act} {w : World} {Q : Exit → Act → World → Prop}

theorem own_wadd (hw : Region.wanted o (yielded ops a.tmps) = true) {x y : Operand} {ty : TypeId} (ho : o.op = .binOp .add 40 x y ty) {p q : Int} {m n : Nat} (hx : a.eval x = .int .u64 p) (hp : p = nI m) (hy : a.eval y = .int .u64 q) (hq : q = nI n)
    (h : wpList Try.prog ops Q rest (a.put o.dst (U ((m + n) % 18446744073709551616))) w) : wpList Try.prog ops Q (o :: rest) a w := by
  refine own_pure hw (fun w => ?_) h
  generalize a.eval = ev at hx hy ⊢
  unfold execOp; rw [ho]
  simp [go_sem, hx, hy, hp, hq, nI_eq]
  exact IntKind.wrap_u64 _

theorem own_wsub (hw : Region.wanted o (yielded ops a.tmps) = true) {x y : Operand} {ty : TypeId} (ho : o.op = .binOp .sub 40 x y ty) {p q : Int} {m n : Nat} (hx : a.eval x = .int .u64 p) (hp : p = nI m) (hy : a.eval y = .int .u64 q) (hq : q = nI n) (hn : n ≤ 18446744073709551616)
    (h : wpList Try.prog ops Q rest (a.put o.dst (U ((m + (18446744073709551616 - n)) % 18446744073709551616))) w) : wpList Try.prog ops Q (o :: rest) a w := by
  refine own_pure hw (fun w => ?_) h
  generalize a.eval = ev at hx hy ⊢
  unfold execOp; rw [ho]
  simp [go_sem, hx, hy, hp, hq, nI_eq]
  try (rw [IntKind.wrap_u64]; omega)

theorem own_wsubU (hw : Region.wanted o (yielded ops a.tmps) = true) {x y : Operand} {ty : TypeId} (ho : o.op = .binOp .sub 64 x y ty) {p q : Int} {m n : Nat} (hx : a.eval x = .int .u64 p) (hp : p = nI m) (hy : a.eval y = .int .u64 q) (hq : q = nI n) (hn : n ≤ 18446744073709551616)
    (h : wpList Try.prog ops Q rest (a.put o.dst (U ((m + (18446744073709551616 - n)) % 18446744073709551616))) w) : wpList Try.prog ops Q (o :: rest) a w := by
  refine own_pure hw (fun w => ?_) h
  generalize a.eval = ev at hx hy ⊢
  unfold execOp; rw [ho]
  simp [go_sem, hx, hy, hp, hq, nI_eq]
  try (rw [IntKind.wrap_u64]; omega)

theorem own_wmul (hw : Region.wanted o (yielded ops a.tmps) = true) {x y : Operand} {ty : TypeId} (ho : o.op = .binOp .mul 40 x y ty) {p q : Int} {m n : Nat} (hx : a.eval x = .int .u64 p) (hp : p = nI m) (hy : a.eval y = .int .u64 q) (hq : q = nI n)
    (h : wpList Try.prog ops Q rest (a.put o.dst (U ((m * n) % 18446744073709551616))) w) : wpList Try.prog ops Q (o :: rest) a w := by
  refine own_pure hw (fun w => ?_) h
  generalize a.eval = ev at hx hy ⊢
  unfold execOp; rw [ho]
  simp [go_sem, hx, hy, hp, hq, nI_eq]
  exact IntKind.wrap_u64 _

theorem own_wquo (hw : Region.wanted o (yielded ops a.tmps) = true) {x y : Operand} {ty : TypeId} (ho : o.op = .binOp .quo 40 x y ty) {p q : Int} {m n : Nat} (hx : a.eval x = .int .u64 p) (hp : p = nI m) (hy : a.eval y = .int .u64 q) (hq : q = nI n) (hn : n ≠ 0) (hm : m < 18446744073709551616)
    (h : wpList Try.prog ops Q rest (a.put o.dst (U (m / n))) w) : wpList Try.prog ops Q (o :: rest) a w := by
  refine own_pure hw (fun w => ?_) h
  have hn' : (n : Int) ≠ 0 := by omega
  generalize a.eval = ev at hx hy ⊢
  unfold execOp; rw [ho]
  simp [go_sem, hx, hy, hp, hq, nI_eq, hn, hn']
  rw [IntKind.wrap_u64]
  have e : (m : Int) / (n : Int) = ((m / n : Nat) : Int) := (Int.natCast_ediv m n).symm
  have l := Nat.div_le_self m n
  rw [e]
  generalize m / n = k at l ⊢
  omega

theorem own_wshl (hw : Region.wanted o (yielded ops a.tmps) = true) {x y : Operand} {ty : TypeId} (ho : o.op = .binOp .shl 40 x y ty) {p q : Int} {m n : Nat} (hx : a.eval x = .int .u64 p) (hp : p = nI m) (hy : a.eval y = .int .u64 q) (hq : q = nI n) (hn : n ≤ 64)
    (h : wpList Try.prog ops Q rest (a.put o.dst (U (m * 2 ^ n % 18446744073709551616))) w) : wpList Try.prog ops Q (o :: rest) a w := by
  refine own_pure hw (fun w => ?_) h
  generalize a.eval = ev at hx hy ⊢
  unfold execOp; rw [ho]
  simp [go_sem, hx, hy, hp, hq, nI_eq]
  exact IntKind.wrap_u64 _

theorem own_wshr (hw : Region.wanted o (yielded ops a.tmps) = true) {x y : Operand} {ty : TypeId} (ho : o.op = .binOp .shr 40 x y ty) {p q : Int} {m n : Nat} (hx : a.eval x = .int .u64 p) (hp : p = nI m) (hy : a.eval y = .int .u64 q) (hq : q = nI n) (hn : n ≤ 64) (hm : m < 18446744073709551616)
    (h : wpList Try.prog ops Q rest (a.put o.dst (U (m / 2 ^ n))) w) : wpList Try.prog ops Q (o :: rest) a w := by
  refine own_pure hw (fun w => ?_) h
  generalize a.eval = ev at hx hy ⊢
  unfold execOp; rw [ho]
  simp [go_sem, hx, hy, hp, hq, nI_eq]

theorem own_wand (hw : Region.wanted o (yielded ops a.tmps) = true) {x y : Operand} {ty : TypeId} (ho : o.op = .binOp .and 40 x y ty) {p : Int} {m : Nat} (hx : a.eval x = .int .u64 p) (hp : p = nI m) (hy : a.eval y = .int .u64 4294967295) (hm : m < 18446744073709551616)
    (h : wpList Try.prog ops Q rest (a.put o.dst (U (m % 4294967296))) w) : wpList Try.prog ops Q (o :: rest) a w := by
  refine own_pure hw (fun w => ?_) h
  generalize a.eval = ev at hx hy ⊢
  unfold execOp; rw [ho]
  simp [go_sem, hx, hy, hp, nI_eq]
  exact Mul64.maskN m hm

theorem own_wor (hw : Region.wanted o (yielded ops a.tmps) = true) {x y : Operand} {ty : TypeId} (ho : o.op = .binOp .or 40 x y ty) {p q : Int} {m n : Nat} (hx : a.eval x = .int .u64 p) (hp : p = nI m) (hy : a.eval y = .int .u64 q) (hq : q = nI n) (hm : m < 18446744073709551616) (hn : n < 18446744073709551616)
    (h : wpList Try.prog ops Q rest (a.put o.dst (U (m ||| n))) w) : wpList Try.prog ops Q (o :: rest) a w := by
  refine own_pure hw (fun w => ?_) h
  generalize a.eval = ev at hx hy ⊢
  unfold execOp; rw [ho]
  simp [go_sem, hx, hy, hp, hq, nI_eq]
  exact bits_or_u64_nat m n hm hn

theorem own_wgeq (hw : Region.wanted o (yielded ops a.tmps) = true) {x y : Operand} {ty : TypeId} (ho : o.op = .binOp .geq 40 x y ty) {p q : Int} {m n : Nat} (hx : a.eval x = .int .u64 p) (hp : p = nI m) (hy : a.eval y = .int .u64 q) (hq : q = nI n) {c : Bool} (hc : decide (n ≤ m) = c)
    (h : wpList Try.prog ops Q rest (a.put o.dst (.bool c)) w) : wpList Try.prog ops Q (o :: rest) a w := by
  refine own_pure hw (fun w => ?_) h
  subst hc
  generalize a.eval = ev at hx hy ⊢
  unfold execOp; rw [ho]
  simp [go_sem, hx, hy, hp, hq, nI_eq]
theorem own_wgtr (hw : Region.wanted o (yielded ops a.tmps) = true) {x y : Operand} {ty : TypeId} (ho : o.op = .binOp .gtr 40 x y ty) {p q : Int} {m n : Nat} (hx : a.eval x = .int .u64 p) (hp : p = nI m) (hy : a.eval y = .int .u64 q) (hq : q = nI n) {c : Bool} (hc : decide (n < m) = c)
    (h : wpList Try.prog ops Q rest (a.put o.dst (.bool c)) w) : wpList Try.prog ops Q (o :: rest) a w := by
  refine own_pure hw (fun w => ?_) h
  subst hc
  generalize a.eval = ev at hx hy ⊢
  unfold execOp; rw [ho]
  simp [go_sem, hx, hy, hp, hq, nI_eq]
theorem own_weql (hw : Region.wanted o (yielded ops a.tmps) = true) {x y : Operand} {ty : TypeId} (ho : o.op = .binOp .eql 40 x y ty) {p q : Int} {m n : Nat} (hx : a.eval x = .int .u64 p) (hp : p = nI m) (hy : a.eval y = .int .u64 q) (hq : q = nI n) {c : Bool} (hc : decide (m = n) = c)
    (h : wpList Try.prog ops Q rest (a.put o.dst (.bool c)) w) : wpList Try.prog ops Q (o :: rest) a w := by
  refine own_pure hw (fun w => ?_) h
  subst hc
  generalize a.eval = ev at hx hy ⊢
  unfold execOp; rw [ho]
  simp [go_sem, hx, hy, hp, hq, nI_eq]
  rw [Bool.eq_iff_iff, beq_iff_eq, decide_eq_true_iff]
  omega
theorem own_wleq (hw : Region.wanted o (yielded ops a.tmps) = true) {x y : Operand} {ty : TypeId} (ho : o.op = .binOp .leq 40 x y ty) {p q : Int} {m n : Nat} (hx : a.eval x = .int .u64 p) (hp : p = nI m) (hy : a.eval y = .int .u64 q) (hq : q = nI n) {c : Bool} (hc : decide (m ≤ n) = c)
    (h : wpList Try.prog ops Q rest (a.put o.dst (.bool c)) w) : wpList Try.prog ops Q (o :: rest) a w := by
  refine own_pure hw (fun w => ?_) h
  subst hc
  generalize a.eval = ev at hx hy ⊢
  unfold execOp; rw [ho]
  simp [go_sem, hx, hy, hp, hq, nI_eq]
end
end Go.Proofs.Ytegafbkjdkpfiaa
