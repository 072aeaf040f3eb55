/- A statement whose order is open, whose operations read one's own rows and call what leaves everything as it was: one walk in the order of the text. Of whatever program. -/
import Derived.Test.YtimkhidniolpeaaLaw
import Derived.Deep.Quiet
namespace Go.Proofs.Ytimkhidniolpeaa
set_option linter.unusedSimpArgs false
set_option linter.unusedVariables false
set_option maxRecDepth 100000
set_option maxHeartbeats 0
open Go.RowKit

section
variable {P : Program} {ops : Array Oper} {rest : List Oper} {o : Oper} {a : Act} {w w0 : World} {B : Nat} {L : List Ent} {Q : Exit → Act → World → Prop} {R : Act → Prop}

def OwnC (B : Nat) (w0 : World) (L : List Ent) (w : World) : Prop := Own B w0 w L

theorem oq_start {id : Nat} {l : List Oper} (hm : P.follows .mixedOrders = true) (hB : Region.lexB .any l.toArray = true)
    (h : wpQuiet P l.toArray (OwnC B w0 L) (fun a' => ∀ w', Own B w0 w' L → Q .normal a' w') l a) (hR : Own B w0 w L) : (Code.region id l.toArray true).wp P Q a w :=
 wp_region_quiet (C := OwnC B w0 L) hm hB (hR.ext ⟨rfl, rfl, rfl, Nat.le_refl _, fun _ _ => rfl⟩) h

theorem oq_end (h : ∀ w', Own B w0 w' L → Q .normal a w') : wpQuiet P ops (OwnC B w0 L) (fun a' => ∀ w', Own B w0 w' L → Q .normal a' w') [] a := h

theorem oq_skip (hw : Region.wanted o (yielded ops a.tmps) = false) (h : wpQuiet P ops (OwnC B w0 L) R rest (a.put o.dst undef)) : wpQuiet P ops (OwnC B w0 L) R (o :: rest) a := by
 unfold wpQuiet
 rw [if_neg (by rw [hw]; exact Bool.false_ne_true)]
 exact h

theorem oq_do (hw : Region.wanted o (yielded ops a.tmps) = true) {v : Value} (hv : ∀ w, Own B w0 w L → o.quietAt P a (OwnC B w0 L) w v) (h : wpQuiet P ops (OwnC B w0 L) R rest (a.put o.dst v)) : wpQuiet P ops (OwnC B w0 L) R (o :: rest) a := by
 unfold wpQuiet
 rw [if_pos hw]
 exact ⟨v, hv, h⟩

theorem oq_move (hw : Region.wanted o (yielded ops a.tmps) = true) {x : Operand} (ho : o.op = .move x) {v : Value} (hx : a.eval x = v) (h : wpQuiet P ops (OwnC B w0 L) R rest (a.put o.dst v)) : wpQuiet P ops (OwnC B w0 L) R (o :: rest) a := by
 refine oq_do hw (fun w _ => ?_) h
 unfold Oper.quietAt execOp
 rw [ho]
 exact ⟨rfl, hx⟩
theorem oq_assign (hw : Region.wanted o (yielded ops a.tmps) = true) {x : Operand} (ho : o.op = .assign x) {v : Value} (hx : a.eval x = v) (h : wpQuiet P ops (OwnC B w0 L) R rest (a.put o.dst v)) : wpQuiet P ops (OwnC B w0 L) R (o :: rest) a := by
 refine oq_do hw (fun w _ => ?_) h
 unfold Oper.quietAt execOp
 rw [ho]
 exact ⟨rfl, hx⟩

theorem oq_pure (hw : Region.wanted o (yielded ops a.tmps) = true) {v : Value} (hv : ∀ w, (execOp a.eval o).run P w = .ok (.value v) w) (h : wpQuiet P ops (OwnC B w0 L) R rest (a.put o.dst v)) : wpQuiet P ops (OwnC B w0 L) R (o :: rest) a := by
 refine oq_do hw (fun w _ => ?_) h
 unfold Oper.quietAt
 rw [hv]
 exact ⟨rfl, rfl⟩

theorem oq_load_agg (hw : Region.wanted o (yielded ops a.tmps) = true) {t : TypeId} {x : Operand} (ho : o.op = .load t x) {b off : Nat} (hx : a.eval x = .pointer (some ⟨b, off, none⟩))
    {n : Nat} (ht : Agg P t n) {cs : Array Value} {u : TypeId} (hm : ⟨b, cs, u⟩ ∈ L) (hn : Nat.ble (off + n) cs.size = true) {ds : Array Value} (hd : cs.extract off (off + n) = ds)
    (h : wpQuiet P ops (OwnC B w0 L) R rest (a.put o.dst (.agg ds))) : wpQuiet P ops (OwnC B w0 L) R (o :: rest) a := by
 refine oq_do hw (fun w hR => ?_) h
 subst hd
 have hg := (hR.rows _ hm).2
 have : (execOp a.eval o).run P w = .ok (.value (.agg (cs.extract off (off + n)))) w := by
  unfold execOp
  rw [ho]
  simp [hx, Instr.loadAt, Instr.sureAddr, Sem.run_bind, loadVar_agg ht w b off cs u _ hg (Nat.le_of_ble_eq_true hn)]
 unfold Oper.quietAt
 rw [this]
 exact ⟨rfl, rfl⟩

theorem oq_load_all (hw : Region.wanted o (yielded ops a.tmps) = true) {t : TypeId} {x : Operand} (ho : o.op = .load t x) {b : Nat} (hx : a.eval x = .pointer (some ⟨b, 0, none⟩))
    {n : Nat} (ht : Agg P t n) {cs : Array Value} {u : TypeId} (hm : ⟨b, cs, u⟩ ∈ L) (hn : cs.size = n)
    (h : wpQuiet P ops (OwnC B w0 L) R rest (a.put o.dst (.agg cs))) : wpQuiet P ops (OwnC B w0 L) R (o :: rest) a :=
 oq_load_agg hw ho hx ht hm (Nat.ble_eq_true_of_le (by omega)) (ds := cs) (by simp [← hn]) h

theorem oq_load_one (hw : Region.wanted o (yielded ops a.tmps) = true) {t : TypeId} {x : Operand} (ho : o.op = .load t x) {b off : Nat} (hx : a.eval x = .pointer (some ⟨b, off, none⟩))
    (ht : One P t) {cs : Array Value} {u : TypeId} (hm : ⟨b, cs, u⟩ ∈ L) {v : Value} (hv : cs[off]? = some v)
    (h : wpQuiet P ops (OwnC B w0 L) R rest (a.put o.dst v)) : wpQuiet P ops (OwnC B w0 L) R (o :: rest) a := by
 refine oq_do hw (fun w hR => ?_) h
 have hg := (hR.rows _ hm).2
 have : (execOp a.eval o).run P w = .ok (.value v) w := by
  unfold execOp
  rw [ho]
  simp [hx, Instr.loadAt, Instr.sureAddr, Sem.run_bind, loadVar_one ht w b off cs u _ v hg hv]
 unfold Oper.quietAt
 rw [this]
 exact ⟨rfl, rfl⟩

theorem oq_eql (hw : Region.wanted o (yielded ops a.tmps) = true) {t ty : TypeId} {x y : Operand} (ho : o.op = .binOp .eql t x y ty) {xs ys : Array Value} (hx : a.eval x = .agg xs) (hy : a.eval y = .agg ys)
    (hm : P.eqGuardType P.depth t = false) {r : Bool} (hr : ∀ w, (Op.equalIn 10000 t (.agg xs) (.agg ys)).run P w = .ok r w) (h : wpQuiet P ops (OwnC B w0 L) R rest (a.put o.dst (.bool r))) : wpQuiet P ops (OwnC B w0 L) R (o :: rest) a := by
 refine oq_pure hw (fun w => ?_) h
 unfold execOp
 rw [ho]
 simp [hx, hy, Sem.run_bind, run_eqGuard_agg w .eql t x y xs ys hm, run_eql_struct, hr]
theorem oq_neq (hw : Region.wanted o (yielded ops a.tmps) = true) {t ty : TypeId} {x y : Operand} (ho : o.op = .binOp .neq t x y ty) {xs ys : Array Value} (hx : a.eval x = .agg xs) (hy : a.eval y = .agg ys)
    (hm : P.eqGuardType P.depth t = false) {r : Bool} (hr : ∀ w, (Op.equalIn 10000 t (.agg xs) (.agg ys)).run P w = .ok r w) (h : wpQuiet P ops (OwnC B w0 L) R rest (a.put o.dst (.bool (!r)))) : wpQuiet P ops (OwnC B w0 L) R (o :: rest) a := by
 refine oq_pure hw (fun w => ?_) h
 unfold execOp
 rw [ho]
 simp [hx, hy, Sem.run_bind, run_eqGuard_agg w .neq t x y xs ys hm, run_neq_struct, hr]

theorem oq_max (hw : Region.wanted o (yielded ops a.tmps) = true) {x y : Operand} {ts : Array TypeId} (ho : o.op = .call { callee := .builtin .max, args := #[x, y], argTypes := ts }) {k : IntKind} {m n : Int} (hx : a.eval x = .int k m) (hy : a.eval y = .int k n)
    (h : wpQuiet P ops (OwnC B w0 L) R rest (a.put o.dst (.int k (max m n)))) : wpQuiet P ops (OwnC B w0 L) R (o :: rest) a := by
 refine oq_pure hw (fun w => ?_) h
 have e : max m n = if n > m then n else m := by rw [Int.max_def]; split <;> split <;> omega
 unfold execOp
 rw [ho]
 simp only [resolve, builtin]
 simp [Sem.run_bind, hx, hy, e, invoke, builtin, run_max_int2]
theorem oq_min (hw : Region.wanted o (yielded ops a.tmps) = true) {x y : Operand} {ts : Array TypeId} (ho : o.op = .call { callee := .builtin .min, args := #[x, y], argTypes := ts }) {k : IntKind} {m n : Int} (hx : a.eval x = .int k m) (hy : a.eval y = .int k n)
    (h : wpQuiet P ops (OwnC B w0 L) R rest (a.put o.dst (.int k (min m n)))) : wpQuiet P ops (OwnC B w0 L) R (o :: rest) a := by
 refine oq_pure hw (fun w => ?_) h
 have e : min m n = if n < m then n else m := by rw [Int.min_def]; split <;> split <;> omega
 unfold execOp
 rw [ho]
 simp only [resolve, builtin]
 simp [Sem.run_bind, hx, hy, e, invoke, builtin, run_min_int2]

theorem oq_call (hw : Region.wanted o (yielded ops a.tmps) = true) {f : FuncId} {xs : Array Operand} {ts : Array TypeId} (ho : o.op = .call { callee := .value (.func f), args := xs, argTypes := ts }) {args : Array Value}
    {v : Value} (hc : ∀ w, Own B w0 w L → Calls P f args w (Ret w v)) (ha' : xs.toList.map a.eval = args.toList) {fn : Func} (hf : P.funcs[f]? = some fn) (hok : (fn.name == "runtime.NumGoroutine" || fn.body.isNone) = false) (h : wpQuiet P ops (OwnC B w0 L) R rest (a.put o.dst v)) : wpQuiet P ops (OwnC B w0 L) R (o :: rest) a := by
 refine oq_do hw (fun w hR => ?_) h
 obtain ⟨h1, h2⟩ := Bool.or_eq_false_iff.1 hok
 have ha : xs.map a.eval = args := by rw [← Array.toList_inj, Array.toList_map]; exact ha'
 have hr : (callFunc f args).run P w = .ok (.enter f args) w := by
  unfold callFunc
  rw [Sem.run_bind]
  simp only [run_program, Result.andThen_ok, hf, h1, h2]
  rfl
 have : (execOp a.eval o).run P w = .ok (.enter f args) w := by
  unfold execOp
  rw [ho]
  simp [resolve, Deferred.ofValue, Act.eval, ha, invoke, hr]
 unfold Oper.quietAt
 rw [this]
 exact ⟨rfl, (hc w hR).mono fun e w' ⟨he, hb⟩ => ⟨he, hR.ext hb⟩⟩
end
end Go.Proofs.Ytimkhidniolpeaa
