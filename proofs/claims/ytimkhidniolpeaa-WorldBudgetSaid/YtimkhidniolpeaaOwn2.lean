/- More rules over one's own rows: an operation whose guard says no. -/
import Derived.Test.YtimkhidniolpeaaLaw
namespace Go.Proofs.Ytimkhidniolpeaa
set_option linter.unusedSimpArgs false
set_option linter.unusedVariables false
set_option maxRecDepth 100000
set_option maxHeartbeats 0
open Go.RowKit
variable {P : Program} {ops : Array Oper} {rest : List Oper} {o : Oper} {a : Act} {w w0 : World} {B : Nat} {L : List Ent} {Q : Exit → Act → World → Prop}

theorem own_skip (hw : Region.wanted o (yielded ops a.tmps) = false) (h : wpList P ops Q rest (a.put o.dst undef) w) : wpList P ops Q (o :: rest) a w :=
 wpList_step fun K hK => by rw [if_neg (by simp [hw])]; exact hK _ _ h

theorem own_pure (hw : Region.wanted o (yielded ops a.tmps) = true) {v : Value} (hv : ∀ w, (execOp a.eval o).run P w = .ok (.value v) w) (h : wpList P ops Q rest (a.put o.dst v) w) : wpList P ops Q (o :: rest) a w := by
 refine wpList_do hw fun K hK => ?_
 unfold Oper.wp
 rw [hv w]
 exact hK _ _ h

theorem own_move (hw : Region.wanted o (yielded ops a.tmps) = true) {x : Operand} (ho : o.op = .move x) {v : Value} (hx : a.eval x = v) (h : wpList P ops Q rest (a.put o.dst v) w) : wpList P ops Q (o :: rest) a w :=
 own_pure hw (v := v) (fun w => by unfold execOp; rw [ho]; simp [hx]) h

theorem own_assign (hw : Region.wanted o (yielded ops a.tmps) = true) {x : Operand} (ho : o.op = .assign x) {v : Value} (hx : a.eval x = v) (h : wpList P ops Q rest (a.put o.dst v) w) : wpList P ops Q (o :: rest) a w :=
 own_pure hw (v := v) (fun w => by unfold execOp; rw [ho]; simp [hx]) h

theorem Own.name {B : Nat} {w0 w : World} {L : List Ent} (h : Own B w0 w L) : ∃ L', L = L' ∧ Own B w0 w L' := ⟨L, rfl, h⟩

end Go.Proofs.Ytimkhidniolpeaa
