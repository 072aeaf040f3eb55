/- More rules for statements whose order is open: a call of a function value. -/
import Derived.Test.YtboljdeeodeeeaaRegion
namespace Go.Proofs.Ytboljdeeodeeeaa
set_option linter.unusedSimpArgs false
set_option linter.unusedVariables false
set_option maxRecDepth 100000
open Go.RowKit
variable {P : Program} {ops : Array Oper} {rest : List Oper} {o : Oper} {a : Act} {w w0 : World} {B : Nat} {L E : List Ent} {R : Act → Prop} {Q : Exit → Act → World → Prop} {m : Nat}

/-- A call of a function value, with what it holds. -/
theorem re_callv (hw : Region.wanted o (yielded ops a.tmps) = true) {f : FuncId} {x : Operand} {xs : Array Operand} {ts : Array TypeId} (ho : o.op = .call { callee := .value x, args := xs, argTypes := ts }) {cap : Array Value} (hx : a.eval x = .func (.func f) #[] cap) {args : Array Value}
    {v : Value} (ha' : xs.toList.map a.eval = args.toList) (hc : ∀ w, Own B w0 w L → Calls P f (args ++ cap) w (Ret w v)) {fn : Func} (hf : P.funcs[f]? = some fn) (hok : (fn.name == "runtime.NumGoroutine" || fn.body.isNone) = false) (h : wpE P ops (OwnE B w0 L) R rest (a.put o.dst v)) : wpE P ops (OwnE B w0 L) R (o :: rest) a := by
  refine re_do hw (fun w hR => ?_) h
  obtain ⟨h1, h2⟩ := Bool.or_eq_false_iff.1 hok
  have ha : xs.map a.eval = args := by rw [← Array.toList_inj, Array.toList_map]; exact ha'
  have hr : (callFunc f (args ++ cap)).run P w = .ok (.enter f (args ++ cap)) w := by
    unfold callFunc
    rw [Sem.run_bind]
    simp only [run_program, Result.andThen_ok, hf, h1, h2]
    rfl
  have : (execOp a.eval o).run P w = .ok (.enter f (args ++ cap)) w := by
    unfold execOp
    rw [ho]
    simp [resolve, Deferred.ofValue, hx, ha, invoke, hr]
  unfold Oper.quietAt
  rw [this]
  exact ⟨rfl, hc w hR⟩

/-- A contract over one's own rows: returns v, the rows E have become E'; below B nothing has changed. -/
def RetO (B : Nat) (w0 : World) (E' : List Ent) (v : Value) (e : Ending) (w : World) : Prop := e = .returned v ∧ Own B w0 w E'

theorem RetO.of_ret {w : World} {E : List Ent} {v : Value} {f : FuncId} {args : Array Value} (h : Calls P f args w (Ret w v)) (hR : Own B w0 w E) : Calls P f args w (RetO B w0 E v) :=
  h.mono fun _ _ ⟨he, hb⟩ => ⟨he, hR.ext hb⟩

/-- A call whose callee changes rows of one's own. -/
theorem own_callO {E' : List Ent} {f : FuncId} {args : Array Value} {v : Value} {R : Ending → World → Prop} (hc : Calls P f args w (RetO B w0 E' v)) (h : ∀ w' : World, Own B w0 w' E' → R (.returned v) w') : Calls P f args w R :=
  hc.mono fun _ w' ⟨he, hb⟩ => by subst he; exact h w' hb

/-- The same rows in another order. -/
theorem Own.perm {E' : List Ent} (h : Own B w0 w E) (hp : E.Perm E') : Own B w0 w E' :=
  ⟨h.below, h.big, fun e he => h.rows e (hp.mem_iff.2 he), ((hp.map _).nodup_iff).1 h.apart⟩

theorem Own.sub {E' : List Ent} (h : Own B w0 w E) (hp : E'.Sublist E) : Own B w0 w E' :=
  ⟨h.below, h.big, fun e he => h.rows e (hp.subset he), h.apart.sublist (hp.map _)⟩

/-- In the tail: a call of a function value, whose callee changes rows of one's own. -/
theorem rt_callv (hw : Region.wanted o (yielded ops a.tmps) = true) {f : FuncId} {x : Operand} {xs : Array Operand} {ts : Array TypeId} (ho : o.op = .call { callee := .value x, args := xs, argTypes := ts }) {cap : Array Value} (hx : a.eval x = .func (.func f) #[] cap) {args : Array Value}
    {v : Value} (ha' : xs.toList.map a.eval = args.toList) {E' : List Ent} (hc : ∀ w, Own B w0 w E → Calls P f (args ++ cap) w (RetO B w0 E' v)) {fn : Func} (hf : P.funcs[f]? = some fn) (hok : (fn.name == "runtime.NumGoroutine" || fn.body.isNone) = false)
    (hE : ∀ w, Own B w0 w E' → Own B w0 w L) (h : Tail P ops B w0 L Q (m - 1) E' rest (a.put o.dst v)) : Tail P ops B w0 L Q m E (o :: rest) a := by
  refine rt_do hw fun w hR => ?_
  obtain ⟨h1, h2⟩ := Bool.or_eq_false_iff.1 hok
  have ha : xs.map a.eval = args := by rw [← Array.toList_inj, Array.toList_map]; exact ha'
  have hr : (callFunc f (args ++ cap)).run P w = .ok (.enter f (args ++ cap)) w := by
    unfold callFunc
    rw [Sem.run_bind]
    simp only [run_program, Result.andThen_ok, hf, h1, h2]
    rfl
  have : (execOp a.eval o).run P w = .ok (.enter f (args ++ cap)) w := by
    unfold execOp
    rw [ho]
    simp [resolve, Deferred.ofValue, hx, ha, invoke, hr]
  unfold Oper.wp
  rw [this]
  refine (hc w hR).mono fun e w' he => ?_
  obtain ⟨he, hR'⟩ := he
  subst he
  exact ⟨fun _ => hE w' hR', h w' hR'⟩

theorem calls_hideO {f : FuncId} {args : Array Value} {v : Value} (h : ∀ V : Value, Hid (V = v) → Calls P f args w (RetO B w0 E V)) : Calls P f args w (RetO B w0 E v) := h v rfl

/-- A contract over rows S0, with rows ahead and rows behind. -/
theorem RetO.around {S0 S1 F : List Ent} {f : FuncId} {args : Array Value} {v : Value} (T : List Ent) (h : ∀ w' E, Own B w0 w' (S0 ++ E) → Calls P f args w' (RetO B w0 (S1 ++ E) v)) (hR : Own B w0 w (T ++ (S0 ++ F))) :
    Calls P f args w (RetO B w0 (T ++ (S1 ++ F)) v) :=
  (h w (T ++ F) (hR.perm (List.perm_append_comm_assoc _ _ _))).mono fun _ _ ⟨he, hO⟩ => ⟨he, hO.perm (List.perm_append_comm_assoc _ _ _)⟩

theorem Own.front {T E : List Ent} (h : Own B w0 w (T ++ E)) : Own B w0 w T := h.sub (List.sublist_append_left _ _)

theorem Own.retO {v : Value} {e : Ending} (h : Own B w0 w E) (he : e = .returned v) : RetO B w0 E v e w := ⟨he, h⟩

theorem Own.front1 {e1 : Ent} (h : Own B w0 w (e1 :: E)) : Own B w0 w [e1] := h.front (T := [e1])
theorem Own.front2 {e1 e2 : Ent} (h : Own B w0 w (e1 :: e2 :: E)) : Own B w0 w [e1, e2] := h.front (T := [e1, e2])
theorem Own.front3 {e1 e2 e3 : Ent} (h : Own B w0 w (e1 :: e2 :: e3 :: E)) : Own B w0 w [e1, e2, e3] := h.front (T := [e1, e2, e3])
theorem Own.front4 {e1 e2 e3 e4 : Ent} (h : Own B w0 w (e1 :: e2 :: e3 :: e4 :: E)) : Own B w0 w [e1, e2, e3, e4] := h.front (T := [e1, e2, e3, e4])

theorem setRow_same {g : Nat} {cs : Array Value} {u : TypeId} {fr : Nat × Nat} (hg : w.heap[g]? = some (.cells cs u fr)) : w.setRow g cs = w := by
  have hlt := (Array.getElem?_eq_some_iff.1 hg).1
  cases w with
  | mk heap tape drawn os output =>
    unfold World.setRow
    congr 1
    apply Array.ext
    · simp
    · intro k h1 h2
      rw [Array.getElem_modify]
      split
      · rename_i hk
        subst hk
        rw [(Array.getElem?_eq_some_iff.1 hg).2]
      · rfl

/-- A store of what is there already changes nothing. -/
theorem re_store_same (hw : Region.wanted o (yielded ops a.tmps) = true) {t : TypeId} {x y : Operand} (ho : o.op = .store t x y) {b : Nat} (hx : a.eval x = .pointer (some ⟨b, 0, none⟩))
    {n : Nat} (ht : (P.info? t).map (·.size) = some n) {v : Value} (hy : a.eval y = v) (hv : v.cells.size = n) (hone : v.cells.toList.all (·.oneCell') = true)
    {cs : Array Value} {u : TypeId} (hm : ⟨b, cs, u⟩ ∈ L) (hn : cs.size = n) (hc : v.cells = cs) (h : wpE P ops (OwnE B w0 L) R rest (a.put o.dst undef)) : wpE P ops (OwnE B w0 L) R (o :: rest) a := by
  refine re_do hw (fun w hR => ?_) h
  have hg := (hR.rows _ hm).2
  have hl : layAt cs 0 v.cells.toList = v.cells := layAt_all _ _ (by omega)
  have : (execOp a.eval o).run P w = .ok .skip w := by
    unfold execOp
    rw [ho]
    simp [hx, hy, Instr.storeAt, Instr.sureAddr, Sem.run_bind, storeVar_row ht w b 0 cs u _ hg hv hone (by omega), hl]
    rw [hc]
    exact setRow_same hg
  unfold Oper.quietAt
  rw [this]
  exact ⟨rfl, rfl⟩

end Go.Proofs.Ytboljdeeodeeeaa
