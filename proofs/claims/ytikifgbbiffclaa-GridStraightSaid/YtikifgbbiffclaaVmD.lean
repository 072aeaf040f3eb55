/- The small machine: operations on memory. Of whatever program. -/
import Derived.Test.YtikifgbbiffclaaVmAp
import Derived.IntWalk
import Derived.ArgAppend
import Derived.Maps.AppendAt
namespace Go.Proofs.Ytikifgbbiffclaa
set_option linter.unusedSimpArgs false
set_option linter.unusedVariables false
open Go.RowKit

/-- What an operation on memory does. -/
def decAll (k : Knd) : List (List SV) → Option (List k.T)
  | [] => some []
  | c :: cs => match k.dec c, decAll k cs with
    | some x, some xs => some (x :: xs)
    | _, _ => none

/-- The parts of a slice that is written out: all of them, in order. -/
def partsS (i : Nat) : List (Nat × SV) → Option (List (List SV))
  | [] => some []
  | (j, v) :: l => bif Nat.beq i j then (match v.cells, partsS (i + 1) l with
    | some c, some cs => some (c :: cs)
    | _, _ => none) else none

def Ctx.knd (X : Ctx) (t : Nat) : Option (Nat × TI × Knd) :=
  match X.T t with
  | some ⟨.slice e, _, _, _, _, _⟩ => match X.T e with
    | some ti => match ti.knd with
      | some k => bif Nat.beq ti.size k.st then some (e, ti, k) else none
      | none => none
    | none => none
  | _ => none

def memS (X : Ctx) (ev : Operand → SV) (rows : List Row) : Op → Option Eff
  | .load t a => match ev a with
    | .ptr id st i j => match X.T t, rows[id]? with
      | some ti, some (.own cells) => match partS ti cells (i * st + j) with
        | some v => some { val := v, rd := [id] }
        | none => none
      | some ti, some (.vec _ k xs) => bif Nat.beq st k.st then (match partS ti (k.enc (xs.getD i k.dflt)) j with
        | some v => some { ok := decide (i < xs.length), val := v, rd := [id] }
        | none => none) else none
      | _, _ => none
    | _ => none
  | .store t a x => match ev a with
    | .ptr id st i j => match X.T t, (ev x).cells, rows[id]? with
      | some ti, some vc, some (.own cells) => bif Nat.beq vc.length ti.size && (Nat.ble (i * st + j + ti.size) cells.length && vc.all SV.one) then
          some { val := .tuple [], rd := [id], wr := [(id, .own (layS cells (i * st + j) vc))] } else none
      | some ti, some vc, some (.vec false k xs) => bif Nat.beq st k.st && (Nat.beq vc.length ti.size && (Nat.ble (j + ti.size) st && vc.all SV.one)) then (match k.dec (layS (k.enc (xs.getD i k.dflt)) j vc) with
        | some x' => some { ok := decide (i < xs.length), val := .tuple [], rd := [id], wr := [(id, .vec false k (xs.set i x'))] }
        | none => none) else none
      | _, _, _ => none
    | _ => none
  | .alloc t => match X.T t with
    | some ti => some { val := .ptr rows.length 0 0 0, nw := [.own ti.zero] }
    | none => none
  | .box _ x => match (ev x).cells with
    | some cs => some { val := .ptr rows.length 0 0 0, nw := [.own cs] }
    | none => none
  | .buildSlice t len parts => match X.knd t with
    | some (_, _, k) => match partsS 0 (parts.toList.map fun p => (p.1, ev p.2)) with
      | some cs => match decAll k cs with
        | some xs => bif Nat.beq cs.length len && Nat.ble (len * k.st) 16777216 then some { val := .slice rows.length k.st 0 len (some len), nw := [.vec false k xs] } else none
        | none => none
      | none => none
    | none => none
  | .makeSlice t l c => match X.knd t, ev l, ev c with
    | some (_, ti, k), .int .i64 n, .int .i64 m => match k.dec ti.zero with
      | some z => some { ok := decide (0 ≤ n) && (decide (n ≤ 9223372036854775807) && (decide (ti.bytes * n ≤ 2 ^ 48) && decide (n = m))), val := .slice rows.length k.st 0 n.toNat (some n.toNat), nw := [.vec false k (List.replicate n.toNat z)] }
      | none => none
    | _, _, _ => none
  | .call ⟨.value f, args, _⟩ => match ev f with
    | .fn fid caps => X.call fid (args.toList.map ev ++ caps) rows
    | _ => none
  | .call ⟨.builtin .append, args, ts⟩ => match args.toList, ts.toList with
    | [s, x], [t1, t2] => match X.knd t1 with
      | some (_, ti, k) => bif Nat.beq t1 t2 && Nat.beq ti.zero.length k.st then appS k ti.bytes rows (ev s) (ev x) else none
      | none => none
    | _, _ => none
  | _ => none

section
variable {P : Program} {X : Ctx} {ρ : Rho} {w : World}

def Rho.upd (ρ : Rho) (n : Nat) (p : Plc) : Rho := fun i => if i = n then some p else ρ i

theorem Rho.le_upd {n : Nat} {p : Plc} (h : ρ n = none) : ρ.le (ρ.upd n p) := fun i q hq => by
  unfold Rho.upd
  split
  · rename_i hi; subst hi; rw [h] at hq; cases hq
  · exact hq

theorem After.quiet {pres : Nat → Prop} {n : Nat} {e : Eff} {v : Value} (hg : Good ρ w) (ha : Apart ρ pres) (hv : Rel ρ e.val v) (h1 : e.wr = []) (h2 : e.nw = []) : After ρ pres n e w v ρ w where
  le := Rho.le.refl ρ
  good := hg
  dom := fun _ _ h => .inl h
  new := fun i p h3 h4 => by simp [h2] at h4; omega
  apart := fun i j p q hi hj => by
    refine ha i j p q ?_ ?_
    · rcases hi with hi | hi
      · exact hi.1
      · simp [h2] at hi; omega
    · rcases hj with hj | hj
      · exact hj.1
      · simp [h2] at hj; omega
  val := hv
  wr := by simp [h1]
  nw := by simp [h2]
  frm := Frm.refl _ _

theorem After.fresh {pres : Nat → Prop} {n : Nat} {e : Eff} {v : Value} {row : Row} {cs : Array Value} {ty : TypeId} (hg : Good ρ w) (ha : Apart ρ pres) (hfree : ρ n = none)
    (hv : Rel (ρ.upd n ⟨w.heap.size, 0, true, cs.size⟩) e.val v) (h1 : e.wr = []) (h2 : e.nw = [row])
    (hrow : RowAt (ρ.upd n ⟨w.heap.size, 0, true, cs.size⟩) n row (w.alloc (.cells cs ty))) : After ρ pres n e w v (ρ.upd n ⟨w.heap.size, 0, true, cs.size⟩) (w.alloc (.cells cs ty)) where
  le := Rho.le_upd hfree
  good := fun i p h => by
    unfold Rho.upd at h
    split at h
    · cases h; simp
    · have := hg i p h; simp; omega
  dom := fun i p h => by
    unfold Rho.upd at h
    split at h
    · rename_i hi; subst hi; right; simp [h2]
    · exact .inl h
  new := fun i p h3 h4 h => by
    simp [h2] at h4
    have : i = n := by omega
    subst this
    simp [Rho.upd] at h
    subst h
    exact .inl (Nat.le_refl _)
  apart := fun i j p q hi hj hij hp hq hm => by
    have key : ∀ i p, (ρ.upd n ⟨w.heap.size, 0, true, cs.size⟩) i = some p → presAfter pres n e i → (i = n ∧ p.b = w.heap.size) ∨ (i ≠ n ∧ ρ i = some p ∧ pres i ∧ p.b < w.heap.size) := by
      intro i p h hpr
      unfold Rho.upd at h
      split at h
      · rename_i hi; cases h; exact .inl ⟨hi, rfl⟩
      · rename_i hi
        refine .inr ⟨hi, h, ?_, hg i p h⟩
        rcases hpr with hpr | hpr
        · exact hpr.1
        · simp [h2] at hpr; omega
    rcases key i p hp hi with ⟨h3, h4⟩ | ⟨h3, h4, h5, h6⟩ <;> rcases key j q hq hj with ⟨k3, k4⟩ | ⟨k3, k4, k5, k6⟩
    · omega
    · omega
    · omega
    · exact ha i j p q h5 k5 hij h4 k4 hm
  val := hv
  wr := by simp [h1]
  nw := fun j row' h => by
    rw [h2] at h
    cases j with
    | zero => simp at h; subst h; exact hrow
    | succ j => simp at h
  frm := ⟨rfl, rfl, rfl, by simp, fun b hb _ => Below.heap_alloc _ _ _ hb⟩

theorem After.wrote {pres : Nat → Prop} {n : Nat} {e : Eff} {v : Value} {id : Nat} {row : Row} {p : Plc} {cs : Array Value} (hg : Good ρ w) (ha : Apart ρ pres) (hp : ρ id = some p) (hm : p.mine = true) (hv : Rel ρ e.val v)
    (h1 : e.wr = [(id, row)]) (h2 : e.nw = []) (hrow : RowAt ρ id row (w.setRow p.b cs)) : After ρ pres n e w v ρ (w.setRow p.b cs) where
  le := Rho.le.refl ρ
  good := fun i p h => by have := hg i p h; simpa using this
  dom := fun _ _ h => .inl h
  new := fun i p h3 h4 => by simp [h2] at h4; omega
  apart := fun i j p q hi hj => by
    refine ha i j p q ?_ ?_
    · rcases hi with hi | hi
      · exact hi.1
      · simp [h2] at hi; omega
    · rcases hj with hj | hj
      · exact hj.1
      · simp [h2] at hj; omega
  val := hv
  wr := by simp [h1]; exact hrow
  nw := by simp [h2]
  frm := ⟨rfl, rfl, rfl, by simp, fun b _ hn => setRow_other w p.b b cs (fun hb => hn ⟨(id, row), by simp [h1], p, hp, hm, hb.symm⟩)⟩
end

section
variable {P : Program} {X : Ctx}

/-- From a run that ends in a value. -/
theorem opOk_of {o : Oper} {ev : Operand → SV} {m : Nat → Option Row} {n : Nat} {e : Eff}
    (h : ∀ (ρ : Rho) (pres : Nat → Prop) (a : Act) (w : World), (∀ x ∈ o.op.operands, Rel ρ (ev x) (a.eval x)) → Good ρ w → Apart ρ pres →
      (∀ id ∈ e.rd, ∀ row, m id = some row → RowAt ρ id row w ∧ (row.live = true → pres id)) → (∀ j, n ≤ j → j < n + e.nw.length → ρ j = none ∧ ¬ pres j) →
      ∃ v ρ' w', ((execOp a.eval o).run P w = .ok (.value v) w' ∨ (v = undef ∧ (execOp a.eval o).run P w = .ok .skip w')) ∧ After ρ pres n e w v ρ' w') : OpOk P o ev m n e := by
  intro ρ pres a w hev hg ha hrd hfree K Q hK
  obtain ⟨v, ρ', w', hr, haft⟩ := h ρ pres a w hev hg ha hrd hfree
  unfold Oper.wp
  rcases hr with hr | ⟨rfl, hr⟩
  · rw [hr]; exact hK _ _ _ haft
  · rw [hr]; exact hK _ _ _ haft

theorem own_cell {ρ : Rho} {w : World} {id : Nat} {cells : List SV} (h : RowAt ρ id (.own cells) w) : ∃ (p : Plc) (vs : List Value) (ty : TypeId), ρ id = some p ∧ p.base = 0 ∧ p.mine = true ∧ w.heap[p.b]? = some (.cells vs.toArray ty (0, 0)) ∧ RelL ρ cells vs := h

/-- loadVar where each cell is known. -/
theorem loadVar_cells {t : Nat} {ti : TI} (ht : TIOk P t ti) {ρ : Rho} (w : World) (b off : Nat) {cs : List SV} {vs : List Value} (hr : RelL ρ cs vs) (hc : ∀ j v, vs[j]? = some v → w.cell? ⟨b, off + j, none⟩ = some v) {j : Nat} {v : SV}
    (hp : partS ti cs j = some v) : ∃ rv, (loadVar t ⟨b, off + j, none⟩).run P w = .ok rv w ∧ Rel ρ v rv := by
  unfold partS at hp
  unfold loadVar
  rw [Sem.run_bind, ht.isAgg]
  cases hq : ti.td.isAgg with
  | true =>
    simp only [hq, cond_true] at hp
    cases hb : Nat.ble (j + ti.size) cs.length with
    | false => simp [hb] at hp
    | true =>
      simp only [hb, cond_true, Option.some.injEq] at hp
      subst hp
      have hlen := hr.length
      have hble := Nat.le_of_ble_eq_true hb
      have hl := run_loadCells_list (P := P) w ⟨b, off + j, none⟩ ((vs.drop j).take ti.size) (fun i u hu => by
        rw [addr_add, Nat.add_assoc]
        refine hc _ _ ?_
        rw [List.getElem?_take] at hu
        split at hu
        · simpa using hu
        · cases hu)
      have hlen2 : ((vs.drop j).take ti.size).length = ti.size := by simp; omega
      rw [hlen2] at hl
      refine ⟨.agg ((vs.drop j).take ti.size).toArray, by simp [Sem.run_bind, ht.sizeOf, hl], ?_⟩
      simp only [Rel]
      exact ⟨_, rfl, (hr.drop j).take ti.size⟩
  | false =>
    simp only [hq, cond_false] at hp
    obtain ⟨u, hu, hru⟩ := hr.get hp
    exact ⟨u, by simp [run_load, hc j u hu], hru⟩

theorem heap_cell {w : World} {b : Nat} {vs : List Value} {ty : TypeId} {fr : Nat × Nat} (hg : w.heap[b]? = some (.cells vs.toArray ty fr)) (j : Nat) : w.cell? ⟨b, j, none⟩ = vs[j]? := by
  rw [cell_of_row w b j _ ty fr hg]; simp

theorem enc_cells {ρ : Rho} {w : World} {k : Knd} {x : k.T} {b off : Nat} (h : ∀ (j : Nat) (s : SV), (k.enc x)[j]? = some s → w.cell? ⟨b, off + j, none⟩ = some (dval s)) :
    RelL ρ (k.enc x) ((k.enc x).map dval) ∧ ∀ j v, ((k.enc x).map dval)[j]? = some v → w.cell? ⟨b, off + j, none⟩ = some v := by
  constructor
  · have hd := k.enc_dat x
    generalize k.enc x = l at hd
    clear h
    induction l with
    | nil => simp [RelL]
    | cons s l ih =>
      simp only [List.map_cons, relL_cons]
      exact ⟨(rel_dat (hd s (by simp))).2 rfl, ih (fun s hs => hd s (by simp [hs]))⟩
  · intro j v hv
    rw [List.getElem?_map] at hv
    cases hs : (k.enc x)[j]? with
    | none => simp [hs] at hv
    | some s =>
      simp [hs] at hv
      subst hv
      exact h j s hs

theorem load_ok (hX : COk P X) {o : Oper} {ev : Operand → SV} {rows : List Row} {t : TypeId} {x : Operand} (ho : o.op = .load t x) {e : Eff} (h : memS X ev rows (.load t x) = some e) (hok : e.ok = true) :
    OpOk P o ev (rows[·]?) rows.length e := by
  refine opOk_of fun ρ pres a w hev hg ha hrd _ => ?_
  simp only [memS] at h
  cases hx : ev x <;> simp only [hx, reduceCtorEq] at h
  rename_i id st i j
  cases hT : X.T t with
  | none => simp [hT] at h
  | some ti =>
    have ht := hX.T _ _ hT
    have hxv := hev x (by simp [ho, Op.operands])
    rw [hx] at hxv
    simp only [Rel] at hxv
    obtain ⟨p, hp, hxv⟩ := hxv
    cases hrow : rows[id]? with
    | none => simp [hT, hrow] at h
    | some row =>
      cases row with
      | gone => simp [hT, hrow] at h
      | own cells =>
        simp only [hT, hrow] at h
        split at h
        · rename_i v hv
          cases h
          obtain ⟨p', vs, ty, hp', hb, hm, hh, hr⟩ := (hrd id (by simp) _ hrow).1
          rw [hp] at hp'; cases hp'
          obtain ⟨rv, h1, h2⟩ := loadVar_cells ht w p.b 0 hr (fun j v hv => by rw [Nat.zero_add, heap_cell hh]; exact hv) hv
          refine ⟨rv, ρ, w, .inl ?_, After.quiet hg ha h2 rfl rfl⟩
          unfold execOp
          rw [ho]
          simp only [hxv]
          rw [Nat.zero_add] at h1
          rw [show p.base + i * st + j = i * st + j by omega]
          simp [Instr.loadAt, Instr.sureAddr, Sem.run_bind, h1]
        · cases h
      | vec ro k xs =>
        simp only [hT, hrow] at h
        cases hst : Nat.beq st k.st with
        | false => simp [hst] at h
        | true =>
          simp only [hst, cond_true] at h
          have hst' : st = k.st := Nat.eq_of_beq_eq_true hst
          subst hst'
          split at h
          · rename_i v hv
            cases h
            simp only [decide_eq_true_eq] at hok
            obtain ⟨p', hp', _, _, hcells⟩ : ∃ p : Plc, ρ id = some p ∧ (ro = true → p.mine = false) ∧ (ro = false → p.mine = true ∧ p.base = 0 ∧ ∃ (vs : List Value) (ty : TypeId), w.heap[p.b]? = some (.cells vs.toArray ty (0, 0)) ∧ xs.length * k.st ≤ vs.length ∧ vs.length = p.size) ∧
                ∀ (i : Nat) (x : k.T), xs[i]? = some x → ∀ (j : Nat) (s : SV), (k.enc x)[j]? = some s → w.cell? ⟨p.b, p.base + i * k.st + j, none⟩ = some (dval s) := by
              rcases (hrd id (by simp) _ hrow).1 with ⟨_, he⟩ | h
              · rw [he] at hok; simp at hok
              · exact h
            rw [hp] at hp'; cases hp'
            have hxi : xs[i]? = some (xs.getD i k.dflt) := by simp [List.getD, List.getElem?_eq_getElem hok]
            obtain ⟨hr, hc⟩ := enc_cells (ρ := ρ) (hcells i _ hxi)
            obtain ⟨rv, h1, h2⟩ := loadVar_cells ht w p.b (p.base + i * k.st) hr hc hv
            refine ⟨rv, ρ, w, .inl ?_, After.quiet hg ha h2 rfl rfl⟩
            unfold execOp
            rw [ho]
            simp only [hxv]
            simp [Instr.loadAt, Instr.sureAddr, Sem.run_bind, h1]
          · cases h

theorem layS_length : ∀ (vs : List SV) (cs : List SV) (i : Nat), (layS cs i vs).length = cs.length
  | [], _, _ => rfl
  | v :: vs, cs, i => by rw [layS, layS_length vs]; simp

theorem layS_get (vs : List SV) : ∀ (cs : List SV) (i k : Nat), i + vs.length ≤ cs.length → (layS cs i vs)[k]? = if i ≤ k ∧ k < i + vs.length then vs[k - i]? else cs[k]? := by
  induction vs with
  | nil => intro cs i k _; rw [if_neg (by simp only [List.length_nil]; omega)]; rfl
  | cons v vs ih =>
    intro cs i k h
    simp only [List.length_cons] at h
    rw [layS, ih _ _ _ (by simp; omega)]
    by_cases h1 : i + 1 ≤ k ∧ k < i + 1 + vs.length
    · rw [if_pos h1, if_pos (by simp only [List.length_cons]; omega)]
      obtain ⟨j, rfl⟩ : ∃ j, k = i + 1 + j := ⟨k - (i + 1), by omega⟩
      rw [show i + 1 + j - (i + 1) = j by omega, show i + 1 + j - i = j + 1 by omega, List.getElem?_cons_succ]
    · rw [if_neg h1]
      by_cases h2 : k = i
      · subst h2
        rw [if_pos (by simp only [List.length_cons]; omega)]
        have : k < cs.length := by omega
        simp [List.getElem?_set, this]
      · rw [if_neg (by simp only [List.length_cons]; omega)]
        simp [List.getElem?_set, Ne.symm h2]

theorem store_ok (hX : COk P X) {o : Oper} {ev : Operand → SV} {rows : List Row} {t : TypeId} {x y : Operand} (ho : o.op = .store t x y) {e : Eff} (h : memS X ev rows (.store t x y) = some e) (hok : e.ok = true) :
    OpOk P o ev (rows[·]?) rows.length e := by
  refine opOk_of fun ρ pres a w hev hg ha hrd _ => ?_
  simp only [memS] at h
  cases hx : ev x <;> simp only [hx, reduceCtorEq] at h
  rename_i id st i j
  cases hT : X.T t with
  | none => simp [hT] at h
  | some ti =>
    have ht := hX.T _ _ hT
    have hxv := hev x (by simp [ho, Op.operands])
    rw [hx] at hxv
    simp only [Rel] at hxv
    obtain ⟨p, hp, hxv⟩ := hxv
    cases hvc : (ev y).cells with
    | none => simp [hT, hvc] at h
    | some vc =>
      have hyr := SV.cells_rel (hev y (by simp [ho, Op.operands])) hvc
      cases hrow : rows[id]? with
      | none => simp [hT, hvc, hrow] at h
      | some row =>
        cases row with
        | gone => simp [hT, hvc, hrow] at h
        | own cells =>
          simp only [hT, hvc, hrow] at h
          cases hb : Nat.beq vc.length ti.size && (Nat.ble (i * st + j + ti.size) cells.length && vc.all SV.one) with
          | false => simp [hb] at h
          | true =>
            simp only [hb, cond_true, Option.some.injEq] at h
            subst h
            rw [Bool.and_eq_true, Bool.and_eq_true] at hb
            obtain ⟨h1, h2, h3⟩ := hb
            have h1 := Nat.eq_of_beq_eq_true h1
            have h2 := Nat.le_of_ble_eq_true h2
            obtain ⟨p', vs, ty, hp', hb0, hm, hh, hr⟩ := (hrd id (by simp) _ hrow).1
            rw [hp] at hp'; cases hp'
            have hl := hr.length
            have hyl := hyr.length
            have hst := storeVar_row (P := P) ht.size w p.b (i * st + j) vs.toArray ty (a.eval y) hh (by simp at hyl; omega) (hyr.ones h3) (by simp; omega)
            refine ⟨undef, ρ, _, .inr ⟨rfl, ?_⟩, After.wrote (cs := layAt vs.toArray (i * st + j) (a.eval y).cells.toList) hg ha hp hm (by simp [Rel, RelL, undef]) rfl rfl ?_⟩
            · unfold execOp
              rw [ho]
              simp only [hxv]
              rw [show p.base + i * st + j = i * st + j by omega]
              simp [Instr.storeAt, Instr.sureAddr, Sem.run_bind, hst]
            · refine ⟨p, (layAt vs.toArray (i * st + j) (a.eval y).cells.toList).toList, ty, hp, hb0, hm, ?_, layS_rel hyr _ (by simpa using hr)⟩
              rw [setRow_heap w p.b _ _ ty _ hh]
        | vec ro k xs =>
          cases ro with
          | true => simp [hT, hvc, hrow] at h
          | false =>
            simp only [hT, hvc, hrow] at h
            cases hb : Nat.beq st k.st && (Nat.beq vc.length ti.size && (Nat.ble (j + ti.size) st && vc.all SV.one)) with
            | false => simp [hb] at h
            | true =>
              simp only [hb, cond_true] at h
              split at h
              · rename_i x' hx'
                cases h
                simp only [decide_eq_true_eq] at hok
                rw [Bool.and_eq_true, Bool.and_eq_true, Bool.and_eq_true] at hb
                obtain ⟨h0, h1, h2, h3⟩ := hb
                obtain rfl := Nat.eq_of_beq_eq_true h0
                have h1 := Nat.eq_of_beq_eq_true h1
                have h2 := Nat.le_of_ble_eq_true h2
                obtain ⟨p', hp', _, hown, hcells⟩ : ∃ p : Plc, ρ id = some p ∧ (false = true → p.mine = false) ∧ (false = false → p.mine = true ∧ p.base = 0 ∧ ∃ (vs : List Value) (ty : TypeId), w.heap[p.b]? = some (.cells vs.toArray ty (0, 0)) ∧ xs.length * k.st ≤ vs.length ∧ vs.length = p.size) ∧
                    ∀ (i : Nat) (x : k.T), xs[i]? = some x → ∀ (j : Nat) (s : SV), (k.enc x)[j]? = some s → w.cell? ⟨p.b, p.base + i * k.st + j, none⟩ = some (dval s) := by
                  rcases (hrd id (by simp) _ hrow).1 with ⟨h, _⟩ | h
                  · cases h
                  · exact h
                rw [hp] at hp'; cases hp'
                obtain ⟨hm, hb0, vs, ty, hh, hlen, hsz⟩ := hown rfl
                have hyl := hyr.length
                have hle : i * k.st + k.st ≤ xs.length * k.st := by
                  have := Nat.mul_le_mul_right k.st (Nat.succ_le_of_lt hok)
                  rw [Nat.succ_mul] at this
                  exact this
                have hst := storeVar_row (P := P) ht.size w p.b (i * k.st + j) vs.toArray ty (a.eval y) hh (by simp at hyl; omega) (hyr.ones h3) (by simp; omega)
                refine ⟨undef, ρ, _, .inr ⟨rfl, ?_⟩, After.wrote (cs := layAt vs.toArray (i * k.st + j) (a.eval y).cells.toList) hg ha hp hm (by simp [Rel, RelL, undef]) rfl rfl ?_⟩
                · unfold execOp
                  rw [ho]
                  simp only [hxv]
                  rw [show p.base + i * k.st + j = i * k.st + j by omega]
                  simp [Instr.storeAt, Instr.sureAddr, Sem.run_bind, hst]
                · have hnew := setRow_heap w p.b _ (layAt vs.toArray (i * k.st + j) (a.eval y).cells.toList) ty _ hh
                  have hsize := layAt_size (a.eval y).cells.toList vs.toArray (i * k.st + j)
                  refine .inr ⟨p, hp, fun h => (by cases h), fun _ => ⟨hm, hb0, (layAt vs.toArray (i * k.st + j) (a.eval y).cells.toList).toList, ty, by simpa using hnew, by simp at hsize ⊢; omega, by simp at hsize ⊢; omega⟩, ?_⟩
                  intro i' x0 hx0 j' s hs
                  rw [cell_of_row _ _ _ _ _ _ hnew, hb0]
                  have hj' : j' < k.st := by
                    have := (List.getElem?_eq_some_iff.1 hs).1
                    rw [k.enc_len] at this
                    exact this
                  have hlen2 : (a.eval y).cells.toList.length = (a.eval y).cells.size := Array.length_toList
                  rw [layAt_get _ _ _ _ (by simp at hyl ⊢; omega)]
                  by_cases hi : i' = i
                  · subst hi
                    rw [List.getElem?_set_self hok] at hx0
                    cases hx0
                    have henc := Knd.enc_dec hx'
                    have hsd := k.enc_dat _ s (List.mem_of_getElem? hs)
                    rw [henc, layS_get _ _ _ _ (by rw [k.enc_len]; simp at hyl; omega)] at hs
                    simp only [Array.length_toList] at hyl ⊢
                    by_cases hin : j ≤ j' ∧ j' < j + vc.length
                    · rw [if_pos hin] at hs
                      rw [if_pos (by omega), show 0 + i' * k.st + j' - (i' * k.st + j) = j' - j by omega]
                      obtain ⟨u, hu, hur⟩ := hyr.get hs
                      rw [hu, (rel_dat hsd).1 hur]
                    · rw [if_neg hin] at hs
                      rw [if_neg (by omega)]
                      have hxi : xs[i']? = some (xs.getD i' k.dflt) := by simp [List.getD, List.getElem?_eq_getElem hok]
                      have hold := hcells i' _ hxi j' s hs
                      rw [cell_of_row _ _ _ _ _ _ hh, hb0] at hold
                      exact hold
                  · rw [List.getElem?_set_ne (Ne.symm hi)] at hx0
                    have hold := hcells i' x0 hx0 j' s hs
                    rw [cell_of_row _ _ _ _ _ _ hh, hb0] at hold
                    rw [if_neg]
                    · exact hold
                    · rintro ⟨g1, g2⟩
                      simp at hyl
                      rcases Nat.lt_or_gt_of_ne hi with hlt | hgt
                      · have := Nat.mul_le_mul_right k.st (Nat.succ_le_of_lt hlt)
                        rw [Nat.succ_mul] at this
                        omega
                      · have := Nat.mul_le_mul_right k.st (Nat.succ_le_of_lt hgt)
                        rw [Nat.succ_mul] at this
                        omega
              · cases h

theorem zero_ok {t : Nat} {ti : TI} (ht : TIOk P t ti) (w : World) : ∃ z, (zeroValue t).run P w = .ok z w ∧ RelL (fun _ => none) ti.zero z.cells.toList := by
  obtain ⟨z, hz, hr⟩ := ht.zero
  refine ⟨z, ?_, hr⟩
  cases hq : P.info? t with
  | none => simp [hq] at hz
  | some i => simp [hq] at hz; simp [zeroValue, typeInfo, hq, hz]

theorem alloc_ok (hX : COk P X) {o : Oper} {ev : Operand → SV} {rows : List Row} {t : TypeId} (ho : o.op = .alloc t) {e : Eff} (h : memS X ev rows (.alloc t) = some e) : OpOk P o ev (rows[·]?) rows.length e := by
  refine opOk_of fun ρ pres a w hev hg ha hrd hfree => ?_
  simp only [memS] at h
  split at h
  · rename_i ti hT
    cases h
    obtain ⟨z, hz, hr⟩ := zero_ok (hX.T _ _ hT) w
    have hf : ρ rows.length = none := (hfree rows.length (Nat.le_refl _) (by simp)).1
    refine ⟨.pointer (some ⟨w.heap.size, 0, none⟩), _, _, .inl ?_, After.fresh (cs := z.cells) (ty := t) (row := .own ti.zero) hg ha hf ?_ rfl rfl ?_⟩
    · unfold execOp
      rw [ho]
      simp [Instr.alloc, Sem.run_bind, hz, newVar, newRow]
    · simp [Rel, Rho.upd]
    · refine ⟨⟨w.heap.size, 0, true, z.cells.size⟩, z.cells.toList, t, by simp [Rho.upd], rfl, rfl, ?_, RelL.mono (fun _ _ h => by cases h) _ _ hr⟩
      rw [Go.heap_alloc_new]
  · cases h

theorem box_ok {o : Oper} {ev : Operand → SV} {rows : List Row} {t : TypeId} {x : Operand} (ho : o.op = .box t x) {e : Eff} (h : memS X ev rows (.box t x) = some e) : OpOk P o ev (rows[·]?) rows.length e := by
  refine opOk_of fun ρ pres a w hev hg ha hrd hfree => ?_
  simp only [memS] at h
  split at h
  · rename_i cs hcs
    cases h
    have hr := SV.cells_rel (hev x (by simp [ho, Op.operands])) hcs
    have hf : ρ rows.length = none := (hfree rows.length (Nat.le_refl _) (by simp)).1
    refine ⟨.pointer (some ⟨w.heap.size, 0, none⟩), _, _, .inl ?_, After.fresh (cs := (a.eval x).cells) (ty := t) (row := .own cs) hg ha hf ?_ rfl rfl ?_⟩
    · unfold execOp
      rw [ho]
      simp [Instr.box, Sem.run_bind, newVar, newRow]
    · simp [Rel, Rho.upd]
    · refine ⟨⟨w.heap.size, 0, true, (a.eval x).cells.size⟩, (a.eval x).cells.toList, t, by simp [Rho.upd], rfl, rfl, ?_, RelL.mono (Rho.le_upd hf) _ _ hr⟩
      rw [Go.heap_alloc_new]
  · cases h

theorem opOk_call {o : Oper} {ev : Operand → SV} {m : Nat → Option Row} {n : Nat} {f : Operand} {args : Array Operand} {ts : Array TypeId} (ho : o.op = .call ⟨.value f, args, ts⟩) {fid : Nat} {caps : List SV} (hf : ev f = .fn fid caps) {e : Eff}
    (hfn : FnOk P fid (args.toList.map ev ++ caps) m n e) {fn : Func} (hfu : P.funcs[fid]? = some fn) (hok2 : (fn.name == "runtime.NumGoroutine" || fn.body.isNone) = false) : OpOk P o ev m n e := by
  intro ρ pres a w hev hg ha hrd hfree K Q hK
  have hfv := hev f (by simp [ho, Op.operands, Call.operands])
  rw [hf] at hfv
  simp only [Rel] at hfv
  obtain ⟨vs, hv, hr⟩ := hfv
  have hargs : RelL ρ (args.toList.map ev) (args.toList.map a.eval) := relL_map fun x hx => hev x (by simp [ho, Op.operands, Call.operands]; exact .inr (by simpa using hx))
  have hall := hargs.append hr
  obtain ⟨h1, h2⟩ := Bool.or_eq_false_iff.1 hok2
  have hc := hfn ρ pres _ w hall hg ha hrd hfree
  unfold Oper.wp
  have hrun : (execOp a.eval o).run P w = .ok (.enter fid (args.toList.map a.eval ++ vs).toArray) w := by
    have hcall : ∀ us : Array Value, (callFunc fid us).run P w = .ok (.enter fid us) w := by
      intro us
      unfold callFunc
      rw [Sem.run_bind]
      simp only [run_program, Result.andThen_ok, hfu, h1, h2]
      rfl
    unfold execOp
    rw [ho]
    simp only [resolve, hv, Deferred.ofValue, Sem.run_bind, Sem.run_pure, Result.andThen_ok, invoke, hcall]
    congr 2
    apply Array.ext'
    simp
  rw [hrun]
  exact hc.mono fun en w' ⟨v, ρ', he, haft⟩ => by subst he; exact hK _ _ _ haft

theorem call_ok (hX : COk P X) {o : Oper} {ev : Operand → SV} {rows : List Row} {f : Operand} {args : Array Operand} {ts : Array TypeId} (ho : o.op = .call ⟨.value f, args, ts⟩) {e : Eff} (h : memS X ev rows (.call ⟨.value f, args, ts⟩) = some e) (hok : e.ok = true) :
    OpOk P o ev (rows[·]?) rows.length e := by
  simp only [memS] at h
  split at h
  · rename_i fid caps hf
    obtain ⟨hfn, fn, hfu, hok2⟩ := hX.call _ _ _ _ h hok
    exact opOk_call ho hf hfn hfu hok2
  · cases h

theorem knd_ok (hX : COk P X) {t e : Nat} {ti : TI} {k : Knd} (h : X.knd t = some (e, ti, k)) : P.underlying t = some (.slice e) ∧ TIOk P e ti ∧ ti.size = k.st ∧ X.T e = some ti := by
  unfold Ctx.knd at h
  split at h
  · rename_i e' size z0 bytes knd eq hq
    have hu := (hX.T _ _ hq).td
    simp only at hu
    split at h
    · rename_i ti' hti
      split at h
      · rename_i k' hk
        cases hb : Nat.beq ti'.size k'.st with
        | false => simp [hb] at h
        | true =>
          simp only [hb, cond_true, Option.some.injEq, Prod.mk.injEq] at h
          obtain ⟨rfl, rfl, rfl⟩ := h
          exact ⟨hu, hX.T _ _ hti, Nat.eq_of_beq_eq_true hb, hti⟩
      · cases h
    · cases h
  · cases h

theorem i64_wrap {n : Int} (h0 : 0 ≤ n) (h1 : n ≤ 9223372036854775807) : IntKind.i64.wrap n = n := IntWalk.i64_in _ (by omega)

theorem range_cell (z : Array Value) (N q : Nat) (hq : q < N) : ((Array.range N).map (fun i => z[i % z.size]!))[q]? = some (z[q % z.size]!) := by
  simp [Array.getElem?_map, hq]

theorem makeSlice_ok (hX : COk P X) {o : Oper} {ev : Operand → SV} {rows : List Row} {t : TypeId} {l c : Operand} (ho : o.op = .makeSlice t l c) {e : Eff} (h : memS X ev rows (.makeSlice t l c) = some e) (hok : e.ok = true) :
    OpOk P o ev (rows[·]?) rows.length e := by
  refine opOk_of fun ρ pres a w hev hg ha hrd hfree => ?_
  simp only [memS] at h
  split at h
  · rename_i et ti k n m hk hl hc
    split at h
    · rename_i z hz
      cases h
      simp only [Bool.and_eq_true, decide_eq_true_eq] at hok
      obtain ⟨h0, h1, h2, rfl⟩ := hok
      obtain ⟨hu, hti, hsz, _⟩ := knd_ok hX hk
      have hlv := hev l (by simp [ho, Op.operands])
      have hcv := hev c (by simp [ho, Op.operands])
      rw [hl] at hlv
      rw [hc] at hcv
      simp only [Rel] at hlv hcv
      have hf : ρ rows.length = none := (hfree rows.length (Nat.le_refl _) (by simp)).1
      obtain ⟨zv, hzv, hzr⟩ := zero_ok hti w
      have hby := hti.bytes
      have henc := Knd.enc_dec hz
      have hst : 0 < k.st := by cases k <;> decide
      have hzl : zv.cells.size = k.st := by have := hzr.length; rw [← henc, k.enc_len] at this; simpa using this.symm
      have hrun : ∀ cs : Array Value, cs = (Array.range (n.toNat * k.st)).map (fun i => zv.cells[i % zv.cells.size]!) → (execOp a.eval o).run P w = .ok (.value (.slice (some ⟨w.heap.size, 0, none⟩) n.toNat n.toNat)) (w.alloc (.cells cs et)) := by
        intro cs hcs
        have hti2 : (typeInfo et).run P w = .ok ((P.info? et).getD default) w := by
          cases hi : P.info? et with
          | none => simp [hi] at hby
          | some i => simp [typeInfo, hi]
        have hb2 : ((P.info? et).getD default).bytes = ti.bytes := by
          cases hi : P.info? et with
          | none => simp [hi] at hby
          | some i => simpa [hi] using hby
        unfold execOp
        rw [ho]
        unfold Instr.makeSlice
        simp only [hlv, hcv, Sem.run_bind, run_underlying hu, Result.andThen_ok, asInt, asIntOf, Sem.run_pure, hti2, hb2, i64_wrap h0 h1]
        rw [if_neg (by simp; omega)]
        simp only [Sem.run_bind, run_askRoom, Result.andThen_ok, hti.sizeOf, hsz]
        by_cases hN : n.toNat * k.st = 0
        · rw [if_pos hN]
          have r0 : Array.range 0 = #[] := rfl
          have e0 : cs = #[] := by rw [hcs, hN, r0]; simp
          simp [newRow, hN, e0, r0]
        · rw [if_neg hN]
          simp [Sem.run_bind, hzv, newRow, hcs]
      refine ⟨_, _, _, .inl (hrun _ rfl), After.fresh (row := .vec false k (List.replicate n.toNat z)) hg ha hf ?_ rfl rfl ?_⟩
      · simp only [Rel]
        exact .inl ⟨_, 0, n.toNat, by simp [Rho.upd]; rfl, rfl, by simp, .inl (by simp), Nat.le_refl _, fun _ => by simp⟩
      · refine .inr ⟨⟨w.heap.size, 0, true, _⟩, by simp [Rho.upd]; rfl, fun h => (by cases h), fun _ => ⟨rfl, rfl, ((Array.range (n.toNat * k.st)).map (fun i => zv.cells[i % zv.cells.size]!)).toList, et, ?_, ?_, ?_⟩, ?_⟩
        · rw [Go.heap_alloc_new]
        · simp
        · simp
        · intro i x hx j s hs
          have hin : i < n.toNat := by
            have := (List.getElem?_eq_some_iff.1 hx).1
            simpa using this
          have hx' : x = z := by simp [List.getElem?_replicate, hin] at hx; exact hx.symm
          subst hx'
          have hj : j < k.st := by
            have := (List.getElem?_eq_some_iff.1 hs).1
            rw [k.enc_len] at this
            exact this
          have hle : i * k.st + k.st ≤ n.toNat * k.st := by
            have := Nat.mul_le_mul_right k.st (Nat.succ_le_of_lt hin)
            rw [Nat.succ_mul] at this
            exact this
          change (w.alloc _).cell? ⟨w.heap.size, 0 + i * k.st + j, none⟩ = some (dval s)
          rw [heap_cell (vs := ((Array.range (n.toNat * k.st)).map (fun i => zv.cells[i % zv.cells.size]!)).toList) (by simp only [Array.toArray_toList]; rw [Go.heap_alloc_new]), Array.getElem?_toList, range_cell _ _ _ (by omega)]
          have hmod : (0 + i * k.st + j) % zv.cells.size = j := by rw [hzl, Nat.zero_add, Nat.mul_comm, Nat.mul_add_mod]; exact Nat.mod_eq_of_lt hj
          rw [hmod]
          rw [henc] at hs
          obtain ⟨u, hu1, hu2⟩ := hzr.get hs
          have hsd := k.enc_dat _ s (List.mem_of_getElem? (by rw [henc]; exact hs))
          rw [(rel_dat hsd).1 hu2] at hu1
          rw [Array.getElem?_toList] at hu1
          have := (Array.getElem?_eq_some_iff.1 hu1)
          obtain ⟨hlt, hval⟩ := this
          rw [getElem!_pos zv.cells j hlt, hval]
    · cases h
  · cases h

/-- Cells of a slice that is written out. -/
theorem fill_parts (st : Nat) : ∀ (parts : List (Nat × SV)) (i0 : Nat) (cs : List (List SV)) (cells : List SV), partsS i0 parts = some cs → (∀ c ∈ cs, c.length = st) → (i0 + cs.length) * st ≤ cells.length →
    ∃ out, fillS (fun i => some (i * st, st)) cells parts = some out ∧ out.length = cells.length ∧ (∀ (q : Nat) (c : List SV), cs[q]? = some c → ∀ j, j < st → out[(i0 + q) * st + j]? = c[j]?) ∧ (∀ k, k < i0 * st → out[k]? = cells[k]?)
  | [], i0, cs, cells, h, _, _ => by
    simp only [partsS, Option.some.injEq] at h
    subst h
    exact ⟨cells, rfl, rfl, by simp, fun _ _ => rfl⟩
  | (j, v) :: parts, i0, cs, cells, h, hlen, hsz => by
    simp only [partsS] at h
    cases hb : Nat.beq i0 j with
    | false => simp [hb] at h
    | true =>
      simp only [hb, cond_true] at h
      have hj := Nat.eq_of_beq_eq_true hb
      subst hj
      split at h
      · rename_i c cs' hc hcs
        cases h
        have hcl : c.length = st := hlen c (by simp)
        have hmul : i0 * st + st ≤ cells.length := by
          have h1 : (i0 + 1) * st ≤ (i0 + (c :: cs').length) * st := Nat.mul_le_mul_right _ (by simp)
          rw [Nat.succ_mul] at h1
          omega
        obtain ⟨out, h1, h2, h3, h4⟩ := fill_parts st parts (i0 + 1) cs' (layS cells (i0 * st) c) hcs (fun c hc => hlen c (by simp [hc])) (by
          rw [layS_length]
          simp only [List.length_cons] at hsz
          rw [show i0 + 1 + cs'.length = i0 + (cs'.length + 1) by omega]
          exact hsz)
        refine ⟨out, ?_, by rw [h2, layS_length], ?_, ?_⟩
        · rw [fillS]
          simp only [hc]
          rw [show (Nat.beq c.length st && Nat.ble (i0 * st + st) cells.length) = true by
            rw [Bool.and_eq_true]
            exact ⟨by rw [hcl]; exact Nat.beq_refl st, Nat.ble_eq_true_of_le hmul⟩]
          exact h1
        · intro q c' hq j hj
          cases q with
          | zero =>
            simp only [List.getElem?_cons_zero, Option.some.injEq] at hq
            subst hq
            rw [Nat.add_zero, h4 _ (by rw [Nat.succ_mul]; omega), layS_get _ _ _ _ (by omega), if_pos (by omega)]
            congr 1
            omega
          | succ q =>
            rw [show i0 + (q + 1) = i0 + 1 + q by omega]
            exact h3 q c' (by simpa using hq) j hj
        · intro k hk
          rw [h4 k (by rw [Nat.succ_mul]; omega), layS_get _ _ _ _ (by omega), if_neg (by omega)]
      · cases h

theorem decAll_spec {k : Knd} : ∀ {cs : List (List SV)} {xs : List k.T}, decAll k cs = some xs → cs = xs.map k.enc
  | [], xs, h => by simp only [decAll, Option.some.injEq] at h; subst h; rfl
  | c :: cs, xs, h => by
    simp only [decAll] at h
    split at h
    · rename_i x xs' hx hxs
      cases h
      simp [Knd.enc_dec hx, decAll_spec hxs]
    · cases h

theorem buildSlice_ok (hX : COk P X) {o : Oper} {ev : Operand → SV} {rows : List Row} {t : TypeId} {len : Nat} {parts : Array (Nat × Operand)} (ho : o.op = .buildSlice t len parts) {e : Eff} (h : memS X ev rows (.buildSlice t len parts) = some e) :
    OpOk P o ev (rows[·]?) rows.length e := by
  refine opOk_of fun ρ pres a w hev hg ha hrd hfree => ?_
  simp only [memS] at h
  split at h
  · rename_i et ti k hk
    split at h
    · rename_i cs hcs
      split at h
      · rename_i xs hxs
        cases hb : Nat.beq cs.length len && Nat.ble (len * k.st) 16777216 with
        | false => simp [hb] at h
        | true =>
          simp only [hb, cond_true, Option.some.injEq] at h
          subst h
          rw [Bool.and_eq_true] at hb
          have hlen := Nat.eq_of_beq_eq_true hb.1
          have hbig := Nat.le_of_ble_eq_true hb.2
          obtain ⟨hu, hti, hsz, _⟩ := knd_ok hX hk
          have hf : ρ rows.length = none := (hfree rows.length (Nat.le_refl _) (by simp)).1
          obtain ⟨zv, hzv, hzr⟩ := zero_ok hti w
          have hdec := decAll_spec hxs
          have hxl : xs.length = len := by rw [← hlen, hdec]; simp
          have hparts : ∀ l : List (Nat × Operand), (∀ x ∈ l.map (·.2), Rel ρ (ev x) (a.eval x)) → (l.map fun p => (p.1, ev p.2)).map (·.1) = (l.map fun p => (p.1, a.eval p.2)).map (·.1) ∧ RelL ρ ((l.map fun p => (p.1, ev p.2)).map (·.2)) ((l.map fun p => (p.1, a.eval p.2)).map (·.2)) := by
            intro l
            induction l with
            | nil => intro _; simp [RelL]
            | cons p l ih =>
              intro hl
              obtain ⟨h1, h2⟩ := ih (fun x hx => hl x (by simp at hx ⊢; exact .inr hx))
              simp only [List.map_cons, relL_cons]
              exact ⟨by simp, hl p.2 (by simp), h2⟩
          obtain ⟨hp1, hp2⟩ := hparts parts.toList (fun x hx => hev x (by simp [ho, Op.operands]; simpa using hx))
          obtain ⟨out, ho1, ho2, ho3, _⟩ := fill_parts k.st _ 0 cs (List.replicate (len * k.st) .top) hcs (by
            intro c hc
            rw [hdec] at hc
            obtain ⟨x, _, rfl⟩ := List.mem_map.1 hc
            exact k.enc_len x) (by simp [hlen])
          have fin : ∀ start : Array Value, start.size = len * k.st → ∃ us : Array Value, Instr.fill (fun i => some (i * k.st, k.st)) start (parts.toList.map fun p => (p.1, a.eval p.2)) = some us ∧ RelL ρ out us.toList := by
            intro start hs
            exact fillS_rel _ _ _ hp1 hp2 _ start (by
              have := RelL.tops (ρ := ρ) start.toList
              rw [Array.length_toList, hs] at this
              exact this) out ho1
          obtain ⟨us, hfill, hur⟩ : ∃ us : Array Value, Instr.fill (fun i => some (i * k.st, k.st)) ((Array.range (len * k.st)).map (fun i => (if len * k.st = 0 then #[] else zv.cells)[i % (if len * k.st = 0 then #[] else zv.cells).size]!)) (parts.toList.map fun p => (p.1, a.eval p.2)) = some us ∧ RelL ρ out us.toList := fin _ (by simp)
          have hus : us.size = len * k.st := by have := hur.length; simp [ho2] at this; omega
          have hrun : (execOp a.eval o).run P w = .ok (.value (.slice (some ⟨w.heap.size, 0, none⟩) len len)) (w.alloc (.cells us et)) := by
            have hpl : (parts.map fun x => (x.1, a.eval x.2)).toList = parts.toList.map fun p => (p.1, a.eval p.2) := by simp
            unfold execOp
            rw [ho]
            unfold Instr.buildSlice
            simp only [Sem.run_bind, run_underlying hu, Result.andThen_ok, hti.sizeOf, hsz, hpl]
            rw [if_neg (by omega)]
            by_cases hN : len * k.st = 0
            · simp only [if_pos hN] at hfill ⊢
              simp only [Sem.run_bind, Sem.run_pure, Result.andThen_ok, hfill, newRow, run_newObj_alloc]
            · simp only [if_neg hN] at hfill ⊢
              simp only [Sem.run_bind, hzv, Sem.run_pure, Result.andThen_ok, hfill, newRow, run_newObj_alloc]
          refine ⟨_, _, _, .inl hrun, After.fresh (row := .vec false k xs) hg ha hf ?_ rfl rfl ?_⟩
          · simp only [Rel]
            exact .inl ⟨_, 0, len, by simp [Rho.upd]; rfl, rfl, by simp, .inl (by simp), Nat.le_refl _, fun _ => by simp [hus]⟩
          · refine .inr ⟨⟨w.heap.size, 0, true, _⟩, by simp [Rho.upd]; rfl, fun h => (by cases h), fun _ => ⟨rfl, rfl, us.toList, et, ?_, ?_, ?_⟩, ?_⟩
            · rw [Go.heap_alloc_new]
            · simp [hus, hxl]
            · simp
            · intro i x hx j s hs
              have hj : j < k.st := by
                have := (List.getElem?_eq_some_iff.1 hs).1
                rw [k.enc_len] at this
                exact this
              rw [heap_cell (vs := us.toList) (by rw [Go.heap_alloc_new])]
              have hq := ho3 i (k.enc x) (by rw [hdec, List.getElem?_map, hx]; rfl) j hj
              rw [hs] at hq
              obtain ⟨u, hu1, hu2⟩ := hur.get hq
              rw [show 0 + i * k.st + j = (0 + i) * k.st + j by simp, hu1]
              rw [(rel_dat (k.enc_dat _ s (List.mem_of_getElem? hs))).1 hu2]
      · cases h
    · cases h
  · cases h

section
variable {P : Program} {X : Ctx} {ρ : Rho} {w : World}

/-- A row made anew out of another one, which is gone: in its block, or in a new one. -/
theorem After.grew {pres : Nat → Prop} {n : Nat} {e : Eff} {v : Value} {p' : Plc} {row : Row} {w' : World} (hg : Good ρ w) (ha : Apart ρ pres) (hf : ρ n = none) (hnp : ¬ pres n) (h2 : e.nw = [row])
    (hwr : ∀ x ∈ e.wr, x.2 = Row.gone) (hp' : w.heap.size ≤ p'.b ∨ ∃ id q, (id, Row.gone) ∈ e.wr ∧ pres id ∧ ρ id = some q ∧ q.mine = true ∧ q.b = p'.b)
    (hb : p'.b < w'.heap.size) (hfrm : Frm (fun b => ∃ x ∈ e.wr, ∃ p, ρ x.1 = some p ∧ p.mine = true ∧ p.b = b) w w')
    (hv : Rel (ρ.upd n p') e.val v) (hrow : RowAt (ρ.upd n p') n row w') : After ρ pres n e w v (ρ.upd n p') w' where
  le := Rho.le_upd hf
  good := fun i p h => by
    unfold Rho.upd at h
    split at h
    · cases h; exact hb
    · exact Nat.lt_of_lt_of_le (hg i p h) hfrm.size
  dom := fun i p h => by
    unfold Rho.upd at h
    split at h
    · rename_i hi; subst hi; exact .inr ⟨Nat.le_refl _, by simp [h2]⟩
    · exact .inl h
  new := fun i p h3 h4 h => by
    have hi : i = n := by simp [h2] at h4; omega
    subst hi
    simp [Rho.upd] at h
    subst h
    rcases hp' with hp' | ⟨id, q, q1, q2, q3, q4, q5⟩
    · exact .inl hp'
    · exact .inr ⟨id, q, q2, ⟨_, q1⟩, q3, q4, q5⟩
  apart := fun i j p q hi hj hij hp hq hm => by
    have key : ∀ i p, (ρ.upd n p') i = some p → presAfter pres n e i → (i = n ∧ p = p') ∨ (i ≠ n ∧ ρ i = some p ∧ pres i ∧ ∀ id, (id, Row.gone) ∈ e.wr → i ≠ id) := by
      intro i p h hpr
      rcases hpr with ⟨h3, h4⟩ | hpr
      · have hin : i ≠ n := fun hi => hnp (hi ▸ h3)
        simp only [Rho.upd, if_neg hin] at h
        exact .inr ⟨hin, h, h3, fun id hid hi => by have := h4 _ hid hi.symm; simp [Row.live] at this⟩
      · have hi : i = n := by simp [h2] at hpr; omega
        subst hi
        simp [Rho.upd] at h
        exact .inl ⟨rfl, h.symm⟩
    have key2 : ∀ i p, i ≠ n → ρ i = some p → pres i → (∀ id, (id, Row.gone) ∈ e.wr → i ≠ id) → p.b ≠ p'.b := by
      intro i p h1 h2 h3 h4
      rcases hp' with hp' | ⟨id, q, q1, q2, q3, q4, q5⟩
      · have := hg i p h2; omega
      · rw [← q5]; exact ha i id p q h3 q2 (h4 id q1) h2 q3 (by simp [q4])
    rcases key i p hp hi with ⟨h3, h4⟩ | ⟨h3, h4, h5, h6⟩ <;> rcases key j q hq hj with ⟨k3, k4⟩ | ⟨k3, k4, k5, k6⟩
    · omega
    · subst h4; exact fun h => key2 j q k3 k4 k5 k6 h.symm
    · subst k4; exact key2 i p h3 h4 h5 h6
    · exact ha i j p q h5 k5 hij h4 k4 hm
  val := hv
  wr := fun x hx => by rw [hwr x hx]; trivial
  nw := fun j row' h => by
    rw [h2] at h
    cases j with
    | zero => simp at h; subst h; exact hrow
    | succ j => simp at h
  frm := hfrm

theorem news_ok {k : Knd} {rows : List Row} {x : SV} {okx : Bool} {rd : List Nat} {m : Nat} {ys : List k.T} (h : newsS k rows x = some (okx, rd, m, ys)) (hok : okx = true) {u : Value} (hr : Rel ρ x u)
    (hrd : ∀ id ∈ rd, ∀ row, rows[id]? = some row → RowAt ρ id row w) : ys.length = m ∧ ∃ xa xc, u = .slice xa m xc ∧ (0 < m → ∃ b, xa = some b ∧ ∀ j v, ((flat k ys).map dval)[j]? = some v → w.cell? (b.add j) = some v) := by
  unfold newsS at h
  split at h
  · cases h
    simp only [Rel] at hr
    exact ⟨rfl, none, 0, hr, fun h => absurd h (by omega)⟩
  · rename_i id st off m' cap
    split at h
    · rename_i ro k' ys0 hrow
      split at h
      · rename_i ys1 hc
        obtain ⟨rfl, rfl⟩ := castK_eq hc
        cases hb : Nat.beq st k'.st with
        | false => simp [hb] at h
        | true =>
          simp only [hb, cond_true, Option.some.injEq, Prod.mk.injEq] at h
          obtain ⟨rfl, rfl, rfl, rfl⟩ := h
          obtain rfl := Nat.eq_of_beq_eq_true hb
          simp only [decide_eq_true_eq] at hok
          have hlen : ((ys1.drop off).take m').length = m' := by rw [List.length_take, List.length_drop]; omega
          refine ⟨hlen, ?_⟩
          have hrow' := hrd id (by simp) _ hrow
          simp only [Rel] at hr
          rcases hr with ⟨p, o, c, hp, rfl, _, ho, _, _⟩ | ⟨rfl, _, xa, xc, rfl⟩
          · refine ⟨_, _, rfl, fun hm => ⟨_, rfl, ?_⟩⟩
            have ho : o = p.base + off * k'.st := by rcases ho with ho | ⟨ho, _⟩ <;> omega
            subst ho
            rcases hrow' with ⟨_, he⟩ | ⟨q, hq, _, _, hcells⟩
            · rw [he] at hok; simp at hok; omega
            · rw [hp] at hq; cases hq
              intro j v hv
              rw [Addr.add_lit]
              exact vec_cells hcells off m' j v hv
          · exact ⟨xa, xc, rfl, fun h => absurd h (by omega)⟩
      · cases h
    · cases h
  · cases h

/-- append with room: into whatever row. -/
theorem run_append_into (t ty e : TypeId) (i : TypeInfo) (ht : P.underlying t = some (.slice e)) (hi : P.info? e = some i)
    (g sLen sCap : Nat) (cur : Array Value) (tr : TypeId) (hg : w.heap[g]? = some (.cells cur tr (0, 0)))
    (a : Addr) (m c : Nat) (news : List Value) (hl : news.length = m * i.size) (hnews : ∀ j u, news[j]? = some u → w.cell? (a.add j) = some u) (h1 : ∀ u ∈ news, u.oneCell' = true)
    (hroom : sLen + m ≤ sCap) (hfit : sLen * i.size + news.length ≤ cur.size) :
    (Builtin.append_ #[t, t] ty #[.slice (some ⟨g, 0, none⟩) sLen sCap, .slice (some a) m c]).run P w =
      .ok (.slice (some ⟨g, 0, none⟩) (sLen + m) sCap) (w.setRow g (cur.toList.take (sLen * i.size) ++ news ++ cur.toList.drop (sLen * i.size + news.length)).toArray) := by
  have hf := run_firstCells_some (P := P) w i.size m a m c news hl hnews
  have hst := run_storeCells_at P g (sLen * i.size) tr news 0 cur w hg (by simpa using hfit) h1
  simp only [Nat.add_zero] at hst
  simp [Builtin.append_, run_underlying ht, sizeOf, typeInfo, hi, Builtin.lenOf, hroom, hf, Addr.add_lit, hst]

theorem run_append_none (t ty e : TypeId) (i : TypeInfo) (ht : P.underlying t = some (.slice e)) (hi : P.info? e = some i) (s : Addr) (n cap : Nat) (xa : Option Addr) (c : Nat) (hn : n ≤ cap) :
    (Builtin.append_ #[t, t] ty #[.slice (some s) n cap, .slice xa 0 c]).run P w = .ok (.slice (some s) n cap) w := by
  cases xa <;> simp [Builtin.append_, run_underlying ht, sizeOf, typeInfo, hi, Builtin.lenOf, Builtin.firstCells, loadCells, loadCellsFrom, storeCells, hn]

theorem app_ok (hX : COk P X) {o : Oper} {ev : Operand → SV} {rows : List Row} {s x : Operand} {t et : TypeId} {ti : TI} {k : Knd} {e : Eff} (ho : o.op = .call ⟨.builtin .append, #[s, x], #[t, t]⟩) (hk : X.knd t = some (et, ti, k)) (hzn : ti.zero.length = k.st)
    (h : appS k ti.bytes rows (ev s) (ev x) = some e) (hok : e.ok = true) : OpOk P o ev (rows[·]?) rows.length e := by
  refine opOk_of fun ρ pres a w hev hg ha hrd hfree => ?_
  obtain ⟨hu, hti, hsz, _⟩ := knd_ok hX hk
  have hsv := hev s (by simp [ho, Op.operands, Call.operands])
  have hxv := hev x (by simp [ho, Op.operands, Call.operands])
  obtain ⟨i, hi, his, hib, z, hz, hzs⟩ : ∃ i, P.info? et = some i ∧ i.size = k.st ∧ i.bytes = ti.bytes ∧ ∃ z, i.zero = some z ∧ z.cells.size = k.st := by
    obtain ⟨z, hz, hzr⟩ := hti.zero
    have h1 := hti.size
    have h2 := hti.bytes
    cases hi : P.info? et with
    | none => simp [hi] at hz
    | some i =>
      simp [hi] at h1 h2 hz
      refine ⟨i, rfl, by omega, h2, z, hz, ?_⟩
      have := hzr.length
      simp at this
      omega
  have hrun : ∀ v w', (Builtin.append_ #[t, t] o.type #[a.eval s, a.eval x]).run P w = .ok v w' → (execOp a.eval o).run P w = .ok (.value v) w' := by
    intro v w' hr
    unfold execOp
    simp only [ho, resolve, invoke, builtin, Sem.run_bind, Sem.run_pure, Result.andThen_ok, List.map_toArray, List.map_cons, List.map_nil, hr]
  unfold appS at h
  split at h
  · cases h
  rename_i okx rd m ys hnews
  split at h
  · rename_i hs
    cases h
    rw [hs] at hsv
    simp only [Rel] at hsv
    simp only [Bool.and_eq_true, decide_eq_true_eq] at hok
    obtain ⟨hox, hm, hm63, hm47⟩ := hok
    have hf := hfree rows.length (Nat.le_refl _) (by simp)
    obtain ⟨hyl, xa, xc, hxa, hxc⟩ := news_ok hnews hox hxv (fun id hid row hrow => (hrd id hid row hrow).1)
    obtain ⟨b, rfl, hcell⟩ := hxc hm
    have hmax : maxLen = 9223372036854775807 := rfl
    obtain ⟨v', w', hr, ⟨hlen, hown⟩, hgrow, _, _⟩ := run_append_own_at (P := P) w w.heap.size t o.type et i z k.st ti.bytes hu hi hz his hib hzs k.st_pos (.slice none 0 0) 0 [] (World.ownsRow_nil w _ et k.st) b m xc ((flat k ys).map dval)
      (by rw [List.length_map, flat_len, hyl]) hcell (by
        intro u hu
        obtain ⟨s, hs, rfl⟩ := List.mem_map.1 hu
        exact dval_one (flat_dat k ys s hs)) (by omega) (by rw [Nat.zero_add]; exact hm47) (Nat.le_refl _)
    rw [← hsv, ← hxa] at hr
    rcases hown with ⟨_, h0⟩ | ⟨g, cap, cur, rfl, hbg, hheap, hnc, hcm, hcs, htake⟩
    · omega
    · refine ⟨_, _, w', .inl (hrun _ _ hr), After.grew (p' := ⟨g, 0, true, cur.size⟩) (row := .vec false k ys) hg ha hf.1 hf.2 rfl (by simp) (.inl hbg) (Array.getElem?_eq_some_iff.1 hheap).1
        ⟨hgrow.os, hgrow.tape, hgrow.output, hgrow.size, fun b hb _ => hgrow.block b hb (by simp [Value.ownBlock])⟩ ?_ ?_⟩
      · simp only [Rel, Nat.zero_add]
        refine .inl ⟨_, 0, cap, by simp [Rho.upd]; rfl, rfl, by simp, .inl (by simp), by omega, fun _ => by simp; omega⟩
      · refine rowAt_flat (p := ⟨g, 0, true, cur.size⟩) (vs := cur.toList) (ty := et) (by simp [Rho.upd]) rfl rfl (by simpa using hheap) (by simp) ?_
        rw [hyl]
        simpa using htake
  · rename_i id st off len cap hs
    split at h
    · rename_i k' xs0 hrow
      split at h
      · rename_i xs1 hc
        obtain ⟨rfl, rfl⟩ := castK_eq hc
        cases hb : Nat.beq st k'.st with
        | false => simp [hb] at h
        | true =>
          simp only [hb, cond_true, Option.some.injEq] at h
          subst h
          obtain rfl := Nat.eq_of_beq_eq_true hb
          simp only [Bool.and_eq_true, Bool.or_eq_true, decide_eq_true_eq] at hok
          obtain ⟨hox, rfl, hpos, hlx, hm63, hm47⟩ := hok
          have hf := hfree rows.length (Nat.le_refl _) (by simp)
          obtain ⟨hyl, xa, xc, hxa, hxc⟩ := news_ok hnews hox hxv (fun id hid row hrow => (hrd id (by simp [hid]) row hrow).1)
          rw [hs] at hsv
          simp only [Rel] at hsv
          have hmax : maxLen = 9223372036854775807 := rfl
          obtain ⟨p, o', c, hp, hsv, hcap, ho', hlc, hmine⟩ : ∃ p o c, ρ id = some p ∧ a.eval s = .slice (some ⟨p.b, o, none⟩) len c ∧ (∀ c', cap = some c' → c = c') ∧ (o = p.base + 0 * k'.st ∨ (len = 0 ∧ cap = none)) ∧ len ≤ c ∧ (p.mine = true → o + c * k'.st ≤ p.size) := by
            rcases hsv with hsv | ⟨h0, h1, _⟩
            · exact hsv
            · rcases hpos with hpos | hpos
              · omega
              · rw [h1] at hpos; cases hpos
          have hrw := hrd id (by simp) _ hrow
          have hpres := hrw.2 (by simp [Row.live])
          obtain ⟨p', hp', _, hown, hcells⟩ : ∃ p : Plc, ρ id = some p ∧ (false = true → p.mine = false) ∧ (false = false → p.mine = true ∧ p.base = 0 ∧ ∃ (vs : List Value) (ty : TypeId), w.heap[p.b]? = some (.cells vs.toArray ty (0, 0)) ∧ xs1.length * k'.st ≤ vs.length ∧ vs.length = p.size) ∧
              ∀ (i : Nat) (x : k'.T), xs1[i]? = some x → ∀ (j : Nat) (s : SV), (k'.enc x)[j]? = some s → w.cell? ⟨p.b, p.base + i * k'.st + j, none⟩ = some (dval s) := by
            rcases hrw.1 with ⟨h, _⟩ | h
            · cases h
            · exact h
          rw [hp] at hp'; cases hp'
          obtain ⟨hm, hb0, vs, ty, hh, hlen, hvs⟩ := hown rfl
          have ho' : o' = 0 := by
            rcases ho' with ho' | ⟨h0, h1⟩
            · omega
            · rcases hpos with hpos | hpos
              · omega
              · rw [h1] at hpos; cases hpos
          subst ho'
          have hfit := hmine hm
          have hzl : (xs1.take len).length = len := by rw [List.length_take]; omega
          have holds : ∀ q v, ((flat k' (xs1.take len)).map dval)[q]? = some v → w.cell? ⟨p.b, 0 + q, none⟩ = some v := by
            have := vec_cells hcells 0 len
            simp only [hb0, Nat.zero_mul, Nat.add_zero, List.drop_zero] at this
            exact this
          have hol : ((flat k' (xs1.take len)).map dval).length = len * k'.st := by rw [List.length_map, flat_len, hzl]
          have hnl : ((flat k' ys).map dval).length = m * k'.st := by rw [List.length_map, flat_len, hyl]
          have hlx' : len * k'.st ≤ vs.length := Nat.le_trans (Nat.mul_le_mul_right _ hlx) hlen
          have hold2 : vs.take (len * k'.st) = (flat k' (xs1.take len)).map dval := by
            refine List.ext_getElem? fun q => ?_
            by_cases hq : q < len * k'.st
            · obtain ⟨v, hv⟩ : ∃ v, ((flat k' (xs1.take len)).map dval)[q]? = some v := ⟨_, List.getElem?_eq_getElem (by rw [hol]; exact hq)⟩
              rw [List.getElem?_take_of_lt hq, hv, ← holds q v hv, cell_of_row w p.b _ _ ty _ hh, Nat.zero_add]
              simp
            · rw [List.getElem?_eq_none (by rw [List.length_take]; omega), List.getElem?_eq_none (by omega)]
          have hones : ∀ u ∈ (flat k' ys).map dval, u.oneCell' = true := by
            intro u hu
            obtain ⟨s, hs, rfl⟩ := List.mem_map.1 hu
            exact dval_one (flat_dat k' ys s hs)
          have hbsz : p.b < w.heap.size := (Array.getElem?_eq_some_iff.1 hh).1
          rw [hxa, hsv] at hrun
          have hzn' : (xs1.take len ++ ys).length = len + m := by rw [List.length_append, hzl, hyl]
          have hcat : (flat k' (xs1.take len ++ ys)).map dval = (flat k' (xs1.take len)).map dval ++ (flat k' ys).map dval := by rw [flat_append, List.map_append]
          by_cases hroom : len + m ≤ c
          · have hcs : (len + m) * k'.st ≤ c * k'.st := Nat.mul_le_mul_right _ hroom
            rw [Nat.add_mul] at hcs
            by_cases hm0 : m = 0
            · subst hm0
              have hy0 : ys = [] := List.length_eq_zero_iff.1 hyl
              subst hy0
              refine ⟨_, _, w, .inl (hrun _ _ (run_append_none t o.type et i hu hi _ len c xa xc hlc)), After.grew (p' := p) (row := .vec false k' (xs1.take len ++ [])) hg ha hf.1 hf.2 rfl (by simp) (.inr ⟨id, p, by simp, hpres, hp, hm, rfl⟩) hbsz (Frm.refl _ _) ?_ ?_⟩
              · simp only [Rel, Nat.add_zero]
                exact .inl ⟨p, 0, c, by simp [Rho.upd], rfl, by simp, .inl (by omega), hlc, fun _ => hfit⟩
              · refine rowAt_flat (p := p) (vs := vs) (ty := ty) (by simp [Rho.upd]) hm hb0 hh hvs ?_
                rw [List.append_nil, hzl]
                exact hold2
            · obtain ⟨b, rfl, hcell⟩ := hxc (by omega)
              have hr := run_append_into (P := P) (w := w) t o.type et i hu hi p.b len c vs.toArray ty hh b m xc ((flat k' ys).map dval) (by rw [hnl, his]) hcell hones hroom (by rw [hnl, his]; simp; omega)
              refine ⟨_, _, _, .inl (hrun _ _ hr), After.grew (p' := p) (row := .vec false k' (xs1.take len ++ ys)) hg ha hf.1 hf.2 rfl (by simp) (.inr ⟨id, p, by simp, hpres, hp, hm, rfl⟩) (by simp; exact hbsz)
                ⟨rfl, rfl, rfl, by simp, fun b' _ hn => setRow_other w p.b b' _ (fun hb => hn ⟨(id, .gone), by simp, p, hp, hm, hb.symm⟩)⟩ ?_ ?_⟩
              · simp only [Rel]
                exact .inl ⟨p, 0, c, by simp [Rho.upd], rfl, by simp, .inl (by omega), hroom, fun _ => hfit⟩
              · refine rowAt_flat (p := p) (vs := vs.take (len * i.size) ++ (flat k' ys).map dval ++ vs.drop (len * i.size + ((flat k' ys).map dval).length)) (ty := ty) (by simp [Rho.upd]) hm hb0 ?_ ?_ ?_
                · rw [setRow_heap w p.b _ _ ty _ hh]
                · rw [List.length_append, List.length_append, List.length_take, List.length_drop, hnl, his]; omega
                · rw [hzn', hcat, his, hold2, show (len + m) * k'.st = ((flat k' (xs1.take len)).map dval ++ (flat k' ys).map dval).length by rw [List.length_append, hol, hnl, Nat.add_mul]]
                  exact List.take_left
          · have hm0 : 0 < m := by omega
            obtain ⟨b, rfl, hcell⟩ := hxc hm0
            obtain ⟨v', w', hr, ⟨hlen', hown'⟩, hgrow⟩ := run_append_arg_grows (P := P) w t o.type et i z k'.st ti.bytes hu hi hz his hib hzs k'.st_pos ⟨p.b, 0, none⟩ len c ((flat k' (xs1.take len)).map dval) hol
              (fun j u hj => by rw [Addr.add_lit]; exact holds j u hj) b m xc ((flat k' ys).map dval) hnl hcell (by omega) (by omega) hm47
            rcases hown' with ⟨_, h0⟩ | ⟨g, cap', cur, rfl, hbg, hheap, hnc, hcm, hcs, htake⟩
            · omega
            · refine ⟨_, _, w', .inl (hrun _ _ hr), After.grew (p' := ⟨g, 0, true, cur.size⟩) (row := .vec false k' (xs1.take len ++ ys)) hg ha hf.1 hf.2 rfl (by simp) (.inl hbg) (Array.getElem?_eq_some_iff.1 hheap).1
                ⟨hgrow.os, hgrow.tape, hgrow.output, hgrow.size, fun b hb _ => hgrow.block b hb (by simp)⟩ ?_ ?_⟩
              · simp only [Rel]
                exact .inl ⟨_, 0, cap', by simp [Rho.upd]; rfl, rfl, by simp, .inl (by simp), hnc, fun _ => by simp; omega⟩
              · refine rowAt_flat (p := ⟨g, 0, true, cur.size⟩) (vs := cur.toList) (ty := et) (by simp [Rho.upd]) rfl rfl (by simpa using hheap) (by simp) ?_
                rw [hzn', hcat]
                exact htake
      · cases h
    · cases h
  · cases h
end

section
variable {P : Program} {X : Ctx}
theorem append_ok (hX : COk P X) {o : Oper} {ev : Operand → SV} {rows : List Row} {args : Array Operand} {ts : Array TypeId} (ho : o.op = .call ⟨.builtin .append, args, ts⟩) {e : Eff} (h : memS X ev rows (.call ⟨.builtin .append, args, ts⟩) = some e) (hok : e.ok = true) :
    OpOk P o ev (rows[·]?) rows.length e := by
  obtain ⟨args⟩ := args
  obtain ⟨ts⟩ := ts
  simp only [memS] at h
  split at h
  · rename_i s x t1 t2
    split at h
    · rename_i et ti k hk
      cases hb : Nat.beq t1 t2 && Nat.beq ti.zero.length k.st with
      | false => simp [hb] at h
      | true =>
        simp only [hb, cond_true] at h
        rw [Bool.and_eq_true] at hb
        obtain rfl := Nat.eq_of_beq_eq_true hb.1
        exact app_ok hX ho hk (Nat.eq_of_beq_eq_true hb.2) h hok
    · cases h
  · cases h
end

theorem memS_ok (hX : COk P X) {o : Oper} {ev : Operand → SV} {rows : List Row} {e : Eff} (h : memS X ev rows o.op = some e) (hok : e.ok = true) : OpOk P o ev (rows[·]?) rows.length e := by
  cases hop : o.op with
  | load t a => exact load_ok hX hop (hop ▸ h) hok
  | store t a x => exact store_ok hX hop (hop ▸ h) hok
  | alloc t => exact alloc_ok hX hop (hop ▸ h)
  | box t x => exact box_ok hop (hop ▸ h)
  | buildSlice t l p => exact buildSlice_ok hX hop (hop ▸ h)
  | makeSlice t l c => exact makeSlice_ok hX hop (hop ▸ h) hok
  | call c =>
    obtain ⟨callee, args, ts⟩ := c
    cases callee with
    | value f => exact call_ok hX hop (hop ▸ h) hok
    | invoke r m => rw [hop] at h; simp [memS] at h
    | builtin b =>
      cases b with
      | append => exact append_ok hX hop (hop ▸ h) hok
      | _ => rw [hop] at h; simp [memS] at h
  | _ => rw [hop] at h; simp [memS] at h

end
end Go.Proofs.Ytikifgbbiffclaa
