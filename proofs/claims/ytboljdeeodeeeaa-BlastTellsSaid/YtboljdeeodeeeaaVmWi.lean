/- The reference's parts of a line: less, with. -/
import Derived.Test.YtboljdeeodeeeaaVmEat
import Derived.Test.YtboljdeeodeeeaaVmRr
namespace Go.Proofs.Ytboljdeeodeeeaa
set_option linter.unusedSimpArgs false
set_option linter.unusedVariables false
set_option maxRecDepth 100000
open Go.RowKit

noncomputable def xWi0 : Ctx := ctxOf [] []
theorem xWi0_ok : COk Try.prog xWi0 := ctxOf_ok (by kernel_rfl)

set_option maxRecDepth 100000 in
set_option maxHeartbeats 0 in
theorem lp_tree (a b : Pt) : runK xWi0 (fun _ _ => none) 200 76 Try.f76 0 [.agg a.sv, .agg b.sv] [] =
  some (SV.bool (decide (IntKind.i64.wrap (a.p * b.q) < IntKind.i64.wrap (b.p * a.q))), []) := by kernel_rfl

def ltP (a b : Pt) : Bool := decide (IntKind.i64.wrap (a.p * b.q) < IntKind.i64.wrap (b.p * a.q))
def oLtP : List SV → Option Eff
  | [.agg [.int .i64 a, .int .i64 b], .agg [.int .i64 c, .int .i64 d]] => some { val := .bool (ltP ⟨a, b⟩ ⟨c, d⟩) }
  | _ => none
theorem oLtP_ok {m : Nat → Option Row} {n : Nat} {args : List SV} {e : Eff} (h : oLtP args = some e) : FnOk Try.prog 76 args m n e := by
  unfold oLtP at h
  split at h
  · rename_i a b c d
    cases h
    obtain ⟨rows', hc, _⟩ := runK_ok xWi0_ok lok_none Try.func76 (lp_tree ⟨a, b⟩ ⟨c, d⟩)
    exact fnOk_pure hc rfl rfl
  · cases h
noncomputable def orcLtP : Orc := ⟨76, fun args _ => oLtP args, fun _ _ _ h _ => oLtP_ok h, bodied Try.func76 (by kernel_rfl)⟩
noncomputable def xWi : Ctx := ctxOf [] [orcLtP]
theorem xWi_ok : COk Try.prog xWi := ctxOf_ok (by kernel_rfl)

def valWi (len : Nat) (k : Int) : List SV := [.slice 0 2 0 len none, .ptr 1 0 0 0, .nils, .int .i64 k]
def rowWi (xs : List Pt) (x : Pt) : List Row := [.vec false .pt xs, .own x.sv]
noncomputable def rdWi : List SV → List Row → Option Res2 := roundS xWi (fun _ _ => none) 100 71 [0, 0, 1, 1] (bodyAt Try.f71 [0, 0, 1, 1]) 46 2 [0, 3, 4, 5]

set_option maxRecDepth 100000 in
set_option maxHeartbeats 0 in
theorem wi_round (xs : List Pt) (x : Pt) (len : Nat) (k : Int) : rdWi (valWi len k) (rowWi xs x) =
  bif decide (k < (↑len : Int)) then
  bif decide (0 ≤ k) && decide (k < (↑len : Int)) then
  bif decide (0 + k.toNat < xs.length) then
  bif ltP (xs.getD (0 + k.toNat) Knd.pt.dflt) x then
  some
  (SV.tuple [SV.nilp, SV.tuple [SV.slice 0 2 0 len none, SV.ptr 1 0 0 0, SV.nils, SV.int IntKind.i64 (IntKind.i64.wrap (k + 1))]],
  [Row.vec false Knd.pt xs, Row.own [SV.int IntKind.i64 x.p, SV.int IntKind.i64 x.q]])
  else
  some
  (SV.tuple [SV.ptr 0 0 0 0, SV.tuple [SV.slice 0 2 0 len none, SV.ptr 1 0 0 0, SV.nils, SV.int IntKind.i64 k]],
  [Row.vec false Knd.pt xs, Row.own [SV.int IntKind.i64 x.p, SV.int IntKind.i64 x.q]])
  else none
  else none
  else
  some
  (SV.tuple [SV.ptr 0 0 0 0, SV.tuple [SV.slice 0 2 0 len none, SV.ptr 1 0 0 0, SV.nils, SV.int IntKind.i64 k]], [Row.vec false Knd.pt xs, Row.own [SV.int IntKind.i64 x.p, SV.int IntKind.i64 x.q]]) := by kernel_rfl

/-- How many parts are ahead of one. -/
def posW (xs : List Pt) (x : Pt) : Nat → Nat → Nat
  | 0, i => i
  | n + 1, i => bif ltP (xs.getD (0 + i) Knd.pt.dflt) x then posW xs x n (i + 1) else i
theorem wi_loop {xs : List Pt} {x : Pt} {len : Nat} (hl : len ≤ xs.length) (h64 : len ≤ 9223372036854775807) : ∀ (n i : Nat), i + n = len →
    LoopTo rdWi (valWi len i) (rowWi xs x) (.exit 0) (valWi len (posW xs x n i)) (rowWi xs x)
  | 0, i, h => by
    obtain rfl : i = len := by omega
    refine .done ?_ (by simp)
    rw [wi_round, decide_eq_false (by omega), cond_false]
    rfl
  | n + 1, i, h => by
    have hro := wi_round xs x len i
    rw [decide_eq_true (show (i : Int) < (len : Int) by omega), decide_eq_true (show (0 : Int) ≤ (i : Int) by omega), show ((i : Int)).toNat = i by omega, decide_eq_true (show 0 + i < xs.length by omega), IntWalk.i64_in ((i : Int) + 1) (by omega)] at hro
    simp only [Bool.and_self, cond_true] at hro
    unfold posW
    cases hc : ltP (xs.getD (0 + i) Knd.pt.dflt) x with
    | true =>
      rw [hc, cond_true, show (i : Int) + 1 = ((i + 1 : Nat) : Int) by omega] at hro
      simp only [cond_true]
      exact .more hro (wi_loop hl h64 n (i + 1) (by omega))
    | false =>
      rw [hc, cond_false] at hro
      simp only [cond_false]
      exact .done hro (by simp)
set_option maxHeartbeats 0 in
noncomputable def outWi (v : List SV) (R : List Row) (k : Ex → List SV → List Row → Option Res2) : Option Res2 := match v, R with
  | [.slice 0 2 0 len none, .ptr 1 0 0 0, .nils, .int .i64 i], [.vec false .pt xs, .own [.int .i64 p, .int .i64 q]] =>
      bif decide (i = 0) && (decide (len ≤ xs.length) && decide (len ≤ 9223372036854775807)) then k (.exit 0) (valWi len (posW xs ⟨p, q⟩ len 0)) (rowWi xs ⟨p, q⟩) else none
  | _, _ => none
set_option maxHeartbeats 0 in
theorem lpoWi_ok : LpOk 71 [0, 0, 1, 1] (loopF 46 [0, 3, 4, 5] outWi) := by
  intro b hat s K r h
  refine loopF_ok (fuel := 100) xWi_ok lok_none hat (fun v R k r hr => ?_) h
  have hbody := at_body Try.func71 hat
  subst hbody
  unfold outWi at hr
  split at hr
  · rename_i len i xs p q
    obtain ⟨hb, hr2⟩ := cond_some hr
    simp only [Bool.and_eq_true, decide_eq_true_eq] at hb
    obtain ⟨rfl, h1, h2⟩ := hb
    exact ⟨_, _, _, hr2, wi_loop (x := ⟨p, q⟩) h1 h2 len 0 (by omega)⟩
  · cases hr
noncomputable def lpoWi : Lpo := ⟨_, _, _, lpoWi_ok⟩

def kW (xs : List Pt) (x : Pt) (len : Nat) : Nat := ((posW xs x len 0 : Nat) : Int).toNat
def midW (xs : List Pt) (x : Pt) (len : Nat) : List Pt := List.take (0 + kW xs x len) (List.take 0 ([] : List Pt) ++ List.take (kW xs x len) (List.drop 0 xs)) ++ List.take 1 (List.drop 0 [x])
def insR (xs : List Pt) (x : Pt) (len : Nat) : List Pt := List.take (0 + kW xs x len + 1) (midW xs x len) ++ List.take (len - kW xs x len) (List.drop (0 + kW xs x len) xs)
def insTree (xs : List Pt) (x : Pt) (len : Nat) : Option Res2 :=
  bif decide (0 ≤ ((posW xs x len 0 : Nat) : Int)) && decide (((posW xs x len 0 : Nat) : Int) ≤ ((capOr none len : Nat) : Int)) then
  bif decide (0 + kW xs x len ≤ xs.length) && ((false || (some 0).isSome) && (decide (0 + kW xs x len ≤ 9223372036854775807) && decide ((0 + kW xs x len) * 16 ≤ 140737488355328))) then
  bif decide (0 + 1 ≤ [x].length) && ((decide (0 < 0 + kW xs x len) || (none : Option Nat).isSome) && (decide (0 + kW xs x len ≤ (List.take 0 ([] : List Pt) ++ List.take (kW xs x len) (List.drop 0 xs)).length) && (decide (0 + kW xs x len + 1 ≤ 9223372036854775807) && decide ((0 + kW xs x len + 1) * 16 ≤ 140737488355328)))) then
  bif decide (0 ≤ ((posW xs x len 0 : Nat) : Int)) && decide (((posW xs x len 0 : Nat) : Int) ≤ (len : Int)) then
  bif decide (0 + kW xs x len + (len - kW xs x len) ≤ xs.length) && ((decide (0 < 0 + kW xs x len + 1) || (none : Option Nat).isSome) && (decide (0 + kW xs x len + 1 ≤ (midW xs x len).length) && (decide (0 + kW xs x len + 1 + (len - kW xs x len) ≤ 9223372036854775807) && decide ((0 + kW xs x len + 1 + (len - kW xs x len)) * 16 ≤ 140737488355328)))) then
  some (.slice 6 2 0 (0 + kW xs x len + 1 + (len - kW xs x len)) none, [.vec false .pt xs, .own x.sv, .gone, .gone, .vec false .pt [x], .gone, .vec false .pt (insR xs x len)])
  else none else none else none else none else none
set_option maxRecDepth 100000 in
set_option maxHeartbeats 0 in
theorem wi_tree (xs : List Pt) (x : Pt) (len : Nat) : runK xWi (loopOf [lpoWi]) 300 71 Try.f71 9 [.slice 0 2 0 len none, .agg x.sv] [.vec false .pt xs] =
  bif decide (len ≤ xs.length) && decide (len ≤ 9223372036854775807) then
  bif decide (((posW xs x len 0 : Nat) : Int) < (len : Int)) then
  bif decide (0 ≤ ((posW xs x len 0 : Nat) : Int)) && decide (((posW xs x len 0 : Nat) : Int) < (len : Int)) then
  bif decide (0 + kW xs x len < xs.length) then
  bif !ltP x (xs.getD (0 + kW xs x len) Knd.pt.dflt) then some (.slice 0 2 0 len none, [.vec false .pt xs, .own x.sv])
  else insTree xs x len
  else none
  else none
  else insTree xs x len
  else none := by kernel_rfl

theorem posW_le {xs : List Pt} {x : Pt} : ∀ (n i : Nat), i ≤ posW xs x n i ∧ posW xs x n i ≤ i + n
  | 0, i => ⟨Nat.le_refl _, Nat.le_refl _⟩
  | n + 1, i => by
    unfold posW
    have ih := posW_le (xs := xs) (x := x) n (i + 1)
    cases ltP (xs.getD (0 + i) Knd.pt.dflt) x
    · simp only [cond_false]; omega
    · simp only [cond_true]; omega
/-- A part more, at its place; nothing where it is there already. -/
def foundW (xs : List Pt) (x : Pt) : Bool := decide (posW xs x xs.length 0 < xs.length) && !ltP x (xs.getD (posW xs x xs.length 0) ⟨0, 0⟩)
def withW (xs : List Pt) (x : Pt) : List Pt := bif foundW xs x then xs else xs.take (posW xs x xs.length 0) ++ x :: xs.drop (posW xs x xs.length 0)
theorem insR_eq (xs : List Pt) (x : Pt) : insR xs x xs.length = xs.take (posW xs x xs.length 0) ++ x :: xs.drop (posW xs x xs.length 0) ∧ (midW xs x xs.length).length = posW xs x xs.length 0 + 1 := by
  have hk : kW xs x xs.length = posW xs x xs.length 0 := by unfold kW; omega
  have hle := (posW_le (xs := xs) (x := x) xs.length 0).2
  have hm : midW xs x xs.length = xs.take (posW xs x xs.length 0) ++ [x] := by
    unfold midW
    rw [hk]
    simp [List.take_take]
  have hml : (midW xs x xs.length).length = posW xs x xs.length 0 + 1 := by
    rw [hm, List.length_append, List.length_take]
    simp
    omega
  refine ⟨?_, hml⟩
  unfold insR
  rw [hk, List.take_of_length_le (l := midW xs x xs.length) (by omega), hm, Nat.zero_add, List.take_of_length_le (l := List.drop _ xs) (by rw [List.length_drop]; omega), List.append_assoc, List.singleton_append]
theorem wi_val {xs : List Pt} {x : Pt} (h1 : xs.length ≤ 1000) (h0 : 0 < posW xs x xs.length 0 ∨ foundW xs x = true) :
    runK xWi (loopOf [lpoWi]) 300 71 Try.f71 9 [.slice 0 2 0 xs.length none, .agg x.sv] [.vec false .pt xs] =
      bif foundW xs x then some (.slice 0 2 0 (withW xs x).length none, [.vec false .pt xs, .own x.sv])
      else some (.slice 6 2 0 (withW xs x).length none, [.vec false .pt xs, .own x.sv, .gone, .gone, .vec false .pt [x], .gone, .vec false .pt (withW xs x)]) := by
  have hk : kW xs x xs.length = posW xs x xs.length 0 := by unfold kW; omega
  have hle := (posW_le (xs := xs) (x := x) xs.length 0).2
  rw [wi_tree, decide_eq_true (Nat.le_refl _), decide_eq_true (show xs.length ≤ 9223372036854775807 by omega)]
  have hins : 0 < posW xs x xs.length 0 → foundW xs x = false → insTree xs x xs.length = some (.slice 6 2 0 (withW xs x).length none, [.vec false .pt xs, .own x.sv, .gone, .gone, .vec false .pt [x], .gone, .vec false .pt (withW xs x)]) := by
    intro hp hf
    obtain ⟨e1, e2⟩ := insR_eq xs x
    have hw : withW xs x = insR xs x xs.length := by unfold withW; rw [hf, e1]; rfl
    have hl : (withW xs x).length = posW xs x xs.length 0 + 1 + (xs.length - posW xs x xs.length 0) := by
      rw [hw, e1, List.length_append, List.length_take, List.length_cons, List.length_drop]
      omega
    unfold insTree
    rw [hk, e2, hl, ← hw]
    have e3 : (List.take 0 ([] : List Pt) ++ List.take (posW xs x xs.length 0) (List.drop 0 xs)).length = posW xs x xs.length 0 := by simp; omega
    rw [e3, show capOr none xs.length = xs.length from rfl]
    simp only [Nat.zero_add]
    rw [decide_eq_true (show (0 : Int) ≤ ((posW xs x xs.length 0 : Nat) : Int) by omega), decide_eq_true (show ((posW xs x xs.length 0 : Nat) : Int) ≤ (xs.length : Int) by omega), decide_eq_true (show posW xs x xs.length 0 ≤ xs.length by omega), decide_eq_true (show posW xs x xs.length 0 ≤ 9223372036854775807 by omega), decide_eq_true (show posW xs x xs.length 0 * 16 ≤ 140737488355328 by omega), decide_eq_true (show 1 ≤ [x].length by simp), decide_eq_true hp, decide_eq_true (Nat.le_refl (posW xs x xs.length 0)), decide_eq_true (show posW xs x xs.length 0 + 1 ≤ 9223372036854775807 by omega), decide_eq_true (show (posW xs x xs.length 0 + 1) * 16 ≤ 140737488355328 by omega), decide_eq_true (show posW xs x xs.length 0 + (xs.length - posW xs x xs.length 0) ≤ xs.length by omega), decide_eq_true (show 0 < posW xs x xs.length 0 + 1 by omega), decide_eq_true (Nat.le_refl (posW xs x xs.length 0 + 1)), decide_eq_true (show posW xs x xs.length 0 + 1 + (xs.length - posW xs x xs.length 0) ≤ 9223372036854775807 by omega), decide_eq_true (show (posW xs x xs.length 0 + 1 + (xs.length - posW xs x xs.length 0)) * 16 ≤ 140737488355328 by omega)]
    rfl
  simp only [Bool.and_self, cond_true]
  by_cases hlt : posW xs x xs.length 0 < xs.length
  · rw [decide_eq_true (show ((posW xs x xs.length 0 : Nat) : Int) < (xs.length : Int) by omega), decide_eq_true (show (0 : Int) ≤ ((posW xs x xs.length 0 : Nat) : Int) by omega), hk, Nat.zero_add, decide_eq_true hlt]
    simp only [Bool.and_self, cond_true]
    have ef : foundW xs x = !ltP x (xs.getD (posW xs x xs.length 0) Knd.pt.dflt) := by unfold foundW; rw [decide_eq_true hlt]; rfl
    cases hf : foundW xs x with
    | true =>
      rw [← ef, hf]
      simp only [cond_true]
      rw [show withW xs x = xs by unfold withW; rw [hf]; rfl]
    | false =>
      rw [← ef, hf]
      simp only [cond_false]
      refine hins ?_ hf
      rcases h0 with h | h
      · exact h
      · rw [hf] at h; cases h
  · have hf : foundW xs x = false := by unfold foundW; rw [decide_eq_false hlt]; rfl
    rw [decide_eq_false (show ¬ ((posW xs x xs.length 0 : Nat) : Int) < (xs.length : Int) by omega), hf]
    simp only [cond_false]
    refine hins ?_ hf
    rcases h0 with h | h
    · exact h
    · rw [hf] at h; cases h
def oWith (args : List SV) (rows : List Row) : Option Eff :=
  match args with
  | [.slice id 2 0 len cap, .agg [.int .i64 p, .int .i64 q]] => match rows[id]? with
    | some (.vec false .pt xs) => some { ok := (decide (len = xs.length) && decide (len ≤ 1000)) && (decide (0 < posW xs ⟨p, q⟩ xs.length 0) || foundW xs ⟨p, q⟩), val := .slice rows.length 2 0 (withW xs ⟨p, q⟩).length none, rd := [id], wr := [(id, .gone)], nw := [.vec false .pt (withW xs ⟨p, q⟩)] }
    | _ => none
  | _ => none
theorem oWith_ok {args : List SV} {rows : List Row} {e : Eff} (h : oWith args rows = some e) (hok : e.ok = true) : FnOk Try.prog 71 args (rows[·]?) rows.length e := by
  unfold oWith at h
  split at h
  · rename_i id len cap p q
    split at h
    · rename_i xs hrow
      cases h
      simp only [Bool.and_eq_true, Bool.or_eq_true, decide_eq_true_eq] at hok
      obtain ⟨⟨h1, h2⟩, h3⟩ := hok
      have e1 : len = List.length (α := Pt) xs := h1
      have hv := wi_val (xs := xs) (x := ⟨p, q⟩) (by omega) h3
      have l1 := (List.getElem?_eq_some_iff.1 hrow).1
      rw [e1]
      refine fnOk_weaken (args := [.slice id 2 0 (List.length (α := Pt) xs) none, .agg [.int .i64 p, .int .i64 q]]) ?_ fun ρ vs hr => ?_
      · cases hf : foundW xs ⟨p, q⟩ with
        | true =>
          rw [hf, cond_true] at hv
          obtain ⟨rows', hc, ht⟩ := runK_ok xWi_ok loopOf_ok Try.func71 hv
          have hw : withW xs ⟨p, q⟩ = xs := by unfold withW; rw [hf]; rfl
          exact fnOk_eat (k := .pt) hc (fun i hi => by simp [SV.idsL, SV.ids, Pt.sv] at hi; omega) (by rw [take_get ht (by omega), hw]; rfl) l1 hrow
        | false =>
          rw [hf, cond_false] at hv
          obtain ⟨rows', hc, ht⟩ := runK_ok xWi_ok loopOf_ok Try.func71 hv
          exact fnOk_eat (k := .pt) hc (fun i hi => by simp [SV.idsL, SV.ids, Pt.sv] at hi; omega) (by rw [take_get ht (by omega)]; rfl) l1 hrow
      · rw [RelL] at hr ⊢
        obtain ⟨u, us, rfl, h6, h7⟩ := hr
        exact ⟨u, us, rfl, rel_nocap h6, h7⟩
    · cases h
  · cases h
noncomputable def orcWith : Orc := ⟨71, oWith, fun _ _ _ h hok => oWith_ok h hok, bodied Try.func71 (by kernel_rfl)⟩

end Go.Proofs.Ytboljdeeodeeeaa
