/- blast's law: near, as a contract; tame. -/
import Derived.Test.YtboljdeeodeeeaaVmFk
import Derived.Test.YtboljdeeodeeeaaVmHt
import Derived.Test.YtboljdeeodeeeaaVmTp
namespace Go.Proofs.Ytboljdeeodeeeaa
set_option linter.unusedSimpArgs false
set_option linter.unusedVariables false
set_option maxRecDepth 100000
open Go.RowKit

noncomputable def xTa0 : Ctx := ctxOf [] []
theorem xTa0_ok : COk Try.prog xTa0 := ctxOf_ok (by kernel_rfl)

set_option maxRecDepth 100000 in
set_option maxHeartbeats 0 in
theorem nearB_tree (v : V3) : runK xTa0 (fun _ _ => none) 200 12 Try.f12 0 [.agg v.sv] [] =
  some (SV.bool (bif decide (max (max v.x v.y) v.z ≤ 6553600) == true then decide (min (min v.x v.y) v.z ≥ -6553600) else false), []) := by kernel_rfl

def V3.nearB (v : V3) : Bool := decide (max (max v.x v.y) v.z ≤ 6553600) && decide (min (min v.x v.y) v.z ≥ -6553600)
theorem nearB_val {v : V3} : runK xTa0 (fun _ _ => none) 200 12 Try.f12 0 [.agg v.sv] [] = some (.bool v.nearB, []) := by
  rw [nearB_tree]
  unfold V3.nearB
  cases decide (max (max v.x v.y) v.z ≤ 6553600) <;> rfl
def oNearB : List SV → Option Eff
  | [.agg [.int .i64 x, .int .i64 y, .int .i64 z]] => some { val := .bool (V3.nearB ⟨x, y, z⟩) }
  | _ => none
theorem oNearB_ok {m : Nat → Option Row} {n : Nat} {args : List SV} {e : Eff} (h : oNearB args = some e) : FnOk Try.prog 12 args m n e := by
  unfold oNearB at h
  split at h
  · rename_i x y z
    cases h
    obtain ⟨rows', hc, _⟩ := runK_ok xTa0_ok lok_none Try.func12 (nearB_val (v := ⟨x, y, z⟩))
    exact fnOk_pure hc rfl rfl
  · cases h
noncomputable def orcNearB : Orc := ⟨12, fun args _ => oNearB args, fun _ _ _ h _ => oNearB_ok h, bodied Try.func12 (by kernel_rfl)⟩

/-! tame. -/
noncomputable def xTa : Ctx := ctxOf [] [orcNearB]
theorem xTa_ok : COk Try.prog xTa := ctxOf_ok (by kernel_rfl)

def valTa (k : Nat) (i : Int) : List SV := [.slice 6 15 0 k none, .nils, .bool false, .int .i64 i]
def rowTa (ps zs : List Pl) : List Row := [.gone, .gone, .vec true .pl ps, .gone, .gone, .gone, .vec false .pl zs]
noncomputable def rdTa : List SV → List Row → Option Res2 := roundS xTa (fun _ _ => none) 100 10 [0, 1, 0, 1, 1] (bodyAt Try.f10 [0, 1, 0, 1, 1]) 64 7 [0, 2, 3, 4]

set_option maxRecDepth 100000 in
set_option maxHeartbeats 0 in
theorem ta_round (ps zs : List Pl) (k : Nat) (i : Int) : rdTa (valTa k i) (rowTa ps zs) =
  bif decide (i < (↑k : Int)) then
  bif decide (0 ≤ i) && decide (i < (↑k : Int)) then
  bif decide (0 + i.toNat < zs.length) then
  bif !(zs.getD (0 + i.toNat) Knd.pl.dflt).pos.nearB then
  some
  (SV.tuple [SV.nils, SV.tuple [SV.slice 6 15 0 k none, SV.nils, SV.bool false, SV.int IntKind.i64 i]],
  [Row.gone, Row.gone, Row.vec true Knd.pl ps, Row.gone, Row.gone, Row.gone, Row.vec false Knd.pl zs])
  else
  bif decide (0 ≤ i) && decide (i < (↑k : Int)) then
  bif decide (0 + i.toNat < zs.length) then
  bif decide (0 ≤ i) && decide (i < (↑k : Int)) then
  bif decide (0 + i.toNat < zs.length) then
  bif decide (0 ≤ i) && decide (i < (↑k : Int)) then
  bif decide (0 + i.toNat < zs.length) then
  bif decide (max (max (zs.getD (0 + i.toNat) Knd.pl.dflt).health (zs.getD (0 + i.toNat) Knd.pl.dflt).armour) (zs.getD (0 + i.toNat) Knd.pl.dflt).score > 1000000) then
  some
  (SV.tuple [SV.nils, SV.tuple [SV.slice 6 15 0 k none, SV.nils, SV.bool false, SV.int IntKind.i64 i]],
  [Row.gone, Row.gone, Row.vec true Knd.pl ps, Row.gone, Row.gone, Row.gone, Row.vec false Knd.pl zs])
  else
  bif decide (0 ≤ i) && decide (i < (↑k : Int)) then
  bif decide (0 + i.toNat < zs.length) then
  bif decide (0 ≤ i) && decide (i < (↑k : Int)) then
  bif decide (0 + i.toNat < zs.length) then
  bif decide (0 ≤ i) && decide (i < (↑k : Int)) then
  bif decide (0 + i.toNat < zs.length) then
  bif decide (min (min (zs.getD (0 + i.toNat) Knd.pl.dflt).health (zs.getD (0 + i.toNat) Knd.pl.dflt).armour) (zs.getD (0 + i.toNat) Knd.pl.dflt).score < -1000000) then
  some
  (SV.tuple [SV.nils, SV.tuple [SV.slice 6 15 0 k none, SV.nils, SV.bool false, SV.int IntKind.i64 i]],
  [Row.gone, Row.gone, Row.vec true Knd.pl ps, Row.gone, Row.gone, Row.gone, Row.vec false Knd.pl zs])
  else
  some
  (SV.tuple [SV.nilp, SV.tuple [SV.slice 6 15 0 k none, SV.nils, SV.bool false, SV.int IntKind.i64 (IntKind.i64.wrap (i + 1))]],
  [Row.gone, Row.gone, Row.vec true Knd.pl ps, Row.gone, Row.gone, Row.gone, Row.vec false Knd.pl zs])
  else none
  else none
  else none
  else none
  else none
  else none
  else none
  else none
  else none
  else none
  else none
  else none
  else none
  else none
  else
  some
  (SV.tuple [SV.ptr 0 0 0 0, SV.tuple [SV.slice 6 15 0 k none, SV.nils, SV.bool false, SV.int IntKind.i64 i]],
  [Row.gone, Row.gone, Row.vec true Knd.pl ps, Row.gone, Row.gone, Row.gone, Row.vec false Knd.pl zs]) := by kernel_rfl

/-- A player that is not too far away, of numbers not too great. -/
def tameB (p : Pl) : Bool := p.pos.nearB && (!decide (max (max p.health p.armour) p.score > 1000000) && !decide (min (min p.health p.armour) p.score < -1000000))
theorem getD_in {l : List Pl} (z : Pl) {i : Nat} (h : i < l.length) : l.getD i z = l[i] := by
  rw [List.getD_eq_getElem?_getD, List.getElem?_eq_getElem h, Option.getD_some]
theorem ta_loop {ps zs : List Pl} (hk : zs.length ≤ 1000) :
    (anyB (fun i => !tameB (zs.getD i.toNat Knd.pl.dflt)) zs.length 0 = true → LoopTo rdTa (valTa zs.length 0) (rowTa ps zs) .ret (valTa zs.length (posB (fun i => !tameB (zs.getD i.toNat Knd.pl.dflt)) zs.length 0)) (rowTa ps zs)) ∧
    (anyB (fun i => !tameB (zs.getD i.toNat Knd.pl.dflt)) zs.length 0 = false → LoopTo rdTa (valTa zs.length 0) (rowTa ps zs) (.exit 0) (valTa zs.length (zs.length : Int)) (rowTa ps zs)) := by
  refine loop_any (rd := rdTa) (val := valTa zs.length) (valR := valTa zs.length) (R := rowTa ps zs) (p := fun i => !tameB (zs.getD i.toNat Knd.pl.dflt)) (W := (zs.length : Int)) (ex := 0) (i0 := 0) (fun i i0 i1 => ?_) ?_ zs.length 0 (by omega) (by omega)
  · have hi : i.toNat < zs.length := by omega
    rw [ta_round, IntWalk.i64_in (i + 1) (by omega), decide_eq_true i1, decide_eq_true i0, Nat.zero_add, decide_eq_true hi]
    simp only [Bool.and_self, cond_true]
    generalize zs.getD i.toNat Knd.pl.dflt = z
    unfold tameB
    cases z.pos.nearB with
    | false => rfl
    | true =>
      cases decide (max (max z.health z.armour) z.score > 1000000) with
      | true => rfl
      | false =>
        cases decide (min (min z.health z.armour) z.score < -1000000) with
        | true => rfl
        | false => rfl
  · rw [ta_round, decide_eq_false (by omega)]
    rfl
theorem tame_any {zs : List Pl} (z : Pl) : anyB (fun i => !tameB (zs.getD i.toNat z)) zs.length 0 = !zs.all tameB := by
  rw [Bool.eq_iff_iff, anyB_iff, Bool.not_eq_true', ← Bool.not_eq_true, List.all_eq_true]
  constructor
  · rintro ⟨j, h1, h2, h3⟩ h
    have hj : j.toNat < zs.length := by omega
    rw [getD_in z hj, h _ (List.getElem_mem hj)] at h3
    cases h3
  · intro h
    by_cases hh : ∃ j : Int, 0 ≤ j ∧ j < 0 + (zs.length : Int) ∧ (!tameB (zs.getD j.toNat z)) = true
    · exact hh
    · refine absurd (fun p hp => ?_) h
      obtain ⟨j, hj, rfl⟩ := List.getElem_of_mem hp
      cases ht : tameB zs[j] with
      | true => rfl
      | false =>
        refine absurd ⟨(j : Int), by omega, by omega, ?_⟩ hh
        rw [show ((j : Int)).toNat = j by omega, getD_in z hj, ht]
        rfl
set_option maxHeartbeats 0 in
noncomputable def outTa (v : List SV) (R : List Row) (k : Ex → List SV → List Row → Option Res2) : Option Res2 := match v, R with
  | [.slice 6 15 0 kk none, .nils, .bool false, .int .i64 i], [.gone, .gone, .vec true .pl ps, .gone, .gone, .gone, .vec false .pl zs] =>
      bif decide (i = 0) && (decide (kk = zs.length) && decide (kk ≤ 1000)) then
        (bif List.all (α := Pl) zs tameB then k (.exit 0) (valTa kk kk) (rowTa ps zs)
        else k .ret (valTa kk (posB (fun i => !tameB (List.getD (α := Pl) zs i.toNat Knd.pl.dflt)) kk 0)) (rowTa ps zs)) else none
  | _, _ => none
theorem ta_loop1 {ps zs : List Pl} (hk : zs.length ≤ 1000) (h : zs.all tameB = true) : LoopTo rdTa (valTa zs.length 0) (rowTa ps zs) (.exit 0) (valTa zs.length (zs.length : Int)) (rowTa ps zs) := (ta_loop hk).2 ((tame_any (zs := zs) Knd.pl.dflt).trans (by rw [h]; rfl))
theorem ta_loop0 {ps zs : List Pl} (hk : zs.length ≤ 1000) (h : zs.all tameB = false) : LoopTo rdTa (valTa zs.length 0) (rowTa ps zs) .ret (valTa zs.length (posB (fun i => !tameB (zs.getD i.toNat Knd.pl.dflt)) zs.length 0)) (rowTa ps zs) := (ta_loop hk).1 ((tame_any (zs := zs) Knd.pl.dflt).trans (by rw [h]; rfl))
set_option maxHeartbeats 0 in
theorem lpoTa_ok : LpOk 10 [0, 1, 0, 1, 1] (loopF 64 [0, 2, 3, 4] outTa) := by
  intro b hat s K r h
  refine loopF_ok (fuel := 100) xTa_ok lok_none hat (fun v R k r hr => ?_) h
  have hbody := at_body Try.func10 hat
  subst hbody
  unfold outTa at hr
  split at hr
  · rename_i kk i ps zs
    obtain ⟨hb, hr2⟩ := cond_some hr
    simp only [Bool.and_eq_true, decide_eq_true_eq] at hb
    obtain ⟨rfl, h1, h2⟩ := hb
    have e1 : kk = List.length (α := Pl) zs := h1
    subst e1
    cases h0 : List.all (α := Pl) zs tameB with
    | true =>
      rw [h0, cond_true] at hr2
      exact ⟨_, _, _, hr2, ta_loop1 (ps := ps) (zs := zs) h2 h0⟩
    | false =>
      rw [h0, cond_false] at hr2
      exact ⟨_, _, _, hr2, ta_loop0 (ps := ps) (zs := zs) h2 h0⟩
  · cases hr
noncomputable def lpoTa : Lpo := ⟨_, _, _, lpoTa_ok⟩

end Go.Proofs.Ytboljdeeodeeeaa
