/- blast's law: near, as a contract; tame. blast's law: same, as a contract. -/
import Derived.Test.YtboljdeeodeeeaaVmFk
import Derived.Test.YtboljdeeodeeeaaVmHt
import Derived.Test.YtboljdeeodeeeaaVmTp
namespace Go.Proofs.Ytboljdeeodeeeaa
set_option linter.unusedSimpArgs false
set_option linter.unusedVariables false
set_option maxRecDepth 100000
open Go.RowKit

noncomputable def xTa0 : Ctx := ctxOf [] []
theorem xTa0_ok : COk Try.prog xTa0 := ctxOf_ok (by kernel_rfl)

set_option maxRecDepth 100000 in
set_option maxHeartbeats 0 in
theorem nearB_tree (v : V3) : runK xTa0 (fun _ _ => none) 200 12 Try.f12 0 [.agg v.sv] [] =
  some (SV.bool (bif decide (max (max v.x v.y) v.z ≤ 6553600) == true then decide (min (min v.x v.y) v.z ≥ -6553600) else false), []) := by kernel_rfl

def V3.nearB (v : V3) : Bool := decide (max (max v.x v.y) v.z ≤ 6553600) && decide (min (min v.x v.y) v.z ≥ -6553600)
theorem nearB_val {v : V3} : runK xTa0 (fun _ _ => none) 200 12 Try.f12 0 [.agg v.sv] [] = some (.bool v.nearB, []) := by
  rw [nearB_tree]
  unfold V3.nearB
  cases decide (max (max v.x v.y) v.z ≤ 6553600) <;> rfl
def oNearB : List SV → Option Eff
  | [.agg [.int .i64 x, .int .i64 y, .int .i64 z]] => some { val := .bool (V3.nearB ⟨x, y, z⟩) }
  | _ => none
theorem oNearB_ok {m : Nat → Option Row} {n : Nat} {args : List SV} {e : Eff} (h : oNearB args = some e) : FnOk Try.prog 12 args m n e := by
  unfold oNearB at h
  split at h
  · rename_i x y z
    cases h
    obtain ⟨rows', hc, _⟩ := runK_ok xTa0_ok lok_none Try.func12 (nearB_val (v := ⟨x, y, z⟩))
    exact fnOk_pure hc rfl rfl
  · cases h
noncomputable def orcNearB : Orc := ⟨12, fun args _ => oNearB args, fun _ _ _ h _ => oNearB_ok h, bodied Try.func12 (by kernel_rfl)⟩

/-! tame. -/
noncomputable def xTa : Ctx := ctxOf [] [orcNearB]
theorem xTa_ok : COk Try.prog xTa := ctxOf_ok (by kernel_rfl)

def valTa (k : Nat) (i : Int) : List SV := [.slice 6 15 0 k none, .nils, .bool false, .int .i64 i]
def rowTa (ps zs : List Pl) : List Row := [.gone, .gone, .vec true .pl ps, .gone, .gone, .gone, .vec false .pl zs]
noncomputable def rdTa : List SV → List Row → Option Res2 := roundS xTa (fun _ _ => none) 100 10 [0, 1, 0, 1, 1] (bodyAt Try.f10 [0, 1, 0, 1, 1]) 64 7 [0, 2, 3, 4]

set_option maxRecDepth 100000 in
set_option maxHeartbeats 0 in
theorem ta_round (ps zs : List Pl) (k : Nat) (i : Int) : rdTa (valTa k i) (rowTa ps zs) =
  bif decide (i < (↑k : Int)) then
  bif decide (0 ≤ i) && decide (i < (↑k : Int)) then
  bif decide (0 + i.toNat < zs.length) then
  bif !(zs.getD (0 + i.toNat) Knd.pl.dflt).pos.nearB then
  some
  (SV.tuple [SV.nils, SV.tuple [SV.slice 6 15 0 k none, SV.nils, SV.bool false, SV.int IntKind.i64 i]],
  [Row.gone, Row.gone, Row.vec true Knd.pl ps, Row.gone, Row.gone, Row.gone, Row.vec false Knd.pl zs])
  else
  bif decide (0 ≤ i) && decide (i < (↑k : Int)) then
  bif decide (0 + i.toNat < zs.length) then
  bif decide (0 ≤ i) && decide (i < (↑k : Int)) then
  bif decide (0 + i.toNat < zs.length) then
  bif decide (0 ≤ i) && decide (i < (↑k : Int)) then
  bif decide (0 + i.toNat < zs.length) then
  bif decide (max (max (zs.getD (0 + i.toNat) Knd.pl.dflt).health (zs.getD (0 + i.toNat) Knd.pl.dflt).armour) (zs.getD (0 + i.toNat) Knd.pl.dflt).score > 1000000) then
  some
  (SV.tuple [SV.nils, SV.tuple [SV.slice 6 15 0 k none, SV.nils, SV.bool false, SV.int IntKind.i64 i]],
  [Row.gone, Row.gone, Row.vec true Knd.pl ps, Row.gone, Row.gone, Row.gone, Row.vec false Knd.pl zs])
  else
  bif decide (0 ≤ i) && decide (i < (↑k : Int)) then
  bif decide (0 + i.toNat < zs.length) then
  bif decide (0 ≤ i) && decide (i < (↑k : Int)) then
  bif decide (0 + i.toNat < zs.length) then
  bif decide (0 ≤ i) && decide (i < (↑k : Int)) then
  bif decide (0 + i.toNat < zs.length) then
  bif decide (min (min (zs.getD (0 + i.toNat) Knd.pl.dflt).health (zs.getD (0 + i.toNat) Knd.pl.dflt).armour) (zs.getD (0 + i.toNat) Knd.pl.dflt).score < -1000000) then
  some
  (SV.tuple [SV.nils, SV.tuple [SV.slice 6 15 0 k none, SV.nils, SV.bool false, SV.int IntKind.i64 i]],
  [Row.gone, Row.gone, Row.vec true Knd.pl ps, Row.gone, Row.gone, Row.gone, Row.vec false Knd.pl zs])
  else
  some
  (SV.tuple [SV.nilp, SV.tuple [SV.slice 6 15 0 k none, SV.nils, SV.bool false, SV.int IntKind.i64 (IntKind.i64.wrap (i + 1))]],
  [Row.gone, Row.gone, Row.vec true Knd.pl ps, Row.gone, Row.gone, Row.gone, Row.vec false Knd.pl zs])
  else none
  else none
  else none
  else none
  else none
  else none
  else none
  else none
  else none
  else none
  else none
  else none
  else none
  else none
  else
  some
  (SV.tuple [SV.ptr 0 0 0 0, SV.tuple [SV.slice 6 15 0 k none, SV.nils, SV.bool false, SV.int IntKind.i64 i]],
  [Row.gone, Row.gone, Row.vec true Knd.pl ps, Row.gone, Row.gone, Row.gone, Row.vec false Knd.pl zs]) := by kernel_rfl

/-- A player that is not too far away, of numbers not too great. -/
def tameB (p : Pl) : Bool := p.pos.nearB && (!decide (max (max p.health p.armour) p.score > 1000000) && !decide (min (min p.health p.armour) p.score < -1000000))
theorem getD_pl {l : List Pl} (z : Pl) {i : Nat} (h : i < l.length) : l.getD i z = l[i] := by
  rw [List.getD_eq_getElem?_getD, List.getElem?_eq_getElem h, Option.getD_some]
theorem ta_loop {ps zs : List Pl} (hk : zs.length ≤ 1000) :
    (anyB (fun i => !tameB (zs.getD i.toNat Knd.pl.dflt)) zs.length 0 = true → LoopTo rdTa (valTa zs.length 0) (rowTa ps zs) .ret (valTa zs.length (posB (fun i => !tameB (zs.getD i.toNat Knd.pl.dflt)) zs.length 0)) (rowTa ps zs)) ∧
    (anyB (fun i => !tameB (zs.getD i.toNat Knd.pl.dflt)) zs.length 0 = false → LoopTo rdTa (valTa zs.length 0) (rowTa ps zs) (.exit 0) (valTa zs.length (zs.length : Int)) (rowTa ps zs)) := by
  refine loop_any (rd := rdTa) (val := valTa zs.length) (valR := valTa zs.length) (R := rowTa ps zs) (p := fun i => !tameB (zs.getD i.toNat Knd.pl.dflt)) (W := (zs.length : Int)) (ex := 0) (i0 := 0) (fun i i0 i1 => ?_) ?_ zs.length 0 (by omega) (by omega)
  · have hi : i.toNat < zs.length := by omega
    rw [ta_round, IntWalk.i64_in (i + 1) (by omega), decide_eq_true i1, decide_eq_true i0, Nat.zero_add, decide_eq_true hi]
    simp only [Bool.and_self, cond_true]
    generalize zs.getD i.toNat Knd.pl.dflt = z
    unfold tameB
    cases z.pos.nearB with
    | false => rfl
    | true =>
      cases decide (max (max z.health z.armour) z.score > 1000000) with
      | true => rfl
      | false =>
        cases decide (min (min z.health z.armour) z.score < -1000000) with
        | true => rfl
        | false => rfl
  · rw [ta_round, decide_eq_false (by omega)]
    rfl
theorem tame_any {zs : List Pl} (z : Pl) : anyB (fun i => !tameB (zs.getD i.toNat z)) zs.length 0 = !zs.all tameB := by
  rw [Bool.eq_iff_iff, anyB_iff, Bool.not_eq_true', ← Bool.not_eq_true, List.all_eq_true]
  constructor
  · rintro ⟨j, h1, h2, h3⟩ h
    have hj : j.toNat < zs.length := by omega
    rw [getD_pl z hj, h _ (List.getElem_mem hj)] at h3
    cases h3
  · intro h
    by_cases hh : ∃ j : Int, 0 ≤ j ∧ j < 0 + (zs.length : Int) ∧ (!tameB (zs.getD j.toNat z)) = true
    · exact hh
    · refine absurd (fun p hp => ?_) h
      obtain ⟨j, hj, rfl⟩ := List.getElem_of_mem hp
      cases ht : tameB zs[j] with
      | true => rfl
      | false =>
        refine absurd ⟨(j : Int), by omega, by omega, ?_⟩ hh
        rw [show ((j : Int)).toNat = j by omega, getD_pl z hj, ht]
        rfl
set_option maxHeartbeats 0 in
noncomputable def outTa (v : List SV) (R : List Row) (k : Ex → List SV → List Row → Option Res2) : Option Res2 := match v, R with
  | [.slice 6 15 0 kk none, .nils, .bool false, .int .i64 i], [.gone, .gone, .vec true .pl ps, .gone, .gone, .gone, .vec false .pl zs] =>
      bif decide (i = 0) && (decide (kk = zs.length) && decide (kk ≤ 1000)) then
        (bif List.all (α := Pl) zs tameB then k (.exit 0) (valTa kk kk) (rowTa ps zs)
        else k .ret (valTa kk (posB (fun i => !tameB (List.getD (α := Pl) zs i.toNat Knd.pl.dflt)) kk 0)) (rowTa ps zs)) else none
  | _, _ => none
theorem ta_loop1 {ps zs : List Pl} (hk : zs.length ≤ 1000) (h : zs.all tameB = true) : LoopTo rdTa (valTa zs.length 0) (rowTa ps zs) (.exit 0) (valTa zs.length (zs.length : Int)) (rowTa ps zs) := (ta_loop hk).2 ((tame_any (zs := zs) Knd.pl.dflt).trans (by rw [h]; rfl))
theorem ta_loop0 {ps zs : List Pl} (hk : zs.length ≤ 1000) (h : zs.all tameB = false) : LoopTo rdTa (valTa zs.length 0) (rowTa ps zs) .ret (valTa zs.length (posB (fun i => !tameB (zs.getD i.toNat Knd.pl.dflt)) zs.length 0)) (rowTa ps zs) := (ta_loop hk).1 ((tame_any (zs := zs) Knd.pl.dflt).trans (by rw [h]; rfl))
set_option maxHeartbeats 0 in
theorem lpoTa_ok : LpOk 10 [0, 1, 0, 1, 1] (loopF 64 [0, 2, 3, 4] outTa) := by
  intro b hat s K r h
  refine loopF_ok (fuel := 100) xTa_ok lok_none hat (fun v R k r hr => ?_) h
  have hbody := at_body Try.func10 hat
  subst hbody
  unfold outTa at hr
  split at hr
  · rename_i kk i ps zs
    obtain ⟨hb, hr2⟩ := cond_some hr
    simp only [Bool.and_eq_true, decide_eq_true_eq] at hb
    obtain ⟨rfl, h1, h2⟩ := hb
    have e1 : kk = List.length (α := Pl) zs := h1
    subst e1
    cases h0 : List.all (α := Pl) zs tameB with
    | true =>
      rw [h0, cond_true] at hr2
      exact ⟨_, _, _, hr2, ta_loop1 (ps := ps) (zs := zs) h2 h0⟩
    | false =>
      rw [h0, cond_false] at hr2
      exact ⟨_, _, _, hr2, ta_loop0 (ps := ps) (zs := zs) h2 h0⟩
  · cases hr
noncomputable def lpoTa : Lpo := ⟨_, _, _, lpoTa_ok⟩

end Go.Proofs.Ytboljdeeodeeeaa

namespace Go.Proofs.Ytboljdeeodeeeaa
set_option linter.unusedSimpArgs false
set_option linter.unusedVariables false
set_option maxRecDepth 100000
open Go.RowKit

def valSa (ka kb : Nat) (i : Int) : List SV := [.slice 0 15 0 ka none, .slice 1 15 0 kb none, .bool false, .int .i64 i]
def rowSa (xs ys : List Pl) : List Row := [.vec true .pl xs, .vec true .pl ys]
noncomputable def rdSa : List SV → List Row → Option Res2 := roundS xTa0 (fun _ _ => none) 100 16 [0, 1, 0, 1, 1] (bodyAt Try.f16 [0, 1, 0, 1, 1]) 26 2 [0, 1, 4, 5]

set_option maxRecDepth 100000 in
set_option maxHeartbeats 0 in
theorem sa_round (xs ys : List Pl) (ka kb : Nat) (i : Int) : rdSa (valSa ka kb i) (rowSa xs ys) =
  bif decide (i < (↑ka : Int)) then
  bif decide (0 ≤ i) && decide (i < (↑ka : Int)) then
  bif decide (0 + i.toNat < xs.length) then
  bif decide (0 ≤ i) && decide (i < (↑kb : Int)) then
  bif decide (0 + i.toNat < ys.length) then
  bif
  !((xs.getD (0 + i.toNat) Knd.pl.dflt).id == (ys.getD (0 + i.toNat) Knd.pl.dflt).id &&
  ((xs.getD (0 + i.toNat) Knd.pl.dflt).pos.x == (ys.getD (0 + i.toNat) Knd.pl.dflt).pos.x &&
  ((xs.getD (0 + i.toNat) Knd.pl.dflt).pos.y == (ys.getD (0 + i.toNat) Knd.pl.dflt).pos.y &&
  ((xs.getD (0 + i.toNat) Knd.pl.dflt).pos.z == (ys.getD (0 + i.toNat) Knd.pl.dflt).pos.z &&
  ((xs.getD (0 + i.toNat) Knd.pl.dflt).vel.x == (ys.getD (0 + i.toNat) Knd.pl.dflt).vel.x &&
  ((xs.getD (0 + i.toNat) Knd.pl.dflt).vel.y == (ys.getD (0 + i.toNat) Knd.pl.dflt).vel.y &&
  ((xs.getD (0 + i.toNat) Knd.pl.dflt).vel.z == (ys.getD (0 + i.toNat) Knd.pl.dflt).vel.z &&
  ((xs.getD (0 + i.toNat) Knd.pl.dflt).ground == (ys.getD (0 + i.toNat) Knd.pl.dflt).ground &&
  ((xs.getD (0 + i.toNat) Knd.pl.dflt).health == (ys.getD (0 + i.toNat) Knd.pl.dflt).health &&
  ((xs.getD (0 + i.toNat) Knd.pl.dflt).armour == (ys.getD (0 + i.toNat) Knd.pl.dflt).armour &&
  ((xs.getD (0 + i.toNat) Knd.pl.dflt).score == (ys.getD (0 + i.toNat) Knd.pl.dflt).score &&
  ((xs.getD (0 + i.toNat) Knd.pl.dflt).a0 == (ys.getD (0 + i.toNat) Knd.pl.dflt).a0 &&
  ((xs.getD (0 + i.toNat) Knd.pl.dflt).a1 == (ys.getD (0 + i.toNat) Knd.pl.dflt).a1 &&
  ((xs.getD (0 + i.toNat) Knd.pl.dflt).wait == (ys.getD (0 + i.toNat) Knd.pl.dflt).wait &&
  ((xs.getD (0 + i.toNat) Knd.pl.dflt).dead == (ys.getD (0 + i.toNat) Knd.pl.dflt).dead && true))))))))))))))) then
  some (SV.tuple [SV.nils, SV.tuple [SV.slice 0 15 0 ka none, SV.slice 1 15 0 kb none, SV.bool false, SV.int IntKind.i64 i]], [Row.vec true Knd.pl xs, Row.vec true Knd.pl ys])
  else
  some
  (SV.tuple [SV.nilp, SV.tuple [SV.slice 0 15 0 ka none, SV.slice 1 15 0 kb none, SV.bool false, SV.int IntKind.i64 (IntKind.i64.wrap (i + 1))]],
  [Row.vec true Knd.pl xs, Row.vec true Knd.pl ys])
  else none
  else none
  else none
  else none
  else some (SV.tuple [SV.ptr 0 0 0 0, SV.tuple [SV.slice 0 15 0 ka none, SV.slice 1 15 0 kb none, SV.bool false, SV.int IntKind.i64 i]], [Row.vec true Knd.pl xs, Row.vec true Knd.pl ys]) := by kernel_rfl

def plEq (x y : Pl) : Bool := (x.id == y.id && (x.pos.x == y.pos.x && (x.pos.y == y.pos.y && (x.pos.z == y.pos.z && (x.vel.x == y.vel.x && (x.vel.y == y.vel.y && (x.vel.z == y.vel.z && (x.ground == y.ground && (x.health == y.health && (x.armour == y.armour && (x.score == y.score && (x.a0 == y.a0 && (x.a1 == y.a1 && (x.wait == y.wait && (x.dead == y.dead && true)))))))))))))))
def sameL : List Pl → List Pl → Bool
  | [], [] => true
  | x :: l, y :: m => plEq x y && sameL l m
  | _, _ => false
theorem plEq_refl (x : Pl) : plEq x x = true := by
  unfold plEq
  simp only [beq_self_eq_true, Bool.and_self]
theorem sameL_refl : ∀ l : List Pl, sameL l l = true
  | [] => rfl
  | x :: l => by rw [sameL, plEq_refl, sameL_refl l]; rfl
theorem sameL_len : ∀ {l m : List Pl}, sameL l m = true → l.length = m.length
  | [], [], _ => rfl
  | [], _ :: _, h => by cases h
  | _ :: _, [], h => by cases h
  | x :: l, y :: m, h => by
    rw [sameL, Bool.and_eq_true] at h
    rw [List.length_cons, List.length_cons, sameL_len h.2]
theorem sa_loop {xs ys : List Pl} (hk : xs.length ≤ 1000) (hy : ys.length = xs.length) : ∀ (n i : Nat), i + n = xs.length → sameL (xs.drop i) (ys.drop i) = true →
    LoopTo rdSa (valSa xs.length ys.length i) (rowSa xs ys) (.exit 0) (valSa xs.length ys.length xs.length) (rowSa xs ys)
  | 0, i, h1, h2 => by
    obtain rfl : i = xs.length := by omega
    refine .done ?_ (by simp)
    rw [sa_round, decide_eq_false (by omega), cond_false]
    rfl
  | n + 1, i, h1, h2 => by
    have hi : i < xs.length := by omega
    have hj : i < ys.length := by omega
    rw [List.drop_eq_getElem_cons hi, List.drop_eq_getElem_cons hj, sameL, Bool.and_eq_true] at h2
    have hro := sa_round xs ys xs.length ys.length i
    have e0 : xs.getD (0 + ((i : Int)).toNat) Knd.pl.dflt = xs[i] := by
      rw [show 0 + ((i : Int)).toNat = i by omega]
      exact getD_pl _ hi
    have e1 : ys.getD (0 + ((i : Int)).toNat) Knd.pl.dflt = ys[i] := by
      rw [show 0 + ((i : Int)).toNat = i by omega]
      exact getD_pl _ hj
    have e2 := h2.1
    unfold plEq at e2
    rw [e0, e1, e2, decide_eq_true (show (i : Int) < (xs.length : Int) by omega), decide_eq_true (show (i : Int) < (ys.length : Int) by omega), decide_eq_true (show (0 : Int) ≤ (i : Int) by omega), decide_eq_true (show 0 + ((i : Int)).toNat < xs.length by omega), decide_eq_true (show 0 + ((i : Int)).toNat < ys.length by omega), IntWalk.i64_in ((i : Int) + 1) (by omega)] at hro
    simp only [Bool.and_self, Bool.not_true, cond_true, cond_false] at hro
    have ih := sa_loop hk hy n (i + 1) (by omega) h2.2
    rw [show ((i + 1 : Nat) : Int) = (i : Int) + 1 by omega] at ih
    exact .more hro ih
set_option maxHeartbeats 0 in
noncomputable def outSa (v : List SV) (R : List Row) (k : Ex → List SV → List Row → Option Res2) : Option Res2 := match v, R with
  | [.slice 0 15 0 ka none, .slice 1 15 0 kb none, .bool false, .int .i64 i], [.vec true .pl xs, .vec true .pl ys] =>
      bif decide (i = 0) && ((decide (ka = xs.length) && decide (kb = ys.length)) && (decide (ka ≤ 1000) && sameL xs ys)) then k (.exit 0) (valSa ka kb ka) (rowSa xs ys) else none
  | _, _ => none
set_option maxHeartbeats 0 in
theorem lpoSa_ok : LpOk 16 [0, 1, 0, 1, 1] (loopF 26 [0, 1, 4, 5] outSa) := by
  intro b hat s K r h
  refine loopF_ok (fuel := 100) xTa0_ok lok_none hat (fun v R k r hr => ?_) h
  have hbody := at_body Try.func16 hat
  subst hbody
  unfold outSa at hr
  split at hr
  · rename_i ka kb i xs ys
    obtain ⟨hb, hr2⟩ := cond_some hr
    simp only [Bool.and_eq_true, decide_eq_true_eq] at hb
    obtain ⟨rfl, ⟨h1, h2⟩, h3, h4⟩ := hb
    have e1 : ka = List.length (α := Pl) xs := h1
    have e2 : kb = List.length (α := Pl) ys := h2
    subst e1
    subst e2
    exact ⟨_, _, _, hr2, sa_loop (xs := xs) (ys := ys) h3 (sameL_len h4).symm (List.length (α := Pl) xs) 0 (by omega) h4⟩
  · cases hr
noncomputable def lpoSa : Lpo := ⟨_, _, _, lpoSa_ok⟩

set_option maxRecDepth 100000 in
set_option maxHeartbeats 0 in
theorem same_tree (xs ys : List Pl) (ka kb : Nat) : runK xTa0 (loopOf [lpoSa]) 200 16 Try.f16 0 [.slice 0 15 0 ka none, .slice 1 15 0 kb none] [.vec true .pl xs, .vec true .pl ys] =
  bif (↑ka : Int) != (↑kb : Int) then some (SV.bool false, []) else bif decide (ka = xs.length) && decide (kb = ys.length) && (decide (ka ≤ 1000) && sameL xs ys) then some (SV.bool true, []) else none := by kernel_rfl

def oSame (args : List SV) (rows : List Row) : Option Eff :=
  match args with
  | [.slice ia 15 0 la none, .slice ib 15 0 lb none] => match rows[ia]?, rows[ib]? with
    | some (.vec _ .pl xs), some (.vec _ .pl ys) => some { ok := (decide (la = xs.length) && decide (lb = ys.length)) && (decide (la ≤ 1000) && sameL xs ys), val := .bool true, rd := [ia, ib] }
    | _, _ => none
  | _ => none
theorem same_main {ia ib : Nat} {ra rb ok : Bool} {xs ys : List Pl} {rows : List Row} {n : Nat} (h1 : rows[ia]? = some (.vec ra .pl xs)) (h2 : rows[ib]? = some (.vec rb .pl ys)) (hk : xs.length ≤ 1000) (hs : sameL xs ys = true) :
    FnOk Try.prog 16 [.slice ia 15 0 xs.length none, .slice ib 15 0 ys.length none] (rows[·]?) n { ok := ok, val := .bool true, rd := [ia, ib] } := by
  have hl := sameL_len hs
  have hv := same_tree xs ys xs.length ys.length
  rw [hs, decide_eq_true hk, hl, bne_self_eq_false, decide_eq_true rfl] at hv
  simp only [Bool.and_self, cond_true, cond_false] at hv
  obtain ⟨rows', hc, ht⟩ := runK_ok xTa0_ok loopOf_ok Try.func16 hv
  rw [hl]
  refine fnOk_reads hc rfl (σ := [ia, ib]) rfl (fun i hi => by simp [SV.idsL, SV.ids] at hi; rcases hi with rfl | rfl <;> simp) (fun i row hr => ?_)
  match i with
  | 0 => simp at hr; subst hr; exact ⟨.pl, xs, ra, rfl, h1⟩
  | 1 => simp at hr; subst hr; exact ⟨.pl, ys, rb, rfl, h2⟩
  | i + 2 => simp at hr
theorem oSame_ok {args : List SV} {rows : List Row} {n : Nat} {e : Eff} (h : oSame args rows = some e) (hok : e.ok = true) : FnOk Try.prog 16 args (rows[·]?) n e := by
  unfold oSame at h
  split at h
  · rename_i ia la ib lb
    split at h
    · rename_i ra xs rb ys hxr hyr
      cases h
      simp only [Bool.and_eq_true, decide_eq_true_eq] at hok
      obtain ⟨⟨h1, h2⟩, h3, h4⟩ := hok
      have e1 : la = List.length (α := Pl) xs := h1
      have e2 : lb = List.length (α := Pl) ys := h2
      subst e1
      subst e2
      exact same_main (xs := xs) (ys := ys) hxr hyr h3 h4
    · cases h
  · cases h
noncomputable def orcSame : Orc := ⟨16, oSame, fun _ _ _ h hok => oSame_ok h hok, bodied Try.func16 (by kernel_rfl)⟩

end Go.Proofs.Ytboljdeeodeeeaa
