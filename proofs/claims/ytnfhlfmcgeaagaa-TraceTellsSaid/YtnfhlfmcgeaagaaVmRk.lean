/- The reference's grid: Clear's inner loop. -/
import Derived.Test.YtnfhlfmcgeaagaaVmRj
namespace Go.Proofs.Ytnfhlfmcgeaagaa
set_option linter.unusedSimpArgs false
set_option linter.unusedVariables false
open Go.RowKit

noncomputable def xRc : Ctx := ctxOf [] [orcRSized, orcMeets, orcRSolid]
theorem xRc_ok : COk Try.prog xRc := ctxOf_ok (by kernel_rfl)
def rowC (w d h : Int) (off len : Nat) (xs : List Bool) (lo hi : V3) : List Row := [.vec true .bool xs, .own [.int .i64 w, .int .i64 d, .int .i64 h, .slice 0 1 off len none, .unk], .own lo.sv, .own hi.sv]
def valCx (b : Bool) (z y x : Int) : List SV := [.ptr 1 0 0 0, .ptr 2 0 0 0, .ptr 3 0 0 0, .bool b, .int .i64 z, .int .i64 y, .int .i64 x]
def valCy (b : Bool) (z y : Int) : List SV := [.ptr 1 0 0 0, .ptr 2 0 0 0, .ptr 3 0 0 0, .bool b, .int .i64 z, .int .i64 y]
def valCz (b : Bool) (z : Int) : List SV := [.ptr 1 0 0 0, .ptr 2 0 0 0, .ptr 3 0 0 0, .bool b, .int .i64 z]
noncomputable def rdCx : List SV → List Row → Option Res2 := roundS xRc (fun _ _ => none) 100 25 [0, 1, 0, 0, 1, 0, 0, 1, 0, 0, 1, 0, 0, 1, 0, 1, 1, 1, 1] (bodyAt Try.f25 [0, 1, 0, 0, 1, 0, 0, 1, 0, 0, 1, 0, 0, 1, 0, 1, 1, 1, 1]) 117 4 [3, 4, 5, 6, 8, 9, 10]

set_option maxRecDepth 100000 in
set_option maxHeartbeats 0 in
theorem cx_round (w d h : Int) (off len : Nat) (xs : List Bool) (lo hi : V3) (z y x : Int) : rdCx (valCx false z y x) (rowC w d h off len xs lo hi) =
  bif decide (x < w) then
  bif meetsOk x lo.x hi.x then
  bif (meetsOk y lo.y hi.y && true && true || meetsB x lo.x hi.x != true) && (true || meetsB x lo.x hi.x == true) && true then
  bif
  (meetsOk z lo.z hi.z && true && true || (bif meetsB x lo.x hi.x == true then meetsB y lo.y hi.y else false) != true) &&
  (true || (bif meetsB x lo.x hi.x == true then meetsB y lo.y hi.y else false) == true) &&
  true then
  bif
  (decide (off + len ≤ xs.length) && true && true || (bif (bif meetsB x lo.x hi.x == true then meetsB y lo.y hi.y else false) == true then meetsB z lo.z hi.z else false) != true) &&
  (true || (bif (bif meetsB x lo.x hi.x == true then meetsB y lo.y hi.y else false) == true then meetsB z lo.z hi.z else false) == true) &&
  true then
  bif
  bif (bif (bif meetsB x lo.x hi.x == true then meetsB y lo.y hi.y else false) == true then meetsB z lo.z hi.z else false) == true then
  (mpOf w d h len fun j => xs.getD (off + j) false).solid x y z
  else false then
  some
  (SV.tuple [SV.nils, SV.tuple [SV.ptr 1 0 0 0, SV.ptr 2 0 0 0, SV.ptr 3 0 0 0, SV.bool false, SV.int IntKind.i64 z, SV.int IntKind.i64 y, SV.int IntKind.i64 x]],
  [Row.vec true Knd.bool xs, Row.own [SV.int IntKind.i64 w, SV.int IntKind.i64 d, SV.int IntKind.i64 h, SV.slice 0 1 off len none, SV.unk],
  Row.own [SV.int IntKind.i64 lo.x, SV.int IntKind.i64 lo.y, SV.int IntKind.i64 lo.z], Row.own [SV.int IntKind.i64 hi.x, SV.int IntKind.i64 hi.y, SV.int IntKind.i64 hi.z]])
  else
  some
  (SV.tuple [SV.nilp, SV.tuple [SV.ptr 1 0 0 0, SV.ptr 2 0 0 0, SV.ptr 3 0 0 0, SV.bool false, SV.int IntKind.i64 z, SV.int IntKind.i64 y, SV.int IntKind.i64 (IntKind.i64.wrap (x + 1))]],
  [Row.vec true Knd.bool xs, Row.own [SV.int IntKind.i64 w, SV.int IntKind.i64 d, SV.int IntKind.i64 h, SV.slice 0 1 off len none, SV.unk],
  Row.own [SV.int IntKind.i64 lo.x, SV.int IntKind.i64 lo.y, SV.int IntKind.i64 lo.z], Row.own [SV.int IntKind.i64 hi.x, SV.int IntKind.i64 hi.y, SV.int IntKind.i64 hi.z]])
  else none
  else none
  else none
  else none
  else
  some
  (SV.tuple [SV.ptr 4 0 0 0, SV.tuple [SV.ptr 1 0 0 0, SV.ptr 2 0 0 0, SV.ptr 3 0 0 0, SV.bool false, SV.int IntKind.i64 z, SV.int IntKind.i64 y, SV.int IntKind.i64 x]],
  [Row.vec true Knd.bool xs, Row.own [SV.int IntKind.i64 w, SV.int IntKind.i64 d, SV.int IntKind.i64 h, SV.slice 0 1 off len none, SV.unk],
  Row.own [SV.int IntKind.i64 lo.x, SV.int IntKind.i64 lo.y, SV.int IntKind.i64 lo.z], Row.own [SV.int IntKind.i64 hi.x, SV.int IntKind.i64 hi.y, SV.int IntKind.i64 hi.z]]) := by kernel_rfl

def cOk (w d h : Int) (off len : Nat) (xs : List Bool) (lo hi : V3) : Bool := ((decide (0 ≤ w) && decide (w ≤ 32)) && ((decide (0 ≤ d) && decide (d ≤ 32)) && (decide (0 ≤ h) && decide (h ≤ 32)))) && ((fitsB lo && fitsB hi) && ((decide (lo.x < hi.x) && (decide (lo.y < hi.y) && decide (lo.z < hi.z))) && decide (off + len ≤ xs.length)))
theorem cOk_iff {w d h : Int} {off len : Nat} {xs : List Bool} {lo hi : V3} : cOk w d h off len xs lo hi = true ↔ ((0 ≤ w ∧ w ≤ 32) ∧ (0 ≤ d ∧ d ≤ 32) ∧ (0 ≤ h ∧ h ≤ 32)) ∧ (lo.fits ∧ hi.fits) ∧ (lo.x < hi.x ∧ lo.y < hi.y ∧ lo.z < hi.z) ∧ off + len ≤ xs.length := by
  unfold cOk
  simp only [Bool.and_eq_true, decide_eq_true_eq, fitsB_iff]
theorem meetsOk_in {c lo hi : Int} (h0 : 0 ≤ c) (h1 : c ≤ 32) (h2 : In64 lo) (h3 : In64 hi) (h4 : lo < hi) : meetsOk c lo hi = true := by
  unfold meetsOk
  simp only [Bool.and_eq_true, decide_eq_true_eq, in64B_iff]
  exact ⟨⟨h0, h1⟩, ⟨h2, h3⟩, h4⟩

section
variable {w d h : Int} {off len : Nat} {xs : List Bool} {lo hi : V3}
theorem cx_loop (hc : cOk w d h off len xs lo hi = true) {z y : Int} (hz : 0 ≤ z ∧ z ≤ 31) (hy : 0 ≤ y ∧ y ≤ 31) :
    ((mpOf w d h len fun j => xs.getD (off + j) false).hitY lo hi z y = true → LoopTo rdCx (valCx false z y 0) (rowC w d h off len xs lo hi) .ret (valCx false z y (posB ((mpOf w d h len fun j => xs.getD (off + j) false).hitX lo hi z y) w.toNat 0)) (rowC w d h off len xs lo hi)) ∧
    ((mpOf w d h len fun j => xs.getD (off + j) false).hitY lo hi z y = false → LoopTo rdCx (valCx false z y 0) (rowC w d h off len xs lo hi) (.exit 4) (valCx false z y w) (rowC w d h off len xs lo hi)) := by
  obtain ⟨⟨h1, h2, h3⟩, ⟨f1, f2⟩, ⟨l1, l2, l3⟩, h4⟩ := cOk_iff.1 hc
  have key := loop_any (rd := rdCx) (val := valCx false z y) (valR := valCx false z y) (R := rowC w d h off len xs lo hi) (p := (mpOf w d h len fun j => xs.getD (off + j) false).hitX lo hi z y) (W := w) (ex := 4) (fun x x0 x1 => ?_) ?_ w.toNat 0 (by omega) (by omega)
  · exact key
  · rw [cx_round, decide_eq_true x1, meetsOk_in x0 (by omega) f1.1 f2.1 l1, meetsOk_in (c := y) (by omega) (by omega) f1.2.1 f2.2.1 l2, meetsOk_in (c := z) (by omega) (by omega) f1.2.2 f2.2.2 l3, decide_eq_true h4, IntWalk.i64_in (x + 1) (by omega)]
    simp only [and_form]
    unfold Mp.hitX
    generalize meetsB x lo.x hi.x = a
    generalize meetsB y lo.y hi.y = b
    generalize meetsB z lo.z hi.z = c
    cases a
    · rfl
    · cases b
      · rfl
      · cases c
        · rfl
        · simp only [Bool.and_self, Bool.true_and, Bool.true_or, cond_true, Bool.and_true]
          rfl
  · rw [cx_round, decide_eq_false (by omega)]
    rfl
end

set_option maxHeartbeats 0 in
noncomputable def outCx (v : List SV) (R : List Row) (k : Ex → List SV → List Row → Option Res2) : Option Res2 := match v, R with
  | [.ptr 1 0 0 0, .ptr 2 0 0 0, .ptr 3 0 0 0, .bool b, .int .i64 z, .int .i64 y, .int .i64 x], [.vec true .bool xs, .own [.int .i64 w, .int .i64 d, .int .i64 h, .slice 0 1 off len none, .unk], .own [.int .i64 lx, .int .i64 ly, .int .i64 lz], .own [.int .i64 hx, .int .i64 hy, .int .i64 hz]] =>
      bif (!b && decide (x = 0)) && (((decide (0 ≤ z) && decide (z ≤ 31)) && (decide (0 ≤ y) && decide (y ≤ 31))) && cOk w d h off len xs ⟨lx, ly, lz⟩ ⟨hx, hy, hz⟩) then
        (bif (mpOf w d h len fun j => xs.getD (off + j) false).hitY ⟨lx, ly, lz⟩ ⟨hx, hy, hz⟩ z y then k .ret (valCx false z y (posB ((mpOf w d h len fun j => xs.getD (off + j) false).hitX ⟨lx, ly, lz⟩ ⟨hx, hy, hz⟩ z y) w.toNat 0)) (rowC w d h off len xs ⟨lx, ly, lz⟩ ⟨hx, hy, hz⟩)
        else k (.exit 4) (valCx false z y w) (rowC w d h off len xs ⟨lx, ly, lz⟩ ⟨hx, hy, hz⟩)) else none
  | _, _ => none
set_option maxHeartbeats 0 in
theorem lpoCx_ok : LpOk 25 [0, 1, 0, 0, 1, 0, 0, 1, 0, 0, 1, 0, 0, 1, 0, 1, 1, 1, 1] (loopF 117 [3, 4, 5, 6, 8, 9, 10] outCx) := by
  intro b hat s K r h
  refine loopF_ok (fuel := 100) xRc_ok lok_none hat (fun v R k r hr => ?_) h
  have hbody := at_body Try.func25 hat
  subst hbody
  unfold outCx at hr
  split at hr
  · rename_i bb z y x xs w d h off len lx ly lz hx hy hz
    obtain ⟨hb, hr2⟩ := cond_some hr
    simp only [Bool.and_eq_true, decide_eq_true_eq, Bool.not_eq_true'] at hb
    obtain ⟨⟨rfl, rfl⟩, ⟨h1, h2⟩, h3⟩ := hb
    obtain ⟨k1, k2⟩ := cx_loop h3 h1 h2
    cases hq : (mpOf w d h len fun j => xs.getD (off + j) false).hitY ⟨lx, ly, lz⟩ ⟨hx, hy, hz⟩ z y with
    | true => rw [hq, cond_true] at hr2; exact ⟨_, _, _, hr2, k1 hq⟩
    | false => rw [hq, cond_false] at hr2; exact ⟨_, _, _, hr2, k2 hq⟩
  · cases hr
noncomputable def lpoCx : Lpo := ⟨_, _, _, lpoCx_ok⟩

noncomputable def rdCy : List SV → List Row → Option Res2 := roundS xRc (loopOf [lpoCx]) 100 25 [0, 1, 0, 0, 1, 0, 0, 1, 0, 1, 1, 1, 1] (bodyAt Try.f25 [0, 1, 0, 0, 1, 0, 0, 1, 0, 1, 1, 1, 1]) 117 4 [3, 4, 5, 6, 8, 9]

set_option maxRecDepth 100000 in
set_option maxHeartbeats 0 in
theorem cy_round (w d h : Int) (off len : Nat) (xs : List Bool) (lo hi : V3) (z y : Int) : rdCy (valCy false z y) (rowC w d h off len xs lo hi) =
  bif decide (y < d) then
  bif decide (0 ≤ z) && decide (z ≤ 31) && (decide (0 ≤ y) && decide (y ≤ 31)) && cOk w d h off len xs lo hi then
  bif (mpOf w d h len fun j => xs.getD (off + j) false).hitY lo hi z y then
  some
  (SV.tuple [SV.nils, SV.tuple [SV.ptr 1 0 0 0, SV.ptr 2 0 0 0, SV.ptr 3 0 0 0, SV.bool false, SV.int IntKind.i64 z, SV.int IntKind.i64 y]],
  [Row.vec true Knd.bool xs, Row.own [SV.int IntKind.i64 w, SV.int IntKind.i64 d, SV.int IntKind.i64 h, SV.slice 0 1 off len none, SV.unk],
  Row.own [SV.int IntKind.i64 lo.x, SV.int IntKind.i64 lo.y, SV.int IntKind.i64 lo.z], Row.own [SV.int IntKind.i64 hi.x, SV.int IntKind.i64 hi.y, SV.int IntKind.i64 hi.z]])
  else
  some
  (SV.tuple [SV.nilp, SV.tuple [SV.ptr 1 0 0 0, SV.ptr 2 0 0 0, SV.ptr 3 0 0 0, SV.bool false, SV.int IntKind.i64 z, SV.int IntKind.i64 (IntKind.i64.wrap (y + 1))]],
  [Row.vec true Knd.bool xs, Row.own [SV.int IntKind.i64 w, SV.int IntKind.i64 d, SV.int IntKind.i64 h, SV.slice 0 1 off len none, SV.unk],
  Row.own [SV.int IntKind.i64 lo.x, SV.int IntKind.i64 lo.y, SV.int IntKind.i64 lo.z], Row.own [SV.int IntKind.i64 hi.x, SV.int IntKind.i64 hi.y, SV.int IntKind.i64 hi.z]])
  else none
  else
  some
  (SV.tuple [SV.ptr 2 0 0 0, SV.tuple [SV.ptr 1 0 0 0, SV.ptr 2 0 0 0, SV.ptr 3 0 0 0, SV.bool false, SV.int IntKind.i64 z, SV.int IntKind.i64 y]],
  [Row.vec true Knd.bool xs, Row.own [SV.int IntKind.i64 w, SV.int IntKind.i64 d, SV.int IntKind.i64 h, SV.slice 0 1 off len none, SV.unk],
  Row.own [SV.int IntKind.i64 lo.x, SV.int IntKind.i64 lo.y, SV.int IntKind.i64 lo.z], Row.own [SV.int IntKind.i64 hi.x, SV.int IntKind.i64 hi.y, SV.int IntKind.i64 hi.z]]) := by kernel_rfl

end Go.Proofs.Ytnfhlfmcgeaagaa
