/- The reference's Sight: its loop. -/
import Derived.Test.YtikifgbbiffclaaVmCr
namespace Go.Proofs.Ytikifgbbiffclaa
set_option linter.unusedSimpArgs false
set_option linter.unusedVariables false
open Go.RowKit

noncomputable def xRv : Ctx := ctxOf [] [orcRSolid, orcCellG, orcCross, orcRat, orcBet]
theorem xRv_ok : COk Try.prog xRv := ctxOf_ok (by kernel_rfl)
def valRv (len : Nat) (i : Int) : List SV := [.ptr 1 0 0 0, .ptr 2 0 0 0, .ptr 3 0 0 0, .bool false, .slice 7 2 0 len none, .int .i64 i]
def rowRv (w d h : Int) (off ln : Nat) (xs : List Bool) (a b : V3) (l : List Pt) : List Row := [.vec true .bool xs, .own [.int .i64 w, .int .i64 d, .int .i64 h, .slice 0 1 off ln none, .unk], .own a.sv, .own b.sv, .gone, .gone, .gone, .vec false .pt l]
noncomputable def rdRv : List SV → List Row → Option Res2 := roundS xRv (fun _ _ => none) 100 24 [0, 1, 0, 1, 1, 1, 1, 1, 1, 1, 1] (bodyAt Try.f24 [0, 1, 0, 1, 1, 1, 1, 1, 1, 1, 1]) 124 8 [3, 4, 5, 6, 9, 10]

set_option maxRecDepth 100000 in
set_option maxHeartbeats 0 in
theorem rv_round (w d h : Int) (off ln : Nat) (xs : List Bool) (a b : V3) (l : List Pt) (len : Nat) (i : Int) : rdRv (valRv len i) (rowRv w d h off ln xs a b l) =
  bif decide (i < (↑len : Int)) then
  bif decide (0 ≤ i) && decide (i < (↑len : Int)) then
  bif decide (0 + i.toNat < l.length) then
  bif inR a.x && inR b.x && inPt (l.getD (0 + i.toNat) Knd.pt.dflt) then
  bif inR a.y && inR b.y && inPt (l.getD (0 + i.toNat) Knd.pt.dflt) then
  bif inR a.z && inR b.z && inPt (l.getD (0 + i.toNat) Knd.pt.dflt) then
  bif decide (off + ln ≤ xs.length) then
  bif
  (mpOf w d h ln fun j => xs.getD (off + j) false).solid (cellAt a.x b.x (l.getD (0 + i.toNat) Knd.pt.dflt).p (l.getD (0 + i.toNat) Knd.pt.dflt).q)
  (cellAt a.y b.y (l.getD (0 + i.toNat) Knd.pt.dflt).p (l.getD (0 + i.toNat) Knd.pt.dflt).q)
  (cellAt a.z b.z (l.getD (0 + i.toNat) Knd.pt.dflt).p (l.getD (0 + i.toNat) Knd.pt.dflt).q) then
  some
  (SV.tuple [SV.nils, SV.tuple [SV.ptr 1 0 0 0, SV.ptr 2 0 0 0, SV.ptr 3 0 0 0, SV.bool false, SV.slice 7 2 0 len none, SV.int IntKind.i64 i]],
  [Row.vec true Knd.bool xs, Row.own [SV.int IntKind.i64 w, SV.int IntKind.i64 d, SV.int IntKind.i64 h, SV.slice 0 1 off ln none, SV.unk],
  Row.own [SV.int IntKind.i64 a.x, SV.int IntKind.i64 a.y, SV.int IntKind.i64 a.z], Row.own [SV.int IntKind.i64 b.x, SV.int IntKind.i64 b.y, SV.int IntKind.i64 b.z], Row.gone,
  Row.gone, Row.gone, Row.vec false Knd.pt l])
  else
  bif i == 0 then
  some
  (SV.tuple [SV.nilp, SV.tuple [SV.ptr 1 0 0 0, SV.ptr 2 0 0 0, SV.ptr 3 0 0 0, SV.bool false, SV.slice 7 2 0 len none, SV.int IntKind.i64 (IntKind.i64.wrap (i + 1))]],
  [Row.vec true Knd.bool xs, Row.own [SV.int IntKind.i64 w, SV.int IntKind.i64 d, SV.int IntKind.i64 h, SV.slice 0 1 off ln none, SV.unk],
  Row.own [SV.int IntKind.i64 a.x, SV.int IntKind.i64 a.y, SV.int IntKind.i64 a.z], Row.own [SV.int IntKind.i64 b.x, SV.int IntKind.i64 b.y, SV.int IntKind.i64 b.z], Row.gone,
  Row.gone, Row.gone, Row.vec false Knd.pt l])
  else
  bif decide (0 ≤ IntKind.i64.wrap (i - 1)) && decide (IntKind.i64.wrap (i - 1) < (↑len : Int)) then
  bif decide (0 + (IntKind.i64.wrap (i - 1)).toNat < l.length) then
  bif inR a.x && inR b.x && (inPt (l.getD (0 + (IntKind.i64.wrap (i - 1)).toNat) Knd.pt.dflt) && inPt (l.getD (0 + i.toNat) Knd.pt.dflt)) then
  bif inR a.y && inR b.y && (inPt (l.getD (0 + (IntKind.i64.wrap (i - 1)).toNat) Knd.pt.dflt) && inPt (l.getD (0 + i.toNat) Knd.pt.dflt)) then
  bif inR a.z && inR b.z && (inPt (l.getD (0 + (IntKind.i64.wrap (i - 1)).toNat) Knd.pt.dflt) && inPt (l.getD (0 + i.toNat) Knd.pt.dflt)) then
  bif decide (off + ln ≤ xs.length) then
  bif
  (mpOf w d h ln fun j => xs.getD (off + j) false).solid (betC a.x b.x (l.getD (0 + (IntKind.i64.wrap (i - 1)).toNat) Knd.pt.dflt) (l.getD (0 + i.toNat) Knd.pt.dflt))
  (betC a.y b.y (l.getD (0 + (IntKind.i64.wrap (i - 1)).toNat) Knd.pt.dflt) (l.getD (0 + i.toNat) Knd.pt.dflt))
  (betC a.z b.z (l.getD (0 + (IntKind.i64.wrap (i - 1)).toNat) Knd.pt.dflt) (l.getD (0 + i.toNat) Knd.pt.dflt)) then
  some
  (SV.tuple [SV.nils, SV.tuple [SV.ptr 1 0 0 0, SV.ptr 2 0 0 0, SV.ptr 3 0 0 0, SV.bool false, SV.slice 7 2 0 len none, SV.int IntKind.i64 i]],
  [Row.vec true Knd.bool xs, Row.own [SV.int IntKind.i64 w, SV.int IntKind.i64 d, SV.int IntKind.i64 h, SV.slice 0 1 off ln none, SV.unk],
  Row.own [SV.int IntKind.i64 a.x, SV.int IntKind.i64 a.y, SV.int IntKind.i64 a.z],
  Row.own [SV.int IntKind.i64 b.x, SV.int IntKind.i64 b.y, SV.int IntKind.i64 b.z], Row.gone, Row.gone, Row.gone, Row.vec false Knd.pt l])
  else
  some
  (SV.tuple [SV.nilp, SV.tuple [SV.ptr 1 0 0 0, SV.ptr 2 0 0 0, SV.ptr 3 0 0 0, SV.bool false, SV.slice 7 2 0 len none, SV.int IntKind.i64 (IntKind.i64.wrap (i + 1))]],
  [Row.vec true Knd.bool xs, Row.own [SV.int IntKind.i64 w, SV.int IntKind.i64 d, SV.int IntKind.i64 h, SV.slice 0 1 off ln none, SV.unk],
  Row.own [SV.int IntKind.i64 a.x, SV.int IntKind.i64 a.y, SV.int IntKind.i64 a.z],
  Row.own [SV.int IntKind.i64 b.x, SV.int IntKind.i64 b.y, SV.int IntKind.i64 b.z], Row.gone, Row.gone, Row.gone, Row.vec false Knd.pt l])
  else none
  else none
  else none
  else none
  else none
  else none
  else none
  else none
  else none
  else none
  else none
  else none
  else
  some
  (SV.tuple [SV.ptr 0 0 0 0, SV.tuple [SV.ptr 1 0 0 0, SV.ptr 2 0 0 0, SV.ptr 3 0 0 0, SV.bool false, SV.slice 7 2 0 len none, SV.int IntKind.i64 i]],
  [Row.vec true Knd.bool xs, Row.own [SV.int IntKind.i64 w, SV.int IntKind.i64 d, SV.int IntKind.i64 h, SV.slice 0 1 off ln none, SV.unk],
  Row.own [SV.int IntKind.i64 a.x, SV.int IntKind.i64 a.y, SV.int IntKind.i64 a.z], Row.own [SV.int IntKind.i64 b.x, SV.int IntKind.i64 b.y, SV.int IntKind.i64 b.z], Row.gone, Row.gone,
  Row.gone, Row.vec false Knd.pt l]) := by kernel_rfl

/-- Is the line's part i, or what lies between it and the one ahead of it, in a solid cell? -/
def hitT (F : Int → Int → Int → Bool) (a b : V3) (l : List Pt) (i : Nat) : Bool :=
  F (cellAt a.x b.x (l.getD (0 + i) Knd.pt.dflt).p (l.getD (0 + i) Knd.pt.dflt).q) (cellAt a.y b.y (l.getD (0 + i) Knd.pt.dflt).p (l.getD (0 + i) Knd.pt.dflt).q) (cellAt a.z b.z (l.getD (0 + i) Knd.pt.dflt).p (l.getD (0 + i) Knd.pt.dflt).q) ||
  (!((i : Int) == 0) && F (betC a.x b.x (l.getD (0 + (i - 1)) Knd.pt.dflt) (l.getD (0 + i) Knd.pt.dflt)) (betC a.y b.y (l.getD (0 + (i - 1)) Knd.pt.dflt) (l.getD (0 + i) Knd.pt.dflt)) (betC a.z b.z (l.getD (0 + (i - 1)) Knd.pt.dflt) (l.getD (0 + i) Knd.pt.dflt)))
def rvOk (off ln : Nat) (xs : List Bool) (a b : V3) (l : List Pt) (len : Nat) : Bool := (((inR a.x && inR b.x) && ((inR a.y && inR b.y) && (inR a.z && inR b.z))) && (l.all inPt && decide (off + ln ≤ xs.length))) && (decide (len = l.length) && decide (len ≤ 900))
section
variable {w d h : Int} {off ln : Nat} {xs : List Bool} {a b : V3} {l : List Pt}
set_option maxHeartbeats 0 in
theorem rv_loop (hc : rvOk off ln xs a b l l.length = true) :
    (anyB (fun i => hitT (mpOf w d h ln fun j => xs.getD (off + j) false).solid a b l i.toNat) l.length 0 = true → LoopTo rdRv (valRv l.length 0) (rowRv w d h off ln xs a b l) .ret (valRv l.length (posB (fun i => hitT (mpOf w d h ln fun j => xs.getD (off + j) false).solid a b l i.toNat) l.length 0)) (rowRv w d h off ln xs a b l)) ∧
    (anyB (fun i => hitT (mpOf w d h ln fun j => xs.getD (off + j) false).solid a b l i.toNat) l.length 0 = false → LoopTo rdRv (valRv l.length 0) (rowRv w d h off ln xs a b l) (.exit 0) (valRv l.length (l.length : Int)) (rowRv w d h off ln xs a b l)) := by
  unfold rvOk at hc
  simp only [Bool.and_eq_true, decide_eq_true_eq] at hc
  obtain ⟨⟨⟨⟨h1, h2⟩, ⟨h3, h4⟩, h5, h6⟩, h7, h8⟩, _, h9⟩ := hc
  have key := loop_any (rd := rdRv) (val := valRv l.length) (valR := valRv l.length) (R := rowRv w d h off ln xs a b l) (p := fun i => hitT (mpOf w d h ln fun j => xs.getD (off + j) false).solid a b l i.toNat) (W := (l.length : Int)) (ex := 0) (i0 := 0) (fun i i0 i1 => ?_) ?_ l.length 0 (by omega) (by omega)
  · exact key
  · obtain ⟨i, rfl⟩ : ∃ k : Nat, i = k := ⟨i.toNat, by omega⟩
    have hin : ∀ j, j < l.length → inPt (l.getD (0 + j) Knd.pt.dflt) = true := by
      intro j hj
      show inPt (l.getD (0 + j) ⟨0, 0⟩) = true
      rw [List.getD_eq_getElem?_getD, List.getElem?_eq_getElem (by omega)]
      exact List.all_eq_true.1 h7 _ (List.getElem_mem _)
    have e1 : ((i : Int)).toNat = i := by omega
    rw [rv_round, e1, decide_eq_true i1, decide_eq_true i0, decide_eq_true (show 0 + i < l.length by omega), h1, h2, h3, h4, h5, h6, hin i (by omega), decide_eq_true h8, IntWalk.i64_in ((i : Int) + 1) (by omega)]
    simp only [Bool.and_self, cond_true]
    unfold hitT
    generalize (mpOf w d h ln fun j => xs.getD (off + j) false).solid (cellAt a.x b.x (l.getD (0 + i) Knd.pt.dflt).p (l.getD (0 + i) Knd.pt.dflt).q) (cellAt a.y b.y (l.getD (0 + i) Knd.pt.dflt).p (l.getD (0 + i) Knd.pt.dflt).q) (cellAt a.z b.z (l.getD (0 + i) Knd.pt.dflt).p (l.getD (0 + i) Knd.pt.dflt).q) = S
    cases S with
    | true => rfl
    | false =>
      simp only [cond_false, Bool.false_or]
      cases hz : (i : Int) == 0 with
      | true => rfl
      | false =>
        have hi : (i : Int) ≠ 0 := by simpa using hz
        have e2 : IntKind.i64.wrap ((i : Int) - 1) = ((i - 1 : Nat) : Int) := by rw [IntWalk.i64_in _ (by omega)]; omega
        rw [e2, show (((i - 1 : Nat) : Int)).toNat = i - 1 by omega, decide_eq_true (show (0 : Int) ≤ ((i - 1 : Nat) : Int) by omega), decide_eq_true (show ((i - 1 : Nat) : Int) < (l.length : Int) by omega), decide_eq_true (show 0 + (i - 1) < l.length by omega), hin (i - 1) (by omega)]
        simp only [Bool.and_self, cond_true, cond_false, Bool.not_false, Bool.true_and]
        rfl
  · rw [rv_round, decide_eq_false (by omega)]
    rfl
end

set_option maxHeartbeats 0 in
noncomputable def outRv (v : List SV) (R : List Row) (k : Ex → List SV → List Row → Option Res2) : Option Res2 := match v, R with
  | [.ptr 1 0 0 0, .ptr 2 0 0 0, .ptr 3 0 0 0, .bool r, .slice 7 2 0 len none, .int .i64 i], [.vec true .bool xs, .own [.int .i64 w, .int .i64 d, .int .i64 h, .slice 0 1 off ln none, .unk], .own [.int .i64 ax, .int .i64 ay, .int .i64 az], .own [.int .i64 bx, .int .i64 b_y, .int .i64 bz], .gone, .gone, .gone, .vec false .pt l] =>
      bif (!r && decide (i = 0)) && rvOk off ln xs ⟨ax, ay, az⟩ ⟨bx, b_y, bz⟩ l len then
        (bif anyB (fun i => hitT (mpOf w d h ln fun j => xs.getD (off + j) false).solid ⟨ax, ay, az⟩ ⟨bx, b_y, bz⟩ l i.toNat) len 0 then k .ret (valRv len (posB (fun i => hitT (mpOf w d h ln fun j => xs.getD (off + j) false).solid ⟨ax, ay, az⟩ ⟨bx, b_y, bz⟩ l i.toNat) len 0)) (rowRv w d h off ln xs ⟨ax, ay, az⟩ ⟨bx, b_y, bz⟩ l)
        else k (.exit 0) (valRv len (len : Int)) (rowRv w d h off ln xs ⟨ax, ay, az⟩ ⟨bx, b_y, bz⟩ l)) else none
  | _, _ => none
set_option maxHeartbeats 0 in
theorem lpoRv_ok : LpOk 24 [0, 1, 0, 1, 1, 1, 1, 1, 1, 1, 1] (loopF 124 [3, 4, 5, 6, 9, 10] outRv) := by
  intro b hat s K r h
  refine loopF_ok (fuel := 100) xRv_ok lok_none hat (fun v R k r hr => ?_) h
  have hbody := at_body Try.func24 hat
  subst hbody
  unfold outRv at hr
  split at hr
  · rename_i rr len i xs w d h off ln ax ay az bx b_y bz l
    obtain ⟨hb, hr2⟩ := cond_some hr
    simp only [Bool.and_eq_true, decide_eq_true_eq, Bool.not_eq_true'] at hb
    obtain ⟨⟨rfl, rfl⟩, h3⟩ := hb
    have e1 : len = List.length (α := Pt) l := by
      unfold rvOk at h3
      simp only [Bool.and_eq_true, decide_eq_true_eq] at h3
      exact h3.2.1
    subst e1
    have hl := rv_loop (w := w) (d := d) (h := h) h3
    cases hq : anyB (fun i => hitT (mpOf w d h ln fun j => xs.getD (off + j) false).solid ⟨ax, ay, az⟩ ⟨bx, b_y, bz⟩ l i.toNat) (List.length (α := Pt) l) 0 with
    | true => rw [hq, cond_true] at hr2; exact ⟨_, _, _, hr2, hl.1 hq⟩
    | false => rw [hq, cond_false] at hr2; exact ⟨_, _, _, hr2, hl.2 hq⟩
  · cases hr
noncomputable def lpoRv : Lpo := ⟨_, _, _, lpoRv_ok⟩

set_option maxRecDepth 100000 in
set_option maxHeartbeats 0 in
theorem rsight_tree (w d h : Int) (off ln : Nat) (xs : List Bool) (a b : V3) : runK xRv (loopOf [lpoRv]) 300 24 Try.f24 0 [mapS w d h (.slice 0 1 off ln none) .unk, .agg a.sv, .agg b.sv] [.vec true .bool xs] =
  bif in64B a.x then
  bif in64B a.y then
  bif in64B a.z then
  bif decide (off + ln ≤ xs.length) then
  bif in64B b.x then
  bif in64B b.y then
  bif in64B b.z then
  bif decide (off + ln ≤ xs.length) then
  bif
  bif (mpOf w d h ln fun j => xs.getD (off + j) false).solid (a.x / 65536) (a.y / 65536) (a.z / 65536) == false then
  (mpOf w d h ln fun j => xs.getD (off + j) false).solid (b.x / 65536) (b.y / 65536) (b.z / 65536)
  else true then
  some (SV.bool false, [])
  else
  bif crOk a.x b.x 2 [Pt.mk 0 1, Pt.mk 1 1] then
  bif crOk a.y b.y (crossT a.x b.x [Pt.mk 0 1, Pt.mk 1 1]).length (crossT a.x b.x [Pt.mk 0 1, Pt.mk 1 1]) then
  bif crOk a.z b.z (crossT a.y b.y (crossT a.x b.x [Pt.mk 0 1, Pt.mk 1 1])).length (crossT a.y b.y (crossT a.x b.x [Pt.mk 0 1, Pt.mk 1 1])) then
  bif
  rvOk off ln xs a b (crossT a.z b.z (crossT a.y b.y (crossT a.x b.x [Pt.mk 0 1, Pt.mk 1 1])))
  (crossT a.z b.z (crossT a.y b.y (crossT a.x b.x [Pt.mk 0 1, Pt.mk 1 1]))).length then
  bif
  anyB (fun i => hitT (mpOf w d h ln fun j => xs.getD (off + j) false).solid a b (crossT a.z b.z (crossT a.y b.y (crossT a.x b.x [Pt.mk 0 1, Pt.mk 1 1]))) i.toNat)
  (crossT a.z b.z (crossT a.y b.y (crossT a.x b.x [Pt.mk 0 1, Pt.mk 1 1]))).length 0 then
  some (SV.bool false, [])
  else some (SV.bool true, [])
  else none
  else none
  else none
  else none
  else none
  else none
  else none
  else none
  else none
  else none
  else none
  else none := by kernel_rfl

end Go.Proofs.Ytikifgbbiffclaa
