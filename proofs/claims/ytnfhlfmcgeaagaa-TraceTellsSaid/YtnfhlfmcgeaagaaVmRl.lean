/- The reference's grid: Clear's middle and outer loop; Clear as a contract. -/
import Derived.Test.YtnfhlfmcgeaagaaVmRk
namespace Go.Proofs.Ytnfhlfmcgeaagaa
set_option linter.unusedSimpArgs false
set_option linter.unusedVariables false
open Go.RowKit

section
variable {w d h : Int} {off len : Nat} {xs : List Bool} {lo hi : V3}
theorem cy_loop (hc : cOk w d h off len xs lo hi = true) {z : Int} (hz : 0 ≤ z ∧ z ≤ 31) :
    ((mpOf w d h len fun j => xs.getD (off + j) false).hitZ lo hi z = true → LoopTo rdCy (valCy false z 0) (rowC w d h off len xs lo hi) .ret (valCy false z (posB ((mpOf w d h len fun j => xs.getD (off + j) false).hitY lo hi z) d.toNat 0)) (rowC w d h off len xs lo hi)) ∧
    ((mpOf w d h len fun j => xs.getD (off + j) false).hitZ lo hi z = false → LoopTo rdCy (valCy false z 0) (rowC w d h off len xs lo hi) (.exit 2) (valCy false z d) (rowC w d h off len xs lo hi)) := by
  obtain ⟨⟨h1, h2, h3⟩, ⟨f1, f2⟩, ⟨l1, l2, l3⟩, h4⟩ := cOk_iff.1 hc
  have key := loop_any (rd := rdCy) (val := valCy false z) (valR := valCy false z) (R := rowC w d h off len xs lo hi) (p := (mpOf w d h len fun j => xs.getD (off + j) false).hitY lo hi z) (W := d) (ex := 2) (fun y y0 y1 => ?_) ?_ d.toNat 0 (by omega) (by omega)
  · exact key
  · rw [cy_round, decide_eq_true y1, hc, decide_eq_true hz.1, decide_eq_true hz.2, decide_eq_true y0, decide_eq_true (show y ≤ 31 by omega), IntWalk.i64_in (y + 1) (by omega)]
    rfl
  · rw [cy_round, decide_eq_false (by omega)]
    rfl
end

set_option maxHeartbeats 0 in
noncomputable def outCy (v : List SV) (R : List Row) (k : Ex → List SV → List Row → Option Res2) : Option Res2 := match v, R with
  | [.ptr 1 0 0 0, .ptr 2 0 0 0, .ptr 3 0 0 0, .bool b, .int .i64 z, .int .i64 y], [.vec true .bool xs, .own [.int .i64 w, .int .i64 d, .int .i64 h, .slice 0 1 off len none, .unk], .own [.int .i64 lx, .int .i64 ly, .int .i64 lz], .own [.int .i64 hx, .int .i64 hy, .int .i64 hz]] =>
      bif (!b && decide (y = 0)) && ((decide (0 ≤ z) && decide (z ≤ 31)) && cOk w d h off len xs ⟨lx, ly, lz⟩ ⟨hx, hy, hz⟩) then
        (bif (mpOf w d h len fun j => xs.getD (off + j) false).hitZ ⟨lx, ly, lz⟩ ⟨hx, hy, hz⟩ z then k .ret (valCy false z (posB ((mpOf w d h len fun j => xs.getD (off + j) false).hitY ⟨lx, ly, lz⟩ ⟨hx, hy, hz⟩ z) d.toNat 0)) (rowC w d h off len xs ⟨lx, ly, lz⟩ ⟨hx, hy, hz⟩)
        else k (.exit 2) (valCy false z d) (rowC w d h off len xs ⟨lx, ly, lz⟩ ⟨hx, hy, hz⟩)) else none
  | _, _ => none
set_option maxHeartbeats 0 in
theorem lpoCy_ok : LpOk 25 [0, 1, 0, 0, 1, 0, 0, 1, 0, 1, 1, 1, 1] (loopF 117 [3, 4, 5, 6, 8, 9] outCy) := by
  intro b hat s K r h
  refine loopF_ok (fuel := 100) xRc_ok (loopOf_ok (l := [lpoCx])) hat (fun v R k r hr => ?_) h
  have hbody := at_body Try.func25 hat
  subst hbody
  unfold outCy at hr
  split at hr
  · rename_i bb z y xs w d h off len lx ly lz hx hy hz
    obtain ⟨hb, hr2⟩ := cond_some hr
    simp only [Bool.and_eq_true, decide_eq_true_eq, Bool.not_eq_true'] at hb
    obtain ⟨⟨rfl, rfl⟩, h1, h3⟩ := hb
    obtain ⟨k1, k2⟩ := cy_loop h3 h1
    cases hq : (mpOf w d h len fun j => xs.getD (off + j) false).hitZ ⟨lx, ly, lz⟩ ⟨hx, hy, hz⟩ z with
    | true => rw [hq, cond_true] at hr2; exact ⟨_, _, _, hr2, k1 hq⟩
    | false => rw [hq, cond_false] at hr2; exact ⟨_, _, _, hr2, k2 hq⟩
  · cases hr
noncomputable def lpoCy : Lpo := ⟨_, _, _, lpoCy_ok⟩

noncomputable def rdCz : List SV → List Row → Option Res2 := roundS xRc (loopOf [lpoCy]) 100 25 [0, 1, 0, 1, 1, 1, 1] (bodyAt Try.f25 [0, 1, 0, 1, 1, 1, 1]) 117 4 [3, 4, 5, 6, 8]

set_option maxRecDepth 100000 in
set_option maxHeartbeats 0 in
theorem cz_round (w d h : Int) (off len : Nat) (xs : List Bool) (lo hi : V3) (z : Int) : rdCz (valCz false z) (rowC w d h off len xs lo hi) =
  bif decide (z < h) then
  bif decide (0 ≤ z) && decide (z ≤ 31) && cOk w d h off len xs lo hi then
  bif (mpOf w d h len fun j => xs.getD (off + j) false).hitZ lo hi z then
  some
  (SV.tuple [SV.nils, SV.tuple [SV.ptr 1 0 0 0, SV.ptr 2 0 0 0, SV.ptr 3 0 0 0, SV.bool false, SV.int IntKind.i64 z]],
  [Row.vec true Knd.bool xs, Row.own [SV.int IntKind.i64 w, SV.int IntKind.i64 d, SV.int IntKind.i64 h, SV.slice 0 1 off len none, SV.unk],
  Row.own [SV.int IntKind.i64 lo.x, SV.int IntKind.i64 lo.y, SV.int IntKind.i64 lo.z], Row.own [SV.int IntKind.i64 hi.x, SV.int IntKind.i64 hi.y, SV.int IntKind.i64 hi.z]])
  else
  some
  (SV.tuple [SV.nilp, SV.tuple [SV.ptr 1 0 0 0, SV.ptr 2 0 0 0, SV.ptr 3 0 0 0, SV.bool false, SV.int IntKind.i64 (IntKind.i64.wrap (z + 1))]],
  [Row.vec true Knd.bool xs, Row.own [SV.int IntKind.i64 w, SV.int IntKind.i64 d, SV.int IntKind.i64 h, SV.slice 0 1 off len none, SV.unk],
  Row.own [SV.int IntKind.i64 lo.x, SV.int IntKind.i64 lo.y, SV.int IntKind.i64 lo.z], Row.own [SV.int IntKind.i64 hi.x, SV.int IntKind.i64 hi.y, SV.int IntKind.i64 hi.z]])
  else none
  else
  some
  (SV.tuple [SV.ptr 0 0 0 0, SV.tuple [SV.ptr 1 0 0 0, SV.ptr 2 0 0 0, SV.ptr 3 0 0 0, SV.bool false, SV.int IntKind.i64 z]],
  [Row.vec true Knd.bool xs, Row.own [SV.int IntKind.i64 w, SV.int IntKind.i64 d, SV.int IntKind.i64 h, SV.slice 0 1 off len none, SV.unk],
  Row.own [SV.int IntKind.i64 lo.x, SV.int IntKind.i64 lo.y, SV.int IntKind.i64 lo.z], Row.own [SV.int IntKind.i64 hi.x, SV.int IntKind.i64 hi.y, SV.int IntKind.i64 hi.z]]) := by kernel_rfl

section
variable {w d h : Int} {off len : Nat} {xs : List Bool} {lo hi : V3}
theorem cz_loop (hc : cOk w d h off len xs lo hi = true) :
    ((mpOf w d h len fun j => xs.getD (off + j) false).hit lo hi = true → LoopTo rdCz (valCz false 0) (rowC w d h off len xs lo hi) .ret (valCz false (posB ((mpOf w d h len fun j => xs.getD (off + j) false).hitZ lo hi) h.toNat 0)) (rowC w d h off len xs lo hi)) ∧
    ((mpOf w d h len fun j => xs.getD (off + j) false).hit lo hi = false → LoopTo rdCz (valCz false 0) (rowC w d h off len xs lo hi) (.exit 0) (valCz false h) (rowC w d h off len xs lo hi)) := by
  obtain ⟨⟨h1, h2, h3⟩, ⟨f1, f2⟩, ⟨l1, l2, l3⟩, h4⟩ := cOk_iff.1 hc
  have key := loop_any (rd := rdCz) (val := valCz false) (valR := valCz false) (R := rowC w d h off len xs lo hi) (p := (mpOf w d h len fun j => xs.getD (off + j) false).hitZ lo hi) (W := h) (ex := 0) (fun z z0 z1 => ?_) ?_ h.toNat 0 (by omega) (by omega)
  · exact key
  · rw [cz_round, decide_eq_true z1, hc, decide_eq_true z0, decide_eq_true (show z ≤ 31 by omega), IntWalk.i64_in (z + 1) (by omega)]
    rfl
  · rw [cz_round, decide_eq_false (by omega)]
    rfl
end

set_option maxHeartbeats 0 in
noncomputable def outCz (v : List SV) (R : List Row) (k : Ex → List SV → List Row → Option Res2) : Option Res2 := match v, R with
  | [.ptr 1 0 0 0, .ptr 2 0 0 0, .ptr 3 0 0 0, .bool b, .int .i64 z], [.vec true .bool xs, .own [.int .i64 w, .int .i64 d, .int .i64 h, .slice 0 1 off len none, .unk], .own [.int .i64 lx, .int .i64 ly, .int .i64 lz], .own [.int .i64 hx, .int .i64 hy, .int .i64 hz]] =>
      bif (!b && decide (z = 0)) && cOk w d h off len xs ⟨lx, ly, lz⟩ ⟨hx, hy, hz⟩ then
        (bif (mpOf w d h len fun j => xs.getD (off + j) false).hit ⟨lx, ly, lz⟩ ⟨hx, hy, hz⟩ then k .ret (valCz false (posB ((mpOf w d h len fun j => xs.getD (off + j) false).hitZ ⟨lx, ly, lz⟩ ⟨hx, hy, hz⟩) h.toNat 0)) (rowC w d h off len xs ⟨lx, ly, lz⟩ ⟨hx, hy, hz⟩)
        else k (.exit 0) (valCz false h) (rowC w d h off len xs ⟨lx, ly, lz⟩ ⟨hx, hy, hz⟩)) else none
  | _, _ => none
set_option maxHeartbeats 0 in
theorem lpoCz_ok : LpOk 25 [0, 1, 0, 1, 1, 1, 1] (loopF 117 [3, 4, 5, 6, 8] outCz) := by
  intro b hat s K r h
  refine loopF_ok (fuel := 100) xRc_ok (loopOf_ok (l := [lpoCy])) hat (fun v R k r hr => ?_) h
  have hbody := at_body Try.func25 hat
  subst hbody
  unfold outCz at hr
  split at hr
  · rename_i bb z xs w d h off len lx ly lz hx hy hz
    obtain ⟨hb, hr2⟩ := cond_some hr
    simp only [Bool.and_eq_true, decide_eq_true_eq, Bool.not_eq_true'] at hb
    obtain ⟨⟨rfl, rfl⟩, h3⟩ := hb
    obtain ⟨k1, k2⟩ := cz_loop h3
    cases hq : (mpOf w d h len fun j => xs.getD (off + j) false).hit ⟨lx, ly, lz⟩ ⟨hx, hy, hz⟩ with
    | true => rw [hq, cond_true] at hr2; exact ⟨_, _, _, hr2, k1 hq⟩
    | false => rw [hq, cond_false] at hr2; exact ⟨_, _, _, hr2, k2 hq⟩
  · cases hr
noncomputable def lpoCz : Lpo := ⟨_, _, _, lpoCz_ok⟩

set_option maxRecDepth 100000 in
set_option maxHeartbeats 0 in
theorem rclear_tree (w d h : Int) (len off : Nat) (xs : List Bool) (lo hi : V3) : runK xRc (loopOf [lpoCz]) 300 25 Try.f25 0 [mapS w d h (.slice 0 1 off len none) .unk, .agg lo.sv, .agg hi.sv] [.vec true .bool xs] =
  bif bif (bif decide (lo.x ≥ hi.x) == false then decide (lo.y ≥ hi.y) else true) == false then decide (lo.z ≥ hi.z) else true then some (SV.bool true, [])
  else
  bif
  bif
  (bif
  (bif (bif (!(mpOf w d h len fun j => xs.getD (off + j) false).sized) == false then decide (min (min lo.x lo.y) lo.z < 0) else true) == false then
  decide (hi.x > IntKind.i64.wrap (w * 65536))
  else true) ==
  false then
  decide (hi.y > IntKind.i64.wrap (d * 65536))
  else true) ==
  false then
  decide (hi.z > IntKind.i64.wrap (h * 65536))
  else true then
  some (SV.bool false, [])
  else bif cOk w d h off len xs lo hi then bif (mpOf w d h len fun j => xs.getD (off + j) false).hit lo hi then some (SV.bool false, []) else some (SV.bool true, []) else none := by kernel_rfl

theorem rclear_val {w d h : Int} {len off : Nat} {xs : List Bool} {lo hi : V3} (f1 : lo.fits) (f2 : hi.fits) (hl : off + len ≤ xs.length) : runK xRc (loopOf [lpoCz]) 300 25 Try.f25 0 [mapS w d h (.slice 0 1 off len none) .unk, .agg lo.sv, .agg hi.sv] [.vec true .bool xs] = some (.bool ((mpOf w d h len fun j => xs.getD (off + j) false).clear lo hi), []) := by
  rw [rclear_tree]
  simp only [or_form]
  refine bif_law (fun h0 => ?_) (fun h0 => ?_)
  · rw [Mp.clear_true]
    simp only [Bool.or_eq_true, decide_eq_true_eq] at h0
    rcases h0 with (h0 | h0) | h0
    · exact .inl (by omega)
    · exact .inr (.inl (by omega))
    · exact .inr (.inr (.inl (by omega)))
  · simp only [Bool.or_eq_false_iff, decide_eq_false_iff_not] at h0
    obtain ⟨⟨l1, l2⟩, l3⟩ := h0
    cases hs : (mpOf w d h len fun j => xs.getD (off + j) false).sized with
    | false =>
      rw [clear_out (by omega) (by omega) (by omega) (.inl hs)]
      simp only [Bool.not_false, Bool.true_or, cond_true]
    | true =>
      have hz := (sized_iff.1 hs).1
      have e1 : (mpOf w d h len fun j => xs.getD (off + j) false).w = w := rfl
      have e2 : (mpOf w d h len fun j => xs.getD (off + j) false).d = d := rfl
      have e3 : (mpOf w d h len fun j => xs.getD (off + j) false).h = h := rfl
      rw [e1, e2, e3] at hz
      rw [IntWalk.i64_in (w * 65536) (by omega), IntWalk.i64_in (d * 65536) (by omega), IntWalk.i64_in (h * 65536) (by omega)]
      simp only [Bool.not_true, Bool.false_or]
      refine bif_law (fun h1 => ?_) (fun h1 => ?_)
      · rw [clear_out (by omega) (by omega) (by omega) (.inr ?_)]
        rw [e1, e2, e3]
        simp only [Bool.or_eq_true, decide_eq_true_eq] at h1
        omega
      · simp only [Bool.or_eq_false_iff, decide_eq_false_iff_not] at h1
        rw [clear_hit (by omega) (by omega) (by omega) (by omega) (by omega) (by omega) (by rw [e1]; omega) (by rw [e2]; omega) (by rw [e3]; omega)]
        rw [cOk_iff.2 ⟨⟨by omega, by omega, by omega⟩, ⟨f1, f2⟩, ⟨by omega, by omega, by omega⟩, hl⟩]
        simp only [cond_true]
        cases (mpOf w d h len fun j => xs.getD (off + j) false).hit lo hi <;> rfl

def oRClear0 (v : Mp → V3 → V3 → Bool) (args : List SV) (rows : List Row) : Option Eff :=
  match args with
  | [.agg [.int .i64 w, .int .i64 d, .int .i64 h, .slice id st off len _, sp], .agg [.int .i64 a, .int .i64 b, .int .i64 c], .agg [.int .i64 p, .int .i64 q, .int .i64 r]] => match rows[id]? with
    | some (.vec _ .bool xs) => bif Nat.beq st 1 && sp.one then some { ok := (fitsB ⟨a, b, c⟩ && fitsB ⟨p, q, r⟩) && decide (off + len ≤ xs.length), val := .bool (v (mpOf w d h len fun j => xs.getD (off + j) false) ⟨a, b, c⟩ ⟨p, q, r⟩), rd := [id] } else none
    | _ => none
  | _ => none
noncomputable def oRClear := oRClear0 Mp.clear
theorem oRClear_ok {args : List SV} {rows : List Row} {n : Nat} {e : Eff} (h : oRClear args rows = some e) (hok : e.ok = true) : FnOk Try.prog 25 args (rows[·]?) n e := by
  unfold oRClear oRClear0 at h
  split at h
  · rename_i w d hh id st off len cap sp a b c p q r
    split at h
    · rename_i ro xs hrow
      cases hb : Nat.beq st 1 && sp.one with
      | false => simp [hb] at h
      | true =>
        simp only [hb, cond_true, Option.some.injEq] at h
        subst h
        rw [Bool.and_eq_true] at hb
        have hst := Nat.eq_of_beq_eq_true hb.1
        subst hst
        simp only [Bool.and_eq_true, decide_eq_true_eq, fitsB_iff] at hok
        obtain ⟨rows', hc, _⟩ := runK_ok xRc_ok loopOf_ok Try.func25 (rclear_val (w := w) (d := d) (h := hh) hok.1.1 hok.1.2 hok.2)
        exact fnOk_map hb.2 hc rfl rfl hrow
    · cases h
  · cases h
noncomputable def orcRClear : Orc := ⟨25, oRClear, fun _ _ _ h hok => oRClear_ok h hok, bodied Try.func25 (by kernel_rfl)⟩

end Go.Proofs.Ytnfhlfmcgeaagaa
