/- The reference's walk: Step as a contract; WalkMoves' call. -/
import Derived.Test.YtihpfaeabocdbaaVmRo
import Derived.Test.YtihpfaeabocdbaaVmWk
import Derived.Test.YtihpfaeabocdbaaVmRt
import Derived.Test.YtihpfaeabocdbaaVmG11
import Derived.Test.YtihpfaeabocdbaaOpen3
namespace Go.Proofs.Ytihpfaeabocdbaa
set_option linter.unusedSimpArgs false
set_option linter.unusedVariables false
set_option maxRecDepth 100000
open Go.RowKit

noncomputable def xRq : Ctx := ctxOf [] [orcRTick]
theorem xRq_ok : COk Try.prog xRq := ctxOf_ok (by kernel_rfl)
def valRq (i : Int) : List SV := [.ptr 1 0 0 0, .ptr 2 0 0 0, .ptr 3 0 0 0, .ptr 4 0 0 0, .int .i64 i]
noncomputable def rdRq : List SV → List Row → Option Res2 := roundS xRq (fun _ _ => none) 100 16 [0, 1, 0, 1, 1] (bodyAt Try.f16 [0, 1, 0, 1, 1]) 28 5 [3, 4, 5, 6, 7]

set_option maxRecDepth 100000 in
set_option maxHeartbeats 0 in
theorem rq_round (w d h : Int) (len off : Nat) (xs : List Bool) (p : Pl) (c : Cm) (r : Pl) (i : Int) : rdRq (valRq i) (rowSw w d h len off xs p c r) =
  bif decide (i < c.ticks) then
  bif fitsB p.pos && decide (off + len ≤ xs.length) then
  some
  (SV.tuple [SV.nilp, SV.tuple [SV.ptr 1 0 0 0, SV.ptr 2 0 0 0, SV.ptr 3 0 0 0, SV.ptr 4 0 0 0, SV.int IntKind.i64 (IntKind.i64.wrap (i + 1))]],
  [Row.vec true Knd.bool xs, Row.own [SV.int IntKind.i64 w, SV.int IntKind.i64 d, SV.int IntKind.i64 h, SV.slice 0 1 off len none, SV.unk],
  Row.own
  [SV.int IntKind.i64 (tickP (mpOf w d h len fun j => xs.getD (off + j) false).slide p c).id, SV.int IntKind.i64 (tickP (mpOf w d h len fun j => xs.getD (off + j) false).slide p c).pos.x,
  SV.int IntKind.i64 (tickP (mpOf w d h len fun j => xs.getD (off + j) false).slide p c).pos.y,
  SV.int IntKind.i64 (tickP (mpOf w d h len fun j => xs.getD (off + j) false).slide p c).pos.z,
  SV.int IntKind.i64 (tickP (mpOf w d h len fun j => xs.getD (off + j) false).slide p c).vel.x,
  SV.int IntKind.i64 (tickP (mpOf w d h len fun j => xs.getD (off + j) false).slide p c).vel.y,
  SV.int IntKind.i64 (tickP (mpOf w d h len fun j => xs.getD (off + j) false).slide p c).vel.z, SV.bool (tickP (mpOf w d h len fun j => xs.getD (off + j) false).slide p c).ground,
  SV.int IntKind.i64 (tickP (mpOf w d h len fun j => xs.getD (off + j) false).slide p c).health,
  SV.int IntKind.i64 (tickP (mpOf w d h len fun j => xs.getD (off + j) false).slide p c).armour,
  SV.int IntKind.i64 (tickP (mpOf w d h len fun j => xs.getD (off + j) false).slide p c).score, SV.int IntKind.i64 (tickP (mpOf w d h len fun j => xs.getD (off + j) false).slide p c).a0,
  SV.int IntKind.i64 (tickP (mpOf w d h len fun j => xs.getD (off + j) false).slide p c).a1, SV.int IntKind.i64 (tickP (mpOf w d h len fun j => xs.getD (off + j) false).slide p c).wait,
  SV.int IntKind.i64 (tickP (mpOf w d h len fun j => xs.getD (off + j) false).slide p c).dead],
  Row.own [SV.int IntKind.u16 c.seq, SV.int IntKind.u8 c.buttons, SV.int IntKind.i8 c.dx, SV.int IntKind.i8 c.dy, SV.int IntKind.i64 c.ticks],
  Row.own
  [SV.int IntKind.i64 r.id, SV.int IntKind.i64 r.pos.x, SV.int IntKind.i64 r.pos.y, SV.int IntKind.i64 r.pos.z, SV.int IntKind.i64 r.vel.x, SV.int IntKind.i64 r.vel.y,
  SV.int IntKind.i64 r.vel.z, SV.bool r.ground, SV.int IntKind.i64 r.health, SV.int IntKind.i64 r.armour, SV.int IntKind.i64 r.score, SV.int IntKind.i64 r.a0, SV.int IntKind.i64 r.a1,
  SV.int IntKind.i64 r.wait, SV.int IntKind.i64 r.dead]])
  else none
  else
  some
  (SV.tuple [SV.ptr 0 0 0 0, SV.tuple [SV.ptr 1 0 0 0, SV.ptr 2 0 0 0, SV.ptr 3 0 0 0, SV.ptr 4 0 0 0, SV.int IntKind.i64 i]],
  [Row.vec true Knd.bool xs, Row.own [SV.int IntKind.i64 w, SV.int IntKind.i64 d, SV.int IntKind.i64 h, SV.slice 0 1 off len none, SV.unk],
  Row.own
  [SV.int IntKind.i64 p.id, SV.int IntKind.i64 p.pos.x, SV.int IntKind.i64 p.pos.y, SV.int IntKind.i64 p.pos.z, SV.int IntKind.i64 p.vel.x, SV.int IntKind.i64 p.vel.y,
  SV.int IntKind.i64 p.vel.z, SV.bool p.ground, SV.int IntKind.i64 p.health, SV.int IntKind.i64 p.armour, SV.int IntKind.i64 p.score, SV.int IntKind.i64 p.a0, SV.int IntKind.i64 p.a1,
  SV.int IntKind.i64 p.wait, SV.int IntKind.i64 p.dead],
  Row.own [SV.int IntKind.u16 c.seq, SV.int IntKind.u8 c.buttons, SV.int IntKind.i8 c.dx, SV.int IntKind.i8 c.dy, SV.int IntKind.i64 c.ticks],
  Row.own
  [SV.int IntKind.i64 r.id, SV.int IntKind.i64 r.pos.x, SV.int IntKind.i64 r.pos.y, SV.int IntKind.i64 r.pos.z, SV.int IntKind.i64 r.vel.x, SV.int IntKind.i64 r.vel.y,
  SV.int IntKind.i64 r.vel.z, SV.bool r.ground, SV.int IntKind.i64 r.health, SV.int IntKind.i64 r.armour, SV.int IntKind.i64 r.score, SV.int IntKind.i64 r.a0, SV.int IntKind.i64 r.a1,
  SV.int IntKind.i64 r.wait, SV.int IntKind.i64 r.dead]]) := by kernel_rfl

section
variable {w d h : Int} {len off : Nat} {xs : List Bool}
theorem rq_loop (hl : decide (off + len ≤ xs.length) = true) {c : Cm} {r : Pl} (h3 : c.ticks ≤ 9223372036854775807) : ∀ (k : Nat) (i : Int) (p : Pl), p.pos.fits → i + k = c.ticks → 0 ≤ i →
    LoopTo rdRq (valRq i) (rowSw w d h len off xs p c r) (.exit 0) (valRq c.ticks) (rowSw w d h len off xs (walkN (mpOf w d h len fun j => xs.getD (off + j) false).slide c k p) c r)
  | 0, i, p, hp, h1, h2 => by
    obtain rfl : i = c.ticks := by omega
    refine .done ?_ (by simp)
    rw [rq_round, decide_eq_false (by omega), cond_false]
    rfl
  | k + 1, i, p, hp, h1, h2 => by
    have hr := rq_round w d h len off xs p c r i
    rw [decide_eq_true (by omega), cond_true, hl, fitsB_iff.2 hp, IntWalk.i64_in (i + 1) (by omega)] at hr
    simp only [Bool.and_true, cond_true] at hr
    exact .more hr (rq_loop hl h3 k (i + 1) _ (tickP_fits hp) (by omega) (by omega))
end

set_option maxHeartbeats 0 in
noncomputable def outRq (v : List SV) (R : List Row) (k : Ex → List SV → List Row → Option Res2) : Option Res2 := match v, R with
  | [.ptr 1 0 0 0, .ptr 2 0 0 0, .ptr 3 0 0 0, .ptr 4 0 0 0, .int .i64 i],
    [.vec true .bool xs, .own [.int .i64 w, .int .i64 d, .int .i64 h, .slice 0 1 off len none, .unk], .own [.int .i64 a0, .int .i64 a1, .int .i64 a2, .int .i64 a3, .int .i64 a4, .int .i64 a5, .int .i64 a6, .bool a7, .int .i64 a8, .int .i64 a9, .int .i64 a10, .int .i64 a11, .int .i64 a12, .int .i64 a13, .int .i64 a14], .own [.int .u16 c0, .int .u8 c1, .int .i8 c2, .int .i8 c3, .int .i64 c4], .own [.int .i64 b0, .int .i64 b1, .int .i64 b2, .int .i64 b3, .int .i64 b4, .int .i64 b5, .int .i64 b6, .bool b7, .int .i64 b8, .int .i64 b9, .int .i64 b10, .int .i64 b11, .int .i64 b12, .int .i64 b13, .int .i64 b14]] =>
      bif (decide (i = 0) && (decide (0 ≤ c4) && decide (c4 ≤ 9223372036854775807))) && (decide (off + len ≤ xs.length) && fitsB ⟨a1, a2, a3⟩) then
        k (.exit 0) (valRq c4) (rowSw w d h len off xs (walkN (mpOf w d h len fun j => xs.getD (off + j) false).slide ⟨c0, c1, c2, c3, c4⟩ c4.toNat ⟨a0, ⟨a1, a2, a3⟩, ⟨a4, a5, a6⟩, a7, a8, a9, a10, a11, a12, a13, a14⟩) ⟨c0, c1, c2, c3, c4⟩ ⟨b0, ⟨b1, b2, b3⟩, ⟨b4, b5, b6⟩, b7, b8, b9, b10, b11, b12, b13, b14⟩) else none
  | _, _ => none
set_option maxHeartbeats 0 in
theorem lpoRq_ok : LpOk 16 [0, 1, 0, 1, 1] (loopF 28 [3, 4, 5, 6, 7] outRq) := by
  intro b hat s K r h
  refine loopF_ok (fuel := 100) xRq_ok lok_none hat (fun v R k r hr => ?_) h
  have hbody := at_body Try.func16 hat
  subst hbody
  unfold outRq at hr
  split at hr
  · rename_i i xs w d h off len a0 a1 a2 a3 a4 a5 a6 a7 a8 a9 a10 a11 a12 a13 a14 c0 c1 c2 c3 c4 b0 b1 b2 b3 b4 b5 b6 b7 b8 b9 b10 b11 b12 b13 b14
    obtain ⟨hb, hr2⟩ := cond_some hr
    simp only [Bool.and_eq_true, decide_eq_true_eq, fitsB_iff] at hb
    obtain ⟨⟨h1, h2, h3⟩, h6, h7⟩ := hb
    subst h1
    exact ⟨_, _, _, hr2, rq_loop (c := ⟨c0, c1, c2, c3, c4⟩) (r := ⟨b0, ⟨b1, b2, b3⟩, ⟨b4, b5, b6⟩, b7, b8, b9, b10, b11, b12, b13, b14⟩) (decide_eq_true h6) h3 c4.toNat 0 ⟨a0, ⟨a1, a2, a3⟩, ⟨a4, a5, a6⟩, a7, a8, a9, a10, a11, a12, a13, a14⟩ h7 (by simp only; omega) (by omega)⟩
  · cases hr
noncomputable def lpoRq : Lpo := ⟨_, _, _, lpoRq_ok⟩

set_option maxRecDepth 100000 in
set_option maxHeartbeats 0 in
theorem rq_tree (w d h : Int) (len off : Nat) (xs : List Bool) (p : Pl) (c : Cm) : runK xRq (loopOf [lpoRq]) 300 16 Try.f16 0 [mapS w d h (.slice 0 1 off len none) .unk, .agg p.sv, .agg c.sv] [.vec true .bool xs] =
  bif bif decide (c.ticks < 1) == false then decide (c.ticks > 8) else true then
  some
  (SV.agg
  [SV.int IntKind.i64 p.id, SV.int IntKind.i64 p.pos.x, SV.int IntKind.i64 p.pos.y, SV.int IntKind.i64 p.pos.z, SV.int IntKind.i64 p.vel.x, SV.int IntKind.i64 p.vel.y,
  SV.int IntKind.i64 p.vel.z, SV.bool p.ground, SV.int IntKind.i64 p.health, SV.int IntKind.i64 p.armour, SV.int IntKind.i64 p.score, SV.int IntKind.i64 p.a0, SV.int IntKind.i64 p.a1,
  SV.int IntKind.i64 p.wait, SV.int IntKind.i64 p.dead],
  [])
  else
  bif decide (0 ≤ c.ticks) && decide (c.ticks ≤ 9223372036854775807) && (decide (off + len ≤ xs.length) && fitsB p.pos) then
  some
  (SV.agg
  [SV.int IntKind.i64 (walkN (mpOf w d h len fun j => xs.getD (off + j) false).slide c c.ticks.toNat p).id,
  SV.int IntKind.i64 (walkN (mpOf w d h len fun j => xs.getD (off + j) false).slide c c.ticks.toNat p).pos.x,
  SV.int IntKind.i64 (walkN (mpOf w d h len fun j => xs.getD (off + j) false).slide c c.ticks.toNat p).pos.y,
  SV.int IntKind.i64 (walkN (mpOf w d h len fun j => xs.getD (off + j) false).slide c c.ticks.toNat p).pos.z,
  SV.int IntKind.i64 (walkN (mpOf w d h len fun j => xs.getD (off + j) false).slide c c.ticks.toNat p).vel.x,
  SV.int IntKind.i64 (walkN (mpOf w d h len fun j => xs.getD (off + j) false).slide c c.ticks.toNat p).vel.y,
  SV.int IntKind.i64 (walkN (mpOf w d h len fun j => xs.getD (off + j) false).slide c c.ticks.toNat p).vel.z,
  SV.bool (walkN (mpOf w d h len fun j => xs.getD (off + j) false).slide c c.ticks.toNat p).ground,
  SV.int IntKind.i64 (walkN (mpOf w d h len fun j => xs.getD (off + j) false).slide c c.ticks.toNat p).health,
  SV.int IntKind.i64 (walkN (mpOf w d h len fun j => xs.getD (off + j) false).slide c c.ticks.toNat p).armour,
  SV.int IntKind.i64 (walkN (mpOf w d h len fun j => xs.getD (off + j) false).slide c c.ticks.toNat p).score,
  SV.int IntKind.i64 (walkN (mpOf w d h len fun j => xs.getD (off + j) false).slide c c.ticks.toNat p).a0,
  SV.int IntKind.i64 (walkN (mpOf w d h len fun j => xs.getD (off + j) false).slide c c.ticks.toNat p).a1,
  SV.int IntKind.i64 (walkN (mpOf w d h len fun j => xs.getD (off + j) false).slide c c.ticks.toNat p).wait,
  SV.int IntKind.i64 (walkN (mpOf w d h len fun j => xs.getD (off + j) false).slide c c.ticks.toNat p).dead],
  [])
  else none := by kernel_rfl

theorem rq_val {w d h : Int} {len off : Nat} {xs : List Bool} {p : Pl} {c : Cm} (hl : decide (off + len ≤ xs.length) = true) (hp : p.pos.fits) :
    runK xRq (loopOf [lpoRq]) 300 16 Try.f16 0 [mapS w d h (.slice 0 1 off len none) .unk, .agg p.sv, .agg c.sv] [.vec true .bool xs] = some (.agg (walkP (mpOf w d h len fun j => xs.getD (off + j) false).slide p c).sv, []) := by
  rw [rq_tree]
  simp only [or_form]
  unfold walkP
  cases hc : (decide (c.ticks < 1) || decide (c.ticks > 8)) with
  | true => rfl
  | false =>
    simp only [Bool.or_eq_false_iff, decide_eq_false_iff_not] at hc
    rw [decide_eq_true (show 0 ≤ c.ticks by omega), decide_eq_true (show c.ticks ≤ 9223372036854775807 by omega), hl, fitsB_iff.2 hp]
    rfl
noncomputable def oRStep (args : List SV) (rows : List Row) : Option Eff :=
  match args with
  | [.agg [.int .i64 w, .int .i64 d, .int .i64 h, .slice id st off len _, sp], .agg [.int .i64 a0, .int .i64 a1, .int .i64 a2, .int .i64 a3, .int .i64 a4, .int .i64 a5, .int .i64 a6, .bool a7, .int .i64 a8, .int .i64 a9, .int .i64 a10, .int .i64 a11, .int .i64 a12, .int .i64 a13, .int .i64 a14], .agg [.int .u16 c0, .int .u8 c1, .int .i8 c2, .int .i8 c3, .int .i64 c4]] => match rows[id]? with
    | some (.vec _ .bool xs) => bif Nat.beq st 1 && sp.one then some { ok := fitsB ⟨a1, a2, a3⟩ && decide (off + len ≤ xs.length), val := .agg (walkP (mpOf w d h len fun j => xs.getD (off + j) false).slide ⟨a0, ⟨a1, a2, a3⟩, ⟨a4, a5, a6⟩, a7, a8, a9, a10, a11, a12, a13, a14⟩ ⟨c0, c1, c2, c3, c4⟩).sv, rd := [id] } else none
    | _ => none
  | _ => none
set_option maxHeartbeats 0 in
theorem oRStep_ok {args : List SV} {rows : List Row} {n : Nat} {e : Eff} (h : oRStep args rows = some e) (hok : e.ok = true) : FnOk Try.prog 16 args (rows[·]?) n e := by
  unfold oRStep at h
  split at h
  · rename_i wd dd hd id st off len cap sp a0 a1 a2 a3 a4 a5 a6 a7 a8 a9 a10 a11 a12 a13 a14 c0 c1 c2 c3 c4
    split at h
    · rename_i ro xs hrow
      cases hb : Nat.beq st 1 && sp.one with
      | false => simp [hb] at h
      | true =>
        simp only [hb, cond_true, Option.some.injEq] at h
        subst h
        rw [Bool.and_eq_true] at hb
        have hst := Nat.eq_of_beq_eq_true hb.1
        subst hst
        simp only [Bool.and_eq_true, fitsB_iff] at hok
        obtain ⟨h2, h3⟩ := hok
        obtain ⟨rows', hc, _⟩ := runK_ok xRq_ok loopOf_ok Try.func16 (rq_val (w := wd) (d := dd) (h := hd) (p := ⟨a0, ⟨a1, a2, a3⟩, ⟨a4, a5, a6⟩, a7, a8, a9, a10, a11, a12, a13, a14⟩) (c := ⟨c0, c1, c2, c3, c4⟩) h3 h2)
        exact fnOk_map hb.2 hc rfl rfl hrow
    · cases h
  · cases h
noncomputable def orcRStep : Orc := ⟨16, oRStep, fun _ _ _ h hok => oRStep_ok h hok, bodied Try.func16 (by kernel_rfl)⟩

noncomputable def x11m : Ctx := ctxOf [10] [orcShown11, orcRight, orcRw, orcTick, orcStepW, orcRRw, orcRTick, orcRStep]
theorem x11m_ok : COk Try.prog x11m := ctxOf_ok (by kernel_rfl)

set_option maxRecDepth 100000 in
set_option maxHeartbeats 0 in
theorem moves_tree (w d h : Int) (len ls : Nat) (xs : List Bool) (sp : List V3) (p : Pl) (c : Cm) : runK x11m (fun _ _ => none) 200 3 Try.f3 0 [mapS w d h (.slice 0 1 0 len none) (.slice 1 3 0 ls none), .agg p.sv, .agg c.sv] [.vec true .bool xs, .vec true .vec sp] =
  bif
  (mapOk w d h len && (decide (0 + len ≤ xs.length) && (decide (0 + ls ≤ sp.length) && (decide (ls ≤ 9223372036854775807) && sp.all fitsB))) && true && true ||
  (bif (bif decide (w ≤ 10) == true then decide (d ≤ 10) else false) == true then decide (h ≤ 10) else false) != true) &&
  (true || (bif (bif decide (w ≤ 10) == true then decide (d ≤ 10) else false) == true then decide (h ≤ 10) else false) == true) &&
  true then
  bif
  !bif (bif (bif decide (w ≤ 10) == true then decide (d ≤ 10) else false) == true then decide (h ≤ 10) else false) == true then
  rightE ((mpOf w d h len fun j => xs.getD (0 + j) false).right (spAt sp 0) ls) == 0
  else false then
  some (SV.bool true, [])
  else
  bif mapOk w d h len && (fitsB p.pos && decide (0 + len ≤ xs.length)) then
  bif fitsB p.pos && decide (0 + len ≤ xs.length) then
  bif !wRight (mpOf w d h len fun j => xs.getD (0 + j) false).free p == wRight (mpOf w d h len fun j => xs.getD (0 + j) false).free p then some (SV.bool false, [])
  else
  bif !wRight (mpOf w d h len fun j => xs.getD (0 + j) false).free p then some (SV.bool true, [])
  else
  bif mapOk w d h len && (fitsB p.pos && decide (0 + len ≤ xs.length)) then
  bif fitsB p.pos && decide (0 + len ≤ xs.length) then
  bif
  (tickP (mpOf w d h len fun j => xs.getD (0 + j) false).slide p c).id == (tickP (mpOf w d h len fun j => xs.getD (0 + j) false).slide p c).id &&
  ((tickP (mpOf w d h len fun j => xs.getD (0 + j) false).slide p c).pos.x == (tickP (mpOf w d h len fun j => xs.getD (0 + j) false).slide p c).pos.x &&
  ((tickP (mpOf w d h len fun j => xs.getD (0 + j) false).slide p c).pos.y == (tickP (mpOf w d h len fun j => xs.getD (0 + j) false).slide p c).pos.y &&
  ((tickP (mpOf w d h len fun j => xs.getD (0 + j) false).slide p c).pos.z == (tickP (mpOf w d h len fun j => xs.getD (0 + j) false).slide p c).pos.z &&
  ((tickP (mpOf w d h len fun j => xs.getD (0 + j) false).slide p c).vel.x == (tickP (mpOf w d h len fun j => xs.getD (0 + j) false).slide p c).vel.x &&
  ((tickP (mpOf w d h len fun j => xs.getD (0 + j) false).slide p c).vel.y == (tickP (mpOf w d h len fun j => xs.getD (0 + j) false).slide p c).vel.y &&
  ((tickP (mpOf w d h len fun j => xs.getD (0 + j) false).slide p c).vel.z == (tickP (mpOf w d h len fun j => xs.getD (0 + j) false).slide p c).vel.z &&
  ((tickP (mpOf w d h len fun j => xs.getD (0 + j) false).slide p c).ground == (tickP (mpOf w d h len fun j => xs.getD (0 + j) false).slide p c).ground &&
  ((tickP (mpOf w d h len fun j => xs.getD (0 + j) false).slide p c).health == (tickP (mpOf w d h len fun j => xs.getD (0 + j) false).slide p c).health &&
  ((tickP (mpOf w d h len fun j => xs.getD (0 + j) false).slide p c).armour == (tickP (mpOf w d h len fun j => xs.getD (0 + j) false).slide p c).armour &&
  ((tickP (mpOf w d h len fun j => xs.getD (0 + j) false).slide p c).score == (tickP (mpOf w d h len fun j => xs.getD (0 + j) false).slide p c).score &&
  ((tickP (mpOf w d h len fun j => xs.getD (0 + j) false).slide p c).a0 == (tickP (mpOf w d h len fun j => xs.getD (0 + j) false).slide p c).a0 &&
  ((tickP (mpOf w d h len fun j => xs.getD (0 + j) false).slide p c).a1 == (tickP (mpOf w d h len fun j => xs.getD (0 + j) false).slide p c).a1 &&
  ((tickP (mpOf w d h len fun j => xs.getD (0 + j) false).slide p c).wait == (tickP (mpOf w d h len fun j => xs.getD (0 + j) false).slide p c).wait &&
  ((tickP (mpOf w d h len fun j => xs.getD (0 + j) false).slide p c).dead == (tickP (mpOf w d h len fun j => xs.getD (0 + j) false).slide p c).dead &&
  true)))))))))))))) then
  bif mapOk w d h len && (fitsB p.pos && decide (0 + len ≤ xs.length)) then
  bif fitsB p.pos && decide (0 + len ≤ xs.length) then
  some
  (SV.bool
  ((walkP (mpOf w d h len fun j => xs.getD (0 + j) false).slide p c).id == (walkP (mpOf w d h len fun j => xs.getD (0 + j) false).slide p c).id &&
  ((walkP (mpOf w d h len fun j => xs.getD (0 + j) false).slide p c).pos.x == (walkP (mpOf w d h len fun j => xs.getD (0 + j) false).slide p c).pos.x &&
  ((walkP (mpOf w d h len fun j => xs.getD (0 + j) false).slide p c).pos.y == (walkP (mpOf w d h len fun j => xs.getD (0 + j) false).slide p c).pos.y &&
  ((walkP (mpOf w d h len fun j => xs.getD (0 + j) false).slide p c).pos.z == (walkP (mpOf w d h len fun j => xs.getD (0 + j) false).slide p c).pos.z &&
  ((walkP (mpOf w d h len fun j => xs.getD (0 + j) false).slide p c).vel.x == (walkP (mpOf w d h len fun j => xs.getD (0 + j) false).slide p c).vel.x &&
  ((walkP (mpOf w d h len fun j => xs.getD (0 + j) false).slide p c).vel.y == (walkP (mpOf w d h len fun j => xs.getD (0 + j) false).slide p c).vel.y &&
  ((walkP (mpOf w d h len fun j => xs.getD (0 + j) false).slide p c).vel.z == (walkP (mpOf w d h len fun j => xs.getD (0 + j) false).slide p c).vel.z &&
  ((walkP (mpOf w d h len fun j => xs.getD (0 + j) false).slide p c).ground == (walkP (mpOf w d h len fun j => xs.getD (0 + j) false).slide p c).ground &&
  ((walkP (mpOf w d h len fun j => xs.getD (0 + j) false).slide p c).health == (walkP (mpOf w d h len fun j => xs.getD (0 + j) false).slide p c).health &&
  ((walkP (mpOf w d h len fun j => xs.getD (0 + j) false).slide p c).armour == (walkP (mpOf w d h len fun j => xs.getD (0 + j) false).slide p c).armour &&
  ((walkP (mpOf w d h len fun j => xs.getD (0 + j) false).slide p c).score == (walkP (mpOf w d h len fun j => xs.getD (0 + j) false).slide p c).score &&
  ((walkP (mpOf w d h len fun j => xs.getD (0 + j) false).slide p c).a0 == (walkP (mpOf w d h len fun j => xs.getD (0 + j) false).slide p c).a0 &&
  ((walkP (mpOf w d h len fun j => xs.getD (0 + j) false).slide p c).a1 == (walkP (mpOf w d h len fun j => xs.getD (0 + j) false).slide p c).a1 &&
  ((walkP (mpOf w d h len fun j => xs.getD (0 + j) false).slide p c).wait ==
  (walkP (mpOf w d h len fun j => xs.getD (0 + j) false).slide p c).wait &&
  ((walkP (mpOf w d h len fun j => xs.getD (0 + j) false).slide p c).dead ==
  (walkP (mpOf w d h len fun j => xs.getD (0 + j) false).slide p c).dead &&
  true))))))))))))))),
  [])
  else none
  else none
  else some (SV.bool false, [])
  else none
  else none
  else none
  else none
  else none := by kernel_rfl

set_option maxHeartbeats 0 in
theorem moves_law {w d h : Int} {len ls : Nat} {xs : List Bool} {sp : List V3} {p : Pl} {c : Cm} (hw : In64 w) (hd : In64 d) (hh : In64 h) (hl : len ≤ 9223372036854775807) (hx : xs.length = len) (hs : ls ≤ 9223372036854775807) (hy : sp.length = ls) (hf : ∀ p ∈ sp, p.fits) (hp : p.pos.fits) :
    runK x11m (fun _ _ => none) 200 3 Try.f3 0 [mapS w d h (.slice 0 1 0 len none) (.slice 1 3 0 ls none), .agg p.sv, .agg c.sv] [.vec true .bool xs, .vec true .vec sp] = some (.bool true, []) := by
  rw [moves_tree]
  obtain ⟨c1, c2, c3⟩ := right_facts hw hd hh hl hx hs hy hf
  rw [c1]
  generalize (mpOf w d h len fun j => xs.getD (0 + j) false).right (spAt sp 0) ls = R
  simp only [c2, c3, fitsB_iff.2 hp, Bool.and_true, Bool.true_or, Bool.or_true, Bool.true_and, Bool.false_or, cond_true, and_form, or_form, beq_self_eq_true]
  refine bif_law (fun _ => rfl) (fun hr => ?_)
  generalize wRight (mpOf w d h len fun j => xs.getD (0 + j) false).free p = Q
  cases Q <;> rfl

end Go.Proofs.Ytihpfaeabocdbaa
