/- walk's Step, as a contract. -/
import Derived.Test.YtihpfaeabocdbaaVmTc
namespace Go.Proofs.Ytihpfaeabocdbaa
set_option linter.unusedSimpArgs false
set_option linter.unusedVariables false
set_option maxRecDepth 100000
open Go.RowKit

noncomputable def xSw : Ctx := ctxOf [] [orcTick]
theorem xSw_ok : COk Try.prog xSw := ctxOf_ok (by kernel_rfl)
def valSw (n i : Int) : List SV := [.ptr 1 0 0 0, .ptr 2 0 0 0, .ptr 3 0 0 0, .ptr 4 0 0 0, .int .i64 n, .int .i64 i]
def rowSw (w d h : Int) (len off : Nat) (xs : List Bool) (p : Pl) (c : Cm) (r : Pl) : List Row := [.vec true .bool xs, .own [.int .i64 w, .int .i64 d, .int .i64 h, .slice 0 1 off len none, .unk], .own p.sv, .own c.sv, .own r.sv]
noncomputable def rdSw : List SV → List Row → Option Res2 := roundS xSw (fun _ _ => none) 100 15 [0, 1, 0, 1, 1] (bodyAt Try.f15 [0, 1, 0, 1, 1]) 26 5 [3, 4, 5, 6, 17, 18]

set_option maxRecDepth 100000 in
set_option maxHeartbeats 0 in
theorem sw_round (w d h : Int) (len off : Nat) (xs : List Bool) (p : Pl) (c : Cm) (r : Pl) (n i : Int) : rdSw (valSw n i) (rowSw w d h len off xs p c r) =
  bif decide (i < n) then
  bif mapOk w d h len && (fitsB p.pos && decide (off + len ≤ xs.length)) then
  some
  (SV.tuple [SV.nilp, SV.tuple [SV.ptr 1 0 0 0, SV.ptr 2 0 0 0, SV.ptr 3 0 0 0, SV.ptr 4 0 0 0, SV.int IntKind.i64 n, SV.int IntKind.i64 (IntKind.i64.wrap (i + 1))]],
  [Row.vec true Knd.bool xs, Row.own [SV.int IntKind.i64 w, SV.int IntKind.i64 d, SV.int IntKind.i64 h, SV.slice 0 1 off len none, SV.unk],
  Row.own
  [SV.int IntKind.i64 (tickP (mpOf w d h len fun j => xs.getD (off + j) false).slide p c).id, SV.int IntKind.i64 (tickP (mpOf w d h len fun j => xs.getD (off + j) false).slide p c).pos.x,
  SV.int IntKind.i64 (tickP (mpOf w d h len fun j => xs.getD (off + j) false).slide p c).pos.y,
  SV.int IntKind.i64 (tickP (mpOf w d h len fun j => xs.getD (off + j) false).slide p c).pos.z,
  SV.int IntKind.i64 (tickP (mpOf w d h len fun j => xs.getD (off + j) false).slide p c).vel.x,
  SV.int IntKind.i64 (tickP (mpOf w d h len fun j => xs.getD (off + j) false).slide p c).vel.y,
  SV.int IntKind.i64 (tickP (mpOf w d h len fun j => xs.getD (off + j) false).slide p c).vel.z, SV.bool (tickP (mpOf w d h len fun j => xs.getD (off + j) false).slide p c).ground,
  SV.int IntKind.i64 (tickP (mpOf w d h len fun j => xs.getD (off + j) false).slide p c).health,
  SV.int IntKind.i64 (tickP (mpOf w d h len fun j => xs.getD (off + j) false).slide p c).armour,
  SV.int IntKind.i64 (tickP (mpOf w d h len fun j => xs.getD (off + j) false).slide p c).score, SV.int IntKind.i64 (tickP (mpOf w d h len fun j => xs.getD (off + j) false).slide p c).a0,
  SV.int IntKind.i64 (tickP (mpOf w d h len fun j => xs.getD (off + j) false).slide p c).a1, SV.int IntKind.i64 (tickP (mpOf w d h len fun j => xs.getD (off + j) false).slide p c).wait,
  SV.int IntKind.i64 (tickP (mpOf w d h len fun j => xs.getD (off + j) false).slide p c).dead],
  Row.own [SV.int IntKind.u16 c.seq, SV.int IntKind.u8 c.buttons, SV.int IntKind.i8 c.dx, SV.int IntKind.i8 c.dy, SV.int IntKind.i64 c.ticks],
  Row.own
  [SV.int IntKind.i64 r.id, SV.int IntKind.i64 r.pos.x, SV.int IntKind.i64 r.pos.y, SV.int IntKind.i64 r.pos.z, SV.int IntKind.i64 r.vel.x, SV.int IntKind.i64 r.vel.y,
  SV.int IntKind.i64 r.vel.z, SV.bool r.ground, SV.int IntKind.i64 r.health, SV.int IntKind.i64 r.armour, SV.int IntKind.i64 r.score, SV.int IntKind.i64 r.a0, SV.int IntKind.i64 r.a1,
  SV.int IntKind.i64 r.wait, SV.int IntKind.i64 r.dead]])
  else none
  else
  some
  (SV.tuple [SV.ptr 0 0 0 0, SV.tuple [SV.ptr 1 0 0 0, SV.ptr 2 0 0 0, SV.ptr 3 0 0 0, SV.ptr 4 0 0 0, SV.int IntKind.i64 n, SV.int IntKind.i64 i]],
  [Row.vec true Knd.bool xs, Row.own [SV.int IntKind.i64 w, SV.int IntKind.i64 d, SV.int IntKind.i64 h, SV.slice 0 1 off len none, SV.unk],
  Row.own
  [SV.int IntKind.i64 p.id, SV.int IntKind.i64 p.pos.x, SV.int IntKind.i64 p.pos.y, SV.int IntKind.i64 p.pos.z, SV.int IntKind.i64 p.vel.x, SV.int IntKind.i64 p.vel.y,
  SV.int IntKind.i64 p.vel.z, SV.bool p.ground, SV.int IntKind.i64 p.health, SV.int IntKind.i64 p.armour, SV.int IntKind.i64 p.score, SV.int IntKind.i64 p.a0, SV.int IntKind.i64 p.a1,
  SV.int IntKind.i64 p.wait, SV.int IntKind.i64 p.dead],
  Row.own [SV.int IntKind.u16 c.seq, SV.int IntKind.u8 c.buttons, SV.int IntKind.i8 c.dx, SV.int IntKind.i8 c.dy, SV.int IntKind.i64 c.ticks],
  Row.own
  [SV.int IntKind.i64 r.id, SV.int IntKind.i64 r.pos.x, SV.int IntKind.i64 r.pos.y, SV.int IntKind.i64 r.pos.z, SV.int IntKind.i64 r.vel.x, SV.int IntKind.i64 r.vel.y,
  SV.int IntKind.i64 r.vel.z, SV.bool r.ground, SV.int IntKind.i64 r.health, SV.int IntKind.i64 r.armour, SV.int IntKind.i64 r.score, SV.int IntKind.i64 r.a0, SV.int IntKind.i64 r.a1,
  SV.int IntKind.i64 r.wait, SV.int IntKind.i64 r.dead]]) := by kernel_rfl

theorem stepB_fits (m : Mp) (p q : V3) (d : Int) (hp : p.fits) (hq : q.fits) : (m.stepB p q d).1.fits := by
  unfold Mp.stepB
  cases m.free q
  · exact hp
  · exact hq
theorem slideW_fits (m : Mp) (p b : V3) (hp : p.fits) : (m.slide p b).1.fits := by
  unfold Mp.slide
  dsimp only
  have h1 := stepB_fits m p ⟨cut64 (p.x + clampN 32768 b.x), p.y, p.z⟩ (clampN 32768 b.x) hp ⟨cut64_fits _, hp.2.1, hp.2.2⟩
  have h2 := stepB_fits m _ ⟨(m.stepB p ⟨cut64 (p.x + clampN 32768 b.x), p.y, p.z⟩ (clampN 32768 b.x)).1.x, cut64 ((m.stepB p ⟨cut64 (p.x + clampN 32768 b.x), p.y, p.z⟩ (clampN 32768 b.x)).1.y + clampN 32768 b.y), (m.stepB p ⟨cut64 (p.x + clampN 32768 b.x), p.y, p.z⟩ (clampN 32768 b.x)).1.z⟩ (clampN 32768 b.y) h1 ⟨h1.1, cut64_fits _, h1.2.2⟩
  exact stepB_fits m _ _ _ h2 ⟨h2.1, h2.2.1, cut64_fits _⟩
theorem tickP_fits {m : Mp} {p : Pl} {c : Cm} (hp : p.pos.fits) : (tickP m.slide p c).pos.fits := by
  unfold tickP
  cases decide (p.dead > 0)
  · exact slideW_fits m _ _ hp
  · exact hp
/-- Ticks, as many as are told. -/
def walkN (S : V3 → V3 → V3 × Bool × Bool × Bool) (c : Cm) : Nat → Pl → Pl
  | 0, p => p
  | k + 1, p => walkN S c k (tickP S p c)
theorem walkN_fits {m : Mp} {c : Cm} : ∀ (k : Nat) (p : Pl), p.pos.fits → (walkN m.slide c k p).pos.fits
  | 0, _, h => h
  | k + 1, _, h => walkN_fits k _ (tickP_fits h)

section
variable {w d h : Int} {len off : Nat} {xs : List Bool}
theorem sw_loop (hm : mapOk w d h len = true) (hl : decide (off + len ≤ xs.length) = true) {n : Int} {c : Cm} {r : Pl} : ∀ (k : Nat) (i : Int) (p : Pl), p.pos.fits → i + k = n → 0 ≤ i → n ≤ 9223372036854775807 →
    LoopTo rdSw (valSw n i) (rowSw w d h len off xs p c r) (.exit 0) (valSw n n) (rowSw w d h len off xs (walkN (mpOf w d h len fun j => xs.getD (off + j) false).slide c k p) c r)
  | 0, i, p, hp, h1, h2, h3 => by
    obtain rfl : i = n := by omega
    refine .done ?_ (by simp)
    rw [sw_round, decide_eq_false (by omega), cond_false]
    rfl
  | k + 1, i, p, hp, h1, h2, h3 => by
    have hr := sw_round w d h len off xs p c r n i
    rw [decide_eq_true (by omega), cond_true, hm, hl, fitsB_iff.2 hp, IntWalk.i64_in (i + 1) (by omega)] at hr
    simp only [Bool.and_true, cond_true] at hr
    exact .more hr (sw_loop hm hl k (i + 1) _ (tickP_fits hp) (by omega) (by omega) h3)
end

set_option maxHeartbeats 0 in
noncomputable def outSw (v : List SV) (R : List Row) (k : Ex → List SV → List Row → Option Res2) : Option Res2 := match v, R with
  | [.ptr 1 0 0 0, .ptr 2 0 0 0, .ptr 3 0 0 0, .ptr 4 0 0 0, .int .i64 n, .int .i64 i],
    [.vec true .bool xs, .own [.int .i64 w, .int .i64 d, .int .i64 h, .slice 0 1 off len none, .unk], .own [.int .i64 a0, .int .i64 a1, .int .i64 a2, .int .i64 a3, .int .i64 a4, .int .i64 a5, .int .i64 a6, .bool a7, .int .i64 a8, .int .i64 a9, .int .i64 a10, .int .i64 a11, .int .i64 a12, .int .i64 a13, .int .i64 a14], .own [.int .u16 c0, .int .u8 c1, .int .i8 c2, .int .i8 c3, .int .i64 c4], .own [.int .i64 b0, .int .i64 b1, .int .i64 b2, .int .i64 b3, .int .i64 b4, .int .i64 b5, .int .i64 b6, .bool b7, .int .i64 b8, .int .i64 b9, .int .i64 b10, .int .i64 b11, .int .i64 b12, .int .i64 b13, .int .i64 b14]] =>
      bif (decide (i = 0) && (decide (0 ≤ n) && decide (n ≤ 9223372036854775807))) && (mapOk w d h len && (decide (off + len ≤ xs.length) && fitsB ⟨a1, a2, a3⟩)) then
        k (.exit 0) (valSw n n) (rowSw w d h len off xs (walkN (mpOf w d h len fun j => xs.getD (off + j) false).slide ⟨c0, c1, c2, c3, c4⟩ n.toNat ⟨a0, ⟨a1, a2, a3⟩, ⟨a4, a5, a6⟩, a7, a8, a9, a10, a11, a12, a13, a14⟩) ⟨c0, c1, c2, c3, c4⟩ ⟨b0, ⟨b1, b2, b3⟩, ⟨b4, b5, b6⟩, b7, b8, b9, b10, b11, b12, b13, b14⟩) else none
  | _, _ => none
set_option maxHeartbeats 0 in
theorem lpoSw_ok : LpOk 15 [0, 1, 0, 1, 1] (loopF 26 [3, 4, 5, 6, 17, 18] outSw) := by
  intro b hat s K r h
  refine loopF_ok (fuel := 100) xSw_ok lok_none hat (fun v R k r hr => ?_) h
  have hbody := at_body Try.func15 hat
  subst hbody
  unfold outSw at hr
  split at hr
  · rename_i n i xs w d h off len a0 a1 a2 a3 a4 a5 a6 a7 a8 a9 a10 a11 a12 a13 a14 c0 c1 c2 c3 c4 b0 b1 b2 b3 b4 b5 b6 b7 b8 b9 b10 b11 b12 b13 b14
    obtain ⟨hb, hr2⟩ := cond_some hr
    simp only [Bool.and_eq_true, decide_eq_true_eq, fitsB_iff] at hb
    obtain ⟨⟨h1, h2, h3⟩, h5, h6, h7⟩ := hb
    subst h1
    exact ⟨_, _, _, hr2, sw_loop (n := n) (c := ⟨c0, c1, c2, c3, c4⟩) (r := ⟨b0, ⟨b1, b2, b3⟩, ⟨b4, b5, b6⟩, b7, b8, b9, b10, b11, b12, b13, b14⟩) h5 (decide_eq_true h6) n.toNat 0 ⟨a0, ⟨a1, a2, a3⟩, ⟨a4, a5, a6⟩, a7, a8, a9, a10, a11, a12, a13, a14⟩ h7 (by omega) (by omega) h3⟩
  · cases hr
noncomputable def lpoSw : Lpo := ⟨_, _, _, lpoSw_ok⟩

set_option maxRecDepth 100000 in
set_option maxHeartbeats 0 in
theorem sw_tree (w d h : Int) (len off : Nat) (xs : List Bool) (p : Pl) (c : Cm) : runK xSw (loopOf [lpoSw]) 300 15 Try.f15 0 [mapS w d h (.slice 0 1 off len none) .unk, .agg p.sv, .agg c.sv] [.vec true .bool xs] =
  bif bif decide (c.ticks < 1) == false then decide (c.ticks > 8) else true then
  some
  (SV.agg
  [SV.int IntKind.i64 p.id, SV.int IntKind.i64 p.pos.x, SV.int IntKind.i64 p.pos.y, SV.int IntKind.i64 p.pos.z, SV.int IntKind.i64 p.vel.x, SV.int IntKind.i64 p.vel.y,
  SV.int IntKind.i64 p.vel.z, SV.bool p.ground, SV.int IntKind.i64 p.health, SV.int IntKind.i64 p.armour, SV.int IntKind.i64 p.score, SV.int IntKind.i64 p.a0, SV.int IntKind.i64 p.a1,
  SV.int IntKind.i64 p.wait, SV.int IntKind.i64 p.dead],
  [])
  else
  bif decide (0 ≤ c.ticks) && decide (c.ticks ≤ 9223372036854775807) && (mapOk w d h len && (decide (off + len ≤ xs.length) && fitsB p.pos)) then
  some
  (SV.agg
  [SV.int IntKind.i64 (walkN (mpOf w d h len fun j => xs.getD (off + j) false).slide c c.ticks.toNat p).id,
  SV.int IntKind.i64 (walkN (mpOf w d h len fun j => xs.getD (off + j) false).slide c c.ticks.toNat p).pos.x,
  SV.int IntKind.i64 (walkN (mpOf w d h len fun j => xs.getD (off + j) false).slide c c.ticks.toNat p).pos.y,
  SV.int IntKind.i64 (walkN (mpOf w d h len fun j => xs.getD (off + j) false).slide c c.ticks.toNat p).pos.z,
  SV.int IntKind.i64 (walkN (mpOf w d h len fun j => xs.getD (off + j) false).slide c c.ticks.toNat p).vel.x,
  SV.int IntKind.i64 (walkN (mpOf w d h len fun j => xs.getD (off + j) false).slide c c.ticks.toNat p).vel.y,
  SV.int IntKind.i64 (walkN (mpOf w d h len fun j => xs.getD (off + j) false).slide c c.ticks.toNat p).vel.z,
  SV.bool (walkN (mpOf w d h len fun j => xs.getD (off + j) false).slide c c.ticks.toNat p).ground,
  SV.int IntKind.i64 (walkN (mpOf w d h len fun j => xs.getD (off + j) false).slide c c.ticks.toNat p).health,
  SV.int IntKind.i64 (walkN (mpOf w d h len fun j => xs.getD (off + j) false).slide c c.ticks.toNat p).armour,
  SV.int IntKind.i64 (walkN (mpOf w d h len fun j => xs.getD (off + j) false).slide c c.ticks.toNat p).score,
  SV.int IntKind.i64 (walkN (mpOf w d h len fun j => xs.getD (off + j) false).slide c c.ticks.toNat p).a0,
  SV.int IntKind.i64 (walkN (mpOf w d h len fun j => xs.getD (off + j) false).slide c c.ticks.toNat p).a1,
  SV.int IntKind.i64 (walkN (mpOf w d h len fun j => xs.getD (off + j) false).slide c c.ticks.toNat p).wait,
  SV.int IntKind.i64 (walkN (mpOf w d h len fun j => xs.getD (off + j) false).slide c c.ticks.toNat p).dead],
  [])
  else none := by kernel_rfl

/-- A player behind a command. -/
def walkP (S : V3 → V3 → V3 × Bool × Bool × Bool) (p : Pl) (c : Cm) : Pl := bif decide (c.ticks < 1) || decide (c.ticks > 8) then p else walkN S c c.ticks.toNat p
theorem walkP_fits {m : Mp} {p : Pl} {c : Cm} (hp : p.pos.fits) : (walkP m.slide p c).pos.fits := by
  unfold walkP
  cases (decide (c.ticks < 1) || decide (c.ticks > 8))
  · exact walkN_fits _ _ hp
  · exact hp
theorem sw_val {w d h : Int} {len off : Nat} {xs : List Bool} {p : Pl} {c : Cm} (hm : mapOk w d h len = true) (hl : decide (off + len ≤ xs.length) = true) (hp : p.pos.fits) :
    runK xSw (loopOf [lpoSw]) 300 15 Try.f15 0 [mapS w d h (.slice 0 1 off len none) .unk, .agg p.sv, .agg c.sv] [.vec true .bool xs] = some (.agg (walkP (mpOf w d h len fun j => xs.getD (off + j) false).slide p c).sv, []) := by
  rw [sw_tree]
  simp only [or_form]
  unfold walkP
  cases hc : (decide (c.ticks < 1) || decide (c.ticks > 8)) with
  | true => rfl
  | false =>
    simp only [Bool.or_eq_false_iff, decide_eq_false_iff_not] at hc
    rw [decide_eq_true (show 0 ≤ c.ticks by omega), decide_eq_true (show c.ticks ≤ 9223372036854775807 by omega), hm, hl, fitsB_iff.2 hp]
    rfl
noncomputable def oStepW (args : List SV) (rows : List Row) : Option Eff :=
  match args with
  | [.agg [.int .i64 w, .int .i64 d, .int .i64 h, .slice id st off len _, sp], .agg [.int .i64 a0, .int .i64 a1, .int .i64 a2, .int .i64 a3, .int .i64 a4, .int .i64 a5, .int .i64 a6, .bool a7, .int .i64 a8, .int .i64 a9, .int .i64 a10, .int .i64 a11, .int .i64 a12, .int .i64 a13, .int .i64 a14], .agg [.int .u16 c0, .int .u8 c1, .int .i8 c2, .int .i8 c3, .int .i64 c4]] => match rows[id]? with
    | some (.vec _ .bool xs) => bif Nat.beq st 1 && sp.one then some { ok := mapOk w d h len && (fitsB ⟨a1, a2, a3⟩ && decide (off + len ≤ xs.length)), val := .agg (walkP (mpOf w d h len fun j => xs.getD (off + j) false).slide ⟨a0, ⟨a1, a2, a3⟩, ⟨a4, a5, a6⟩, a7, a8, a9, a10, a11, a12, a13, a14⟩ ⟨c0, c1, c2, c3, c4⟩).sv, rd := [id] } else none
    | _ => none
  | _ => none
set_option maxHeartbeats 0 in
theorem oStepW_ok {args : List SV} {rows : List Row} {n : Nat} {e : Eff} (h : oStepW args rows = some e) (hok : e.ok = true) : FnOk Try.prog 15 args (rows[·]?) n e := by
  unfold oStepW at h
  split at h
  · rename_i wd dd hd id st off len cap sp a0 a1 a2 a3 a4 a5 a6 a7 a8 a9 a10 a11 a12 a13 a14 c0 c1 c2 c3 c4
    split at h
    · rename_i ro xs hrow
      cases hb : Nat.beq st 1 && sp.one with
      | false => simp [hb] at h
      | true =>
        simp only [hb, cond_true, Option.some.injEq] at h
        subst h
        rw [Bool.and_eq_true] at hb
        have hst := Nat.eq_of_beq_eq_true hb.1
        subst hst
        simp only [Bool.and_eq_true, fitsB_iff] at hok
        obtain ⟨h1, h2, h3⟩ := hok
        obtain ⟨rows', hc, _⟩ := runK_ok xSw_ok loopOf_ok Try.func15 (sw_val (p := ⟨a0, ⟨a1, a2, a3⟩, ⟨a4, a5, a6⟩, a7, a8, a9, a10, a11, a12, a13, a14⟩) (c := ⟨c0, c1, c2, c3, c4⟩) h1 h3 h2)
        exact fnOk_map hb.2 hc rfl rfl hrow
    · cases h
  · cases h
noncomputable def orcStepW : Orc := ⟨15, oStepW, fun _ _ _ h hok => oStepW_ok h hok, bodied Try.func15 (by kernel_rfl)⟩

end Go.Proofs.Ytihpfaeabocdbaa
