/- WalkFalls: the law's loop and call. -/
import Derived.Test.YtihpfaeabocdbaaVmWk
import Derived.Test.YtihpfaeabocdbaaVmRt
import Derived.Test.YtihpfaeabocdbaaVmG11
import Derived.Test.YtihpfaeabocdbaaOpen3
namespace Go.Proofs.Ytihpfaeabocdbaa
set_option linter.unusedSimpArgs false
set_option linter.unusedVariables false
set_option maxRecDepth 100000
open Go.RowKit

noncomputable def x11f : Ctx := ctxOf [10, 17] [orcShown11, orcRight, orcRw, orcTick]
theorem x11f_ok : COk Try.prog x11f := ctxOf_ok (by kernel_rfl)
def valWf (ll : Nat) (g : Bool) (i : Int) : List SV := [.slice 2 5 0 ll none, .ptr 3 0 0 0, .ptr 4 0 0 0, .bool g, .bool true, .int .i64 i]
def rowWf (w d h : Int) (len ls : Nat) (xs : List Bool) (sp : List V3) (cs : List Cm) (p : Pl) : List Row := [.vec true .bool xs, .vec true .vec sp, .vec true .cm cs, .own [.int .i64 w, .int .i64 d, .int .i64 h, .slice 0 1 0 len none, .slice 1 3 0 ls none], .own p.sv]
noncomputable def rdWf : List SV → List Row → Option Res2 := roundS x11f (fun _ _ => none) 100 6 [0, 1, 0, 1, 1, 1] (bodyAt Try.f6 [0, 1, 0, 1, 1, 1]) 108 5 [2, 3, 4, 6, 7, 8]

set_option maxRecDepth 100000 in
set_option maxHeartbeats 0 in
theorem wf_round (w d h : Int) (len ls ll : Nat) (xs : List Bool) (sp : List V3) (cs : List Cm) (p : Pl) (i : Int) : rdWf (valWf ll false i) (rowWf w d h len ls xs sp cs p) =
  bif bif decide (i < (↑ll : Int)) == true then decide (i < 20) else false then
  bif decide (0 ≤ i) && decide (i < (↑ll : Int)) then
  bif decide (0 + i.toNat < cs.length) then
  bif mapOk w d h len && (fitsB p.pos && decide (0 + len ≤ xs.length)) then
  bif
  bif decide (IntKind.i64.wrap ((tickP (mpOf w d h len fun j => xs.getD (0 + j) false).slide p (cs.getD (0 + i.toNat) Knd.cm.dflt)).pos.x - p.pos.x) > 32768) == false then
  decide (IntKind.i64.wrap ((tickP (mpOf w d h len fun j => xs.getD (0 + j) false).slide p (cs.getD (0 + i.toNat) Knd.cm.dflt)).pos.x - p.pos.x) < -32768)
  else true then
  some
  (SV.tuple [SV.nils, SV.tuple [SV.slice 2 5 0 ll none, SV.ptr 3 0 0 0, SV.ptr 4 0 0 0, SV.bool false, SV.bool true, SV.int IntKind.i64 i]],
  [Row.vec true Knd.bool xs, Row.vec true Knd.vec sp, Row.vec true Knd.cm cs,
  Row.own [SV.int IntKind.i64 w, SV.int IntKind.i64 d, SV.int IntKind.i64 h, SV.slice 0 1 0 len none, SV.slice 1 3 0 ls none],
  Row.own
  [SV.int IntKind.i64 p.id, SV.int IntKind.i64 p.pos.x, SV.int IntKind.i64 p.pos.y, SV.int IntKind.i64 p.pos.z, SV.int IntKind.i64 p.vel.x, SV.int IntKind.i64 p.vel.y,
  SV.int IntKind.i64 p.vel.z, SV.bool p.ground, SV.int IntKind.i64 p.health, SV.int IntKind.i64 p.armour, SV.int IntKind.i64 p.score, SV.int IntKind.i64 p.a0,
  SV.int IntKind.i64 p.a1, SV.int IntKind.i64 p.wait, SV.int IntKind.i64 p.dead]])
  else
  bif
  bif decide (IntKind.i64.wrap ((tickP (mpOf w d h len fun j => xs.getD (0 + j) false).slide p (cs.getD (0 + i.toNat) Knd.cm.dflt)).pos.y - p.pos.y) > 32768) == false then
  decide (IntKind.i64.wrap ((tickP (mpOf w d h len fun j => xs.getD (0 + j) false).slide p (cs.getD (0 + i.toNat) Knd.cm.dflt)).pos.y - p.pos.y) < -32768)
  else true then
  some
  (SV.tuple [SV.nils, SV.tuple [SV.slice 2 5 0 ll none, SV.ptr 3 0 0 0, SV.ptr 4 0 0 0, SV.bool false, SV.bool true, SV.int IntKind.i64 i]],
  [Row.vec true Knd.bool xs, Row.vec true Knd.vec sp, Row.vec true Knd.cm cs,
  Row.own [SV.int IntKind.i64 w, SV.int IntKind.i64 d, SV.int IntKind.i64 h, SV.slice 0 1 0 len none, SV.slice 1 3 0 ls none],
  Row.own
  [SV.int IntKind.i64 p.id, SV.int IntKind.i64 p.pos.x, SV.int IntKind.i64 p.pos.y, SV.int IntKind.i64 p.pos.z, SV.int IntKind.i64 p.vel.x, SV.int IntKind.i64 p.vel.y,
  SV.int IntKind.i64 p.vel.z, SV.bool p.ground, SV.int IntKind.i64 p.health, SV.int IntKind.i64 p.armour, SV.int IntKind.i64 p.score, SV.int IntKind.i64 p.a0,
  SV.int IntKind.i64 p.a1, SV.int IntKind.i64 p.wait, SV.int IntKind.i64 p.dead]])
  else
  bif
  bif decide (IntKind.i64.wrap ((tickP (mpOf w d h len fun j => xs.getD (0 + j) false).slide p (cs.getD (0 + i.toNat) Knd.cm.dflt)).pos.z - p.pos.z) > 32768) == false then
  decide (IntKind.i64.wrap ((tickP (mpOf w d h len fun j => xs.getD (0 + j) false).slide p (cs.getD (0 + i.toNat) Knd.cm.dflt)).pos.z - p.pos.z) < -32768)
  else true then
  some
  (SV.tuple [SV.nils, SV.tuple [SV.slice 2 5 0 ll none, SV.ptr 3 0 0 0, SV.ptr 4 0 0 0, SV.bool false, SV.bool true, SV.int IntKind.i64 i]],
  [Row.vec true Knd.bool xs, Row.vec true Knd.vec sp, Row.vec true Knd.cm cs,
  Row.own [SV.int IntKind.i64 w, SV.int IntKind.i64 d, SV.int IntKind.i64 h, SV.slice 0 1 0 len none, SV.slice 1 3 0 ls none],
  Row.own
  [SV.int IntKind.i64 p.id, SV.int IntKind.i64 p.pos.x, SV.int IntKind.i64 p.pos.y, SV.int IntKind.i64 p.pos.z, SV.int IntKind.i64 p.vel.x, SV.int IntKind.i64 p.vel.y,
  SV.int IntKind.i64 p.vel.z, SV.bool p.ground, SV.int IntKind.i64 p.health, SV.int IntKind.i64 p.armour, SV.int IntKind.i64 p.score, SV.int IntKind.i64 p.a0,
  SV.int IntKind.i64 p.a1, SV.int IntKind.i64 p.wait, SV.int IntKind.i64 p.dead]])
  else
  bif
  bif decide ((tickP (mpOf w d h len fun j => xs.getD (0 + j) false).slide p (cs.getD (0 + i.toNat) Knd.cm.dflt)).vel.x > 32768) == false then
  decide ((tickP (mpOf w d h len fun j => xs.getD (0 + j) false).slide p (cs.getD (0 + i.toNat) Knd.cm.dflt)).vel.x < -32768)
  else true then
  some
  (SV.tuple [SV.nils, SV.tuple [SV.slice 2 5 0 ll none, SV.ptr 3 0 0 0, SV.ptr 4 0 0 0, SV.bool false, SV.bool true, SV.int IntKind.i64 i]],
  [Row.vec true Knd.bool xs, Row.vec true Knd.vec sp, Row.vec true Knd.cm cs,
  Row.own [SV.int IntKind.i64 w, SV.int IntKind.i64 d, SV.int IntKind.i64 h, SV.slice 0 1 0 len none, SV.slice 1 3 0 ls none],
  Row.own
  [SV.int IntKind.i64 p.id, SV.int IntKind.i64 p.pos.x, SV.int IntKind.i64 p.pos.y, SV.int IntKind.i64 p.pos.z, SV.int IntKind.i64 p.vel.x, SV.int IntKind.i64 p.vel.y,
  SV.int IntKind.i64 p.vel.z, SV.bool p.ground, SV.int IntKind.i64 p.health, SV.int IntKind.i64 p.armour, SV.int IntKind.i64 p.score, SV.int IntKind.i64 p.a0,
  SV.int IntKind.i64 p.a1, SV.int IntKind.i64 p.wait, SV.int IntKind.i64 p.dead]])
  else
  bif
  bif decide ((tickP (mpOf w d h len fun j => xs.getD (0 + j) false).slide p (cs.getD (0 + i.toNat) Knd.cm.dflt)).vel.y > 32768) == false then
  decide ((tickP (mpOf w d h len fun j => xs.getD (0 + j) false).slide p (cs.getD (0 + i.toNat) Knd.cm.dflt)).vel.y < -32768)
  else true then
  some
  (SV.tuple [SV.nils, SV.tuple [SV.slice 2 5 0 ll none, SV.ptr 3 0 0 0, SV.ptr 4 0 0 0, SV.bool false, SV.bool true, SV.int IntKind.i64 i]],
  [Row.vec true Knd.bool xs, Row.vec true Knd.vec sp, Row.vec true Knd.cm cs,
  Row.own [SV.int IntKind.i64 w, SV.int IntKind.i64 d, SV.int IntKind.i64 h, SV.slice 0 1 0 len none, SV.slice 1 3 0 ls none],
  Row.own
  [SV.int IntKind.i64 p.id, SV.int IntKind.i64 p.pos.x, SV.int IntKind.i64 p.pos.y, SV.int IntKind.i64 p.pos.z, SV.int IntKind.i64 p.vel.x, SV.int IntKind.i64 p.vel.y,
  SV.int IntKind.i64 p.vel.z, SV.bool p.ground, SV.int IntKind.i64 p.health, SV.int IntKind.i64 p.armour, SV.int IntKind.i64 p.score, SV.int IntKind.i64 p.a0,
  SV.int IntKind.i64 p.a1, SV.int IntKind.i64 p.wait, SV.int IntKind.i64 p.dead]])
  else
  bif
  bif decide ((tickP (mpOf w d h len fun j => xs.getD (0 + j) false).slide p (cs.getD (0 + i.toNat) Knd.cm.dflt)).vel.z > 32768) == false then
  decide ((tickP (mpOf w d h len fun j => xs.getD (0 + j) false).slide p (cs.getD (0 + i.toNat) Knd.cm.dflt)).vel.z < -32768)
  else true then
  some
  (SV.tuple [SV.nils, SV.tuple [SV.slice 2 5 0 ll none, SV.ptr 3 0 0 0, SV.ptr 4 0 0 0, SV.bool false, SV.bool true, SV.int IntKind.i64 i]],
  [Row.vec true Knd.bool xs, Row.vec true Knd.vec sp, Row.vec true Knd.cm cs,
  Row.own [SV.int IntKind.i64 w, SV.int IntKind.i64 d, SV.int IntKind.i64 h, SV.slice 0 1 0 len none, SV.slice 1 3 0 ls none],
  Row.own
  [SV.int IntKind.i64 p.id, SV.int IntKind.i64 p.pos.x, SV.int IntKind.i64 p.pos.y, SV.int IntKind.i64 p.pos.z, SV.int IntKind.i64 p.vel.x, SV.int IntKind.i64 p.vel.y,
  SV.int IntKind.i64 p.vel.z, SV.bool p.ground, SV.int IntKind.i64 p.health, SV.int IntKind.i64 p.armour, SV.int IntKind.i64 p.score, SV.int IntKind.i64 p.a0,
  SV.int IntKind.i64 p.a1, SV.int IntKind.i64 p.wait, SV.int IntKind.i64 p.dead]])
  else
  bif
  bif
  (bif (tickP (mpOf w d h len fun j => xs.getD (0 + j) false).slide p (cs.getD (0 + i.toNat) Knd.cm.dflt)).ground == true then
  bif ((tickP (mpOf w d h len fun j => xs.getD (0 + j) false).slide p (cs.getD (0 + i.toNat) Knd.cm.dflt)).vel.z != 0) == false then
  (tickP (mpOf w d h len fun j => xs.getD (0 + j) false).slide p (cs.getD (0 + i.toNat) Knd.cm.dflt)).pos.z != p.pos.z
  else true
  else false) ==
  true then
  decide (p.dead ≤ 0)
  else false then
  some
  (SV.tuple [SV.nils, SV.tuple [SV.slice 2 5 0 ll none, SV.ptr 3 0 0 0, SV.ptr 4 0 0 0, SV.bool false, SV.bool true, SV.int IntKind.i64 i]],
  [Row.vec true Knd.bool xs, Row.vec true Knd.vec sp, Row.vec true Knd.cm cs,
  Row.own [SV.int IntKind.i64 w, SV.int IntKind.i64 d, SV.int IntKind.i64 h, SV.slice 0 1 0 len none, SV.slice 1 3 0 ls none],
  Row.own
  [SV.int IntKind.i64 p.id, SV.int IntKind.i64 p.pos.x, SV.int IntKind.i64 p.pos.y, SV.int IntKind.i64 p.pos.z, SV.int IntKind.i64 p.vel.x, SV.int IntKind.i64 p.vel.y,
  SV.int IntKind.i64 p.vel.z, SV.bool p.ground, SV.int IntKind.i64 p.health, SV.int IntKind.i64 p.armour, SV.int IntKind.i64 p.score, SV.int IntKind.i64 p.a0,
  SV.int IntKind.i64 p.a1, SV.int IntKind.i64 p.wait, SV.int IntKind.i64 p.dead]])
  else
  some
  (SV.tuple [SV.nilp, SV.tuple [SV.slice 2 5 0 ll none, SV.ptr 3 0 0 0, SV.ptr 4 0 0 0, SV.bool false, SV.bool true, SV.int IntKind.i64 (IntKind.i64.wrap (i + 1))]],
  [Row.vec true Knd.bool xs, Row.vec true Knd.vec sp, Row.vec true Knd.cm cs,
  Row.own [SV.int IntKind.i64 w, SV.int IntKind.i64 d, SV.int IntKind.i64 h, SV.slice 0 1 0 len none, SV.slice 1 3 0 ls none],
  Row.own
  [SV.int IntKind.i64 (tickP (mpOf w d h len fun j => xs.getD (0 + j) false).slide p (cs.getD (0 + i.toNat) Knd.cm.dflt)).id,
  SV.int IntKind.i64 (tickP (mpOf w d h len fun j => xs.getD (0 + j) false).slide p (cs.getD (0 + i.toNat) Knd.cm.dflt)).pos.x,
  SV.int IntKind.i64 (tickP (mpOf w d h len fun j => xs.getD (0 + j) false).slide p (cs.getD (0 + i.toNat) Knd.cm.dflt)).pos.y,
  SV.int IntKind.i64 (tickP (mpOf w d h len fun j => xs.getD (0 + j) false).slide p (cs.getD (0 + i.toNat) Knd.cm.dflt)).pos.z,
  SV.int IntKind.i64 (tickP (mpOf w d h len fun j => xs.getD (0 + j) false).slide p (cs.getD (0 + i.toNat) Knd.cm.dflt)).vel.x,
  SV.int IntKind.i64 (tickP (mpOf w d h len fun j => xs.getD (0 + j) false).slide p (cs.getD (0 + i.toNat) Knd.cm.dflt)).vel.y,
  SV.int IntKind.i64 (tickP (mpOf w d h len fun j => xs.getD (0 + j) false).slide p (cs.getD (0 + i.toNat) Knd.cm.dflt)).vel.z,
  SV.bool (tickP (mpOf w d h len fun j => xs.getD (0 + j) false).slide p (cs.getD (0 + i.toNat) Knd.cm.dflt)).ground,
  SV.int IntKind.i64 (tickP (mpOf w d h len fun j => xs.getD (0 + j) false).slide p (cs.getD (0 + i.toNat) Knd.cm.dflt)).health,
  SV.int IntKind.i64 (tickP (mpOf w d h len fun j => xs.getD (0 + j) false).slide p (cs.getD (0 + i.toNat) Knd.cm.dflt)).armour,
  SV.int IntKind.i64 (tickP (mpOf w d h len fun j => xs.getD (0 + j) false).slide p (cs.getD (0 + i.toNat) Knd.cm.dflt)).score,
  SV.int IntKind.i64 (tickP (mpOf w d h len fun j => xs.getD (0 + j) false).slide p (cs.getD (0 + i.toNat) Knd.cm.dflt)).a0,
  SV.int IntKind.i64 (tickP (mpOf w d h len fun j => xs.getD (0 + j) false).slide p (cs.getD (0 + i.toNat) Knd.cm.dflt)).a1,
  SV.int IntKind.i64 (tickP (mpOf w d h len fun j => xs.getD (0 + j) false).slide p (cs.getD (0 + i.toNat) Knd.cm.dflt)).wait,
  SV.int IntKind.i64 (tickP (mpOf w d h len fun j => xs.getD (0 + j) false).slide p (cs.getD (0 + i.toNat) Knd.cm.dflt)).dead]])
  else none
  else none
  else none
  else
  some
  (SV.tuple [SV.ptr 0 0 0 0, SV.tuple [SV.slice 2 5 0 ll none, SV.ptr 3 0 0 0, SV.ptr 4 0 0 0, SV.bool false, SV.bool true, SV.int IntKind.i64 i]],
  [Row.vec true Knd.bool xs, Row.vec true Knd.vec sp, Row.vec true Knd.cm cs,
  Row.own [SV.int IntKind.i64 w, SV.int IntKind.i64 d, SV.int IntKind.i64 h, SV.slice 0 1 0 len none, SV.slice 1 3 0 ls none],
  Row.own
  [SV.int IntKind.i64 p.id, SV.int IntKind.i64 p.pos.x, SV.int IntKind.i64 p.pos.y, SV.int IntKind.i64 p.pos.z, SV.int IntKind.i64 p.vel.x, SV.int IntKind.i64 p.vel.y,
  SV.int IntKind.i64 p.vel.z, SV.bool p.ground, SV.int IntKind.i64 p.health, SV.int IntKind.i64 p.armour, SV.int IntKind.i64 p.score, SV.int IntKind.i64 p.a0, SV.int IntKind.i64 p.a1,
  SV.int IntKind.i64 p.wait, SV.int IntKind.i64 p.dead]]) := by kernel_rfl

/-- Commands, one behind the other. -/
def walkFL (S : V3 → V3 → V3 × Bool × Bool × Bool) (cs : List Cm) : Nat → Nat → Pl → Pl
  | 0, _, p => p
  | k + 1, i, p => walkFL S cs k (i + 1) (tickP S p (cs.getD (0 + i) Knd.cm.dflt))

theorem tick_falls {m : Mp} {p : Pl} {c : Cm} (hp : p.pos.fits) (hr : wRight m.free p = true) :
    (-32768 ≤ (tickP m.slide p c).pos.x - p.pos.x ∧ (tickP m.slide p c).pos.x - p.pos.x ≤ 32768) ∧ (-32768 ≤ (tickP m.slide p c).pos.y - p.pos.y ∧ (tickP m.slide p c).pos.y - p.pos.y ≤ 32768) ∧ (-32768 ≤ (tickP m.slide p c).pos.z - p.pos.z ∧ (tickP m.slide p c).pos.z - p.pos.z ≤ 32768) ∧
      (p.dead ≤ 0 → (tickP m.slide p c).ground = true → (tickP m.slide p c).vel.z = 0 ∧ (tickP m.slide p c).pos.z = p.pos.z) := by
  by_cases hd : p.dead > 0
  · have e : tickP m.slide p c = p := by unfold tickP; rw [decide_eq_true hd]; rfl
    rw [e]
    exact ⟨by omega, by omega, by omega, fun h => absurd hd (by omega)⟩
  · obtain ⟨v, x, y, z, k1, k2, k3, hv, e, hx, hy, hz, hf⟩ := tickP_spec m p c hd
    rw [e]
    refine ⟨moved_near hp.1 hx, moved_near hp.2.1 hy, moved_near hp.2.2 hz, fun _ hg => ?_⟩
    rw [Bool.and_eq_true] at hg
    obtain ⟨rfl, _⟩ := hg
    exact ⟨rfl, moved_stay hz⟩

section
variable {w d h : Int} {len ls ll : Nat} {xs : List Bool} {sp : List V3} {cs : List Cm}
set_option maxHeartbeats 0 in
theorem wf_loop (hm : mapOk w d h len = true) (hl : decide (0 + len ≤ xs.length) = true) (hc : ll ≤ cs.length) : ∀ (k i : Nat) (p : Pl), p.pos.fits → wRight (mpOf w d h len fun j => xs.getD (0 + j) false).free p = true → i + k = min ll 20 →
    LoopTo rdWf (valWf ll false i) (rowWf w d h len ls xs sp cs p) (.exit 0) (valWf ll false ((min ll 20 : Nat) : Int)) (rowWf w d h len ls xs sp cs (walkFL (mpOf w d h len fun j => xs.getD (0 + j) false).slide cs k i p))
  | 0, i, p, hp, hr, hi => by
    obtain rfl : i = min ll 20 := by omega
    refine .done ?_ (by simp)
    rw [wf_round, and_form, show (decide ((((min ll 20 : Nat)) : Int) < (ll : Int)) && decide ((((min ll 20 : Nat)) : Int) < 20)) = false by rw [Bool.and_eq_false_iff, decide_eq_false_iff_not, decide_eq_false_iff_not]; omega, cond_false]
    rfl
  | k + 1, i, p, hp, hr, hi => by
    have hro := wf_round w d h len ls ll xs sp cs p i
    have e1 : ((i : Int)).toNat = i := by omega
    rw [e1, and_form, decide_eq_true (show (i : Int) < (ll : Int) by omega), decide_eq_true (show (i : Int) < 20 by omega), decide_eq_true (show (0 : Int) ≤ (i : Int) by omega), decide_eq_true (show 0 + i < cs.length by omega), hm, hl, fitsB_iff.2 hp, IntWalk.i64_in ((i : Int) + 1) (by omega)] at hro
    simp only [Bool.and_true, cond_true] at hro
    have hq : (tickP (mpOf w d h len fun j => xs.getD (0 + j) false).slide p (cs.getD (0 + i) Knd.cm.dflt)).pos.fits := tickP_fits hp
    have hrq := tickP_right (c := cs.getD (0 + i) Knd.cm.dflt) hr
    obtain ⟨b1, b2, b3, hfall⟩ := tick_falls (c := cs.getD (0 + i) Knd.cm.dflt) hp hr
    unfold walkFL
    generalize tickP (mpOf w d h len fun j => xs.getD (0 + j) false).slide p (cs.getD (0 + i) Knd.cm.dflt) = q at hro hq hrq b1 b2 b3 hfall ⊢
    obtain ⟨v1, v2, v3, _⟩ := wRight_iff.1 hrq
    have hz : ((q.ground && ((q.vel.z != 0) || (q.pos.z != p.pos.z))) && decide (p.dead ≤ 0)) = false := by
      by_cases hd : p.dead ≤ 0
      · cases hg : q.ground with
        | false => rfl
        | true => obtain ⟨z1, z2⟩ := hfall hd hg; rw [z1, z2]; simp
      · rw [decide_eq_false hd, Bool.and_false]
    rw [IntWalk.i64_in (q.pos.x - p.pos.x) (by omega), IntWalk.i64_in (q.pos.y - p.pos.y) (by omega), IntWalk.i64_in (q.pos.z - p.pos.z) (by omega)] at hro
    simp only [or_form, and_form] at hro
    rw [decide_eq_false (show ¬ q.pos.x - p.pos.x > 32768 by omega), decide_eq_false (show ¬ q.pos.x - p.pos.x < -32768 by omega), decide_eq_false (show ¬ q.pos.y - p.pos.y > 32768 by omega), decide_eq_false (show ¬ q.pos.y - p.pos.y < -32768 by omega), decide_eq_false (show ¬ q.pos.z - p.pos.z > 32768 by omega), decide_eq_false (show ¬ q.pos.z - p.pos.z < -32768 by omega), decide_eq_false (show ¬ q.vel.x > 32768 by omega), decide_eq_false (show ¬ q.vel.x < -32768 by omega), decide_eq_false (show ¬ q.vel.y > 32768 by omega), decide_eq_false (show ¬ q.vel.y < -32768 by omega), decide_eq_false (show ¬ q.vel.z > 32768 by omega), decide_eq_false (show ¬ q.vel.z < -32768 by omega), hz] at hro
    simp only [Bool.or_self, cond_false] at hro
    exact .more hro (wf_loop hm hl hc k (i + 1) _ hq hrq (by omega))
end

set_option maxHeartbeats 0 in
noncomputable def outWf (v : List SV) (R : List Row) (k : Ex → List SV → List Row → Option Res2) : Option Res2 := match v, R with
  | [.slice 2 5 0 ll none, .ptr 3 0 0 0, .ptr 4 0 0 0, .bool false, .bool true, .int .i64 i],
    [.vec true .bool xs, .vec true .vec sp, .vec true .cm cs, .own [.int .i64 w, .int .i64 d, .int .i64 h, .slice 0 1 0 len none, .slice 1 3 0 ls none], .own [.int .i64 a0, .int .i64 a1, .int .i64 a2, .int .i64 a3, .int .i64 a4, .int .i64 a5, .int .i64 a6, .bool a7, .int .i64 a8, .int .i64 a9, .int .i64 a10, .int .i64 a11, .int .i64 a12, .int .i64 a13, .int .i64 a14]] =>
      bif decide (i = 0) && (mapOk w d h len && (decide (0 + len ≤ xs.length) && (decide (ll ≤ cs.length) && (fitsB ⟨a1, a2, a3⟩ && wRight (mpOf w d h len fun j => xs.getD (0 + j) false).free ⟨a0, ⟨a1, a2, a3⟩, ⟨a4, a5, a6⟩, a7, a8, a9, a10, a11, a12, a13, a14⟩)))) then
        k (.exit 0) (valWf ll false ((min ll 20 : Nat) : Int)) (rowWf w d h len ls xs sp cs (walkFL (mpOf w d h len fun j => xs.getD (0 + j) false).slide cs (min ll 20) 0 ⟨a0, ⟨a1, a2, a3⟩, ⟨a4, a5, a6⟩, a7, a8, a9, a10, a11, a12, a13, a14⟩)) else none
  | _, _ => none
set_option maxHeartbeats 0 in
theorem lpoWf_ok : LpOk 6 [0, 1, 0, 1, 1, 1] (loopF 108 [2, 3, 4, 6, 7, 8] outWf) := by
  intro b hat s K r h
  refine loopF_ok (fuel := 100) x11f_ok lok_none hat (fun v R k r hr => ?_) h
  have hbody := at_body Try.func6 hat
  subst hbody
  unfold outWf at hr
  split at hr
  · rename_i ll i xs sp cs w d h len ls a0 a1 a2 a3 a4 a5 a6 a7 a8 a9 a10 a11 a12 a13 a14
    obtain ⟨hb, hr2⟩ := cond_some hr
    simp only [Bool.and_eq_true, decide_eq_true_eq, fitsB_iff] at hb
    obtain ⟨h1, h2, h3, h4, h5, h6⟩ := hb
    subst h1
    exact ⟨_, _, _, hr2, wf_loop h2 (decide_eq_true h3) h4 (min ll 20) 0 ⟨a0, ⟨a1, a2, a3⟩, ⟨a4, a5, a6⟩, a7, a8, a9, a10, a11, a12, a13, a14⟩ h5 h6 (by omega)⟩
  · cases hr
noncomputable def lpoWf : Lpo := ⟨_, _, _, lpoWf_ok⟩

set_option maxRecDepth 100000 in
set_option maxHeartbeats 0 in
theorem wf_tree (w d h : Int) (len ls ll : Nat) (xs : List Bool) (sp : List V3) (cs : List Cm) (p : Pl) : runK x11f (loopOf [lpoWf]) 300 6 Try.f6 0 [mapS w d h (.slice 0 1 0 len none) (.slice 1 3 0 ls none), .agg p.sv, .slice 2 5 0 ll none] [.vec true .bool xs, .vec true .vec sp, .vec true .cm cs] =
  bif
  (mapOk w d h len && (decide (0 + len ≤ xs.length) && (decide (0 + ls ≤ sp.length) && (decide (ls ≤ 9223372036854775807) && sp.all fitsB))) && true && true ||
  (bif (bif decide (w ≤ 10) == true then decide (d ≤ 10) else false) == true then decide (h ≤ 10) else false) != true) &&
  (true || (bif (bif decide (w ≤ 10) == true then decide (d ≤ 10) else false) == true then decide (h ≤ 10) else false) == true) &&
  true then
  bif
  (mapOk w d h len && (fitsB p.pos && decide (0 + len ≤ xs.length)) && true && true ||
  (!bif (bif (bif decide (w ≤ 10) == true then decide (d ≤ 10) else false) == true then decide (h ≤ 10) else false) == true then
  rightE ((mpOf w d h len fun j => xs.getD (0 + j) false).right (spAt sp 0) ls) == 0
  else false) !=
  false) &&
  (true ||
  (!bif (bif (bif decide (w ≤ 10) == true then decide (d ≤ 10) else false) == true then decide (h ≤ 10) else false) == true then
  rightE ((mpOf w d h len fun j => xs.getD (0 + j) false).right (spAt sp 0) ls) == 0
  else false) ==
  false) &&
  true then
  bif
  bif
  (!bif (bif (bif decide (w ≤ 10) == true then decide (d ≤ 10) else false) == true then decide (h ≤ 10) else false) == true then
  rightE ((mpOf w d h len fun j => xs.getD (0 + j) false).right (spAt sp 0) ls) == 0
  else false) ==
  false then
  !wRight (mpOf w d h len fun j => xs.getD (0 + j) false).free p
  else true then
  some (SV.bool true, [])
  else
  bif mapOk w d h len && (decide (0 + len ≤ xs.length) && (decide (ll ≤ cs.length) && (fitsB p.pos && wRight (mpOf w d h len fun j => xs.getD (0 + j) false).free p))) then some (SV.bool true, [])
  else none
  else none
  else none := by kernel_rfl

set_option maxHeartbeats 0 in
theorem wf_law {w d h : Int} {len ls ll : Nat} {xs : List Bool} {sp : List V3} {cs : List Cm} {p : Pl} (hw : In64 w) (hd : In64 d) (hh : In64 h) (hl : len ≤ 9223372036854775807) (hx : xs.length = len) (hs : ls ≤ 9223372036854775807) (hy : sp.length = ls) (hf : ∀ p ∈ sp, p.fits) (hp : p.pos.fits) (hc : cs.length = ll) :
    runK x11f (loopOf [lpoWf]) 300 6 Try.f6 0 [mapS w d h (.slice 0 1 0 len none) (.slice 1 3 0 ls none), .agg p.sv, .slice 2 5 0 ll none] [.vec true .bool xs, .vec true .vec sp, .vec true .cm cs] = some (.bool true, []) := by
  rw [wf_tree]
  obtain ⟨c1, c2, c3⟩ := right_facts hw hd hh hl hx hs hy hf
  rw [c1]
  generalize (mpOf w d h len fun j => xs.getD (0 + j) false).right (spAt sp 0) ls = R
  simp only [c2, c3, fitsB_iff.2 hp, decide_eq_true (show ll ≤ cs.length by omega), decide_true, Bool.and_true, Bool.true_or, Bool.or_true, Bool.true_and, Bool.false_or, cond_true, and_form, or_form, beq_self_eq_true]
  refine bif_law (fun _ => rfl) (fun hr => ?_)
  simp only [Bool.or_eq_false_iff, Bool.not_eq_false', Bool.and_eq_true] at hr
  rw [hr.2]
  rfl

end Go.Proofs.Ytihpfaeabocdbaa
