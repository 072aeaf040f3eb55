/- WalkRight: the law's loop and call. -/
import Derived.Test.YtihpfaeabocdbaaVmWk
import Derived.Test.YtihpfaeabocdbaaVmRt
import Derived.Test.YtihpfaeabocdbaaVmG11
import Derived.Test.YtihpfaeabocdbaaOpen3
namespace Go.Proofs.Ytihpfaeabocdbaa
set_option linter.unusedSimpArgs false
set_option linter.unusedVariables false
set_option maxRecDepth 100000
open Go.RowKit

noncomputable def x11r : Ctx := ctxOf [10] [orcShown11, orcRight, orcRw, orcStepW]
theorem x11r_ok : COk Try.prog x11r := ctxOf_ok (by kernel_rfl)
def valWr (ll : Nat) (g : Bool) (i : Int) : List SV := [.slice 2 5 0 ll none, .ptr 3 0 0 0, .ptr 4 0 0 0, .bool g, .bool true, .int .i64 i]
def rowWr (w d h : Int) (len ls : Nat) (xs : List Bool) (sp : List V3) (cs : List Cm) (p : Pl) : List Row := [.vec true .bool xs, .vec true .vec sp, .vec true .cm cs, .own [.int .i64 w, .int .i64 d, .int .i64 h, .slice 0 1 0 len none, .slice 1 3 0 ls none], .own p.sv]
noncomputable def rdWr : List SV → List Row → Option Res2 := roundS x11r (fun _ _ => none) 100 4 [0, 1, 0, 1, 1, 1] (bodyAt Try.f4 [0, 1, 0, 1, 1, 1]) 68 5 [2, 3, 4, 6, 7, 8]

set_option maxRecDepth 100000 in
set_option maxHeartbeats 0 in
theorem wr_round (w d h : Int) (len ls ll : Nat) (xs : List Bool) (sp : List V3) (cs : List Cm) (p : Pl) (i : Int) : rdWr (valWr ll false i) (rowWr w d h len ls xs sp cs p) =
  bif bif decide (i < (↑ll : Int)) == true then decide (i < 20) else false then
  bif decide (0 ≤ i) && decide (i < (↑ll : Int)) then
  bif decide (0 + i.toNat < cs.length) then
  bif mapOk w d h len && (fitsB p.pos && decide (0 + len ≤ xs.length)) then
  bif mapOk w d h len && (fitsB (walkP (mpOf w d h len fun j => xs.getD (0 + j) false).slide p (cs.getD (0 + i.toNat) Knd.cm.dflt)).pos && decide (0 + len ≤ xs.length)) then
  bif !wRight (mpOf w d h len fun j => xs.getD (0 + j) false).free (walkP (mpOf w d h len fun j => xs.getD (0 + j) false).slide p (cs.getD (0 + i.toNat) Knd.cm.dflt)) then
  some
  (SV.tuple [SV.nils, SV.tuple [SV.slice 2 5 0 ll none, SV.ptr 3 0 0 0, SV.ptr 4 0 0 0, SV.bool false, SV.bool true, SV.int IntKind.i64 i]],
  [Row.vec true Knd.bool xs, Row.vec true Knd.vec sp, Row.vec true Knd.cm cs,
  Row.own [SV.int IntKind.i64 w, SV.int IntKind.i64 d, SV.int IntKind.i64 h, SV.slice 0 1 0 len none, SV.slice 1 3 0 ls none],
  Row.own
  [SV.int IntKind.i64 p.id, SV.int IntKind.i64 p.pos.x, SV.int IntKind.i64 p.pos.y, SV.int IntKind.i64 p.pos.z, SV.int IntKind.i64 p.vel.x, SV.int IntKind.i64 p.vel.y,
  SV.int IntKind.i64 p.vel.z, SV.bool p.ground, SV.int IntKind.i64 p.health, SV.int IntKind.i64 p.armour, SV.int IntKind.i64 p.score, SV.int IntKind.i64 p.a0,
  SV.int IntKind.i64 p.a1, SV.int IntKind.i64 p.wait, SV.int IntKind.i64 p.dead]])
  else
  bif
  bif
  (!((walkP (mpOf w d h len fun j => xs.getD (0 + j) false).slide p (cs.getD (0 + i.toNat) Knd.cm.dflt)).id == p.id &&
  (p.pos.x == p.pos.x &&
  (p.pos.y == p.pos.y &&
  (p.pos.z == p.pos.z &&
  (p.vel.x == p.vel.x &&
  (p.vel.y == p.vel.y &&
  (p.vel.z == p.vel.z &&
  (p.ground == p.ground &&
  ((walkP (mpOf w d h len fun j => xs.getD (0 + j) false).slide p (cs.getD (0 + i.toNat) Knd.cm.dflt)).health == p.health &&
  ((walkP (mpOf w d h len fun j => xs.getD (0 + j) false).slide p (cs.getD (0 + i.toNat) Knd.cm.dflt)).armour == p.armour &&
  ((walkP (mpOf w d h len fun j => xs.getD (0 + j) false).slide p (cs.getD (0 + i.toNat) Knd.cm.dflt)).score == p.score &&
  ((walkP (mpOf w d h len fun j => xs.getD (0 + j) false).slide p (cs.getD (0 + i.toNat) Knd.cm.dflt)).a0 == p.a0 &&
  ((walkP (mpOf w d h len fun j => xs.getD (0 + j) false).slide p (cs.getD (0 + i.toNat) Knd.cm.dflt)).a1 == p.a1 &&
  ((walkP (mpOf w d h len fun j => xs.getD (0 + j) false).slide p (cs.getD (0 + i.toNat) Knd.cm.dflt)).wait == p.wait &&
  ((walkP (mpOf w d h len fun j => xs.getD (0 + j) false).slide p (cs.getD (0 + i.toNat) Knd.cm.dflt)).dead == p.dead && true)))))))))))))))) ==
  false then
  bif decide (p.dead > 0) == true then
  !((walkP (mpOf w d h len fun j => xs.getD (0 + j) false).slide p (cs.getD (0 + i.toNat) Knd.cm.dflt)).id == p.id &&
  ((walkP (mpOf w d h len fun j => xs.getD (0 + j) false).slide p (cs.getD (0 + i.toNat) Knd.cm.dflt)).pos.x == p.pos.x &&
  ((walkP (mpOf w d h len fun j => xs.getD (0 + j) false).slide p (cs.getD (0 + i.toNat) Knd.cm.dflt)).pos.y == p.pos.y &&
  ((walkP (mpOf w d h len fun j => xs.getD (0 + j) false).slide p (cs.getD (0 + i.toNat) Knd.cm.dflt)).pos.z == p.pos.z &&
  ((walkP (mpOf w d h len fun j => xs.getD (0 + j) false).slide p (cs.getD (0 + i.toNat) Knd.cm.dflt)).vel.x == p.vel.x &&
  ((walkP (mpOf w d h len fun j => xs.getD (0 + j) false).slide p (cs.getD (0 + i.toNat) Knd.cm.dflt)).vel.y == p.vel.y &&
  ((walkP (mpOf w d h len fun j => xs.getD (0 + j) false).slide p (cs.getD (0 + i.toNat) Knd.cm.dflt)).vel.z == p.vel.z &&
  ((walkP (mpOf w d h len fun j => xs.getD (0 + j) false).slide p (cs.getD (0 + i.toNat) Knd.cm.dflt)).ground == p.ground &&
  ((walkP (mpOf w d h len fun j => xs.getD (0 + j) false).slide p (cs.getD (0 + i.toNat) Knd.cm.dflt)).health == p.health &&
  ((walkP (mpOf w d h len fun j => xs.getD (0 + j) false).slide p (cs.getD (0 + i.toNat) Knd.cm.dflt)).armour == p.armour &&
  ((walkP (mpOf w d h len fun j => xs.getD (0 + j) false).slide p (cs.getD (0 + i.toNat) Knd.cm.dflt)).score == p.score &&
  ((walkP (mpOf w d h len fun j => xs.getD (0 + j) false).slide p (cs.getD (0 + i.toNat) Knd.cm.dflt)).a0 == p.a0 &&
  ((walkP (mpOf w d h len fun j => xs.getD (0 + j) false).slide p (cs.getD (0 + i.toNat) Knd.cm.dflt)).a1 == p.a1 &&
  ((walkP (mpOf w d h len fun j => xs.getD (0 + j) false).slide p (cs.getD (0 + i.toNat) Knd.cm.dflt)).wait == p.wait &&
  ((walkP (mpOf w d h len fun j => xs.getD (0 + j) false).slide p (cs.getD (0 + i.toNat) Knd.cm.dflt)).dead == p.dead && true)))))))))))))))
  else false
  else true then
  some
  (SV.tuple [SV.nils, SV.tuple [SV.slice 2 5 0 ll none, SV.ptr 3 0 0 0, SV.ptr 4 0 0 0, SV.bool false, SV.bool true, SV.int IntKind.i64 i]],
  [Row.vec true Knd.bool xs, Row.vec true Knd.vec sp, Row.vec true Knd.cm cs,
  Row.own [SV.int IntKind.i64 w, SV.int IntKind.i64 d, SV.int IntKind.i64 h, SV.slice 0 1 0 len none, SV.slice 1 3 0 ls none],
  Row.own
  [SV.int IntKind.i64 p.id, SV.int IntKind.i64 p.pos.x, SV.int IntKind.i64 p.pos.y, SV.int IntKind.i64 p.pos.z, SV.int IntKind.i64 p.vel.x, SV.int IntKind.i64 p.vel.y,
  SV.int IntKind.i64 p.vel.z, SV.bool p.ground, SV.int IntKind.i64 p.health, SV.int IntKind.i64 p.armour, SV.int IntKind.i64 p.score, SV.int IntKind.i64 p.a0,
  SV.int IntKind.i64 p.a1, SV.int IntKind.i64 p.wait, SV.int IntKind.i64 p.dead]])
  else
  some
  (SV.tuple [SV.nilp, SV.tuple [SV.slice 2 5 0 ll none, SV.ptr 3 0 0 0, SV.ptr 4 0 0 0, SV.bool false, SV.bool true, SV.int IntKind.i64 (IntKind.i64.wrap (i + 1))]],
  [Row.vec true Knd.bool xs, Row.vec true Knd.vec sp, Row.vec true Knd.cm cs,
  Row.own [SV.int IntKind.i64 w, SV.int IntKind.i64 d, SV.int IntKind.i64 h, SV.slice 0 1 0 len none, SV.slice 1 3 0 ls none],
  Row.own
  [SV.int IntKind.i64 (walkP (mpOf w d h len fun j => xs.getD (0 + j) false).slide p (cs.getD (0 + i.toNat) Knd.cm.dflt)).id,
  SV.int IntKind.i64 (walkP (mpOf w d h len fun j => xs.getD (0 + j) false).slide p (cs.getD (0 + i.toNat) Knd.cm.dflt)).pos.x,
  SV.int IntKind.i64 (walkP (mpOf w d h len fun j => xs.getD (0 + j) false).slide p (cs.getD (0 + i.toNat) Knd.cm.dflt)).pos.y,
  SV.int IntKind.i64 (walkP (mpOf w d h len fun j => xs.getD (0 + j) false).slide p (cs.getD (0 + i.toNat) Knd.cm.dflt)).pos.z,
  SV.int IntKind.i64 (walkP (mpOf w d h len fun j => xs.getD (0 + j) false).slide p (cs.getD (0 + i.toNat) Knd.cm.dflt)).vel.x,
  SV.int IntKind.i64 (walkP (mpOf w d h len fun j => xs.getD (0 + j) false).slide p (cs.getD (0 + i.toNat) Knd.cm.dflt)).vel.y,
  SV.int IntKind.i64 (walkP (mpOf w d h len fun j => xs.getD (0 + j) false).slide p (cs.getD (0 + i.toNat) Knd.cm.dflt)).vel.z,
  SV.bool (walkP (mpOf w d h len fun j => xs.getD (0 + j) false).slide p (cs.getD (0 + i.toNat) Knd.cm.dflt)).ground,
  SV.int IntKind.i64 (walkP (mpOf w d h len fun j => xs.getD (0 + j) false).slide p (cs.getD (0 + i.toNat) Knd.cm.dflt)).health,
  SV.int IntKind.i64 (walkP (mpOf w d h len fun j => xs.getD (0 + j) false).slide p (cs.getD (0 + i.toNat) Knd.cm.dflt)).armour,
  SV.int IntKind.i64 (walkP (mpOf w d h len fun j => xs.getD (0 + j) false).slide p (cs.getD (0 + i.toNat) Knd.cm.dflt)).score,
  SV.int IntKind.i64 (walkP (mpOf w d h len fun j => xs.getD (0 + j) false).slide p (cs.getD (0 + i.toNat) Knd.cm.dflt)).a0,
  SV.int IntKind.i64 (walkP (mpOf w d h len fun j => xs.getD (0 + j) false).slide p (cs.getD (0 + i.toNat) Knd.cm.dflt)).a1,
  SV.int IntKind.i64 (walkP (mpOf w d h len fun j => xs.getD (0 + j) false).slide p (cs.getD (0 + i.toNat) Knd.cm.dflt)).wait,
  SV.int IntKind.i64 (walkP (mpOf w d h len fun j => xs.getD (0 + j) false).slide p (cs.getD (0 + i.toNat) Knd.cm.dflt)).dead]])
  else none
  else none
  else none
  else none
  else
  some
  (SV.tuple [SV.ptr 0 0 0 0, SV.tuple [SV.slice 2 5 0 ll none, SV.ptr 3 0 0 0, SV.ptr 4 0 0 0, SV.bool false, SV.bool true, SV.int IntKind.i64 i]],
  [Row.vec true Knd.bool xs, Row.vec true Knd.vec sp, Row.vec true Knd.cm cs,
  Row.own [SV.int IntKind.i64 w, SV.int IntKind.i64 d, SV.int IntKind.i64 h, SV.slice 0 1 0 len none, SV.slice 1 3 0 ls none],
  Row.own
  [SV.int IntKind.i64 p.id, SV.int IntKind.i64 p.pos.x, SV.int IntKind.i64 p.pos.y, SV.int IntKind.i64 p.pos.z, SV.int IntKind.i64 p.vel.x, SV.int IntKind.i64 p.vel.y,
  SV.int IntKind.i64 p.vel.z, SV.bool p.ground, SV.int IntKind.i64 p.health, SV.int IntKind.i64 p.armour, SV.int IntKind.i64 p.score, SV.int IntKind.i64 p.a0, SV.int IntKind.i64 p.a1,
  SV.int IntKind.i64 p.wait, SV.int IntKind.i64 p.dead]]) := by kernel_rfl

/-- Commands, one behind the other. -/
def walkRL (S : V3 → V3 → V3 × Bool × Bool × Bool) (cs : List Cm) : Nat → Nat → Pl → Pl
  | 0, _, p => p
  | k + 1, i, p => walkRL S cs k (i + 1) (walkP S p (cs.getD (0 + i) Knd.cm.dflt))

section
variable {w d h : Int} {len ls ll : Nat} {xs : List Bool} {sp : List V3} {cs : List Cm}
set_option maxHeartbeats 0 in
theorem wr_loop (hm : mapOk w d h len = true) (hl : decide (0 + len ≤ xs.length) = true) (hc : ll ≤ cs.length) : ∀ (k i : Nat) (p : Pl), p.pos.fits → wRight (mpOf w d h len fun j => xs.getD (0 + j) false).free p = true → i + k = min ll 20 →
    LoopTo rdWr (valWr ll false i) (rowWr w d h len ls xs sp cs p) (.exit 0) (valWr ll false ((min ll 20 : Nat) : Int)) (rowWr w d h len ls xs sp cs (walkRL (mpOf w d h len fun j => xs.getD (0 + j) false).slide cs k i p))
  | 0, i, p, hp, hr, hi => by
    obtain rfl : i = min ll 20 := by omega
    refine .done ?_ (by simp)
    rw [wr_round, and_form, show (decide ((((min ll 20 : Nat)) : Int) < (ll : Int)) && decide ((((min ll 20 : Nat)) : Int) < 20)) = false by rw [Bool.and_eq_false_iff, decide_eq_false_iff_not, decide_eq_false_iff_not]; omega, cond_false]
    rfl
  | k + 1, i, p, hp, hr, hi => by
    have hro := wr_round w d h len ls ll xs sp cs p i
    have e1 : ((i : Int)).toNat = i := by omega
    rw [e1, and_form, decide_eq_true (show (i : Int) < (ll : Int) by omega), decide_eq_true (show (i : Int) < 20 by omega), decide_eq_true (show (0 : Int) ≤ (i : Int) by omega), decide_eq_true (show 0 + i < cs.length by omega), hm, hl, fitsB_iff.2 hp, IntWalk.i64_in ((i : Int) + 1) (by omega)] at hro
    simp only [Bool.and_true, cond_true] at hro
    have hq : (walkP (mpOf w d h len fun j => xs.getD (0 + j) false).slide p (cs.getD (0 + i) Knd.cm.dflt)).pos.fits := walkP_fits hp
    have hrq := walkP_right (c := cs.getD (0 + i) Knd.cm.dflt) hr
    have hsm := walkP_same (mpOf w d h len fun j => xs.getD (0 + j) false) (cs.getD (0 + i) Knd.cm.dflt) p
    have hdd : p.dead > 0 → walkP (mpOf w d h len fun j => xs.getD (0 + j) false).slide p (cs.getD (0 + i) Knd.cm.dflt) = p := fun hd => walkP_dead hd
    unfold walkRL
    rw [hrq, fitsB_iff.2 hq] at hro
    generalize walkP (mpOf w d h len fun j => xs.getD (0 + j) false).slide p (cs.getD (0 + i) Knd.cm.dflt) = q at hro hq hrq hsm hdd ⊢
    unfold sameBut at hsm
    have s1 : q.id = p.id := (congrArg Pl.id hsm :)
    have s2 : q.health = p.health := (congrArg Pl.health hsm :)
    have s3 : q.armour = p.armour := (congrArg Pl.armour hsm :)
    have s4 : q.score = p.score := (congrArg Pl.score hsm :)
    have s5 : q.a0 = p.a0 := (congrArg Pl.a0 hsm :)
    have s6 : q.a1 = p.a1 := (congrArg Pl.a1 hsm :)
    have s7 : q.wait = p.wait := (congrArg Pl.wait hsm :)
    have s8 : q.dead = p.dead := (congrArg Pl.dead hsm :)
    have hz : (bif (!(q.id == p.id && (p.pos.x == p.pos.x && (p.pos.y == p.pos.y && (p.pos.z == p.pos.z && (p.vel.x == p.vel.x && (p.vel.y == p.vel.y && (p.vel.z == p.vel.z && (p.ground == p.ground && (q.health == p.health && (q.armour == p.armour && (q.score == p.score && (q.a0 == p.a0 && (q.a1 == p.a1 && (q.wait == p.wait && (q.dead == p.dead && true)))))))))))))))) == false then bif decide (p.dead > 0) == true then !(q.id == p.id && (q.pos.x == p.pos.x && (q.pos.y == p.pos.y && (q.pos.z == p.pos.z && (q.vel.x == p.vel.x && (q.vel.y == p.vel.y && (q.vel.z == p.vel.z && (q.ground == p.ground && (q.health == p.health && (q.armour == p.armour && (q.score == p.score && (q.a0 == p.a0 && (q.a1 == p.a1 && (q.wait == p.wait && (q.dead == p.dead && true))))))))))))))) else false else true) = false := by
      rw [s1, s2, s3, s4, s5, s6, s7, s8]
      simp only [beq_self_eq_true, Bool.and_true, Bool.not_true, cond_true]
      by_cases hd : p.dead > 0
      · rw [hdd hd]
        simp only [beq_self_eq_true, Bool.and_true, Bool.not_true, Bool.and_self]
        cases decide (p.dead > 0) <;> rfl
      · rw [decide_eq_false hd]; rfl
    simp only [Bool.and_true, cond_true, Bool.not_true, cond_false] at hro
    rw [show (bif (!(q.id == p.id && (p.pos.x == p.pos.x && (p.pos.y == p.pos.y && (p.pos.z == p.pos.z && (p.vel.x == p.vel.x && (p.vel.y == p.vel.y && (p.vel.z == p.vel.z && (p.ground == p.ground && (q.health == p.health && (q.armour == p.armour && (q.score == p.score && (q.a0 == p.a0 && (q.a1 == p.a1 && (q.wait == p.wait && q.dead == p.dead))))))))))))))) == false then bif decide (p.dead > 0) == true then !(q.id == p.id && (q.pos.x == p.pos.x && (q.pos.y == p.pos.y && (q.pos.z == p.pos.z && (q.vel.x == p.vel.x && (q.vel.y == p.vel.y && (q.vel.z == p.vel.z && (q.ground == p.ground && (q.health == p.health && (q.armour == p.armour && (q.score == p.score && (q.a0 == p.a0 && (q.a1 == p.a1 && (q.wait == p.wait && q.dead == p.dead)))))))))))))) else false else true) = false by simpa only [Bool.and_true] using hz, cond_false] at hro
    exact .more hro (wr_loop hm hl hc k (i + 1) _ hq hrq (by omega))
end

set_option maxHeartbeats 0 in
noncomputable def outWr (v : List SV) (R : List Row) (k : Ex → List SV → List Row → Option Res2) : Option Res2 := match v, R with
  | [.slice 2 5 0 ll none, .ptr 3 0 0 0, .ptr 4 0 0 0, .bool false, .bool true, .int .i64 i],
    [.vec true .bool xs, .vec true .vec sp, .vec true .cm cs, .own [.int .i64 w, .int .i64 d, .int .i64 h, .slice 0 1 0 len none, .slice 1 3 0 ls none], .own [.int .i64 a0, .int .i64 a1, .int .i64 a2, .int .i64 a3, .int .i64 a4, .int .i64 a5, .int .i64 a6, .bool a7, .int .i64 a8, .int .i64 a9, .int .i64 a10, .int .i64 a11, .int .i64 a12, .int .i64 a13, .int .i64 a14]] =>
      bif decide (i = 0) && (mapOk w d h len && (decide (0 + len ≤ xs.length) && (decide (ll ≤ cs.length) && (fitsB ⟨a1, a2, a3⟩ && wRight (mpOf w d h len fun j => xs.getD (0 + j) false).free ⟨a0, ⟨a1, a2, a3⟩, ⟨a4, a5, a6⟩, a7, a8, a9, a10, a11, a12, a13, a14⟩)))) then
        k (.exit 0) (valWr ll false ((min ll 20 : Nat) : Int)) (rowWr w d h len ls xs sp cs (walkRL (mpOf w d h len fun j => xs.getD (0 + j) false).slide cs (min ll 20) 0 ⟨a0, ⟨a1, a2, a3⟩, ⟨a4, a5, a6⟩, a7, a8, a9, a10, a11, a12, a13, a14⟩)) else none
  | _, _ => none
set_option maxHeartbeats 0 in
theorem lpoWr_ok : LpOk 4 [0, 1, 0, 1, 1, 1] (loopF 68 [2, 3, 4, 6, 7, 8] outWr) := by
  intro b hat s K r h
  refine loopF_ok (fuel := 100) x11r_ok lok_none hat (fun v R k r hr => ?_) h
  have hbody := at_body Try.func4 hat
  subst hbody
  unfold outWr at hr
  split at hr
  · rename_i ll i xs sp cs w d h len ls a0 a1 a2 a3 a4 a5 a6 a7 a8 a9 a10 a11 a12 a13 a14
    obtain ⟨hb, hr2⟩ := cond_some hr
    simp only [Bool.and_eq_true, decide_eq_true_eq, fitsB_iff] at hb
    obtain ⟨h1, h2, h3, h4, h5, h6⟩ := hb
    subst h1
    exact ⟨_, _, _, hr2, wr_loop h2 (decide_eq_true h3) h4 (min ll 20) 0 ⟨a0, ⟨a1, a2, a3⟩, ⟨a4, a5, a6⟩, a7, a8, a9, a10, a11, a12, a13, a14⟩ h5 h6 (by omega)⟩
  · cases hr
noncomputable def lpoWr : Lpo := ⟨_, _, _, lpoWr_ok⟩

set_option maxRecDepth 100000 in
set_option maxHeartbeats 0 in
theorem wr_tree (w d h : Int) (len ls ll : Nat) (xs : List Bool) (sp : List V3) (cs : List Cm) (p : Pl) : runK x11r (loopOf [lpoWr]) 300 4 Try.f4 0 [mapS w d h (.slice 0 1 0 len none) (.slice 1 3 0 ls none), .agg p.sv, .slice 2 5 0 ll none] [.vec true .bool xs, .vec true .vec sp, .vec true .cm cs] =
  bif
  (mapOk w d h len && (decide (0 + len ≤ xs.length) && (decide (0 + ls ≤ sp.length) && (decide (ls ≤ 9223372036854775807) && sp.all fitsB))) && true && true ||
  (bif (bif decide (w ≤ 10) == true then decide (d ≤ 10) else false) == true then decide (h ≤ 10) else false) != true) &&
  (true || (bif (bif decide (w ≤ 10) == true then decide (d ≤ 10) else false) == true then decide (h ≤ 10) else false) == true) &&
  true then
  bif
  (mapOk w d h len && (fitsB p.pos && decide (0 + len ≤ xs.length)) && true && true ||
  (!bif (bif (bif decide (w ≤ 10) == true then decide (d ≤ 10) else false) == true then decide (h ≤ 10) else false) == true then
  rightE ((mpOf w d h len fun j => xs.getD (0 + j) false).right (spAt sp 0) ls) == 0
  else false) !=
  false) &&
  (true ||
  (!bif (bif (bif decide (w ≤ 10) == true then decide (d ≤ 10) else false) == true then decide (h ≤ 10) else false) == true then
  rightE ((mpOf w d h len fun j => xs.getD (0 + j) false).right (spAt sp 0) ls) == 0
  else false) ==
  false) &&
  true then
  bif
  bif
  (!bif (bif (bif decide (w ≤ 10) == true then decide (d ≤ 10) else false) == true then decide (h ≤ 10) else false) == true then
  rightE ((mpOf w d h len fun j => xs.getD (0 + j) false).right (spAt sp 0) ls) == 0
  else false) ==
  false then
  !wRight (mpOf w d h len fun j => xs.getD (0 + j) false).free p
  else true then
  some (SV.bool true, [])
  else
  bif mapOk w d h len && (decide (0 + len ≤ xs.length) && (decide (ll ≤ cs.length) && (fitsB p.pos && wRight (mpOf w d h len fun j => xs.getD (0 + j) false).free p))) then some (SV.bool true, [])
  else none
  else none
  else none := by kernel_rfl

set_option maxHeartbeats 0 in
theorem wr_law {w d h : Int} {len ls ll : Nat} {xs : List Bool} {sp : List V3} {cs : List Cm} {p : Pl} (hw : In64 w) (hd : In64 d) (hh : In64 h) (hl : len ≤ 9223372036854775807) (hx : xs.length = len) (hs : ls ≤ 9223372036854775807) (hy : sp.length = ls) (hf : ∀ p ∈ sp, p.fits) (hp : p.pos.fits) (hc : cs.length = ll) :
    runK x11r (loopOf [lpoWr]) 300 4 Try.f4 0 [mapS w d h (.slice 0 1 0 len none) (.slice 1 3 0 ls none), .agg p.sv, .slice 2 5 0 ll none] [.vec true .bool xs, .vec true .vec sp, .vec true .cm cs] = some (.bool true, []) := by
  rw [wr_tree]
  obtain ⟨c1, c2, c3⟩ := right_facts hw hd hh hl hx hs hy hf
  rw [c1]
  generalize (mpOf w d h len fun j => xs.getD (0 + j) false).right (spAt sp 0) ls = R
  simp only [c2, c3, fitsB_iff.2 hp, decide_eq_true (show ll ≤ cs.length by omega), decide_true, Bool.and_true, Bool.true_or, Bool.or_true, Bool.true_and, Bool.false_or, cond_true, and_form, or_form, beq_self_eq_true]
  refine bif_law (fun _ => rfl) (fun hr => ?_)
  simp only [Bool.or_eq_false_iff, Bool.not_eq_false', Bool.and_eq_true] at hr
  rw [hr.2]
  rfl

end Go.Proofs.Ytihpfaeabocdbaa
