/- WalkStill: the law's call. -/
import Derived.Test.YtihpfaeabocdbaaVmWk
import Derived.Test.YtihpfaeabocdbaaVmRt
import Derived.Test.YtihpfaeabocdbaaVmG11
import Derived.Test.YtihpfaeabocdbaaOpen3
namespace Go.Proofs.Ytihpfaeabocdbaa
set_option linter.unusedSimpArgs false
set_option linter.unusedVariables false
set_option maxRecDepth 100000
open Go.RowKit

noncomputable def x11l : Ctx := ctxOf [10, 18] [orcShown11, orcRight, orcRw, orcTick, orcStepW]
theorem x11l_ok : COk Try.prog x11l := ctxOf_ok (by kernel_rfl)

set_option maxRecDepth 100000 in
set_option maxHeartbeats 0 in
theorem still_tree (w d h : Int) (len ls : Nat) (xs : List Bool) (sp : List V3) (p : Pl) (c : Cm) : runK x11l (fun _ _ => none) 200 7 Try.f7 0 [mapS w d h (.slice 0 1 0 len none) (.slice 1 3 0 ls none), .agg p.sv, .agg c.sv] [.vec true .bool xs, .vec true .vec sp] =
  bif
  (mapOk w d h len && (decide (0 + len ≤ xs.length) && (decide (0 + ls ≤ sp.length) && (decide (ls ≤ 9223372036854775807) && sp.all fitsB))) && true && true ||
  (bif (bif decide (w ≤ 10) == true then decide (d ≤ 10) else false) == true then decide (h ≤ 10) else false) != true) &&
  (true || (bif (bif decide (w ≤ 10) == true then decide (d ≤ 10) else false) == true then decide (h ≤ 10) else false) == true) &&
  true then
  bif
  (mapOk w d h len && (fitsB p.pos && decide (0 + len ≤ xs.length)) && true && true ||
  (!bif (bif (bif decide (w ≤ 10) == true then decide (d ≤ 10) else false) == true then decide (h ≤ 10) else false) == true then
  rightE ((mpOf w d h len fun j => xs.getD (0 + j) false).right (spAt sp 0) ls) == 0
  else false) !=
  false) &&
  (true ||
  (!bif (bif (bif decide (w ≤ 10) == true then decide (d ≤ 10) else false) == true then decide (h ≤ 10) else false) == true then
  rightE ((mpOf w d h len fun j => xs.getD (0 + j) false).right (spAt sp 0) ls) == 0
  else false) ==
  false) &&
  true then
  bif
  bif
  (!bif (bif (bif decide (w ≤ 10) == true then decide (d ≤ 10) else false) == true then decide (h ≤ 10) else false) == true then
  rightE ((mpOf w d h len fun j => xs.getD (0 + j) false).right (spAt sp 0) ls) == 0
  else false) ==
  false then
  !wRight (mpOf w d h len fun j => xs.getD (0 + j) false).free p
  else true then
  some (SV.bool true, [])
  else
  bif mapOk w d h len && (fitsB p.pos && decide (0 + len ≤ xs.length)) then
  bif mapOk w d h len && (fitsB p.pos && decide (0 + len ≤ xs.length)) then
  bif mapOk w d h len && (fitsB p.pos && decide (0 + len ≤ xs.length)) then
  bif mapOk w d h len && (fitsB p.pos && decide (0 + len ≤ xs.length)) then
  bif
  bif
  (bif
  (bif
  (bif true == true then
  (walkP (mpOf w d h len fun j => xs.getD (0 + j) false).slide p (Cm.mk c.seq c.buttons c.dx c.dy 0)).pos.x == p.pos.x &&
  ((walkP (mpOf w d h len fun j => xs.getD (0 + j) false).slide p (Cm.mk c.seq c.buttons c.dx c.dy 0)).pos.y == p.pos.y &&
  ((walkP (mpOf w d h len fun j => xs.getD (0 + j) false).slide p (Cm.mk c.seq c.buttons c.dx c.dy 0)).pos.z == p.pos.z && true))
  else false) ==
  true then
  (walkP (mpOf w d h len fun j => xs.getD (0 + j) false).slide p (Cm.mk c.seq c.buttons c.dx c.dy 0)).vel.x == p.vel.x &&
  ((walkP (mpOf w d h len fun j => xs.getD (0 + j) false).slide p (Cm.mk c.seq c.buttons c.dx c.dy 0)).vel.y == p.vel.y &&
  ((walkP (mpOf w d h len fun j => xs.getD (0 + j) false).slide p (Cm.mk c.seq c.buttons c.dx c.dy 0)).vel.z == p.vel.z && true))
  else false) ==
  true then
  (walkP (mpOf w d h len fun j => xs.getD (0 + j) false).slide p (Cm.mk c.seq c.buttons c.dx c.dy 9)).pos.x == p.pos.x &&
  ((walkP (mpOf w d h len fun j => xs.getD (0 + j) false).slide p (Cm.mk c.seq c.buttons c.dx c.dy 9)).pos.y == p.pos.y &&
  ((walkP (mpOf w d h len fun j => xs.getD (0 + j) false).slide p (Cm.mk c.seq c.buttons c.dx c.dy 9)).pos.z == p.pos.z && true))
  else false) ==
  true then
  (walkP (mpOf w d h len fun j => xs.getD (0 + j) false).slide
  (Pl.mk p.id p.pos p.vel p.ground p.health p.armour p.score p.a0 p.a1 p.wait
  (IntKind.i64.wrap (1 + IntKind.i64.wrap (↑(BitVec.ofInt IntKind.i64.bits p.dead &&& BitVec.ofInt IntKind.i64.bits 7).toNat : Int))))
  (Cm.mk c.seq c.buttons c.dx c.dy 3)).id ==
  p.id &&
  ((walkP (mpOf w d h len fun j => xs.getD (0 + j) false).slide
  (Pl.mk p.id p.pos p.vel p.ground p.health p.armour p.score p.a0 p.a1 p.wait
  (IntKind.i64.wrap (1 + IntKind.i64.wrap (↑(BitVec.ofInt IntKind.i64.bits p.dead &&& BitVec.ofInt IntKind.i64.bits 7).toNat : Int))))
  (Cm.mk c.seq c.buttons c.dx c.dy 3)).pos.x ==
  p.pos.x &&
  ((walkP (mpOf w d h len fun j => xs.getD (0 + j) false).slide
  (Pl.mk p.id p.pos p.vel p.ground p.health p.armour p.score p.a0 p.a1 p.wait
  (IntKind.i64.wrap (1 + IntKind.i64.wrap (↑(BitVec.ofInt IntKind.i64.bits p.dead &&& BitVec.ofInt IntKind.i64.bits 7).toNat : Int))))
  (Cm.mk c.seq c.buttons c.dx c.dy 3)).pos.y ==
  p.pos.y &&
  ((walkP (mpOf w d h len fun j => xs.getD (0 + j) false).slide
  (Pl.mk p.id p.pos p.vel p.ground p.health p.armour p.score p.a0 p.a1 p.wait
  (IntKind.i64.wrap (1 + IntKind.i64.wrap (↑(BitVec.ofInt IntKind.i64.bits p.dead &&& BitVec.ofInt IntKind.i64.bits 7).toNat : Int))))
  (Cm.mk c.seq c.buttons c.dx c.dy 3)).pos.z ==
  p.pos.z &&
  ((walkP (mpOf w d h len fun j => xs.getD (0 + j) false).slide
  (Pl.mk p.id p.pos p.vel p.ground p.health p.armour p.score p.a0 p.a1 p.wait
  (IntKind.i64.wrap (1 + IntKind.i64.wrap (↑(BitVec.ofInt IntKind.i64.bits p.dead &&& BitVec.ofInt IntKind.i64.bits 7).toNat : Int))))
  (Cm.mk c.seq c.buttons c.dx c.dy 3)).vel.x ==
  p.vel.x &&
  ((walkP (mpOf w d h len fun j => xs.getD (0 + j) false).slide
  (Pl.mk p.id p.pos p.vel p.ground p.health p.armour p.score p.a0 p.a1 p.wait
  (IntKind.i64.wrap (1 + IntKind.i64.wrap (↑(BitVec.ofInt IntKind.i64.bits p.dead &&& BitVec.ofInt IntKind.i64.bits 7).toNat : Int))))
  (Cm.mk c.seq c.buttons c.dx c.dy 3)).vel.y ==
  p.vel.y &&
  ((walkP (mpOf w d h len fun j => xs.getD (0 + j) false).slide
  (Pl.mk p.id p.pos p.vel p.ground p.health p.armour p.score p.a0 p.a1 p.wait
  (IntKind.i64.wrap (1 + IntKind.i64.wrap (↑(BitVec.ofInt IntKind.i64.bits p.dead &&& BitVec.ofInt IntKind.i64.bits 7).toNat : Int))))
  (Cm.mk c.seq c.buttons c.dx c.dy 3)).vel.z ==
  p.vel.z &&
  ((walkP (mpOf w d h len fun j => xs.getD (0 + j) false).slide
  (Pl.mk p.id p.pos p.vel p.ground p.health p.armour p.score p.a0 p.a1 p.wait
  (IntKind.i64.wrap (1 + IntKind.i64.wrap (↑(BitVec.ofInt IntKind.i64.bits p.dead &&& BitVec.ofInt IntKind.i64.bits 7).toNat : Int))))
  (Cm.mk c.seq c.buttons c.dx c.dy 3)).ground ==
  p.ground &&
  ((walkP (mpOf w d h len fun j => xs.getD (0 + j) false).slide
  (Pl.mk p.id p.pos p.vel p.ground p.health p.armour p.score p.a0 p.a1 p.wait
  (IntKind.i64.wrap (1 + IntKind.i64.wrap (↑(BitVec.ofInt IntKind.i64.bits p.dead &&& BitVec.ofInt IntKind.i64.bits 7).toNat : Int))))
  (Cm.mk c.seq c.buttons c.dx c.dy 3)).health ==
  p.health &&
  ((walkP (mpOf w d h len fun j => xs.getD (0 + j) false).slide
  (Pl.mk p.id p.pos p.vel p.ground p.health p.armour p.score p.a0 p.a1 p.wait
  (IntKind.i64.wrap (1 + IntKind.i64.wrap (↑(BitVec.ofInt IntKind.i64.bits p.dead &&& BitVec.ofInt IntKind.i64.bits 7).toNat : Int))))
  (Cm.mk c.seq c.buttons c.dx c.dy 3)).armour ==
  p.armour &&
  ((walkP (mpOf w d h len fun j => xs.getD (0 + j) false).slide
  (Pl.mk p.id p.pos p.vel p.ground p.health p.armour p.score p.a0 p.a1 p.wait
  (IntKind.i64.wrap (1 + IntKind.i64.wrap (↑(BitVec.ofInt IntKind.i64.bits p.dead &&& BitVec.ofInt IntKind.i64.bits 7).toNat : Int))))
  (Cm.mk c.seq c.buttons c.dx c.dy 3)).score ==
  p.score &&
  ((walkP (mpOf w d h len fun j => xs.getD (0 + j) false).slide
  (Pl.mk p.id p.pos p.vel p.ground p.health p.armour p.score p.a0 p.a1 p.wait
  (IntKind.i64.wrap (1 + IntKind.i64.wrap (↑(BitVec.ofInt IntKind.i64.bits p.dead &&& BitVec.ofInt IntKind.i64.bits 7).toNat : Int))))
  (Cm.mk c.seq c.buttons c.dx c.dy 3)).a0 ==
  p.a0 &&
  ((walkP (mpOf w d h len fun j => xs.getD (0 + j) false).slide
  (Pl.mk p.id p.pos p.vel p.ground p.health p.armour p.score p.a0 p.a1 p.wait
  (IntKind.i64.wrap (1 + IntKind.i64.wrap (↑(BitVec.ofInt IntKind.i64.bits p.dead &&& BitVec.ofInt IntKind.i64.bits 7).toNat : Int))))
  (Cm.mk c.seq c.buttons c.dx c.dy 3)).a1 ==
  p.a1 &&
  ((walkP (mpOf w d h len fun j => xs.getD (0 + j) false).slide
  (Pl.mk p.id p.pos p.vel p.ground p.health p.armour p.score p.a0 p.a1 p.wait
  (IntKind.i64.wrap (1 + IntKind.i64.wrap (↑(BitVec.ofInt IntKind.i64.bits p.dead &&& BitVec.ofInt IntKind.i64.bits 7).toNat : Int))))
  (Cm.mk c.seq c.buttons c.dx c.dy 3)).wait ==
  p.wait &&
  ((walkP (mpOf w d h len fun j => xs.getD (0 + j) false).slide
  (Pl.mk p.id p.pos p.vel p.ground p.health p.armour p.score p.a0 p.a1 p.wait
  (IntKind.i64.wrap (1 + IntKind.i64.wrap (↑(BitVec.ofInt IntKind.i64.bits p.dead &&& BitVec.ofInt IntKind.i64.bits 7).toNat : Int))))
  (Cm.mk c.seq c.buttons c.dx c.dy 3)).dead ==
  IntKind.i64.wrap (1 + IntKind.i64.wrap (↑(BitVec.ofInt IntKind.i64.bits p.dead &&& BitVec.ofInt IntKind.i64.bits 7).toNat : Int)) &&
  true))))))))))))))
  else false then
  bif
  bif
  (bif
  (bif decide (p.vel.x ≥ 0) == true then
  decide
  ((tickP (mpOf w d h len fun j => xs.getD (0 + j) false).slide (Pl.mk p.id p.pos p.vel p.ground p.health p.armour p.score p.a0 p.a1 p.wait 0)
  (Cm.mk 0 0 0 0 0)).vel.x ≥
  0)
  else false) ==
  true then
  decide
  ((tickP (mpOf w d h len fun j => xs.getD (0 + j) false).slide (Pl.mk p.id p.pos p.vel p.ground p.health p.armour p.score p.a0 p.a1 p.wait 0) (Cm.mk 0 0 0 0 0)).vel.x ≤
  p.vel.x)
  else false) ==
  false then
  bif
  (bif decide (p.vel.x ≤ 0) == true then
  decide
  ((tickP (mpOf w d h len fun j => xs.getD (0 + j) false).slide (Pl.mk p.id p.pos p.vel p.ground p.health p.armour p.score p.a0 p.a1 p.wait 0) (Cm.mk 0 0 0 0 0)).vel.x ≤
  0)
  else false) ==
  true then
  decide
  ((tickP (mpOf w d h len fun j => xs.getD (0 + j) false).slide (Pl.mk p.id p.pos p.vel p.ground p.health p.armour p.score p.a0 p.a1 p.wait 0) (Cm.mk 0 0 0 0 0)).vel.x ≥
  p.vel.x)
  else false
  else true then
  some
  (SV.bool
  (bif
  (bif
  (bif decide (p.vel.y ≥ 0) == true then
  decide
  ((tickP (mpOf w d h len fun j => xs.getD (0 + j) false).slide (Pl.mk p.id p.pos p.vel p.ground p.health p.armour p.score p.a0 p.a1 p.wait 0)
  (Cm.mk 0 0 0 0 0)).vel.y ≥
  0)
  else false) ==
  true then
  decide
  ((tickP (mpOf w d h len fun j => xs.getD (0 + j) false).slide (Pl.mk p.id p.pos p.vel p.ground p.health p.armour p.score p.a0 p.a1 p.wait 0)
  (Cm.mk 0 0 0 0 0)).vel.y ≤
  p.vel.y)
  else false) ==
  false then
  bif
  (bif decide (p.vel.y ≤ 0) == true then
  decide
  ((tickP (mpOf w d h len fun j => xs.getD (0 + j) false).slide (Pl.mk p.id p.pos p.vel p.ground p.health p.armour p.score p.a0 p.a1 p.wait 0)
  (Cm.mk 0 0 0 0 0)).vel.y ≤
  0)
  else false) ==
  true then
  decide
  ((tickP (mpOf w d h len fun j => xs.getD (0 + j) false).slide (Pl.mk p.id p.pos p.vel p.ground p.health p.armour p.score p.a0 p.a1 p.wait 0) (Cm.mk 0 0 0 0 0)).vel.y ≥
  p.vel.y)
  else false
  else true),
  [])
  else some (SV.bool false, [])
  else some (SV.bool false, [])
  else none
  else none
  else none
  else none
  else none
  else none := by kernel_rfl

theorem near_zero {s sh : Int} (hs : -32768 ≤ s ∧ s ≤ 32768) (h : sh = 4 ∨ sh = 16) : nearV s 0 sh = s + (-s).tdiv sh := by
  unfold nearV
  rw [show IntKind.i64.wrap ((IntKind.i64.wrap (IntKind.i64.wrap 0 * 16384)).tdiv 127) = 0 from rfl, IntWalk.i64_in (0 - s) (by omega), show 0 - s = -s by omega]
  rcases Int.le_total 0 s with h0 | h0
  · rw [Int.neg_tdiv, Int.tdiv_eq_ediv_of_nonneg h0]
    rcases h with rfl | rfl
    · rw [IntWalk.i64_in (-(s / 4)) (by omega), IntWalk.i64_in _ (by omega)]
    · rw [IntWalk.i64_in (-(s / 16)) (by omega), IntWalk.i64_in _ (by omega)]
  · rw [Int.tdiv_eq_ediv_of_nonneg (show 0 ≤ -s by omega)]
    rcases h with rfl | rfl
    · rw [IntWalk.i64_in (-s / 4) (by omega), IntWalk.i64_in _ (by omega)]
    · rw [IntWalk.i64_in (-s / 16) (by omega), IntWalk.i64_in _ (by omega)]
theorem near_slower {s sh : Int} {k : Bool} (hs : -32768 ≤ s ∧ s ≤ 32768) (h : sh = 4 ∨ sh = 16) : (s ≥ 0 ∧ (bif k then 0 else cutM (nearV s 0 sh)) ≥ 0 ∧ (bif k then 0 else cutM (nearV s 0 sh)) ≤ s) ∨ (s ≤ 0 ∧ (bif k then 0 else cutM (nearV s 0 sh)) ≤ 0 ∧ (bif k then 0 else cutM (nearV s 0 sh)) ≥ s) := by
  cases k with
  | true => simp only [cond_true]; omega
  | false =>
    simp only [cond_false]
    rw [near_zero hs h]
    unfold cutM
    rcases Int.le_total 0 s with h0 | h0
    · rw [Int.neg_tdiv, Int.tdiv_eq_ediv_of_nonneg h0]
      rcases h with rfl | rfl <;> omega
    · rw [Int.tdiv_eq_ediv_of_nonneg (show 0 ≤ -s by omega)]
      rcases h with rfl | rfl <;> omega
theorem still_tick (m : Mp) (p : Pl) (c : Cm) (hd : ¬ p.dead > 0) (h0 : c.dx = 0) (h1 : c.dy = 0) (hx : -32768 ≤ p.vel.x ∧ p.vel.x ≤ 32768) (hy : -32768 ≤ p.vel.y ∧ p.vel.y ≤ 32768) :
    ((p.vel.x ≥ 0 ∧ (tickP m.slide p c).vel.x ≥ 0 ∧ (tickP m.slide p c).vel.x ≤ p.vel.x) ∨ (p.vel.x ≤ 0 ∧ (tickP m.slide p c).vel.x ≤ 0 ∧ (tickP m.slide p c).vel.x ≥ p.vel.x)) ∧
    ((p.vel.y ≥ 0 ∧ (tickP m.slide p c).vel.y ≥ 0 ∧ (tickP m.slide p c).vel.y ≤ p.vel.y) ∨ (p.vel.y ≤ 0 ∧ (tickP m.slide p c).vel.y ≤ 0 ∧ (tickP m.slide p c).vel.y ≥ p.vel.y)) := by
  obtain ⟨v, x, y, z, k1, k2, k3, hv, e, _⟩ := tickP_spec m p c hd
  rw [e]
  subst hv
  unfold triedV
  simp only
  rw [h0, h1]
  exact ⟨near_slower hx (by cases firmB p c <;> simp), near_slower hy (by cases firmB p c <;> simp)⟩
theorem slower_form {s q : Int} (h : (s ≥ 0 ∧ q ≥ 0 ∧ q ≤ s) ∨ (s ≤ 0 ∧ q ≤ 0 ∧ q ≥ s)) : (((decide (s ≥ 0) && decide (q ≥ 0)) && decide (q ≤ s)) || ((decide (s ≤ 0) && decide (q ≤ 0)) && decide (q ≥ s))) = true := by
  simp only [Bool.or_eq_true, Bool.and_eq_true, decide_eq_true_eq]
  omega
theorem walkP_none' {S : V3 → V3 → V3 × Bool × Bool × Bool} {p : Pl} {c : Cm} (h : c.ticks < 1 ∨ c.ticks > 8) : walkP S p c = p := by
  unfold walkP
  rcases h with h | h
  · rw [decide_eq_true h, Bool.true_or]; rfl
  · rw [decide_eq_true h, Bool.or_true]; rfl

set_option maxHeartbeats 0 in
theorem still_law {w d h : Int} {len ls : Nat} {xs : List Bool} {sp : List V3} {p : Pl} {c : Cm} (hw : In64 w) (hd : In64 d) (hh : In64 h) (hl : len ≤ 9223372036854775807) (hx : xs.length = len) (hs : ls ≤ 9223372036854775807) (hy : sp.length = ls) (hf : ∀ p ∈ sp, p.fits) (hp : p.pos.fits) :
    runK x11l (fun _ _ => none) 200 7 Try.f7 0 [mapS w d h (.slice 0 1 0 len none) (.slice 1 3 0 ls none), .agg p.sv, .agg c.sv] [.vec true .bool xs, .vec true .vec sp] = some (.bool true, []) := by
  rw [still_tree]
  obtain ⟨c1, c2, c3⟩ := right_facts hw hd hh hl hx hs hy hf
  rw [c1]
  have hM := mask_in (a := p.dead) (c := 7) 7 rfl (by omega)
  generalize IntKind.i64.wrap ((BitVec.ofInt IntKind.i64.bits p.dead &&& BitVec.ofInt IntKind.i64.bits 7).toNat : Int) = M at hM ⊢
  rw [IntWalk.i64_in (1 + M) (by omega)]
  generalize (mpOf w d h len fun j => xs.getD (0 + j) false).right (spAt sp 0) ls = R
  generalize (mpOf w d h len fun j => xs.getD (0 + j) false) = m
  rw [walkP_none' (p := p) (c := Cm.mk c.seq c.buttons c.dx c.dy 0) (.inl (by show (0 : Int) < 1; omega)), walkP_none' (p := p) (c := Cm.mk c.seq c.buttons c.dx c.dy 9) (.inr (by show (9 : Int) > 8; omega))]
  rw [walkP_dead (p := Pl.mk p.id p.pos p.vel p.ground p.health p.armour p.score p.a0 p.a1 p.wait (1 + M)) (c := Cm.mk c.seq c.buttons c.dx c.dy 3) (by show 1 + M > 0; omega)]
  simp only [c2, c3, fitsB_iff.2 hp, Bool.and_true, Bool.true_or, Bool.or_true, Bool.true_and, Bool.false_or, cond_true, and_form, or_form, beq_self_eq_true]
  refine bif_law (fun _ => rfl) (fun hr => ?_)
  simp only [Bool.or_eq_false_iff, Bool.not_eq_false', Bool.and_eq_true, decide_eq_true_eq, wRight_iff] at hr
  obtain ⟨s1, s2⟩ := still_tick m (Pl.mk p.id p.pos p.vel p.ground p.health p.armour p.score p.a0 p.a1 p.wait 0) (Cm.mk 0 0 0 0 0) (by simp) rfl rfl hr.2.1 hr.2.2.1
  rw [slower_form s1, slower_form s2]
  rfl

end Go.Proofs.Ytihpfaeabocdbaa
