/- WalkHigher: the law's call. -/
import Derived.Test.YtihpfaeabocdbaaVmWk
import Derived.Test.YtihpfaeabocdbaaVmRt
import Derived.Test.YtihpfaeabocdbaaVmG11
import Derived.Test.YtihpfaeabocdbaaOpen3
namespace Go.Proofs.Ytihpfaeabocdbaa
set_option linter.unusedSimpArgs false
set_option linter.unusedVariables false
set_option maxRecDepth 100000
open Go.RowKit

noncomputable def x11h : Ctx := ctxOf [10] [orcShown11, orcRight, orcRw, orcTick]
theorem x11h_ok : COk Try.prog x11h := ctxOf_ok (by kernel_rfl)

set_option maxRecDepth 100000 in
set_option maxHeartbeats 0 in
theorem higher_tree (w d h : Int) (len ls : Nat) (xs : List Bool) (sp : List V3) (p : Pl) (c : Cm) : runK x11h (fun _ _ => none) 200 8 Try.f8 0 [mapS w d h (.slice 0 1 0 len none) (.slice 1 3 0 ls none), .agg p.sv, .agg c.sv] [.vec true .bool xs, .vec true .vec sp] =
  bif
  (mapOk w d h len && (decide (0 + len ≤ xs.length) && (decide (0 + ls ≤ sp.length) && (decide (ls ≤ 9223372036854775807) && sp.all fitsB))) && true && true ||
  (bif (bif decide (w ≤ 10) == true then decide (d ≤ 10) else false) == true then decide (h ≤ 10) else false) != true) &&
  (true || (bif (bif decide (w ≤ 10) == true then decide (d ≤ 10) else false) == true then decide (h ≤ 10) else false) == true) &&
  true then
  bif
  (mapOk w d h len && (fitsB p.pos && decide (0 + len ≤ xs.length)) && true && true ||
  (!bif (bif (bif decide (w ≤ 10) == true then decide (d ≤ 10) else false) == true then decide (h ≤ 10) else false) == true then
  rightE ((mpOf w d h len fun j => xs.getD (0 + j) false).right (spAt sp 0) ls) == 0
  else false) !=
  false) &&
  (true ||
  (!bif (bif (bif decide (w ≤ 10) == true then decide (d ≤ 10) else false) == true then decide (h ≤ 10) else false) == true then
  rightE ((mpOf w d h len fun j => xs.getD (0 + j) false).right (spAt sp 0) ls) == 0
  else false) ==
  false) &&
  true then
  bif
  bif
  (!bif (bif (bif decide (w ≤ 10) == true then decide (d ≤ 10) else false) == true then decide (h ≤ 10) else false) == true then
  rightE ((mpOf w d h len fun j => xs.getD (0 + j) false).right (spAt sp 0) ls) == 0
  else false) ==
  false then
  !wRight (mpOf w d h len fun j => xs.getD (0 + j) false).free p
  else true then
  some (SV.bool true, [])
  else
  bif mapOk w d h len && (fitsB p.pos && decide (0 + len ≤ xs.length)) then
  bif mapOk w d h len && (fitsB p.pos && decide (0 + len ≤ xs.length)) then
  bif !p.ground then
  some
  (SV.bool
  (bif true == true then
  (tickP (mpOf w d h len fun j => xs.getD (0 + j) false).slide (Pl.mk p.id p.pos p.vel p.ground p.health p.armour p.score p.a0 p.a1 p.wait 0)
  (Cm.mk c.seq (IntKind.u8.wrap (↑(BitVec.ofInt IntKind.u8.bits c.buttons ||| BitVec.ofInt IntKind.u8.bits 1).toNat : Int)) c.dx c.dy c.ticks)).id ==
  (tickP (mpOf w d h len fun j => xs.getD (0 + j) false).slide (Pl.mk p.id p.pos p.vel p.ground p.health p.armour p.score p.a0 p.a1 p.wait 0)
  (Cm.mk c.seq (IntKind.u8.wrap (↑(BitVec.ofInt IntKind.u8.bits c.buttons &&& ~~~BitVec.ofInt IntKind.u8.bits 1).toNat : Int)) c.dx c.dy c.ticks)).id &&
  ((tickP (mpOf w d h len fun j => xs.getD (0 + j) false).slide (Pl.mk p.id p.pos p.vel p.ground p.health p.armour p.score p.a0 p.a1 p.wait 0)
  (Cm.mk c.seq (IntKind.u8.wrap (↑(BitVec.ofInt IntKind.u8.bits c.buttons ||| BitVec.ofInt IntKind.u8.bits 1).toNat : Int)) c.dx c.dy c.ticks)).pos.x ==
  (tickP (mpOf w d h len fun j => xs.getD (0 + j) false).slide (Pl.mk p.id p.pos p.vel p.ground p.health p.armour p.score p.a0 p.a1 p.wait 0)
  (Cm.mk c.seq (IntKind.u8.wrap (↑(BitVec.ofInt IntKind.u8.bits c.buttons &&& ~~~BitVec.ofInt IntKind.u8.bits 1).toNat : Int)) c.dx c.dy c.ticks)).pos.x &&
  ((tickP (mpOf w d h len fun j => xs.getD (0 + j) false).slide (Pl.mk p.id p.pos p.vel p.ground p.health p.armour p.score p.a0 p.a1 p.wait 0)
  (Cm.mk c.seq (IntKind.u8.wrap (↑(BitVec.ofInt IntKind.u8.bits c.buttons ||| BitVec.ofInt IntKind.u8.bits 1).toNat : Int)) c.dx c.dy c.ticks)).pos.y ==
  (tickP (mpOf w d h len fun j => xs.getD (0 + j) false).slide (Pl.mk p.id p.pos p.vel p.ground p.health p.armour p.score p.a0 p.a1 p.wait 0)
  (Cm.mk c.seq (IntKind.u8.wrap (↑(BitVec.ofInt IntKind.u8.bits c.buttons &&& ~~~BitVec.ofInt IntKind.u8.bits 1).toNat : Int)) c.dx c.dy c.ticks)).pos.y &&
  ((tickP (mpOf w d h len fun j => xs.getD (0 + j) false).slide (Pl.mk p.id p.pos p.vel p.ground p.health p.armour p.score p.a0 p.a1 p.wait 0)
  (Cm.mk c.seq (IntKind.u8.wrap (↑(BitVec.ofInt IntKind.u8.bits c.buttons ||| BitVec.ofInt IntKind.u8.bits 1).toNat : Int)) c.dx c.dy c.ticks)).pos.z ==
  (tickP (mpOf w d h len fun j => xs.getD (0 + j) false).slide (Pl.mk p.id p.pos p.vel p.ground p.health p.armour p.score p.a0 p.a1 p.wait 0)
  (Cm.mk c.seq (IntKind.u8.wrap (↑(BitVec.ofInt IntKind.u8.bits c.buttons &&& ~~~BitVec.ofInt IntKind.u8.bits 1).toNat : Int)) c.dx c.dy c.ticks)).pos.z &&
  ((tickP (mpOf w d h len fun j => xs.getD (0 + j) false).slide (Pl.mk p.id p.pos p.vel p.ground p.health p.armour p.score p.a0 p.a1 p.wait 0)
  (Cm.mk c.seq (IntKind.u8.wrap (↑(BitVec.ofInt IntKind.u8.bits c.buttons ||| BitVec.ofInt IntKind.u8.bits 1).toNat : Int)) c.dx c.dy c.ticks)).vel.x ==
  (tickP (mpOf w d h len fun j => xs.getD (0 + j) false).slide (Pl.mk p.id p.pos p.vel p.ground p.health p.armour p.score p.a0 p.a1 p.wait 0)
  (Cm.mk c.seq (IntKind.u8.wrap (↑(BitVec.ofInt IntKind.u8.bits c.buttons &&& ~~~BitVec.ofInt IntKind.u8.bits 1).toNat : Int)) c.dx c.dy c.ticks)).vel.x &&
  ((tickP (mpOf w d h len fun j => xs.getD (0 + j) false).slide (Pl.mk p.id p.pos p.vel p.ground p.health p.armour p.score p.a0 p.a1 p.wait 0)
  (Cm.mk c.seq (IntKind.u8.wrap (↑(BitVec.ofInt IntKind.u8.bits c.buttons ||| BitVec.ofInt IntKind.u8.bits 1).toNat : Int)) c.dx c.dy c.ticks)).vel.y ==
  (tickP (mpOf w d h len fun j => xs.getD (0 + j) false).slide (Pl.mk p.id p.pos p.vel p.ground p.health p.armour p.score p.a0 p.a1 p.wait 0)
  (Cm.mk c.seq (IntKind.u8.wrap (↑(BitVec.ofInt IntKind.u8.bits c.buttons &&& ~~~BitVec.ofInt IntKind.u8.bits 1).toNat : Int)) c.dx c.dy c.ticks)).vel.y &&
  ((tickP (mpOf w d h len fun j => xs.getD (0 + j) false).slide (Pl.mk p.id p.pos p.vel p.ground p.health p.armour p.score p.a0 p.a1 p.wait 0)
  (Cm.mk c.seq (IntKind.u8.wrap (↑(BitVec.ofInt IntKind.u8.bits c.buttons ||| BitVec.ofInt IntKind.u8.bits 1).toNat : Int)) c.dx c.dy c.ticks)).vel.z ==
  (tickP (mpOf w d h len fun j => xs.getD (0 + j) false).slide (Pl.mk p.id p.pos p.vel p.ground p.health p.armour p.score p.a0 p.a1 p.wait 0)
  (Cm.mk c.seq (IntKind.u8.wrap (↑(BitVec.ofInt IntKind.u8.bits c.buttons &&& ~~~BitVec.ofInt IntKind.u8.bits 1).toNat : Int)) c.dx c.dy c.ticks)).vel.z &&
  ((tickP (mpOf w d h len fun j => xs.getD (0 + j) false).slide (Pl.mk p.id p.pos p.vel p.ground p.health p.armour p.score p.a0 p.a1 p.wait 0)
  (Cm.mk c.seq (IntKind.u8.wrap (↑(BitVec.ofInt IntKind.u8.bits c.buttons ||| BitVec.ofInt IntKind.u8.bits 1).toNat : Int)) c.dx c.dy c.ticks)).ground ==
  (tickP (mpOf w d h len fun j => xs.getD (0 + j) false).slide (Pl.mk p.id p.pos p.vel p.ground p.health p.armour p.score p.a0 p.a1 p.wait 0)
  (Cm.mk c.seq (IntKind.u8.wrap (↑(BitVec.ofInt IntKind.u8.bits c.buttons &&& ~~~BitVec.ofInt IntKind.u8.bits 1).toNat : Int)) c.dx c.dy c.ticks)).ground &&
  ((tickP (mpOf w d h len fun j => xs.getD (0 + j) false).slide (Pl.mk p.id p.pos p.vel p.ground p.health p.armour p.score p.a0 p.a1 p.wait 0)
  (Cm.mk c.seq (IntKind.u8.wrap (↑(BitVec.ofInt IntKind.u8.bits c.buttons ||| BitVec.ofInt IntKind.u8.bits 1).toNat : Int)) c.dx c.dy c.ticks)).health ==
  (tickP (mpOf w d h len fun j => xs.getD (0 + j) false).slide (Pl.mk p.id p.pos p.vel p.ground p.health p.armour p.score p.a0 p.a1 p.wait 0)
  (Cm.mk c.seq (IntKind.u8.wrap (↑(BitVec.ofInt IntKind.u8.bits c.buttons &&& ~~~BitVec.ofInt IntKind.u8.bits 1).toNat : Int)) c.dx c.dy c.ticks)).health &&
  ((tickP (mpOf w d h len fun j => xs.getD (0 + j) false).slide (Pl.mk p.id p.pos p.vel p.ground p.health p.armour p.score p.a0 p.a1 p.wait 0)
  (Cm.mk c.seq (IntKind.u8.wrap (↑(BitVec.ofInt IntKind.u8.bits c.buttons ||| BitVec.ofInt IntKind.u8.bits 1).toNat : Int)) c.dx c.dy c.ticks)).armour ==
  (tickP (mpOf w d h len fun j => xs.getD (0 + j) false).slide (Pl.mk p.id p.pos p.vel p.ground p.health p.armour p.score p.a0 p.a1 p.wait 0)
  (Cm.mk c.seq (IntKind.u8.wrap (↑(BitVec.ofInt IntKind.u8.bits c.buttons &&& ~~~BitVec.ofInt IntKind.u8.bits 1).toNat : Int)) c.dx c.dy c.ticks)).armour &&
  ((tickP (mpOf w d h len fun j => xs.getD (0 + j) false).slide (Pl.mk p.id p.pos p.vel p.ground p.health p.armour p.score p.a0 p.a1 p.wait 0)
  (Cm.mk c.seq (IntKind.u8.wrap (↑(BitVec.ofInt IntKind.u8.bits c.buttons ||| BitVec.ofInt IntKind.u8.bits 1).toNat : Int)) c.dx c.dy c.ticks)).score ==
  (tickP (mpOf w d h len fun j => xs.getD (0 + j) false).slide (Pl.mk p.id p.pos p.vel p.ground p.health p.armour p.score p.a0 p.a1 p.wait 0)
  (Cm.mk c.seq (IntKind.u8.wrap (↑(BitVec.ofInt IntKind.u8.bits c.buttons &&& ~~~BitVec.ofInt IntKind.u8.bits 1).toNat : Int)) c.dx c.dy
  c.ticks)).score &&
  ((tickP (mpOf w d h len fun j => xs.getD (0 + j) false).slide (Pl.mk p.id p.pos p.vel p.ground p.health p.armour p.score p.a0 p.a1 p.wait 0)
  (Cm.mk c.seq (IntKind.u8.wrap (↑(BitVec.ofInt IntKind.u8.bits c.buttons ||| BitVec.ofInt IntKind.u8.bits 1).toNat : Int)) c.dx c.dy c.ticks)).a0 ==
  (tickP (mpOf w d h len fun j => xs.getD (0 + j) false).slide (Pl.mk p.id p.pos p.vel p.ground p.health p.armour p.score p.a0 p.a1 p.wait 0)
  (Cm.mk c.seq (IntKind.u8.wrap (↑(BitVec.ofInt IntKind.u8.bits c.buttons &&& ~~~BitVec.ofInt IntKind.u8.bits 1).toNat : Int)) c.dx c.dy c.ticks)).a0 &&
  ((tickP (mpOf w d h len fun j => xs.getD (0 + j) false).slide (Pl.mk p.id p.pos p.vel p.ground p.health p.armour p.score p.a0 p.a1 p.wait 0)
  (Cm.mk c.seq (IntKind.u8.wrap (↑(BitVec.ofInt IntKind.u8.bits c.buttons ||| BitVec.ofInt IntKind.u8.bits 1).toNat : Int)) c.dx c.dy c.ticks)).a1 ==
  (tickP (mpOf w d h len fun j => xs.getD (0 + j) false).slide (Pl.mk p.id p.pos p.vel p.ground p.health p.armour p.score p.a0 p.a1 p.wait 0)
  (Cm.mk c.seq (IntKind.u8.wrap (↑(BitVec.ofInt IntKind.u8.bits c.buttons &&& ~~~BitVec.ofInt IntKind.u8.bits 1).toNat : Int)) c.dx c.dy
  c.ticks)).a1 &&
  ((tickP (mpOf w d h len fun j => xs.getD (0 + j) false).slide (Pl.mk p.id p.pos p.vel p.ground p.health p.armour p.score p.a0 p.a1 p.wait 0)
  (Cm.mk c.seq (IntKind.u8.wrap (↑(BitVec.ofInt IntKind.u8.bits c.buttons ||| BitVec.ofInt IntKind.u8.bits 1).toNat : Int)) c.dx c.dy
  c.ticks)).wait ==
  (tickP (mpOf w d h len fun j => xs.getD (0 + j) false).slide (Pl.mk p.id p.pos p.vel p.ground p.health p.armour p.score p.a0 p.a1 p.wait 0)
  (Cm.mk c.seq (IntKind.u8.wrap (↑(BitVec.ofInt IntKind.u8.bits c.buttons &&& ~~~BitVec.ofInt IntKind.u8.bits 1).toNat : Int)) c.dx c.dy
  c.ticks)).wait &&
  ((tickP (mpOf w d h len fun j => xs.getD (0 + j) false).slide (Pl.mk p.id p.pos p.vel p.ground p.health p.armour p.score p.a0 p.a1 p.wait 0)
  (Cm.mk c.seq (IntKind.u8.wrap (↑(BitVec.ofInt IntKind.u8.bits c.buttons ||| BitVec.ofInt IntKind.u8.bits 1).toNat : Int)) c.dx c.dy
  c.ticks)).dead ==
  (tickP (mpOf w d h len fun j => xs.getD (0 + j) false).slide (Pl.mk p.id p.pos p.vel p.ground p.health p.armour p.score p.a0 p.a1 p.wait 0)
  (Cm.mk c.seq (IntKind.u8.wrap (↑(BitVec.ofInt IntKind.u8.bits c.buttons &&& ~~~BitVec.ofInt IntKind.u8.bits 1).toNat : Int)) c.dx c.dy
  c.ticks)).dead &&
  true))))))))))))))
  else false),
  [])
  else
  some
  (SV.bool
  (bif
  (bif
  (bif
  (bif true == true then
  bif
  (bif
  ((tickP (mpOf w d h len fun j => xs.getD (0 + j) false).slide (Pl.mk p.id p.pos p.vel p.ground p.health p.armour p.score p.a0 p.a1 p.wait 0)
  (Cm.mk c.seq (IntKind.u8.wrap (↑(BitVec.ofInt IntKind.u8.bits c.buttons ||| BitVec.ofInt IntKind.u8.bits 1).toNat : Int)) c.dx c.dy
  c.ticks)).vel.z ==
  23552) ==
  true then
  (tickP (mpOf w d h len fun j => xs.getD (0 + j) false).slide (Pl.mk p.id p.pos p.vel p.ground p.health p.armour p.score p.a0 p.a1 p.wait 0)
  (Cm.mk c.seq (IntKind.u8.wrap (↑(BitVec.ofInt IntKind.u8.bits c.buttons ||| BitVec.ofInt IntKind.u8.bits 1).toNat : Int)) c.dx c.dy
  c.ticks)).pos.z ==
  IntKind.i64.wrap (IntKind.i64.wrap (p.pos.z + 24576) - 1024)
  else false) ==
  false then
  bif
  ((tickP (mpOf w d h len fun j => xs.getD (0 + j) false).slide (Pl.mk p.id p.pos p.vel p.ground p.health p.armour p.score p.a0 p.a1 p.wait 0)
  (Cm.mk c.seq (IntKind.u8.wrap (↑(BitVec.ofInt IntKind.u8.bits c.buttons ||| BitVec.ofInt IntKind.u8.bits 1).toNat : Int)) c.dx c.dy
  c.ticks)).vel.z ==
  0) ==
  true then
  (tickP (mpOf w d h len fun j => xs.getD (0 + j) false).slide (Pl.mk p.id p.pos p.vel p.ground p.health p.armour p.score p.a0 p.a1 p.wait 0)
  (Cm.mk c.seq (IntKind.u8.wrap (↑(BitVec.ofInt IntKind.u8.bits c.buttons ||| BitVec.ofInt IntKind.u8.bits 1).toNat : Int)) c.dx c.dy c.ticks)).pos.z ==
  p.pos.z
  else false
  else true
  else false) ==
  true then
  !(tickP (mpOf w d h len fun j => xs.getD (0 + j) false).slide (Pl.mk p.id p.pos p.vel p.ground p.health p.armour p.score p.a0 p.a1 p.wait 0)
  (Cm.mk c.seq (IntKind.u8.wrap (↑(BitVec.ofInt IntKind.u8.bits c.buttons ||| BitVec.ofInt IntKind.u8.bits 1).toNat : Int)) c.dx c.dy c.ticks)).ground
  else false) ==
  true then
  (tickP (mpOf w d h len fun j => xs.getD (0 + j) false).slide (Pl.mk p.id p.pos p.vel p.ground p.health p.armour p.score p.a0 p.a1 p.wait 0)
  (Cm.mk c.seq (IntKind.u8.wrap (↑(BitVec.ofInt IntKind.u8.bits c.buttons ||| BitVec.ofInt IntKind.u8.bits 1).toNat : Int)) c.dx c.dy c.ticks)).pos.x ==
  (tickP (mpOf w d h len fun j => xs.getD (0 + j) false).slide (Pl.mk p.id p.pos p.vel p.ground p.health p.armour p.score p.a0 p.a1 p.wait 0)
  (Cm.mk c.seq (IntKind.u8.wrap (↑(BitVec.ofInt IntKind.u8.bits c.buttons &&& ~~~BitVec.ofInt IntKind.u8.bits 1).toNat : Int)) c.dx c.dy c.ticks)).pos.x
  else false) ==
  true then
  (tickP (mpOf w d h len fun j => xs.getD (0 + j) false).slide (Pl.mk p.id p.pos p.vel p.ground p.health p.armour p.score p.a0 p.a1 p.wait 0)
  (Cm.mk c.seq (IntKind.u8.wrap (↑(BitVec.ofInt IntKind.u8.bits c.buttons ||| BitVec.ofInt IntKind.u8.bits 1).toNat : Int)) c.dx c.dy c.ticks)).pos.y ==
  (tickP (mpOf w d h len fun j => xs.getD (0 + j) false).slide (Pl.mk p.id p.pos p.vel p.ground p.health p.armour p.score p.a0 p.a1 p.wait 0)
  (Cm.mk c.seq (IntKind.u8.wrap (↑(BitVec.ofInt IntKind.u8.bits c.buttons &&& ~~~BitVec.ofInt IntKind.u8.bits 1).toNat : Int)) c.dx c.dy c.ticks)).pos.y
  else false),
  [])
  else none
  else none
  else none
  else none := by kernel_rfl

theorem firm_with (p : Pl) (c : Cm) (a x y k : Int) : firmB p (Cm.mk a (IntKind.u8.wrap ((BitVec.ofInt IntKind.u8.bits c.buttons ||| BitVec.ofInt IntKind.u8.bits 1).toNat : Int)) x y k) = firmB p c := by
  unfold firmB
  simp only
  rw [u8_round]
  rw [show (BitVec.ofInt IntKind.u8.bits c.buttons ||| BitVec.ofInt IntKind.u8.bits 1) &&& BitVec.ofInt IntKind.u8.bits 2 = BitVec.ofInt IntKind.u8.bits c.buttons &&& BitVec.ofInt IntKind.u8.bits 2 from bits_or2 _]
theorem firm_without (p : Pl) (c : Cm) (a x y k : Int) : firmB p (Cm.mk a (IntKind.u8.wrap ((BitVec.ofInt IntKind.u8.bits c.buttons &&& ~~~BitVec.ofInt IntKind.u8.bits 1).toNat : Int)) x y k) = firmB p c := by
  unfold firmB
  simp only
  rw [u8_round]
  rw [show (BitVec.ofInt IntKind.u8.bits c.buttons &&& ~~~BitVec.ofInt IntKind.u8.bits 1) &&& BitVec.ofInt IntKind.u8.bits 2 = BitVec.ofInt IntKind.u8.bits c.buttons &&& BitVec.ofInt IntKind.u8.bits 2 from bits_not2 _]
theorem jump_with (p : Pl) (c : Cm) (a x y k : Int) : jumpB p (Cm.mk a (IntKind.u8.wrap ((BitVec.ofInt IntKind.u8.bits c.buttons ||| BitVec.ofInt IntKind.u8.bits 1).toNat : Int)) x y k) = p.ground := by
  unfold jumpB
  simp only
  rw [u8_round]
  rw [show (BitVec.ofInt IntKind.u8.bits c.buttons ||| BitVec.ofInt IntKind.u8.bits 1) &&& BitVec.ofInt IntKind.u8.bits 1 = 1#8 from bits_or1 _]
  cases p.ground <;> rfl
theorem jump_without (p : Pl) (c : Cm) (a x y k : Int) : jumpB p (Cm.mk a (IntKind.u8.wrap ((BitVec.ofInt IntKind.u8.bits c.buttons &&& ~~~BitVec.ofInt IntKind.u8.bits 1).toNat : Int)) x y k) = false := by
  unfold jumpB
  simp only
  rw [u8_round]
  rw [show (BitVec.ofInt IntKind.u8.bits c.buttons &&& ~~~BitVec.ofInt IntKind.u8.bits 1) &&& BitVec.ofInt IntKind.u8.bits 1 = 0#8 from bits_not1 _]
  cases p.ground <;> rfl
theorem tick_xy (m : Mp) (p : Pl) (c e : Cm) (hd : ¬ p.dead > 0) (hf : firmB p c = firmB p e) (hx : c.dx = e.dx) (hy : c.dy = e.dy) : (tickP m.slide p c).pos.x = (tickP m.slide p e).pos.x ∧ (tickP m.slide p c).pos.y = (tickP m.slide p e).pos.y := by
  unfold tickP
  rw [decide_eq_false hd, cond_false, cond_false]
  unfold triedV landP
  rw [hf, hx, hy]
  exact slide_xy m p.pos _ _ _ _
theorem tick_jump (m : Mp) (p : Pl) (c : Cm) (hd : ¬ p.dead > 0) (hj : jumpB p c = true) (hp : 0 ≤ p.pos.z ∧ p.pos.z ≤ 1000000000) :
    ((tickP m.slide p c).vel.z = 23552 ∧ (tickP m.slide p c).pos.z = p.pos.z + 23552 ∨ (tickP m.slide p c).vel.z = 0 ∧ (tickP m.slide p c).pos.z = p.pos.z) ∧ (tickP m.slide p c).ground = false := by
  obtain ⟨v, x, y, z, k1, k2, k3, hv, e, _, _, hz, _⟩ := tickP_spec m p c hd
  rw [e]
  have hvz : v.z = 23552 := by
    rw [hv]
    unfold triedV
    simp only
    rw [hj]
    rfl
  rw [hvz] at hz
  have hk : clampN 32768 23552 = 23552 := clampN_in (by omega)
  simp only [hvz]
  refine ⟨?_, by cases k3 <;> rfl⟩
  rcases hz with ⟨h1, h2⟩ | ⟨h1, h2⟩
  · left
    rw [h2, h1, hk]
    refine ⟨rfl, ?_⟩
    unfold cut64
    omega
  · right
    rw [hk] at h2
    rw [h2, h1]
    exact ⟨rfl, rfl⟩

theorem free_z {m : Mp} {p : V3} (hp : p.fits) (hh : m.h ≤ 10) (hf : m.free p = true) : 0 ≤ p.z ∧ p.z ≤ 1000000000 := by
  unfold Mp.free at hf
  rw [Mp.clear_iff] at hf
  unfold Mp.Clear boxV V3.minus V3.plus at hf
  simp only at hf
  obtain ⟨f1, f2, f3⟩ := hp
  unfold In64 at f1 f2 f3
  rcases hf with h | h | h | h
  · unfold cut64 at h; omega
  · unfold cut64 at h; omega
  · unfold cut64 at h; omega
  · have hs := h (cut64 (p.x - 26214) / 65536) (cut64 (p.y - 26214) / 65536) (cut64 (p.z - 58982) / 65536) (Int.le_refl _) (by unfold cut64; omega) (Int.le_refl _) (by unfold cut64; omega) (Int.le_refl _) (by unfold cut64; omega)
    unfold Mp.solid at hs
    simp only [Bool.or_eq_false_iff, Bool.not_eq_false'] at hs
    have hz := hs.1.2
    unfold inB at hz
    simp only [Bool.and_eq_true, decide_eq_true_eq] at hz
    unfold cut64 at hz
    omega

set_option maxHeartbeats 0 in
theorem higher_law {w d h : Int} {len ls : Nat} {xs : List Bool} {sp : List V3} {p : Pl} {c : Cm} (hw : In64 w) (hd : In64 d) (hh : In64 h) (hl : len ≤ 9223372036854775807) (hx : xs.length = len) (hs : ls ≤ 9223372036854775807) (hy : sp.length = ls) (hf : ∀ p ∈ sp, p.fits) (hp : p.pos.fits) :
    runK x11h (fun _ _ => none) 200 8 Try.f8 0 [mapS w d h (.slice 0 1 0 len none) (.slice 1 3 0 ls none), .agg p.sv, .agg c.sv] [.vec true .bool xs, .vec true .vec sp] = some (.bool true, []) := by
  rw [higher_tree]
  obtain ⟨c1, c2, c3⟩ := right_facts hw hd hh hl hx hs hy hf
  rw [c1]
  generalize (mpOf w d h len fun j => xs.getD (0 + j) false).right (spAt sp 0) ls = R
  have mh : (mpOf w d h len fun j => xs.getD (0 + j) false).h = h := rfl
  generalize (mpOf w d h len fun j => xs.getD (0 + j) false) = m at mh ⊢
  simp only [c2, c3, fitsB_iff.2 hp, Bool.and_true, Bool.true_or, Bool.or_true, Bool.true_and, Bool.false_or, cond_true, and_form, or_form]
  refine bif_law (fun _ => rfl) (fun hr => ?_)
  simp only [Bool.or_eq_false_iff, Bool.not_eq_false', Bool.and_eq_true, decide_eq_true_eq, wRight_iff] at hr
  have hz := free_z hp (by rw [mh]; exact hr.1.1.2) hr.2.2.2.2
  refine bif_law (fun hg => ?_) (fun hg => ?_)
  · rw [Bool.not_eq_true'] at hg
    rw [tickP_ext (S := m.slide) (p := Pl.mk p.id p.pos p.vel p.ground p.health p.armour p.score p.a0 p.a1 p.wait 0) (c := Cm.mk c.seq (IntKind.u8.wrap ((BitVec.ofInt IntKind.u8.bits c.buttons ||| BitVec.ofInt IntKind.u8.bits 1).toNat : Int)) c.dx c.dy c.ticks) (e := Cm.mk c.seq (IntKind.u8.wrap ((BitVec.ofInt IntKind.u8.bits c.buttons &&& ~~~BitVec.ofInt IntKind.u8.bits 1).toNat : Int)) c.dx c.dy c.ticks) (by rw [firm_with, firm_without]) (by rw [jump_with, jump_without]; exact hg) rfl rfl]
    simp only [beq_self_eq_true, Bool.and_true]
  · rw [Bool.not_eq_false'] at hg
    obtain ⟨j1, j2⟩ := tick_jump m (Pl.mk p.id p.pos p.vel p.ground p.health p.armour p.score p.a0 p.a1 p.wait 0) (Cm.mk c.seq (IntKind.u8.wrap ((BitVec.ofInt IntKind.u8.bits c.buttons ||| BitVec.ofInt IntKind.u8.bits 1).toNat : Int)) c.dx c.dy c.ticks) (by simp) (by rw [jump_with]; exact hg) hz
    obtain ⟨k1, k2⟩ := tick_xy m (Pl.mk p.id p.pos p.vel p.ground p.health p.armour p.score p.a0 p.a1 p.wait 0) (Cm.mk c.seq (IntKind.u8.wrap ((BitVec.ofInt IntKind.u8.bits c.buttons ||| BitVec.ofInt IntKind.u8.bits 1).toNat : Int)) c.dx c.dy c.ticks) (Cm.mk c.seq (IntKind.u8.wrap ((BitVec.ofInt IntKind.u8.bits c.buttons &&& ~~~BitVec.ofInt IntKind.u8.bits 1).toNat : Int)) c.dx c.dy c.ticks) (by simp) (by rw [firm_with, firm_without]) rfl rfl
    generalize tickP m.slide _ _ = A at j1 j2 k1 k2 ⊢
    generalize tickP m.slide _ _ = B at k1 k2 ⊢
    simp only at j1
    rw [IntWalk.i64_in (p.pos.z + 24576) (by omega), IntWalk.i64_in (p.pos.z + 24576 - 1024) (by omega), show p.pos.z + 24576 - 1024 = p.pos.z + 23552 by omega, j2, k1, k2]
    rcases j1 with ⟨a1, a2⟩ | ⟨a1, a2⟩ <;> rw [a1, a2] <;> simp

end Go.Proofs.Ytihpfaeabocdbaa
