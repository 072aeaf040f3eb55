/- WalkJoins: the law's call. -/
import Derived.Test.YtihpfaeabocdbaaVmWk
import Derived.Test.YtihpfaeabocdbaaVmRt
import Derived.Test.YtihpfaeabocdbaaVmG11
import Derived.Test.YtihpfaeabocdbaaOpen3
namespace Go.Proofs.Ytihpfaeabocdbaa
set_option linter.unusedSimpArgs false
set_option linter.unusedVariables false
set_option maxRecDepth 100000
open Go.RowKit

/-- Step's value, shut: the kernel is not to look into it. -/
theorem walkO_is : ∃ f : (V3 → V3 → V3 × Bool × Bool × Bool) → Pl → Cm → Pl, f = walkP := ⟨walkP, rfl⟩
noncomputable def walkO : { f : (V3 → V3 → V3 × Bool × Bool × Bool) → Pl → Cm → Pl // f = walkP } := ⟨Classical.choose walkO_is, Classical.choose_spec walkO_is⟩
noncomputable def oStepO (args : List SV) (rows : List Row) : Option Eff :=
  match args with
  | [.agg [.int .i64 w, .int .i64 d, .int .i64 h, .slice id st off len _, sp], .agg [.int .i64 a0, .int .i64 a1, .int .i64 a2, .int .i64 a3, .int .i64 a4, .int .i64 a5, .int .i64 a6, .bool a7, .int .i64 a8, .int .i64 a9, .int .i64 a10, .int .i64 a11, .int .i64 a12, .int .i64 a13, .int .i64 a14], .agg [.int .u16 c0, .int .u8 c1, .int .i8 c2, .int .i8 c3, .int .i64 c4]] => match rows[id]? with
    | some (.vec _ .bool xs) => bif Nat.beq st 1 && sp.one then some { ok := mapOk w d h len && (fitsB ⟨a1, a2, a3⟩ && decide (off + len ≤ xs.length)), val := .agg (walkO.1 (mpOf w d h len fun j => xs.getD (off + j) false).slide ⟨a0, ⟨a1, a2, a3⟩, ⟨a4, a5, a6⟩, a7, a8, a9, a10, a11, a12, a13, a14⟩ ⟨c0, c1, c2, c3, c4⟩).sv, rd := [id] } else none
    | _ => none
  | _ => none
theorem oStepO_le {args : List SV} {rows : List Row} {e : Eff} (h : oStepO args rows = some e) : oStepW args rows = some e := by
  unfold oStepO at h
  rw [walkO.2] at h
  exact h
noncomputable def orcStepO : Orc := ⟨15, oStepO, fun _ _ _ h hok => oStepW_ok (oStepO_le h) hok, bodied Try.func15 (by kernel_rfl)⟩

noncomputable def x11j : Ctx := ctxOf [10] [orcShown11, orcRight, orcRw, orcStepO]
theorem x11j_ok : COk Try.prog x11j := ctxOf_ok (by kernel_rfl)

set_option maxRecDepth 100000 in
set_option maxHeartbeats 0 in
theorem joins_tree (w d h : Int) (len ls : Nat) (xs : List Bool) (sp : List V3) (p : Pl) (c : Cm) (a b : Int) : runK x11j (fun _ _ => none) 200 5 Try.f5 0 [mapS w d h (.slice 0 1 0 len none) (.slice 1 3 0 ls none), .agg p.sv, .agg c.sv, .int .i64 a, .int .i64 b] [.vec true .bool xs, .vec true .vec sp] =
  bif
  (mapOk w d h len && (decide (0 + len ≤ xs.length) && (decide (0 + ls ≤ sp.length) && (decide (ls ≤ 9223372036854775807) && sp.all fitsB))) && true && true ||
  (bif (bif decide (w ≤ 10) == true then decide (d ≤ 10) else false) == true then decide (h ≤ 10) else false) != true) &&
  (true || (bif (bif decide (w ≤ 10) == true then decide (d ≤ 10) else false) == true then decide (h ≤ 10) else false) == true) &&
  true then
  bif
  (mapOk w d h len && (fitsB p.pos && decide (0 + len ≤ xs.length)) && true && true ||
  (!bif (bif (bif decide (w ≤ 10) == true then decide (d ≤ 10) else false) == true then decide (h ≤ 10) else false) == true then
  rightE ((mpOf w d h len fun j => xs.getD (0 + j) false).right (spAt sp 0) ls) == 0
  else false) !=
  false) &&
  (true ||
  (!bif (bif (bif decide (w ≤ 10) == true then decide (d ≤ 10) else false) == true then decide (h ≤ 10) else false) == true then
  rightE ((mpOf w d h len fun j => xs.getD (0 + j) false).right (spAt sp 0) ls) == 0
  else false) ==
  false) &&
  true then
  bif
  bif
  (!bif (bif (bif decide (w ≤ 10) == true then decide (d ≤ 10) else false) == true then decide (h ≤ 10) else false) == true then
  rightE ((mpOf w d h len fun j => xs.getD (0 + j) false).right (spAt sp 0) ls) == 0
  else false) ==
  false then
  !wRight (mpOf w d h len fun j => xs.getD (0 + j) false).free p
  else true then
  some (SV.bool true, [])
  else
  bif mapOk w d h len && (fitsB p.pos && decide (0 + len ≤ xs.length)) then
  bif mapOk w d h len && (fitsB p.pos && decide (0 + len ≤ xs.length)) then
  bif
  mapOk w d h len &&
  (fitsB
  (walkO.val (mpOf w d h len fun j => xs.getD (0 + j) false).slide p
  (Cm.mk c.seq c.buttons c.dx c.dy (IntKind.i64.wrap (1 + IntKind.i64.wrap (↑(BitVec.ofInt IntKind.i64.bits a &&& BitVec.ofInt IntKind.i64.bits 3).toNat : Int))))).pos &&
  decide (0 + len ≤ xs.length)) then
  bif
  mapOk w d h len &&
  (fitsB
  (walkO.val (mpOf w d h len fun j => xs.getD (0 + j) false).slide
  (walkO.val (mpOf w d h len fun j => xs.getD (0 + j) false).slide p
  (Cm.mk c.seq c.buttons c.dx c.dy (IntKind.i64.wrap (1 + IntKind.i64.wrap (↑(BitVec.ofInt IntKind.i64.bits a &&& BitVec.ofInt IntKind.i64.bits 3).toNat : Int)))))
  (Cm.mk (IntKind.u16.wrap (c.seq + 1)) c.buttons c.dx c.dy
  (IntKind.i64.wrap (1 + IntKind.i64.wrap (↑(BitVec.ofInt IntKind.i64.bits b &&& BitVec.ofInt IntKind.i64.bits 3).toNat : Int))))).pos &&
  decide (0 + len ≤ xs.length)) then
  some
  (SV.bool
  (bif
  (bif true == true then
  (walkO.val (mpOf w d h len fun j => xs.getD (0 + j) false).slide p
  (Cm.mk c.seq c.buttons c.dx c.dy
  (IntKind.i64.wrap
  (IntKind.i64.wrap (1 + IntKind.i64.wrap (↑(BitVec.ofInt IntKind.i64.bits a &&& BitVec.ofInt IntKind.i64.bits 3).toNat : Int)) +
  IntKind.i64.wrap (1 + IntKind.i64.wrap (↑(BitVec.ofInt IntKind.i64.bits b &&& BitVec.ofInt IntKind.i64.bits 3).toNat : Int)))))).id ==
  (walkO.val (mpOf w d h len fun j => xs.getD (0 + j) false).slide
  (walkO.val (mpOf w d h len fun j => xs.getD (0 + j) false).slide p
  (Cm.mk c.seq c.buttons c.dx c.dy (IntKind.i64.wrap (1 + IntKind.i64.wrap (↑(BitVec.ofInt IntKind.i64.bits a &&& BitVec.ofInt IntKind.i64.bits 3).toNat : Int)))))
  (Cm.mk (IntKind.u16.wrap (c.seq + 1)) c.buttons c.dx c.dy
  (IntKind.i64.wrap (1 + IntKind.i64.wrap (↑(BitVec.ofInt IntKind.i64.bits b &&& BitVec.ofInt IntKind.i64.bits 3).toNat : Int))))).id &&
  ((walkO.val (mpOf w d h len fun j => xs.getD (0 + j) false).slide p
  (Cm.mk c.seq c.buttons c.dx c.dy
  (IntKind.i64.wrap
  (IntKind.i64.wrap (1 + IntKind.i64.wrap (↑(BitVec.ofInt IntKind.i64.bits a &&& BitVec.ofInt IntKind.i64.bits 3).toNat : Int)) +
  IntKind.i64.wrap (1 + IntKind.i64.wrap (↑(BitVec.ofInt IntKind.i64.bits b &&& BitVec.ofInt IntKind.i64.bits 3).toNat : Int)))))).pos.x ==
  (walkO.val (mpOf w d h len fun j => xs.getD (0 + j) false).slide
  (walkO.val (mpOf w d h len fun j => xs.getD (0 + j) false).slide p
  (Cm.mk c.seq c.buttons c.dx c.dy
  (IntKind.i64.wrap (1 + IntKind.i64.wrap (↑(BitVec.ofInt IntKind.i64.bits a &&& BitVec.ofInt IntKind.i64.bits 3).toNat : Int)))))
  (Cm.mk (IntKind.u16.wrap (c.seq + 1)) c.buttons c.dx c.dy
  (IntKind.i64.wrap (1 + IntKind.i64.wrap (↑(BitVec.ofInt IntKind.i64.bits b &&& BitVec.ofInt IntKind.i64.bits 3).toNat : Int))))).pos.x &&
  ((walkO.val (mpOf w d h len fun j => xs.getD (0 + j) false).slide p
  (Cm.mk c.seq c.buttons c.dx c.dy
  (IntKind.i64.wrap
  (IntKind.i64.wrap (1 + IntKind.i64.wrap (↑(BitVec.ofInt IntKind.i64.bits a &&& BitVec.ofInt IntKind.i64.bits 3).toNat : Int)) +
  IntKind.i64.wrap (1 + IntKind.i64.wrap (↑(BitVec.ofInt IntKind.i64.bits b &&& BitVec.ofInt IntKind.i64.bits 3).toNat : Int)))))).pos.y ==
  (walkO.val (mpOf w d h len fun j => xs.getD (0 + j) false).slide
  (walkO.val (mpOf w d h len fun j => xs.getD (0 + j) false).slide p
  (Cm.mk c.seq c.buttons c.dx c.dy
  (IntKind.i64.wrap (1 + IntKind.i64.wrap (↑(BitVec.ofInt IntKind.i64.bits a &&& BitVec.ofInt IntKind.i64.bits 3).toNat : Int)))))
  (Cm.mk (IntKind.u16.wrap (c.seq + 1)) c.buttons c.dx c.dy
  (IntKind.i64.wrap (1 + IntKind.i64.wrap (↑(BitVec.ofInt IntKind.i64.bits b &&& BitVec.ofInt IntKind.i64.bits 3).toNat : Int))))).pos.y &&
  ((walkO.val (mpOf w d h len fun j => xs.getD (0 + j) false).slide p
  (Cm.mk c.seq c.buttons c.dx c.dy
  (IntKind.i64.wrap
  (IntKind.i64.wrap (1 + IntKind.i64.wrap (↑(BitVec.ofInt IntKind.i64.bits a &&& BitVec.ofInt IntKind.i64.bits 3).toNat : Int)) +
  IntKind.i64.wrap (1 + IntKind.i64.wrap (↑(BitVec.ofInt IntKind.i64.bits b &&& BitVec.ofInt IntKind.i64.bits 3).toNat : Int)))))).pos.z ==
  (walkO.val (mpOf w d h len fun j => xs.getD (0 + j) false).slide
  (walkO.val (mpOf w d h len fun j => xs.getD (0 + j) false).slide p
  (Cm.mk c.seq c.buttons c.dx c.dy
  (IntKind.i64.wrap (1 + IntKind.i64.wrap (↑(BitVec.ofInt IntKind.i64.bits a &&& BitVec.ofInt IntKind.i64.bits 3).toNat : Int)))))
  (Cm.mk (IntKind.u16.wrap (c.seq + 1)) c.buttons c.dx c.dy
  (IntKind.i64.wrap (1 + IntKind.i64.wrap (↑(BitVec.ofInt IntKind.i64.bits b &&& BitVec.ofInt IntKind.i64.bits 3).toNat : Int))))).pos.z &&
  ((walkO.val (mpOf w d h len fun j => xs.getD (0 + j) false).slide p
  (Cm.mk c.seq c.buttons c.dx c.dy
  (IntKind.i64.wrap
  (IntKind.i64.wrap (1 + IntKind.i64.wrap (↑(BitVec.ofInt IntKind.i64.bits a &&& BitVec.ofInt IntKind.i64.bits 3).toNat : Int)) +
  IntKind.i64.wrap (1 + IntKind.i64.wrap (↑(BitVec.ofInt IntKind.i64.bits b &&& BitVec.ofInt IntKind.i64.bits 3).toNat : Int)))))).vel.x ==
  (walkO.val (mpOf w d h len fun j => xs.getD (0 + j) false).slide
  (walkO.val (mpOf w d h len fun j => xs.getD (0 + j) false).slide p
  (Cm.mk c.seq c.buttons c.dx c.dy
  (IntKind.i64.wrap (1 + IntKind.i64.wrap (↑(BitVec.ofInt IntKind.i64.bits a &&& BitVec.ofInt IntKind.i64.bits 3).toNat : Int)))))
  (Cm.mk (IntKind.u16.wrap (c.seq + 1)) c.buttons c.dx c.dy
  (IntKind.i64.wrap (1 + IntKind.i64.wrap (↑(BitVec.ofInt IntKind.i64.bits b &&& BitVec.ofInt IntKind.i64.bits 3).toNat : Int))))).vel.x &&
  ((walkO.val (mpOf w d h len fun j => xs.getD (0 + j) false).slide p
  (Cm.mk c.seq c.buttons c.dx c.dy
  (IntKind.i64.wrap
  (IntKind.i64.wrap (1 + IntKind.i64.wrap (↑(BitVec.ofInt IntKind.i64.bits a &&& BitVec.ofInt IntKind.i64.bits 3).toNat : Int)) +
  IntKind.i64.wrap (1 + IntKind.i64.wrap (↑(BitVec.ofInt IntKind.i64.bits b &&& BitVec.ofInt IntKind.i64.bits 3).toNat : Int)))))).vel.y ==
  (walkO.val (mpOf w d h len fun j => xs.getD (0 + j) false).slide
  (walkO.val (mpOf w d h len fun j => xs.getD (0 + j) false).slide p
  (Cm.mk c.seq c.buttons c.dx c.dy
  (IntKind.i64.wrap (1 + IntKind.i64.wrap (↑(BitVec.ofInt IntKind.i64.bits a &&& BitVec.ofInt IntKind.i64.bits 3).toNat : Int)))))
  (Cm.mk (IntKind.u16.wrap (c.seq + 1)) c.buttons c.dx c.dy
  (IntKind.i64.wrap (1 + IntKind.i64.wrap (↑(BitVec.ofInt IntKind.i64.bits b &&& BitVec.ofInt IntKind.i64.bits 3).toNat : Int))))).vel.y &&
  ((walkO.val (mpOf w d h len fun j => xs.getD (0 + j) false).slide p
  (Cm.mk c.seq c.buttons c.dx c.dy
  (IntKind.i64.wrap
  (IntKind.i64.wrap (1 + IntKind.i64.wrap (↑(BitVec.ofInt IntKind.i64.bits a &&& BitVec.ofInt IntKind.i64.bits 3).toNat : Int)) +
  IntKind.i64.wrap (1 + IntKind.i64.wrap (↑(BitVec.ofInt IntKind.i64.bits b &&& BitVec.ofInt IntKind.i64.bits 3).toNat : Int)))))).vel.z ==
  (walkO.val (mpOf w d h len fun j => xs.getD (0 + j) false).slide
  (walkO.val (mpOf w d h len fun j => xs.getD (0 + j) false).slide p
  (Cm.mk c.seq c.buttons c.dx c.dy
  (IntKind.i64.wrap (1 + IntKind.i64.wrap (↑(BitVec.ofInt IntKind.i64.bits a &&& BitVec.ofInt IntKind.i64.bits 3).toNat : Int)))))
  (Cm.mk (IntKind.u16.wrap (c.seq + 1)) c.buttons c.dx c.dy
  (IntKind.i64.wrap (1 + IntKind.i64.wrap (↑(BitVec.ofInt IntKind.i64.bits b &&& BitVec.ofInt IntKind.i64.bits 3).toNat : Int))))).vel.z &&
  ((walkO.val (mpOf w d h len fun j => xs.getD (0 + j) false).slide p
  (Cm.mk c.seq c.buttons c.dx c.dy
  (IntKind.i64.wrap
  (IntKind.i64.wrap (1 + IntKind.i64.wrap (↑(BitVec.ofInt IntKind.i64.bits a &&& BitVec.ofInt IntKind.i64.bits 3).toNat : Int)) +
  IntKind.i64.wrap (1 + IntKind.i64.wrap (↑(BitVec.ofInt IntKind.i64.bits b &&& BitVec.ofInt IntKind.i64.bits 3).toNat : Int)))))).ground ==
  (walkO.val (mpOf w d h len fun j => xs.getD (0 + j) false).slide
  (walkO.val (mpOf w d h len fun j => xs.getD (0 + j) false).slide p
  (Cm.mk c.seq c.buttons c.dx c.dy
  (IntKind.i64.wrap (1 + IntKind.i64.wrap (↑(BitVec.ofInt IntKind.i64.bits a &&& BitVec.ofInt IntKind.i64.bits 3).toNat : Int)))))
  (Cm.mk (IntKind.u16.wrap (c.seq + 1)) c.buttons c.dx c.dy
  (IntKind.i64.wrap (1 + IntKind.i64.wrap (↑(BitVec.ofInt IntKind.i64.bits b &&& BitVec.ofInt IntKind.i64.bits 3).toNat : Int))))).ground &&
  ((walkO.val (mpOf w d h len fun j => xs.getD (0 + j) false).slide p
  (Cm.mk c.seq c.buttons c.dx c.dy
  (IntKind.i64.wrap
  (IntKind.i64.wrap (1 + IntKind.i64.wrap (↑(BitVec.ofInt IntKind.i64.bits a &&& BitVec.ofInt IntKind.i64.bits 3).toNat : Int)) +
  IntKind.i64.wrap (1 + IntKind.i64.wrap (↑(BitVec.ofInt IntKind.i64.bits b &&& BitVec.ofInt IntKind.i64.bits 3).toNat : Int)))))).health ==
  (walkO.val (mpOf w d h len fun j => xs.getD (0 + j) false).slide
  (walkO.val (mpOf w d h len fun j => xs.getD (0 + j) false).slide p
  (Cm.mk c.seq c.buttons c.dx c.dy
  (IntKind.i64.wrap (1 + IntKind.i64.wrap (↑(BitVec.ofInt IntKind.i64.bits a &&& BitVec.ofInt IntKind.i64.bits 3).toNat : Int)))))
  (Cm.mk (IntKind.u16.wrap (c.seq + 1)) c.buttons c.dx c.dy
  (IntKind.i64.wrap (1 + IntKind.i64.wrap (↑(BitVec.ofInt IntKind.i64.bits b &&& BitVec.ofInt IntKind.i64.bits 3).toNat : Int))))).health &&
  ((walkO.val (mpOf w d h len fun j => xs.getD (0 + j) false).slide p
  (Cm.mk c.seq c.buttons c.dx c.dy
  (IntKind.i64.wrap
  (IntKind.i64.wrap (1 + IntKind.i64.wrap (↑(BitVec.ofInt IntKind.i64.bits a &&& BitVec.ofInt IntKind.i64.bits 3).toNat : Int)) +
  IntKind.i64.wrap (1 + IntKind.i64.wrap (↑(BitVec.ofInt IntKind.i64.bits b &&& BitVec.ofInt IntKind.i64.bits 3).toNat : Int)))))).armour ==
  (walkO.val (mpOf w d h len fun j => xs.getD (0 + j) false).slide
  (walkO.val (mpOf w d h len fun j => xs.getD (0 + j) false).slide p
  (Cm.mk c.seq c.buttons c.dx c.dy
  (IntKind.i64.wrap (1 + IntKind.i64.wrap (↑(BitVec.ofInt IntKind.i64.bits a &&& BitVec.ofInt IntKind.i64.bits 3).toNat : Int)))))
  (Cm.mk (IntKind.u16.wrap (c.seq + 1)) c.buttons c.dx c.dy
  (IntKind.i64.wrap (1 + IntKind.i64.wrap (↑(BitVec.ofInt IntKind.i64.bits b &&& BitVec.ofInt IntKind.i64.bits 3).toNat : Int))))).armour &&
  ((walkO.val (mpOf w d h len fun j => xs.getD (0 + j) false).slide p
  (Cm.mk c.seq c.buttons c.dx c.dy
  (IntKind.i64.wrap
  (IntKind.i64.wrap (1 + IntKind.i64.wrap (↑(BitVec.ofInt IntKind.i64.bits a &&& BitVec.ofInt IntKind.i64.bits 3).toNat : Int)) +
  IntKind.i64.wrap (1 + IntKind.i64.wrap (↑(BitVec.ofInt IntKind.i64.bits b &&& BitVec.ofInt IntKind.i64.bits 3).toNat : Int)))))).score ==
  (walkO.val (mpOf w d h len fun j => xs.getD (0 + j) false).slide
  (walkO.val (mpOf w d h len fun j => xs.getD (0 + j) false).slide p
  (Cm.mk c.seq c.buttons c.dx c.dy
  (IntKind.i64.wrap (1 + IntKind.i64.wrap (↑(BitVec.ofInt IntKind.i64.bits a &&& BitVec.ofInt IntKind.i64.bits 3).toNat : Int)))))
  (Cm.mk (IntKind.u16.wrap (c.seq + 1)) c.buttons c.dx c.dy
  (IntKind.i64.wrap (1 + IntKind.i64.wrap (↑(BitVec.ofInt IntKind.i64.bits b &&& BitVec.ofInt IntKind.i64.bits 3).toNat : Int))))).score &&
  ((walkO.val (mpOf w d h len fun j => xs.getD (0 + j) false).slide p
  (Cm.mk c.seq c.buttons c.dx c.dy
  (IntKind.i64.wrap
  (IntKind.i64.wrap (1 + IntKind.i64.wrap (↑(BitVec.ofInt IntKind.i64.bits a &&& BitVec.ofInt IntKind.i64.bits 3).toNat : Int)) +
  IntKind.i64.wrap (1 + IntKind.i64.wrap (↑(BitVec.ofInt IntKind.i64.bits b &&& BitVec.ofInt IntKind.i64.bits 3).toNat : Int)))))).a0 ==
  (walkO.val (mpOf w d h len fun j => xs.getD (0 + j) false).slide
  (walkO.val (mpOf w d h len fun j => xs.getD (0 + j) false).slide p
  (Cm.mk c.seq c.buttons c.dx c.dy
  (IntKind.i64.wrap (1 + IntKind.i64.wrap (↑(BitVec.ofInt IntKind.i64.bits a &&& BitVec.ofInt IntKind.i64.bits 3).toNat : Int)))))
  (Cm.mk (IntKind.u16.wrap (c.seq + 1)) c.buttons c.dx c.dy
  (IntKind.i64.wrap (1 + IntKind.i64.wrap (↑(BitVec.ofInt IntKind.i64.bits b &&& BitVec.ofInt IntKind.i64.bits 3).toNat : Int))))).a0 &&
  ((walkO.val (mpOf w d h len fun j => xs.getD (0 + j) false).slide p
  (Cm.mk c.seq c.buttons c.dx c.dy
  (IntKind.i64.wrap
  (IntKind.i64.wrap (1 + IntKind.i64.wrap (↑(BitVec.ofInt IntKind.i64.bits a &&& BitVec.ofInt IntKind.i64.bits 3).toNat : Int)) +
  IntKind.i64.wrap (1 + IntKind.i64.wrap (↑(BitVec.ofInt IntKind.i64.bits b &&& BitVec.ofInt IntKind.i64.bits 3).toNat : Int)))))).a1 ==
  (walkO.val (mpOf w d h len fun j => xs.getD (0 + j) false).slide
  (walkO.val (mpOf w d h len fun j => xs.getD (0 + j) false).slide p
  (Cm.mk c.seq c.buttons c.dx c.dy
  (IntKind.i64.wrap (1 + IntKind.i64.wrap (↑(BitVec.ofInt IntKind.i64.bits a &&& BitVec.ofInt IntKind.i64.bits 3).toNat : Int)))))
  (Cm.mk (IntKind.u16.wrap (c.seq + 1)) c.buttons c.dx c.dy
  (IntKind.i64.wrap (1 + IntKind.i64.wrap (↑(BitVec.ofInt IntKind.i64.bits b &&& BitVec.ofInt IntKind.i64.bits 3).toNat : Int))))).a1 &&
  ((walkO.val (mpOf w d h len fun j => xs.getD (0 + j) false).slide p
  (Cm.mk c.seq c.buttons c.dx c.dy
  (IntKind.i64.wrap
  (IntKind.i64.wrap (1 + IntKind.i64.wrap (↑(BitVec.ofInt IntKind.i64.bits a &&& BitVec.ofInt IntKind.i64.bits 3).toNat : Int)) +
  IntKind.i64.wrap
  (1 + IntKind.i64.wrap (↑(BitVec.ofInt IntKind.i64.bits b &&& BitVec.ofInt IntKind.i64.bits 3).toNat : Int)))))).wait ==
  (walkO.val (mpOf w d h len fun j => xs.getD (0 + j) false).slide
  (walkO.val (mpOf w d h len fun j => xs.getD (0 + j) false).slide p
  (Cm.mk c.seq c.buttons c.dx c.dy
  (IntKind.i64.wrap (1 + IntKind.i64.wrap (↑(BitVec.ofInt IntKind.i64.bits a &&& BitVec.ofInt IntKind.i64.bits 3).toNat : Int)))))
  (Cm.mk (IntKind.u16.wrap (c.seq + 1)) c.buttons c.dx c.dy
  (IntKind.i64.wrap (1 + IntKind.i64.wrap (↑(BitVec.ofInt IntKind.i64.bits b &&& BitVec.ofInt IntKind.i64.bits 3).toNat : Int))))).wait &&
  ((walkO.val (mpOf w d h len fun j => xs.getD (0 + j) false).slide p
  (Cm.mk c.seq c.buttons c.dx c.dy
  (IntKind.i64.wrap
  (IntKind.i64.wrap (1 + IntKind.i64.wrap (↑(BitVec.ofInt IntKind.i64.bits a &&& BitVec.ofInt IntKind.i64.bits 3).toNat : Int)) +
  IntKind.i64.wrap
  (1 + IntKind.i64.wrap (↑(BitVec.ofInt IntKind.i64.bits b &&& BitVec.ofInt IntKind.i64.bits 3).toNat : Int)))))).dead ==
  (walkO.val (mpOf w d h len fun j => xs.getD (0 + j) false).slide
  (walkO.val (mpOf w d h len fun j => xs.getD (0 + j) false).slide p
  (Cm.mk c.seq c.buttons c.dx c.dy
  (IntKind.i64.wrap (1 + IntKind.i64.wrap (↑(BitVec.ofInt IntKind.i64.bits a &&& BitVec.ofInt IntKind.i64.bits 3).toNat : Int)))))
  (Cm.mk (IntKind.u16.wrap (c.seq + 1)) c.buttons c.dx c.dy
  (IntKind.i64.wrap
  (1 + IntKind.i64.wrap (↑(BitVec.ofInt IntKind.i64.bits b &&& BitVec.ofInt IntKind.i64.bits 3).toNat : Int))))).dead &&
  true))))))))))))))
  else false) ==
  true then
  (walkO.val (mpOf w d h len fun j => xs.getD (0 + j) false).slide
  (walkO.val (mpOf w d h len fun j => xs.getD (0 + j) false).slide
  (walkO.val (mpOf w d h len fun j => xs.getD (0 + j) false).slide p
  (Cm.mk c.seq c.buttons c.dx c.dy (IntKind.i64.wrap (1 + IntKind.i64.wrap (↑(BitVec.ofInt IntKind.i64.bits a &&& BitVec.ofInt IntKind.i64.bits 3).toNat : Int)))))
  (Cm.mk (IntKind.u16.wrap (c.seq + 1)) c.buttons c.dx c.dy
  (IntKind.i64.wrap (1 + IntKind.i64.wrap (↑(BitVec.ofInt IntKind.i64.bits b &&& BitVec.ofInt IntKind.i64.bits 3).toNat : Int)))))
  (Cm.mk (IntKind.u16.wrap (c.seq + 1)) c.buttons c.dx c.dy 9)).id ==
  (walkO.val (mpOf w d h len fun j => xs.getD (0 + j) false).slide
  (walkO.val (mpOf w d h len fun j => xs.getD (0 + j) false).slide p
  (Cm.mk c.seq c.buttons c.dx c.dy (IntKind.i64.wrap (1 + IntKind.i64.wrap (↑(BitVec.ofInt IntKind.i64.bits a &&& BitVec.ofInt IntKind.i64.bits 3).toNat : Int)))))
  (Cm.mk (IntKind.u16.wrap (c.seq + 1)) c.buttons c.dx c.dy
  (IntKind.i64.wrap (1 + IntKind.i64.wrap (↑(BitVec.ofInt IntKind.i64.bits b &&& BitVec.ofInt IntKind.i64.bits 3).toNat : Int))))).id &&
  ((walkO.val (mpOf w d h len fun j => xs.getD (0 + j) false).slide
  (walkO.val (mpOf w d h len fun j => xs.getD (0 + j) false).slide
  (walkO.val (mpOf w d h len fun j => xs.getD (0 + j) false).slide p
  (Cm.mk c.seq c.buttons c.dx c.dy (IntKind.i64.wrap (1 + IntKind.i64.wrap (↑(BitVec.ofInt IntKind.i64.bits a &&& BitVec.ofInt IntKind.i64.bits 3).toNat : Int)))))
  (Cm.mk (IntKind.u16.wrap (c.seq + 1)) c.buttons c.dx c.dy
  (IntKind.i64.wrap (1 + IntKind.i64.wrap (↑(BitVec.ofInt IntKind.i64.bits b &&& BitVec.ofInt IntKind.i64.bits 3).toNat : Int)))))
  (Cm.mk (IntKind.u16.wrap (c.seq + 1)) c.buttons c.dx c.dy 9)).pos.x ==
  (walkO.val (mpOf w d h len fun j => xs.getD (0 + j) false).slide
  (walkO.val (mpOf w d h len fun j => xs.getD (0 + j) false).slide p
  (Cm.mk c.seq c.buttons c.dx c.dy (IntKind.i64.wrap (1 + IntKind.i64.wrap (↑(BitVec.ofInt IntKind.i64.bits a &&& BitVec.ofInt IntKind.i64.bits 3).toNat : Int)))))
  (Cm.mk (IntKind.u16.wrap (c.seq + 1)) c.buttons c.dx c.dy
  (IntKind.i64.wrap (1 + IntKind.i64.wrap (↑(BitVec.ofInt IntKind.i64.bits b &&& BitVec.ofInt IntKind.i64.bits 3).toNat : Int))))).pos.x &&
  ((walkO.val (mpOf w d h len fun j => xs.getD (0 + j) false).slide
  (walkO.val (mpOf w d h len fun j => xs.getD (0 + j) false).slide
  (walkO.val (mpOf w d h len fun j => xs.getD (0 + j) false).slide p
  (Cm.mk c.seq c.buttons c.dx c.dy
  (IntKind.i64.wrap (1 + IntKind.i64.wrap (↑(BitVec.ofInt IntKind.i64.bits a &&& BitVec.ofInt IntKind.i64.bits 3).toNat : Int)))))
  (Cm.mk (IntKind.u16.wrap (c.seq + 1)) c.buttons c.dx c.dy
  (IntKind.i64.wrap (1 + IntKind.i64.wrap (↑(BitVec.ofInt IntKind.i64.bits b &&& BitVec.ofInt IntKind.i64.bits 3).toNat : Int)))))
  (Cm.mk (IntKind.u16.wrap (c.seq + 1)) c.buttons c.dx c.dy 9)).pos.y ==
  (walkO.val (mpOf w d h len fun j => xs.getD (0 + j) false).slide
  (walkO.val (mpOf w d h len fun j => xs.getD (0 + j) false).slide p
  (Cm.mk c.seq c.buttons c.dx c.dy (IntKind.i64.wrap (1 + IntKind.i64.wrap (↑(BitVec.ofInt IntKind.i64.bits a &&& BitVec.ofInt IntKind.i64.bits 3).toNat : Int)))))
  (Cm.mk (IntKind.u16.wrap (c.seq + 1)) c.buttons c.dx c.dy
  (IntKind.i64.wrap (1 + IntKind.i64.wrap (↑(BitVec.ofInt IntKind.i64.bits b &&& BitVec.ofInt IntKind.i64.bits 3).toNat : Int))))).pos.y &&
  ((walkO.val (mpOf w d h len fun j => xs.getD (0 + j) false).slide
  (walkO.val (mpOf w d h len fun j => xs.getD (0 + j) false).slide
  (walkO.val (mpOf w d h len fun j => xs.getD (0 + j) false).slide p
  (Cm.mk c.seq c.buttons c.dx c.dy
  (IntKind.i64.wrap (1 + IntKind.i64.wrap (↑(BitVec.ofInt IntKind.i64.bits a &&& BitVec.ofInt IntKind.i64.bits 3).toNat : Int)))))
  (Cm.mk (IntKind.u16.wrap (c.seq + 1)) c.buttons c.dx c.dy
  (IntKind.i64.wrap (1 + IntKind.i64.wrap (↑(BitVec.ofInt IntKind.i64.bits b &&& BitVec.ofInt IntKind.i64.bits 3).toNat : Int)))))
  (Cm.mk (IntKind.u16.wrap (c.seq + 1)) c.buttons c.dx c.dy 9)).pos.z ==
  (walkO.val (mpOf w d h len fun j => xs.getD (0 + j) false).slide
  (walkO.val (mpOf w d h len fun j => xs.getD (0 + j) false).slide p
  (Cm.mk c.seq c.buttons c.dx c.dy
  (IntKind.i64.wrap (1 + IntKind.i64.wrap (↑(BitVec.ofInt IntKind.i64.bits a &&& BitVec.ofInt IntKind.i64.bits 3).toNat : Int)))))
  (Cm.mk (IntKind.u16.wrap (c.seq + 1)) c.buttons c.dx c.dy
  (IntKind.i64.wrap (1 + IntKind.i64.wrap (↑(BitVec.ofInt IntKind.i64.bits b &&& BitVec.ofInt IntKind.i64.bits 3).toNat : Int))))).pos.z &&
  ((walkO.val (mpOf w d h len fun j => xs.getD (0 + j) false).slide
  (walkO.val (mpOf w d h len fun j => xs.getD (0 + j) false).slide
  (walkO.val (mpOf w d h len fun j => xs.getD (0 + j) false).slide p
  (Cm.mk c.seq c.buttons c.dx c.dy
  (IntKind.i64.wrap (1 + IntKind.i64.wrap (↑(BitVec.ofInt IntKind.i64.bits a &&& BitVec.ofInt IntKind.i64.bits 3).toNat : Int)))))
  (Cm.mk (IntKind.u16.wrap (c.seq + 1)) c.buttons c.dx c.dy
  (IntKind.i64.wrap (1 + IntKind.i64.wrap (↑(BitVec.ofInt IntKind.i64.bits b &&& BitVec.ofInt IntKind.i64.bits 3).toNat : Int)))))
  (Cm.mk (IntKind.u16.wrap (c.seq + 1)) c.buttons c.dx c.dy 9)).vel.x ==
  (walkO.val (mpOf w d h len fun j => xs.getD (0 + j) false).slide
  (walkO.val (mpOf w d h len fun j => xs.getD (0 + j) false).slide p
  (Cm.mk c.seq c.buttons c.dx c.dy
  (IntKind.i64.wrap (1 + IntKind.i64.wrap (↑(BitVec.ofInt IntKind.i64.bits a &&& BitVec.ofInt IntKind.i64.bits 3).toNat : Int)))))
  (Cm.mk (IntKind.u16.wrap (c.seq + 1)) c.buttons c.dx c.dy
  (IntKind.i64.wrap (1 + IntKind.i64.wrap (↑(BitVec.ofInt IntKind.i64.bits b &&& BitVec.ofInt IntKind.i64.bits 3).toNat : Int))))).vel.x &&
  ((walkO.val (mpOf w d h len fun j => xs.getD (0 + j) false).slide
  (walkO.val (mpOf w d h len fun j => xs.getD (0 + j) false).slide
  (walkO.val (mpOf w d h len fun j => xs.getD (0 + j) false).slide p
  (Cm.mk c.seq c.buttons c.dx c.dy
  (IntKind.i64.wrap (1 + IntKind.i64.wrap (↑(BitVec.ofInt IntKind.i64.bits a &&& BitVec.ofInt IntKind.i64.bits 3).toNat : Int)))))
  (Cm.mk (IntKind.u16.wrap (c.seq + 1)) c.buttons c.dx c.dy
  (IntKind.i64.wrap (1 + IntKind.i64.wrap (↑(BitVec.ofInt IntKind.i64.bits b &&& BitVec.ofInt IntKind.i64.bits 3).toNat : Int)))))
  (Cm.mk (IntKind.u16.wrap (c.seq + 1)) c.buttons c.dx c.dy 9)).vel.y ==
  (walkO.val (mpOf w d h len fun j => xs.getD (0 + j) false).slide
  (walkO.val (mpOf w d h len fun j => xs.getD (0 + j) false).slide p
  (Cm.mk c.seq c.buttons c.dx c.dy
  (IntKind.i64.wrap (1 + IntKind.i64.wrap (↑(BitVec.ofInt IntKind.i64.bits a &&& BitVec.ofInt IntKind.i64.bits 3).toNat : Int)))))
  (Cm.mk (IntKind.u16.wrap (c.seq + 1)) c.buttons c.dx c.dy
  (IntKind.i64.wrap (1 + IntKind.i64.wrap (↑(BitVec.ofInt IntKind.i64.bits b &&& BitVec.ofInt IntKind.i64.bits 3).toNat : Int))))).vel.y &&
  ((walkO.val (mpOf w d h len fun j => xs.getD (0 + j) false).slide
  (walkO.val (mpOf w d h len fun j => xs.getD (0 + j) false).slide
  (walkO.val (mpOf w d h len fun j => xs.getD (0 + j) false).slide p
  (Cm.mk c.seq c.buttons c.dx c.dy
  (IntKind.i64.wrap (1 + IntKind.i64.wrap (↑(BitVec.ofInt IntKind.i64.bits a &&& BitVec.ofInt IntKind.i64.bits 3).toNat : Int)))))
  (Cm.mk (IntKind.u16.wrap (c.seq + 1)) c.buttons c.dx c.dy
  (IntKind.i64.wrap (1 + IntKind.i64.wrap (↑(BitVec.ofInt IntKind.i64.bits b &&& BitVec.ofInt IntKind.i64.bits 3).toNat : Int)))))
  (Cm.mk (IntKind.u16.wrap (c.seq + 1)) c.buttons c.dx c.dy 9)).vel.z ==
  (walkO.val (mpOf w d h len fun j => xs.getD (0 + j) false).slide
  (walkO.val (mpOf w d h len fun j => xs.getD (0 + j) false).slide p
  (Cm.mk c.seq c.buttons c.dx c.dy
  (IntKind.i64.wrap (1 + IntKind.i64.wrap (↑(BitVec.ofInt IntKind.i64.bits a &&& BitVec.ofInt IntKind.i64.bits 3).toNat : Int)))))
  (Cm.mk (IntKind.u16.wrap (c.seq + 1)) c.buttons c.dx c.dy
  (IntKind.i64.wrap (1 + IntKind.i64.wrap (↑(BitVec.ofInt IntKind.i64.bits b &&& BitVec.ofInt IntKind.i64.bits 3).toNat : Int))))).vel.z &&
  ((walkO.val (mpOf w d h len fun j => xs.getD (0 + j) false).slide
  (walkO.val (mpOf w d h len fun j => xs.getD (0 + j) false).slide
  (walkO.val (mpOf w d h len fun j => xs.getD (0 + j) false).slide p
  (Cm.mk c.seq c.buttons c.dx c.dy
  (IntKind.i64.wrap (1 + IntKind.i64.wrap (↑(BitVec.ofInt IntKind.i64.bits a &&& BitVec.ofInt IntKind.i64.bits 3).toNat : Int)))))
  (Cm.mk (IntKind.u16.wrap (c.seq + 1)) c.buttons c.dx c.dy
  (IntKind.i64.wrap (1 + IntKind.i64.wrap (↑(BitVec.ofInt IntKind.i64.bits b &&& BitVec.ofInt IntKind.i64.bits 3).toNat : Int)))))
  (Cm.mk (IntKind.u16.wrap (c.seq + 1)) c.buttons c.dx c.dy 9)).ground ==
  (walkO.val (mpOf w d h len fun j => xs.getD (0 + j) false).slide
  (walkO.val (mpOf w d h len fun j => xs.getD (0 + j) false).slide p
  (Cm.mk c.seq c.buttons c.dx c.dy
  (IntKind.i64.wrap (1 + IntKind.i64.wrap (↑(BitVec.ofInt IntKind.i64.bits a &&& BitVec.ofInt IntKind.i64.bits 3).toNat : Int)))))
  (Cm.mk (IntKind.u16.wrap (c.seq + 1)) c.buttons c.dx c.dy
  (IntKind.i64.wrap (1 + IntKind.i64.wrap (↑(BitVec.ofInt IntKind.i64.bits b &&& BitVec.ofInt IntKind.i64.bits 3).toNat : Int))))).ground &&
  ((walkO.val (mpOf w d h len fun j => xs.getD (0 + j) false).slide
  (walkO.val (mpOf w d h len fun j => xs.getD (0 + j) false).slide
  (walkO.val (mpOf w d h len fun j => xs.getD (0 + j) false).slide p
  (Cm.mk c.seq c.buttons c.dx c.dy
  (IntKind.i64.wrap (1 + IntKind.i64.wrap (↑(BitVec.ofInt IntKind.i64.bits a &&& BitVec.ofInt IntKind.i64.bits 3).toNat : Int)))))
  (Cm.mk (IntKind.u16.wrap (c.seq + 1)) c.buttons c.dx c.dy
  (IntKind.i64.wrap (1 + IntKind.i64.wrap (↑(BitVec.ofInt IntKind.i64.bits b &&& BitVec.ofInt IntKind.i64.bits 3).toNat : Int)))))
  (Cm.mk (IntKind.u16.wrap (c.seq + 1)) c.buttons c.dx c.dy 9)).health ==
  (walkO.val (mpOf w d h len fun j => xs.getD (0 + j) false).slide
  (walkO.val (mpOf w d h len fun j => xs.getD (0 + j) false).slide p
  (Cm.mk c.seq c.buttons c.dx c.dy
  (IntKind.i64.wrap (1 + IntKind.i64.wrap (↑(BitVec.ofInt IntKind.i64.bits a &&& BitVec.ofInt IntKind.i64.bits 3).toNat : Int)))))
  (Cm.mk (IntKind.u16.wrap (c.seq + 1)) c.buttons c.dx c.dy
  (IntKind.i64.wrap (1 + IntKind.i64.wrap (↑(BitVec.ofInt IntKind.i64.bits b &&& BitVec.ofInt IntKind.i64.bits 3).toNat : Int))))).health &&
  ((walkO.val (mpOf w d h len fun j => xs.getD (0 + j) false).slide
  (walkO.val (mpOf w d h len fun j => xs.getD (0 + j) false).slide
  (walkO.val (mpOf w d h len fun j => xs.getD (0 + j) false).slide p
  (Cm.mk c.seq c.buttons c.dx c.dy
  (IntKind.i64.wrap (1 + IntKind.i64.wrap (↑(BitVec.ofInt IntKind.i64.bits a &&& BitVec.ofInt IntKind.i64.bits 3).toNat : Int)))))
  (Cm.mk (IntKind.u16.wrap (c.seq + 1)) c.buttons c.dx c.dy
  (IntKind.i64.wrap (1 + IntKind.i64.wrap (↑(BitVec.ofInt IntKind.i64.bits b &&& BitVec.ofInt IntKind.i64.bits 3).toNat : Int)))))
  (Cm.mk (IntKind.u16.wrap (c.seq + 1)) c.buttons c.dx c.dy 9)).armour ==
  (walkO.val (mpOf w d h len fun j => xs.getD (0 + j) false).slide
  (walkO.val (mpOf w d h len fun j => xs.getD (0 + j) false).slide p
  (Cm.mk c.seq c.buttons c.dx c.dy
  (IntKind.i64.wrap (1 + IntKind.i64.wrap (↑(BitVec.ofInt IntKind.i64.bits a &&& BitVec.ofInt IntKind.i64.bits 3).toNat : Int)))))
  (Cm.mk (IntKind.u16.wrap (c.seq + 1)) c.buttons c.dx c.dy
  (IntKind.i64.wrap (1 + IntKind.i64.wrap (↑(BitVec.ofInt IntKind.i64.bits b &&& BitVec.ofInt IntKind.i64.bits 3).toNat : Int))))).armour &&
  ((walkO.val (mpOf w d h len fun j => xs.getD (0 + j) false).slide
  (walkO.val (mpOf w d h len fun j => xs.getD (0 + j) false).slide
  (walkO.val (mpOf w d h len fun j => xs.getD (0 + j) false).slide p
  (Cm.mk c.seq c.buttons c.dx c.dy
  (IntKind.i64.wrap (1 + IntKind.i64.wrap (↑(BitVec.ofInt IntKind.i64.bits a &&& BitVec.ofInt IntKind.i64.bits 3).toNat : Int)))))
  (Cm.mk (IntKind.u16.wrap (c.seq + 1)) c.buttons c.dx c.dy
  (IntKind.i64.wrap (1 + IntKind.i64.wrap (↑(BitVec.ofInt IntKind.i64.bits b &&& BitVec.ofInt IntKind.i64.bits 3).toNat : Int)))))
  (Cm.mk (IntKind.u16.wrap (c.seq + 1)) c.buttons c.dx c.dy 9)).score ==
  (walkO.val (mpOf w d h len fun j => xs.getD (0 + j) false).slide
  (walkO.val (mpOf w d h len fun j => xs.getD (0 + j) false).slide p
  (Cm.mk c.seq c.buttons c.dx c.dy
  (IntKind.i64.wrap (1 + IntKind.i64.wrap (↑(BitVec.ofInt IntKind.i64.bits a &&& BitVec.ofInt IntKind.i64.bits 3).toNat : Int)))))
  (Cm.mk (IntKind.u16.wrap (c.seq + 1)) c.buttons c.dx c.dy
  (IntKind.i64.wrap (1 + IntKind.i64.wrap (↑(BitVec.ofInt IntKind.i64.bits b &&& BitVec.ofInt IntKind.i64.bits 3).toNat : Int))))).score &&
  ((walkO.val (mpOf w d h len fun j => xs.getD (0 + j) false).slide
  (walkO.val (mpOf w d h len fun j => xs.getD (0 + j) false).slide
  (walkO.val (mpOf w d h len fun j => xs.getD (0 + j) false).slide p
  (Cm.mk c.seq c.buttons c.dx c.dy
  (IntKind.i64.wrap (1 + IntKind.i64.wrap (↑(BitVec.ofInt IntKind.i64.bits a &&& BitVec.ofInt IntKind.i64.bits 3).toNat : Int)))))
  (Cm.mk (IntKind.u16.wrap (c.seq + 1)) c.buttons c.dx c.dy
  (IntKind.i64.wrap (1 + IntKind.i64.wrap (↑(BitVec.ofInt IntKind.i64.bits b &&& BitVec.ofInt IntKind.i64.bits 3).toNat : Int)))))
  (Cm.mk (IntKind.u16.wrap (c.seq + 1)) c.buttons c.dx c.dy 9)).a0 ==
  (walkO.val (mpOf w d h len fun j => xs.getD (0 + j) false).slide
  (walkO.val (mpOf w d h len fun j => xs.getD (0 + j) false).slide p
  (Cm.mk c.seq c.buttons c.dx c.dy
  (IntKind.i64.wrap (1 + IntKind.i64.wrap (↑(BitVec.ofInt IntKind.i64.bits a &&& BitVec.ofInt IntKind.i64.bits 3).toNat : Int)))))
  (Cm.mk (IntKind.u16.wrap (c.seq + 1)) c.buttons c.dx c.dy
  (IntKind.i64.wrap (1 + IntKind.i64.wrap (↑(BitVec.ofInt IntKind.i64.bits b &&& BitVec.ofInt IntKind.i64.bits 3).toNat : Int))))).a0 &&
  ((walkO.val (mpOf w d h len fun j => xs.getD (0 + j) false).slide
  (walkO.val (mpOf w d h len fun j => xs.getD (0 + j) false).slide
  (walkO.val (mpOf w d h len fun j => xs.getD (0 + j) false).slide p
  (Cm.mk c.seq c.buttons c.dx c.dy
  (IntKind.i64.wrap (1 + IntKind.i64.wrap (↑(BitVec.ofInt IntKind.i64.bits a &&& BitVec.ofInt IntKind.i64.bits 3).toNat : Int)))))
  (Cm.mk (IntKind.u16.wrap (c.seq + 1)) c.buttons c.dx c.dy
  (IntKind.i64.wrap (1 + IntKind.i64.wrap (↑(BitVec.ofInt IntKind.i64.bits b &&& BitVec.ofInt IntKind.i64.bits 3).toNat : Int)))))
  (Cm.mk (IntKind.u16.wrap (c.seq + 1)) c.buttons c.dx c.dy 9)).a1 ==
  (walkO.val (mpOf w d h len fun j => xs.getD (0 + j) false).slide
  (walkO.val (mpOf w d h len fun j => xs.getD (0 + j) false).slide p
  (Cm.mk c.seq c.buttons c.dx c.dy
  (IntKind.i64.wrap (1 + IntKind.i64.wrap (↑(BitVec.ofInt IntKind.i64.bits a &&& BitVec.ofInt IntKind.i64.bits 3).toNat : Int)))))
  (Cm.mk (IntKind.u16.wrap (c.seq + 1)) c.buttons c.dx c.dy
  (IntKind.i64.wrap (1 + IntKind.i64.wrap (↑(BitVec.ofInt IntKind.i64.bits b &&& BitVec.ofInt IntKind.i64.bits 3).toNat : Int))))).a1 &&
  ((walkO.val (mpOf w d h len fun j => xs.getD (0 + j) false).slide
  (walkO.val (mpOf w d h len fun j => xs.getD (0 + j) false).slide
  (walkO.val (mpOf w d h len fun j => xs.getD (0 + j) false).slide p
  (Cm.mk c.seq c.buttons c.dx c.dy
  (IntKind.i64.wrap (1 + IntKind.i64.wrap (↑(BitVec.ofInt IntKind.i64.bits a &&& BitVec.ofInt IntKind.i64.bits 3).toNat : Int)))))
  (Cm.mk (IntKind.u16.wrap (c.seq + 1)) c.buttons c.dx c.dy
  (IntKind.i64.wrap (1 + IntKind.i64.wrap (↑(BitVec.ofInt IntKind.i64.bits b &&& BitVec.ofInt IntKind.i64.bits 3).toNat : Int)))))
  (Cm.mk (IntKind.u16.wrap (c.seq + 1)) c.buttons c.dx c.dy 9)).wait ==
  (walkO.val (mpOf w d h len fun j => xs.getD (0 + j) false).slide
  (walkO.val (mpOf w d h len fun j => xs.getD (0 + j) false).slide p
  (Cm.mk c.seq c.buttons c.dx c.dy
  (IntKind.i64.wrap (1 + IntKind.i64.wrap (↑(BitVec.ofInt IntKind.i64.bits a &&& BitVec.ofInt IntKind.i64.bits 3).toNat : Int)))))
  (Cm.mk (IntKind.u16.wrap (c.seq + 1)) c.buttons c.dx c.dy
  (IntKind.i64.wrap (1 + IntKind.i64.wrap (↑(BitVec.ofInt IntKind.i64.bits b &&& BitVec.ofInt IntKind.i64.bits 3).toNat : Int))))).wait &&
  ((walkO.val (mpOf w d h len fun j => xs.getD (0 + j) false).slide
  (walkO.val (mpOf w d h len fun j => xs.getD (0 + j) false).slide
  (walkO.val (mpOf w d h len fun j => xs.getD (0 + j) false).slide p
  (Cm.mk c.seq c.buttons c.dx c.dy
  (IntKind.i64.wrap (1 + IntKind.i64.wrap (↑(BitVec.ofInt IntKind.i64.bits a &&& BitVec.ofInt IntKind.i64.bits 3).toNat : Int)))))
  (Cm.mk (IntKind.u16.wrap (c.seq + 1)) c.buttons c.dx c.dy
  (IntKind.i64.wrap (1 + IntKind.i64.wrap (↑(BitVec.ofInt IntKind.i64.bits b &&& BitVec.ofInt IntKind.i64.bits 3).toNat : Int)))))
  (Cm.mk (IntKind.u16.wrap (c.seq + 1)) c.buttons c.dx c.dy 9)).dead ==
  (walkO.val (mpOf w d h len fun j => xs.getD (0 + j) false).slide
  (walkO.val (mpOf w d h len fun j => xs.getD (0 + j) false).slide p
  (Cm.mk c.seq c.buttons c.dx c.dy
  (IntKind.i64.wrap (1 + IntKind.i64.wrap (↑(BitVec.ofInt IntKind.i64.bits a &&& BitVec.ofInt IntKind.i64.bits 3).toNat : Int)))))
  (Cm.mk (IntKind.u16.wrap (c.seq + 1)) c.buttons c.dx c.dy
  (IntKind.i64.wrap (1 + IntKind.i64.wrap (↑(BitVec.ofInt IntKind.i64.bits b &&& BitVec.ofInt IntKind.i64.bits 3).toNat : Int))))).dead &&
  true))))))))))))))
  else false),
  [])
  else none
  else none
  else none
  else none
  else none
  else none := by kernel_rfl

theorem walkP_joins {S : V3 → V3 → V3 × Bool × Bool × Bool} {p : Pl} (s s' bt x y a b : Int) (ha : 1 ≤ a) (hb : 1 ≤ b) (hab : a + b ≤ 8) : walkP S p ⟨s, bt, x, y, a + b⟩ = walkP S (walkP S p ⟨s, bt, x, y, a⟩) ⟨s', bt, x, y, b⟩ := by
  unfold walkP
  simp only
  rw [decide_eq_false (show ¬ a + b < 1 by omega), decide_eq_false (show ¬ a + b > 8 by omega), decide_eq_false (show ¬ a < 1 by omega), decide_eq_false (show ¬ a > 8 by omega), decide_eq_false (show ¬ b < 1 by omega), decide_eq_false (show ¬ b > 8 by omega)]
  simp only [Bool.or_self, cond_false]
  rw [show (a + b).toNat = a.toNat + b.toNat by omega, walkN_add, walkN_ext (c := ⟨s, bt, x, y, a + b⟩) (e := ⟨s', bt, x, y, b⟩) rfl rfl rfl, walkN_ext (c := ⟨s, bt, x, y, a + b⟩) (e := ⟨s, bt, x, y, a⟩) rfl rfl rfl]
theorem walkP_none {S : V3 → V3 → V3 × Bool × Bool × Bool} {p : Pl} {c : Cm} (h : c.ticks < 1 ∨ c.ticks > 8) : walkP S p c = p := by
  unfold walkP
  rcases h with h | h
  · rw [decide_eq_true h, Bool.true_or]; rfl
  · rw [decide_eq_true h, Bool.or_true]; rfl

set_option maxHeartbeats 0 in
theorem joins_law {w d h : Int} {len ls : Nat} {xs : List Bool} {sp : List V3} {p : Pl} {c : Cm} {a b : Int} (hw : In64 w) (hd : In64 d) (hh : In64 h) (hl : len ≤ 9223372036854775807) (hx : xs.length = len) (hs : ls ≤ 9223372036854775807) (hy : sp.length = ls) (hf : ∀ p ∈ sp, p.fits) (hp : p.pos.fits) :
    runK x11j (fun _ _ => none) 200 5 Try.f5 0 [mapS w d h (.slice 0 1 0 len none) (.slice 1 3 0 ls none), .agg p.sv, .agg c.sv, .int .i64 a, .int .i64 b] [.vec true .bool xs, .vec true .vec sp] = some (.bool true, []) := by
  rw [joins_tree, walkO.2]
  obtain ⟨c1, c2, c3⟩ := right_facts hw hd hh hl hx hs hy hf
  rw [c1]
  have hA := mask_in (a := a) (c := 3) 3 rfl (by omega)
  have hB := mask_in (a := b) (c := 3) 3 rfl (by omega)
  generalize IntKind.i64.wrap ((BitVec.ofInt IntKind.i64.bits a &&& BitVec.ofInt IntKind.i64.bits 3).toNat : Int) = A at hA ⊢
  generalize IntKind.i64.wrap ((BitVec.ofInt IntKind.i64.bits b &&& BitVec.ofInt IntKind.i64.bits 3).toNat : Int) = B at hB ⊢
  rw [IntWalk.i64_in (1 + A) (by omega), IntWalk.i64_in (1 + B) (by omega), IntWalk.i64_in (1 + A + (1 + B)) (by omega)]
  generalize (mpOf w d h len fun j => xs.getD (0 + j) false).right (spAt sp 0) ls = R
  generalize (mpOf w d h len fun j => xs.getD (0 + j) false) = m
  rw [walkP_joins c.seq (IntKind.u16.wrap (c.seq + 1)) c.buttons c.dx c.dy (1 + A) (1 + B) (by omega) (by omega) (by omega)]
  have f1 : (walkP m.slide p (Cm.mk c.seq c.buttons c.dx c.dy (1 + A))).pos.fits := walkP_fits hp
  generalize walkP m.slide p (Cm.mk c.seq c.buttons c.dx c.dy (1 + A)) = q1 at f1 ⊢
  have f2 : (walkP m.slide q1 (Cm.mk (IntKind.u16.wrap (c.seq + 1)) c.buttons c.dx c.dy (1 + B))).pos.fits := walkP_fits f1
  generalize walkP m.slide q1 (Cm.mk (IntKind.u16.wrap (c.seq + 1)) c.buttons c.dx c.dy (1 + B)) = q2 at f2 ⊢
  rw [walkP_none (p := q2) (c := Cm.mk (IntKind.u16.wrap (c.seq + 1)) c.buttons c.dx c.dy 9) (.inr (by show (9 : Int) > 8; omega))]
  simp only [c2, c3, fitsB_iff.2 hp, fitsB_iff.2 f1, fitsB_iff.2 f2, Bool.and_true, Bool.true_or, Bool.or_true, Bool.true_and, Bool.false_or, cond_true, and_form, or_form, beq_self_eq_true]
  exact bif_law (fun _ => rfl) (fun _ => rfl)

end Go.Proofs.Ytihpfaeabocdbaa
