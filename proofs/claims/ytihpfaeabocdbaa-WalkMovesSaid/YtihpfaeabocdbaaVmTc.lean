/- walk's Tick, as a contract: its parts. -/
import Derived.Test.YtihpfaeabocdbaaVmSc
import Derived.Test.YtihpfaeabocdbaaVmR
namespace Go.Proofs.Ytihpfaeabocdbaa
set_option linter.unusedSimpArgs false
set_option linter.unusedVariables false
set_option maxRecDepth 100000
open Go.RowKit

noncomputable def xNr : Ctx := ctxOf [] []
theorem xNr_ok : COk Try.prog xNr := ctxOf_ok (by kernel_rfl)

set_option maxRecDepth 100000 in
set_option maxHeartbeats 0 in
theorem near_tree (s wn sh : Int) : runK xNr (fun _ _ => none) 200 26 Try.f26 0 [.int .i64 s, .int .i8 wn, .int .i64 sh] [] =
  bif !decide (sh = 0) then
  some (SV.int IntKind.i64 (IntKind.i64.wrap (s + IntKind.i64.wrap ((IntKind.i64.wrap (IntKind.i64.wrap ((IntKind.i64.wrap (IntKind.i64.wrap wn * 16384)).tdiv 127) - s)).tdiv sh))), [])
  else none := by kernel_rfl

set_option maxRecDepth 100000 in
set_option maxHeartbeats 0 in
theorem cut_tree (n : Int) : runK xNr (fun _ _ => none) 200 22 Try.f22 0 [.int .i64 n] [] =
  some (SV.int IntKind.i64 (min (max n (-32768)) 32768), []) := by kernel_rfl

/-- A speed, nearer to what is wanted; a speed within. -/
def nearV (s wn sh : Int) : Int := IntKind.i64.wrap (s + IntKind.i64.wrap ((IntKind.i64.wrap (IntKind.i64.wrap ((IntKind.i64.wrap (IntKind.i64.wrap wn * 16384)).tdiv 127) - s)).tdiv sh))
def cutM (n : Int) : Int := min (max n (-32768)) 32768
theorem near_val {s wn sh : Int} (h : decide (sh = 0) = false) : runK xNr (fun _ _ => none) 200 26 Try.f26 0 [.int .i64 s, .int .i8 wn, .int .i64 sh] [] = some (.int .i64 (nearV s wn sh), []) := by
  rw [near_tree, h]
  rfl
def oNear : List SV → Option Eff
  | [.int .i64 s, .int .i8 wn, .int .i64 sh] => some { ok := !decide (sh = 0), val := .int .i64 (nearV s wn sh) }
  | _ => none
theorem oNear_ok {m : Nat → Option Row} {n : Nat} {args : List SV} {e : Eff} (h : oNear args = some e) (hok : e.ok = true) : FnOk Try.prog 26 args m n e := by
  unfold oNear at h
  split at h
  · rename_i s wn sh
    cases h
    simp only [Bool.not_eq_true'] at hok
    obtain ⟨rows', hc, _⟩ := runK_ok xNr_ok lok_none Try.func26 (near_val (s := s) (wn := wn) hok)
    exact fnOk_pure hc rfl rfl
  · cases h
noncomputable def orcNear : Orc := ⟨26, fun args _ => oNear args, fun _ _ _ h hok => oNear_ok h hok, bodied Try.func26 (by kernel_rfl)⟩
def oCut : List SV → Option Eff
  | [.int .i64 n] => some { val := .int .i64 (cutM n) }
  | _ => none
theorem oCut_ok {m : Nat → Option Row} {n : Nat} {args : List SV} {e : Eff} (h : oCut args = some e) : FnOk Try.prog 22 args m n e := by
  unfold oCut at h
  split at h
  · rename_i k
    cases h
    obtain ⟨rows', hc, _⟩ := runK_ok xNr_ok lok_none Try.func22 (cut_tree k)
    exact fnOk_pure hc rfl rfl
  · cases h
noncomputable def orcCut : Orc := ⟨22, fun args _ => oCut args, fun _ _ _ h _ => oCut_ok h, bodied Try.func22 (by kernel_rfl)⟩

noncomputable def xTc : Ctx := ctxOf [21] [orcNear, orcCut, orcSlide]
theorem xTc_ok : COk Try.prog xTc := ctxOf_ok (by kernel_rfl)

set_option maxRecDepth 100000 in
set_option maxHeartbeats 0 in
theorem tick_tree (w d h : Int) (len off : Nat) (xs : List Bool) (p : Pl) (c : Cm) : runK xTc (fun _ _ => none) 400 13 Try.f13 0 [mapS w d h (.slice 0 1 off len none) .unk, .agg p.sv, .agg c.sv] [.vec true .bool xs] =
  bif decide (p.dead > 0) then
  some
  (SV.agg
  [SV.int IntKind.i64 p.id, SV.int IntKind.i64 p.pos.x, SV.int IntKind.i64 p.pos.y, SV.int IntKind.i64 p.pos.z, SV.int IntKind.i64 p.vel.x, SV.int IntKind.i64 p.vel.y,
  SV.int IntKind.i64 p.vel.z, SV.bool p.ground, SV.int IntKind.i64 p.health, SV.int IntKind.i64 p.armour, SV.int IntKind.i64 p.score, SV.int IntKind.i64 p.a0, SV.int IntKind.i64 p.a1,
  SV.int IntKind.i64 p.wait, SV.int IntKind.i64 p.dead],
  [])
  else
  bif bif p.ground == true then IntKind.u8.wrap (↑(BitVec.ofInt IntKind.u8.bits c.buttons &&& BitVec.ofInt IntKind.u8.bits 2).toNat : Int) == 0 else false then
  bif bif p.ground == true then IntKind.u8.wrap (↑(BitVec.ofInt IntKind.u8.bits c.buttons &&& BitVec.ofInt IntKind.u8.bits 1).toNat : Int) != 0 else false then
  bif mapOk w d h len && (fitsB p.pos && decide (off + len ≤ xs.length)) then
  bif ((mpOf w d h len fun j => xs.getD (off + j) false).slide p.pos (V3.mk (cutM (nearV p.vel.x c.dx 4)) (cutM (nearV p.vel.y c.dy 4)) (cutM (IntKind.i64.wrap (24576 - 1024))))).snd.fst then
  bif
  ((mpOf w d h len fun j => xs.getD (off + j) false).slide p.pos
  (V3.mk (cutM (nearV p.vel.x c.dx 4)) (cutM (nearV p.vel.y c.dy 4)) (cutM (IntKind.i64.wrap (24576 - 1024))))).snd.snd.fst then
  bif
  ((mpOf w d h len fun j => xs.getD (off + j) false).slide p.pos
  (V3.mk (cutM (nearV p.vel.x c.dx 4)) (cutM (nearV p.vel.y c.dy 4)) (cutM (IntKind.i64.wrap (24576 - 1024))))).snd.snd.snd then
  some
  (SV.agg
  [SV.int IntKind.i64 p.id,
  SV.int IntKind.i64
  ((mpOf w d h len fun j => xs.getD (off + j) false).slide p.pos
  (V3.mk (cutM (nearV p.vel.x c.dx 4)) (cutM (nearV p.vel.y c.dy 4)) (cutM (IntKind.i64.wrap (24576 - 1024))))).fst.x,
  SV.int IntKind.i64
  ((mpOf w d h len fun j => xs.getD (off + j) false).slide p.pos
  (V3.mk (cutM (nearV p.vel.x c.dx 4)) (cutM (nearV p.vel.y c.dy 4)) (cutM (IntKind.i64.wrap (24576 - 1024))))).fst.y,
  SV.int IntKind.i64
  ((mpOf w d h len fun j => xs.getD (off + j) false).slide p.pos
  (V3.mk (cutM (nearV p.vel.x c.dx 4)) (cutM (nearV p.vel.y c.dy 4)) (cutM (IntKind.i64.wrap (24576 - 1024))))).fst.z,
  SV.int IntKind.i64 0, SV.int IntKind.i64 0, SV.int IntKind.i64 0,
  SV.bool
  (bif
  ((mpOf w d h len fun j => xs.getD (off + j) false).slide p.pos
  (V3.mk (cutM (nearV p.vel.x c.dx 4)) (cutM (nearV p.vel.y c.dy 4)) (cutM (IntKind.i64.wrap (24576 - 1024))))).snd.snd.snd ==
  true then
  false
  else false),
  SV.int IntKind.i64 p.health, SV.int IntKind.i64 p.armour, SV.int IntKind.i64 p.score, SV.int IntKind.i64 p.a0, SV.int IntKind.i64 p.a1, SV.int IntKind.i64 p.wait,
  SV.int IntKind.i64 p.dead],
  [])
  else
  some
  (SV.agg
  [SV.int IntKind.i64 p.id,
  SV.int IntKind.i64
  ((mpOf w d h len fun j => xs.getD (off + j) false).slide p.pos
  (V3.mk (cutM (nearV p.vel.x c.dx 4)) (cutM (nearV p.vel.y c.dy 4)) (cutM (IntKind.i64.wrap (24576 - 1024))))).fst.x,
  SV.int IntKind.i64
  ((mpOf w d h len fun j => xs.getD (off + j) false).slide p.pos
  (V3.mk (cutM (nearV p.vel.x c.dx 4)) (cutM (nearV p.vel.y c.dy 4)) (cutM (IntKind.i64.wrap (24576 - 1024))))).fst.y,
  SV.int IntKind.i64
  ((mpOf w d h len fun j => xs.getD (off + j) false).slide p.pos
  (V3.mk (cutM (nearV p.vel.x c.dx 4)) (cutM (nearV p.vel.y c.dy 4)) (cutM (IntKind.i64.wrap (24576 - 1024))))).fst.z,
  SV.int IntKind.i64 0, SV.int IntKind.i64 0, SV.int IntKind.i64 (cutM (IntKind.i64.wrap (24576 - 1024))),
  SV.bool
  (bif
  ((mpOf w d h len fun j => xs.getD (off + j) false).slide p.pos
  (V3.mk (cutM (nearV p.vel.x c.dx 4)) (cutM (nearV p.vel.y c.dy 4)) (cutM (IntKind.i64.wrap (24576 - 1024))))).snd.snd.snd ==
  true then
  false
  else false),
  SV.int IntKind.i64 p.health, SV.int IntKind.i64 p.armour, SV.int IntKind.i64 p.score, SV.int IntKind.i64 p.a0, SV.int IntKind.i64 p.a1, SV.int IntKind.i64 p.wait,
  SV.int IntKind.i64 p.dead],
  [])
  else
  bif
  ((mpOf w d h len fun j => xs.getD (off + j) false).slide p.pos
  (V3.mk (cutM (nearV p.vel.x c.dx 4)) (cutM (nearV p.vel.y c.dy 4)) (cutM (IntKind.i64.wrap (24576 - 1024))))).snd.snd.snd then
  some
  (SV.agg
  [SV.int IntKind.i64 p.id,
  SV.int IntKind.i64
  ((mpOf w d h len fun j => xs.getD (off + j) false).slide p.pos
  (V3.mk (cutM (nearV p.vel.x c.dx 4)) (cutM (nearV p.vel.y c.dy 4)) (cutM (IntKind.i64.wrap (24576 - 1024))))).fst.x,
  SV.int IntKind.i64
  ((mpOf w d h len fun j => xs.getD (off + j) false).slide p.pos
  (V3.mk (cutM (nearV p.vel.x c.dx 4)) (cutM (nearV p.vel.y c.dy 4)) (cutM (IntKind.i64.wrap (24576 - 1024))))).fst.y,
  SV.int IntKind.i64
  ((mpOf w d h len fun j => xs.getD (off + j) false).slide p.pos
  (V3.mk (cutM (nearV p.vel.x c.dx 4)) (cutM (nearV p.vel.y c.dy 4)) (cutM (IntKind.i64.wrap (24576 - 1024))))).fst.z,
  SV.int IntKind.i64 0, SV.int IntKind.i64 (cutM (nearV p.vel.y c.dy 4)), SV.int IntKind.i64 0,
  SV.bool
  (bif
  ((mpOf w d h len fun j => xs.getD (off + j) false).slide p.pos
  (V3.mk (cutM (nearV p.vel.x c.dx 4)) (cutM (nearV p.vel.y c.dy 4)) (cutM (IntKind.i64.wrap (24576 - 1024))))).snd.snd.snd ==
  true then
  false
  else false),
  SV.int IntKind.i64 p.health, SV.int IntKind.i64 p.armour, SV.int IntKind.i64 p.score, SV.int IntKind.i64 p.a0, SV.int IntKind.i64 p.a1, SV.int IntKind.i64 p.wait,
  SV.int IntKind.i64 p.dead],
  [])
  else
  some
  (SV.agg
  [SV.int IntKind.i64 p.id,
  SV.int IntKind.i64
  ((mpOf w d h len fun j => xs.getD (off + j) false).slide p.pos
  (V3.mk (cutM (nearV p.vel.x c.dx 4)) (cutM (nearV p.vel.y c.dy 4)) (cutM (IntKind.i64.wrap (24576 - 1024))))).fst.x,
  SV.int IntKind.i64
  ((mpOf w d h len fun j => xs.getD (off + j) false).slide p.pos
  (V3.mk (cutM (nearV p.vel.x c.dx 4)) (cutM (nearV p.vel.y c.dy 4)) (cutM (IntKind.i64.wrap (24576 - 1024))))).fst.y,
  SV.int IntKind.i64
  ((mpOf w d h len fun j => xs.getD (off + j) false).slide p.pos
  (V3.mk (cutM (nearV p.vel.x c.dx 4)) (cutM (nearV p.vel.y c.dy 4)) (cutM (IntKind.i64.wrap (24576 - 1024))))).fst.z,
  SV.int IntKind.i64 0, SV.int IntKind.i64 (cutM (nearV p.vel.y c.dy 4)), SV.int IntKind.i64 (cutM (IntKind.i64.wrap (24576 - 1024))),
  SV.bool
  (bif
  ((mpOf w d h len fun j => xs.getD (off + j) false).slide p.pos
  (V3.mk (cutM (nearV p.vel.x c.dx 4)) (cutM (nearV p.vel.y c.dy 4)) (cutM (IntKind.i64.wrap (24576 - 1024))))).snd.snd.snd ==
  true then
  false
  else false),
  SV.int IntKind.i64 p.health, SV.int IntKind.i64 p.armour, SV.int IntKind.i64 p.score, SV.int IntKind.i64 p.a0, SV.int IntKind.i64 p.a1, SV.int IntKind.i64 p.wait,
  SV.int IntKind.i64 p.dead],
  [])
  else
  bif
  ((mpOf w d h len fun j => xs.getD (off + j) false).slide p.pos
  (V3.mk (cutM (nearV p.vel.x c.dx 4)) (cutM (nearV p.vel.y c.dy 4)) (cutM (IntKind.i64.wrap (24576 - 1024))))).snd.snd.fst then
  bif
  ((mpOf w d h len fun j => xs.getD (off + j) false).slide p.pos
  (V3.mk (cutM (nearV p.vel.x c.dx 4)) (cutM (nearV p.vel.y c.dy 4)) (cutM (IntKind.i64.wrap (24576 - 1024))))).snd.snd.snd then
  some
  (SV.agg
  [SV.int IntKind.i64 p.id,
  SV.int IntKind.i64
  ((mpOf w d h len fun j => xs.getD (off + j) false).slide p.pos
  (V3.mk (cutM (nearV p.vel.x c.dx 4)) (cutM (nearV p.vel.y c.dy 4)) (cutM (IntKind.i64.wrap (24576 - 1024))))).fst.x,
  SV.int IntKind.i64
  ((mpOf w d h len fun j => xs.getD (off + j) false).slide p.pos
  (V3.mk (cutM (nearV p.vel.x c.dx 4)) (cutM (nearV p.vel.y c.dy 4)) (cutM (IntKind.i64.wrap (24576 - 1024))))).fst.y,
  SV.int IntKind.i64
  ((mpOf w d h len fun j => xs.getD (off + j) false).slide p.pos
  (V3.mk (cutM (nearV p.vel.x c.dx 4)) (cutM (nearV p.vel.y c.dy 4)) (cutM (IntKind.i64.wrap (24576 - 1024))))).fst.z,
  SV.int IntKind.i64 (cutM (nearV p.vel.x c.dx 4)), SV.int IntKind.i64 0, SV.int IntKind.i64 0,
  SV.bool
  (bif
  ((mpOf w d h len fun j => xs.getD (off + j) false).slide p.pos
  (V3.mk (cutM (nearV p.vel.x c.dx 4)) (cutM (nearV p.vel.y c.dy 4)) (cutM (IntKind.i64.wrap (24576 - 1024))))).snd.snd.snd ==
  true then
  false
  else false),
  SV.int IntKind.i64 p.health, SV.int IntKind.i64 p.armour, SV.int IntKind.i64 p.score, SV.int IntKind.i64 p.a0, SV.int IntKind.i64 p.a1, SV.int IntKind.i64 p.wait,
  SV.int IntKind.i64 p.dead],
  [])
  else
  some
  (SV.agg
  [SV.int IntKind.i64 p.id,
  SV.int IntKind.i64
  ((mpOf w d h len fun j => xs.getD (off + j) false).slide p.pos
  (V3.mk (cutM (nearV p.vel.x c.dx 4)) (cutM (nearV p.vel.y c.dy 4)) (cutM (IntKind.i64.wrap (24576 - 1024))))).fst.x,
  SV.int IntKind.i64
  ((mpOf w d h len fun j => xs.getD (off + j) false).slide p.pos
  (V3.mk (cutM (nearV p.vel.x c.dx 4)) (cutM (nearV p.vel.y c.dy 4)) (cutM (IntKind.i64.wrap (24576 - 1024))))).fst.y,
  SV.int IntKind.i64
  ((mpOf w d h len fun j => xs.getD (off + j) false).slide p.pos
  (V3.mk (cutM (nearV p.vel.x c.dx 4)) (cutM (nearV p.vel.y c.dy 4)) (cutM (IntKind.i64.wrap (24576 - 1024))))).fst.z,
  SV.int IntKind.i64 (cutM (nearV p.vel.x c.dx 4)), SV.int IntKind.i64 0, SV.int IntKind.i64 (cutM (IntKind.i64.wrap (24576 - 1024))),
  SV.bool
  (bif
  ((mpOf w d h len fun j => xs.getD (off + j) false).slide p.pos
  (V3.mk (cutM (nearV p.vel.x c.dx 4)) (cutM (nearV p.vel.y c.dy 4)) (cutM (IntKind.i64.wrap (24576 - 1024))))).snd.snd.snd ==
  true then
  false
  else false),
  SV.int IntKind.i64 p.health, SV.int IntKind.i64 p.armour, SV.int IntKind.i64 p.score, SV.int IntKind.i64 p.a0, SV.int IntKind.i64 p.a1, SV.int IntKind.i64 p.wait,
  SV.int IntKind.i64 p.dead],
  [])
  else
  bif
  ((mpOf w d h len fun j => xs.getD (off + j) false).slide p.pos
  (V3.mk (cutM (nearV p.vel.x c.dx 4)) (cutM (nearV p.vel.y c.dy 4)) (cutM (IntKind.i64.wrap (24576 - 1024))))).snd.snd.snd then
  some
  (SV.agg
  [SV.int IntKind.i64 p.id,
  SV.int IntKind.i64
  ((mpOf w d h len fun j => xs.getD (off + j) false).slide p.pos
  (V3.mk (cutM (nearV p.vel.x c.dx 4)) (cutM (nearV p.vel.y c.dy 4)) (cutM (IntKind.i64.wrap (24576 - 1024))))).fst.x,
  SV.int IntKind.i64
  ((mpOf w d h len fun j => xs.getD (off + j) false).slide p.pos
  (V3.mk (cutM (nearV p.vel.x c.dx 4)) (cutM (nearV p.vel.y c.dy 4)) (cutM (IntKind.i64.wrap (24576 - 1024))))).fst.y,
  SV.int IntKind.i64
  ((mpOf w d h len fun j => xs.getD (off + j) false).slide p.pos
  (V3.mk (cutM (nearV p.vel.x c.dx 4)) (cutM (nearV p.vel.y c.dy 4)) (cutM (IntKind.i64.wrap (24576 - 1024))))).fst.z,
  SV.int IntKind.i64 (cutM (nearV p.vel.x c.dx 4)), SV.int IntKind.i64 (cutM (nearV p.vel.y c.dy 4)), SV.int IntKind.i64 0,
  SV.bool
  (bif
  ((mpOf w d h len fun j => xs.getD (off + j) false).slide p.pos
  (V3.mk (cutM (nearV p.vel.x c.dx 4)) (cutM (nearV p.vel.y c.dy 4)) (cutM (IntKind.i64.wrap (24576 - 1024))))).snd.snd.snd ==
  true then
  false
  else false),
  SV.int IntKind.i64 p.health, SV.int IntKind.i64 p.armour, SV.int IntKind.i64 p.score, SV.int IntKind.i64 p.a0, SV.int IntKind.i64 p.a1, SV.int IntKind.i64 p.wait,
  SV.int IntKind.i64 p.dead],
  [])
  else
  some
  (SV.agg
  [SV.int IntKind.i64 p.id,
  SV.int IntKind.i64
  ((mpOf w d h len fun j => xs.getD (off + j) false).slide p.pos
  (V3.mk (cutM (nearV p.vel.x c.dx 4)) (cutM (nearV p.vel.y c.dy 4)) (cutM (IntKind.i64.wrap (24576 - 1024))))).fst.x,
  SV.int IntKind.i64
  ((mpOf w d h len fun j => xs.getD (off + j) false).slide p.pos
  (V3.mk (cutM (nearV p.vel.x c.dx 4)) (cutM (nearV p.vel.y c.dy 4)) (cutM (IntKind.i64.wrap (24576 - 1024))))).fst.y,
  SV.int IntKind.i64
  ((mpOf w d h len fun j => xs.getD (off + j) false).slide p.pos
  (V3.mk (cutM (nearV p.vel.x c.dx 4)) (cutM (nearV p.vel.y c.dy 4)) (cutM (IntKind.i64.wrap (24576 - 1024))))).fst.z,
  SV.int IntKind.i64 (cutM (nearV p.vel.x c.dx 4)), SV.int IntKind.i64 (cutM (nearV p.vel.y c.dy 4)), SV.int IntKind.i64 (cutM (IntKind.i64.wrap (24576 - 1024))),
  SV.bool
  (bif
  ((mpOf w d h len fun j => xs.getD (off + j) false).slide p.pos
  (V3.mk (cutM (nearV p.vel.x c.dx 4)) (cutM (nearV p.vel.y c.dy 4)) (cutM (IntKind.i64.wrap (24576 - 1024))))).snd.snd.snd ==
  true then
  false
  else false),
  SV.int IntKind.i64 p.health, SV.int IntKind.i64 p.armour, SV.int IntKind.i64 p.score, SV.int IntKind.i64 p.a0, SV.int IntKind.i64 p.a1, SV.int IntKind.i64 p.wait,
  SV.int IntKind.i64 p.dead],
  [])
  else none
  else
  bif mapOk w d h len && (fitsB p.pos && decide (off + len ≤ xs.length)) then
  bif ((mpOf w d h len fun j => xs.getD (off + j) false).slide p.pos (V3.mk (cutM (nearV p.vel.x c.dx 4)) (cutM (nearV p.vel.y c.dy 4)) (cutM (IntKind.i64.wrap (p.vel.z - 1024))))).snd.fst then
  bif
  ((mpOf w d h len fun j => xs.getD (off + j) false).slide p.pos
  (V3.mk (cutM (nearV p.vel.x c.dx 4)) (cutM (nearV p.vel.y c.dy 4)) (cutM (IntKind.i64.wrap (p.vel.z - 1024))))).snd.snd.fst then
  bif
  ((mpOf w d h len fun j => xs.getD (off + j) false).slide p.pos
  (V3.mk (cutM (nearV p.vel.x c.dx 4)) (cutM (nearV p.vel.y c.dy 4)) (cutM (IntKind.i64.wrap (p.vel.z - 1024))))).snd.snd.snd then
  some
  (SV.agg
  [SV.int IntKind.i64 p.id,
  SV.int IntKind.i64
  ((mpOf w d h len fun j => xs.getD (off + j) false).slide p.pos
  (V3.mk (cutM (nearV p.vel.x c.dx 4)) (cutM (nearV p.vel.y c.dy 4)) (cutM (IntKind.i64.wrap (p.vel.z - 1024))))).fst.x,
  SV.int IntKind.i64
  ((mpOf w d h len fun j => xs.getD (off + j) false).slide p.pos
  (V3.mk (cutM (nearV p.vel.x c.dx 4)) (cutM (nearV p.vel.y c.dy 4)) (cutM (IntKind.i64.wrap (p.vel.z - 1024))))).fst.y,
  SV.int IntKind.i64
  ((mpOf w d h len fun j => xs.getD (off + j) false).slide p.pos
  (V3.mk (cutM (nearV p.vel.x c.dx 4)) (cutM (nearV p.vel.y c.dy 4)) (cutM (IntKind.i64.wrap (p.vel.z - 1024))))).fst.z,
  SV.int IntKind.i64 0, SV.int IntKind.i64 0, SV.int IntKind.i64 0,
  SV.bool
  (bif
  ((mpOf w d h len fun j => xs.getD (off + j) false).slide p.pos
  (V3.mk (cutM (nearV p.vel.x c.dx 4)) (cutM (nearV p.vel.y c.dy 4)) (cutM (IntKind.i64.wrap (p.vel.z - 1024))))).snd.snd.snd ==
  true then
  decide (cutM (IntKind.i64.wrap (p.vel.z - 1024)) < 0)
  else false),
  SV.int IntKind.i64 p.health, SV.int IntKind.i64 p.armour, SV.int IntKind.i64 p.score, SV.int IntKind.i64 p.a0, SV.int IntKind.i64 p.a1, SV.int IntKind.i64 p.wait,
  SV.int IntKind.i64 p.dead],
  [])
  else
  some
  (SV.agg
  [SV.int IntKind.i64 p.id,
  SV.int IntKind.i64
  ((mpOf w d h len fun j => xs.getD (off + j) false).slide p.pos
  (V3.mk (cutM (nearV p.vel.x c.dx 4)) (cutM (nearV p.vel.y c.dy 4)) (cutM (IntKind.i64.wrap (p.vel.z - 1024))))).fst.x,
  SV.int IntKind.i64
  ((mpOf w d h len fun j => xs.getD (off + j) false).slide p.pos
  (V3.mk (cutM (nearV p.vel.x c.dx 4)) (cutM (nearV p.vel.y c.dy 4)) (cutM (IntKind.i64.wrap (p.vel.z - 1024))))).fst.y,
  SV.int IntKind.i64
  ((mpOf w d h len fun j => xs.getD (off + j) false).slide p.pos
  (V3.mk (cutM (nearV p.vel.x c.dx 4)) (cutM (nearV p.vel.y c.dy 4)) (cutM (IntKind.i64.wrap (p.vel.z - 1024))))).fst.z,
  SV.int IntKind.i64 0, SV.int IntKind.i64 0, SV.int IntKind.i64 (cutM (IntKind.i64.wrap (p.vel.z - 1024))),
  SV.bool
  (bif
  ((mpOf w d h len fun j => xs.getD (off + j) false).slide p.pos
  (V3.mk (cutM (nearV p.vel.x c.dx 4)) (cutM (nearV p.vel.y c.dy 4)) (cutM (IntKind.i64.wrap (p.vel.z - 1024))))).snd.snd.snd ==
  true then
  decide (cutM (IntKind.i64.wrap (p.vel.z - 1024)) < 0)
  else false),
  SV.int IntKind.i64 p.health, SV.int IntKind.i64 p.armour, SV.int IntKind.i64 p.score, SV.int IntKind.i64 p.a0, SV.int IntKind.i64 p.a1, SV.int IntKind.i64 p.wait,
  SV.int IntKind.i64 p.dead],
  [])
  else
  bif
  ((mpOf w d h len fun j => xs.getD (off + j) false).slide p.pos
  (V3.mk (cutM (nearV p.vel.x c.dx 4)) (cutM (nearV p.vel.y c.dy 4)) (cutM (IntKind.i64.wrap (p.vel.z - 1024))))).snd.snd.snd then
  some
  (SV.agg
  [SV.int IntKind.i64 p.id,
  SV.int IntKind.i64
  ((mpOf w d h len fun j => xs.getD (off + j) false).slide p.pos
  (V3.mk (cutM (nearV p.vel.x c.dx 4)) (cutM (nearV p.vel.y c.dy 4)) (cutM (IntKind.i64.wrap (p.vel.z - 1024))))).fst.x,
  SV.int IntKind.i64
  ((mpOf w d h len fun j => xs.getD (off + j) false).slide p.pos
  (V3.mk (cutM (nearV p.vel.x c.dx 4)) (cutM (nearV p.vel.y c.dy 4)) (cutM (IntKind.i64.wrap (p.vel.z - 1024))))).fst.y,
  SV.int IntKind.i64
  ((mpOf w d h len fun j => xs.getD (off + j) false).slide p.pos
  (V3.mk (cutM (nearV p.vel.x c.dx 4)) (cutM (nearV p.vel.y c.dy 4)) (cutM (IntKind.i64.wrap (p.vel.z - 1024))))).fst.z,
  SV.int IntKind.i64 0, SV.int IntKind.i64 (cutM (nearV p.vel.y c.dy 4)), SV.int IntKind.i64 0,
  SV.bool
  (bif
  ((mpOf w d h len fun j => xs.getD (off + j) false).slide p.pos
  (V3.mk (cutM (nearV p.vel.x c.dx 4)) (cutM (nearV p.vel.y c.dy 4)) (cutM (IntKind.i64.wrap (p.vel.z - 1024))))).snd.snd.snd ==
  true then
  decide (cutM (IntKind.i64.wrap (p.vel.z - 1024)) < 0)
  else false),
  SV.int IntKind.i64 p.health, SV.int IntKind.i64 p.armour, SV.int IntKind.i64 p.score, SV.int IntKind.i64 p.a0, SV.int IntKind.i64 p.a1, SV.int IntKind.i64 p.wait,
  SV.int IntKind.i64 p.dead],
  [])
  else
  some
  (SV.agg
  [SV.int IntKind.i64 p.id,
  SV.int IntKind.i64
  ((mpOf w d h len fun j => xs.getD (off + j) false).slide p.pos
  (V3.mk (cutM (nearV p.vel.x c.dx 4)) (cutM (nearV p.vel.y c.dy 4)) (cutM (IntKind.i64.wrap (p.vel.z - 1024))))).fst.x,
  SV.int IntKind.i64
  ((mpOf w d h len fun j => xs.getD (off + j) false).slide p.pos
  (V3.mk (cutM (nearV p.vel.x c.dx 4)) (cutM (nearV p.vel.y c.dy 4)) (cutM (IntKind.i64.wrap (p.vel.z - 1024))))).fst.y,
  SV.int IntKind.i64
  ((mpOf w d h len fun j => xs.getD (off + j) false).slide p.pos
  (V3.mk (cutM (nearV p.vel.x c.dx 4)) (cutM (nearV p.vel.y c.dy 4)) (cutM (IntKind.i64.wrap (p.vel.z - 1024))))).fst.z,
  SV.int IntKind.i64 0, SV.int IntKind.i64 (cutM (nearV p.vel.y c.dy 4)), SV.int IntKind.i64 (cutM (IntKind.i64.wrap (p.vel.z - 1024))),
  SV.bool
  (bif
  ((mpOf w d h len fun j => xs.getD (off + j) false).slide p.pos
  (V3.mk (cutM (nearV p.vel.x c.dx 4)) (cutM (nearV p.vel.y c.dy 4)) (cutM (IntKind.i64.wrap (p.vel.z - 1024))))).snd.snd.snd ==
  true then
  decide (cutM (IntKind.i64.wrap (p.vel.z - 1024)) < 0)
  else false),
  SV.int IntKind.i64 p.health, SV.int IntKind.i64 p.armour, SV.int IntKind.i64 p.score, SV.int IntKind.i64 p.a0, SV.int IntKind.i64 p.a1, SV.int IntKind.i64 p.wait,
  SV.int IntKind.i64 p.dead],
  [])
  else
  bif
  ((mpOf w d h len fun j => xs.getD (off + j) false).slide p.pos
  (V3.mk (cutM (nearV p.vel.x c.dx 4)) (cutM (nearV p.vel.y c.dy 4)) (cutM (IntKind.i64.wrap (p.vel.z - 1024))))).snd.snd.fst then
  bif
  ((mpOf w d h len fun j => xs.getD (off + j) false).slide p.pos
  (V3.mk (cutM (nearV p.vel.x c.dx 4)) (cutM (nearV p.vel.y c.dy 4)) (cutM (IntKind.i64.wrap (p.vel.z - 1024))))).snd.snd.snd then
  some
  (SV.agg
  [SV.int IntKind.i64 p.id,
  SV.int IntKind.i64
  ((mpOf w d h len fun j => xs.getD (off + j) false).slide p.pos
  (V3.mk (cutM (nearV p.vel.x c.dx 4)) (cutM (nearV p.vel.y c.dy 4)) (cutM (IntKind.i64.wrap (p.vel.z - 1024))))).fst.x,
  SV.int IntKind.i64
  ((mpOf w d h len fun j => xs.getD (off + j) false).slide p.pos
  (V3.mk (cutM (nearV p.vel.x c.dx 4)) (cutM (nearV p.vel.y c.dy 4)) (cutM (IntKind.i64.wrap (p.vel.z - 1024))))).fst.y,
  SV.int IntKind.i64
  ((mpOf w d h len fun j => xs.getD (off + j) false).slide p.pos
  (V3.mk (cutM (nearV p.vel.x c.dx 4)) (cutM (nearV p.vel.y c.dy 4)) (cutM (IntKind.i64.wrap (p.vel.z - 1024))))).fst.z,
  SV.int IntKind.i64 (cutM (nearV p.vel.x c.dx 4)), SV.int IntKind.i64 0, SV.int IntKind.i64 0,
  SV.bool
  (bif
  ((mpOf w d h len fun j => xs.getD (off + j) false).slide p.pos
  (V3.mk (cutM (nearV p.vel.x c.dx 4)) (cutM (nearV p.vel.y c.dy 4)) (cutM (IntKind.i64.wrap (p.vel.z - 1024))))).snd.snd.snd ==
  true then
  decide (cutM (IntKind.i64.wrap (p.vel.z - 1024)) < 0)
  else false),
  SV.int IntKind.i64 p.health, SV.int IntKind.i64 p.armour, SV.int IntKind.i64 p.score, SV.int IntKind.i64 p.a0, SV.int IntKind.i64 p.a1, SV.int IntKind.i64 p.wait,
  SV.int IntKind.i64 p.dead],
  [])
  else
  some
  (SV.agg
  [SV.int IntKind.i64 p.id,
  SV.int IntKind.i64
  ((mpOf w d h len fun j => xs.getD (off + j) false).slide p.pos
  (V3.mk (cutM (nearV p.vel.x c.dx 4)) (cutM (nearV p.vel.y c.dy 4)) (cutM (IntKind.i64.wrap (p.vel.z - 1024))))).fst.x,
  SV.int IntKind.i64
  ((mpOf w d h len fun j => xs.getD (off + j) false).slide p.pos
  (V3.mk (cutM (nearV p.vel.x c.dx 4)) (cutM (nearV p.vel.y c.dy 4)) (cutM (IntKind.i64.wrap (p.vel.z - 1024))))).fst.y,
  SV.int IntKind.i64
  ((mpOf w d h len fun j => xs.getD (off + j) false).slide p.pos
  (V3.mk (cutM (nearV p.vel.x c.dx 4)) (cutM (nearV p.vel.y c.dy 4)) (cutM (IntKind.i64.wrap (p.vel.z - 1024))))).fst.z,
  SV.int IntKind.i64 (cutM (nearV p.vel.x c.dx 4)), SV.int IntKind.i64 0, SV.int IntKind.i64 (cutM (IntKind.i64.wrap (p.vel.z - 1024))),
  SV.bool
  (bif
  ((mpOf w d h len fun j => xs.getD (off + j) false).slide p.pos
  (V3.mk (cutM (nearV p.vel.x c.dx 4)) (cutM (nearV p.vel.y c.dy 4)) (cutM (IntKind.i64.wrap (p.vel.z - 1024))))).snd.snd.snd ==
  true then
  decide (cutM (IntKind.i64.wrap (p.vel.z - 1024)) < 0)
  else false),
  SV.int IntKind.i64 p.health, SV.int IntKind.i64 p.armour, SV.int IntKind.i64 p.score, SV.int IntKind.i64 p.a0, SV.int IntKind.i64 p.a1, SV.int IntKind.i64 p.wait,
  SV.int IntKind.i64 p.dead],
  [])
  else
  bif
  ((mpOf w d h len fun j => xs.getD (off + j) false).slide p.pos
  (V3.mk (cutM (nearV p.vel.x c.dx 4)) (cutM (nearV p.vel.y c.dy 4)) (cutM (IntKind.i64.wrap (p.vel.z - 1024))))).snd.snd.snd then
  some
  (SV.agg
  [SV.int IntKind.i64 p.id,
  SV.int IntKind.i64
  ((mpOf w d h len fun j => xs.getD (off + j) false).slide p.pos
  (V3.mk (cutM (nearV p.vel.x c.dx 4)) (cutM (nearV p.vel.y c.dy 4)) (cutM (IntKind.i64.wrap (p.vel.z - 1024))))).fst.x,
  SV.int IntKind.i64
  ((mpOf w d h len fun j => xs.getD (off + j) false).slide p.pos
  (V3.mk (cutM (nearV p.vel.x c.dx 4)) (cutM (nearV p.vel.y c.dy 4)) (cutM (IntKind.i64.wrap (p.vel.z - 1024))))).fst.y,
  SV.int IntKind.i64
  ((mpOf w d h len fun j => xs.getD (off + j) false).slide p.pos
  (V3.mk (cutM (nearV p.vel.x c.dx 4)) (cutM (nearV p.vel.y c.dy 4)) (cutM (IntKind.i64.wrap (p.vel.z - 1024))))).fst.z,
  SV.int IntKind.i64 (cutM (nearV p.vel.x c.dx 4)), SV.int IntKind.i64 (cutM (nearV p.vel.y c.dy 4)), SV.int IntKind.i64 0,
  SV.bool
  (bif
  ((mpOf w d h len fun j => xs.getD (off + j) false).slide p.pos
  (V3.mk (cutM (nearV p.vel.x c.dx 4)) (cutM (nearV p.vel.y c.dy 4)) (cutM (IntKind.i64.wrap (p.vel.z - 1024))))).snd.snd.snd ==
  true then
  decide (cutM (IntKind.i64.wrap (p.vel.z - 1024)) < 0)
  else false),
  SV.int IntKind.i64 p.health, SV.int IntKind.i64 p.armour, SV.int IntKind.i64 p.score, SV.int IntKind.i64 p.a0, SV.int IntKind.i64 p.a1, SV.int IntKind.i64 p.wait,
  SV.int IntKind.i64 p.dead],
  [])
  else
  some
  (SV.agg
  [SV.int IntKind.i64 p.id,
  SV.int IntKind.i64
  ((mpOf w d h len fun j => xs.getD (off + j) false).slide p.pos
  (V3.mk (cutM (nearV p.vel.x c.dx 4)) (cutM (nearV p.vel.y c.dy 4)) (cutM (IntKind.i64.wrap (p.vel.z - 1024))))).fst.x,
  SV.int IntKind.i64
  ((mpOf w d h len fun j => xs.getD (off + j) false).slide p.pos
  (V3.mk (cutM (nearV p.vel.x c.dx 4)) (cutM (nearV p.vel.y c.dy 4)) (cutM (IntKind.i64.wrap (p.vel.z - 1024))))).fst.y,
  SV.int IntKind.i64
  ((mpOf w d h len fun j => xs.getD (off + j) false).slide p.pos
  (V3.mk (cutM (nearV p.vel.x c.dx 4)) (cutM (nearV p.vel.y c.dy 4)) (cutM (IntKind.i64.wrap (p.vel.z - 1024))))).fst.z,
  SV.int IntKind.i64 (cutM (nearV p.vel.x c.dx 4)), SV.int IntKind.i64 (cutM (nearV p.vel.y c.dy 4)), SV.int IntKind.i64 (cutM (IntKind.i64.wrap (p.vel.z - 1024))),
  SV.bool
  (bif
  ((mpOf w d h len fun j => xs.getD (off + j) false).slide p.pos
  (V3.mk (cutM (nearV p.vel.x c.dx 4)) (cutM (nearV p.vel.y c.dy 4)) (cutM (IntKind.i64.wrap (p.vel.z - 1024))))).snd.snd.snd ==
  true then
  decide (cutM (IntKind.i64.wrap (p.vel.z - 1024)) < 0)
  else false),
  SV.int IntKind.i64 p.health, SV.int IntKind.i64 p.armour, SV.int IntKind.i64 p.score, SV.int IntKind.i64 p.a0, SV.int IntKind.i64 p.a1, SV.int IntKind.i64 p.wait,
  SV.int IntKind.i64 p.dead],
  [])
  else none
  else
  bif bif p.ground == true then IntKind.u8.wrap (↑(BitVec.ofInt IntKind.u8.bits c.buttons &&& BitVec.ofInt IntKind.u8.bits 1).toNat : Int) != 0 else false then
  bif mapOk w d h len && (fitsB p.pos && decide (off + len ≤ xs.length)) then
  bif ((mpOf w d h len fun j => xs.getD (off + j) false).slide p.pos (V3.mk (cutM (nearV p.vel.x c.dx 16)) (cutM (nearV p.vel.y c.dy 16)) (cutM (IntKind.i64.wrap (24576 - 1024))))).snd.fst then
  bif
  ((mpOf w d h len fun j => xs.getD (off + j) false).slide p.pos
  (V3.mk (cutM (nearV p.vel.x c.dx 16)) (cutM (nearV p.vel.y c.dy 16)) (cutM (IntKind.i64.wrap (24576 - 1024))))).snd.snd.fst then
  bif
  ((mpOf w d h len fun j => xs.getD (off + j) false).slide p.pos
  (V3.mk (cutM (nearV p.vel.x c.dx 16)) (cutM (nearV p.vel.y c.dy 16)) (cutM (IntKind.i64.wrap (24576 - 1024))))).snd.snd.snd then
  some
  (SV.agg
  [SV.int IntKind.i64 p.id,
  SV.int IntKind.i64
  ((mpOf w d h len fun j => xs.getD (off + j) false).slide p.pos
  (V3.mk (cutM (nearV p.vel.x c.dx 16)) (cutM (nearV p.vel.y c.dy 16)) (cutM (IntKind.i64.wrap (24576 - 1024))))).fst.x,
  SV.int IntKind.i64
  ((mpOf w d h len fun j => xs.getD (off + j) false).slide p.pos
  (V3.mk (cutM (nearV p.vel.x c.dx 16)) (cutM (nearV p.vel.y c.dy 16)) (cutM (IntKind.i64.wrap (24576 - 1024))))).fst.y,
  SV.int IntKind.i64
  ((mpOf w d h len fun j => xs.getD (off + j) false).slide p.pos
  (V3.mk (cutM (nearV p.vel.x c.dx 16)) (cutM (nearV p.vel.y c.dy 16)) (cutM (IntKind.i64.wrap (24576 - 1024))))).fst.z,
  SV.int IntKind.i64 0, SV.int IntKind.i64 0, SV.int IntKind.i64 0,
  SV.bool
  (bif
  ((mpOf w d h len fun j => xs.getD (off + j) false).slide p.pos
  (V3.mk (cutM (nearV p.vel.x c.dx 16)) (cutM (nearV p.vel.y c.dy 16)) (cutM (IntKind.i64.wrap (24576 - 1024))))).snd.snd.snd ==
  true then
  false
  else false),
  SV.int IntKind.i64 p.health, SV.int IntKind.i64 p.armour, SV.int IntKind.i64 p.score, SV.int IntKind.i64 p.a0, SV.int IntKind.i64 p.a1, SV.int IntKind.i64 p.wait,
  SV.int IntKind.i64 p.dead],
  [])
  else
  some
  (SV.agg
  [SV.int IntKind.i64 p.id,
  SV.int IntKind.i64
  ((mpOf w d h len fun j => xs.getD (off + j) false).slide p.pos
  (V3.mk (cutM (nearV p.vel.x c.dx 16)) (cutM (nearV p.vel.y c.dy 16)) (cutM (IntKind.i64.wrap (24576 - 1024))))).fst.x,
  SV.int IntKind.i64
  ((mpOf w d h len fun j => xs.getD (off + j) false).slide p.pos
  (V3.mk (cutM (nearV p.vel.x c.dx 16)) (cutM (nearV p.vel.y c.dy 16)) (cutM (IntKind.i64.wrap (24576 - 1024))))).fst.y,
  SV.int IntKind.i64
  ((mpOf w d h len fun j => xs.getD (off + j) false).slide p.pos
  (V3.mk (cutM (nearV p.vel.x c.dx 16)) (cutM (nearV p.vel.y c.dy 16)) (cutM (IntKind.i64.wrap (24576 - 1024))))).fst.z,
  SV.int IntKind.i64 0, SV.int IntKind.i64 0, SV.int IntKind.i64 (cutM (IntKind.i64.wrap (24576 - 1024))),
  SV.bool
  (bif
  ((mpOf w d h len fun j => xs.getD (off + j) false).slide p.pos
  (V3.mk (cutM (nearV p.vel.x c.dx 16)) (cutM (nearV p.vel.y c.dy 16)) (cutM (IntKind.i64.wrap (24576 - 1024))))).snd.snd.snd ==
  true then
  false
  else false),
  SV.int IntKind.i64 p.health, SV.int IntKind.i64 p.armour, SV.int IntKind.i64 p.score, SV.int IntKind.i64 p.a0, SV.int IntKind.i64 p.a1, SV.int IntKind.i64 p.wait,
  SV.int IntKind.i64 p.dead],
  [])
  else
  bif
  ((mpOf w d h len fun j => xs.getD (off + j) false).slide p.pos
  (V3.mk (cutM (nearV p.vel.x c.dx 16)) (cutM (nearV p.vel.y c.dy 16)) (cutM (IntKind.i64.wrap (24576 - 1024))))).snd.snd.snd then
  some
  (SV.agg
  [SV.int IntKind.i64 p.id,
  SV.int IntKind.i64
  ((mpOf w d h len fun j => xs.getD (off + j) false).slide p.pos
  (V3.mk (cutM (nearV p.vel.x c.dx 16)) (cutM (nearV p.vel.y c.dy 16)) (cutM (IntKind.i64.wrap (24576 - 1024))))).fst.x,
  SV.int IntKind.i64
  ((mpOf w d h len fun j => xs.getD (off + j) false).slide p.pos
  (V3.mk (cutM (nearV p.vel.x c.dx 16)) (cutM (nearV p.vel.y c.dy 16)) (cutM (IntKind.i64.wrap (24576 - 1024))))).fst.y,
  SV.int IntKind.i64
  ((mpOf w d h len fun j => xs.getD (off + j) false).slide p.pos
  (V3.mk (cutM (nearV p.vel.x c.dx 16)) (cutM (nearV p.vel.y c.dy 16)) (cutM (IntKind.i64.wrap (24576 - 1024))))).fst.z,
  SV.int IntKind.i64 0, SV.int IntKind.i64 (cutM (nearV p.vel.y c.dy 16)), SV.int IntKind.i64 0,
  SV.bool
  (bif
  ((mpOf w d h len fun j => xs.getD (off + j) false).slide p.pos
  (V3.mk (cutM (nearV p.vel.x c.dx 16)) (cutM (nearV p.vel.y c.dy 16)) (cutM (IntKind.i64.wrap (24576 - 1024))))).snd.snd.snd ==
  true then
  false
  else false),
  SV.int IntKind.i64 p.health, SV.int IntKind.i64 p.armour, SV.int IntKind.i64 p.score, SV.int IntKind.i64 p.a0, SV.int IntKind.i64 p.a1, SV.int IntKind.i64 p.wait,
  SV.int IntKind.i64 p.dead],
  [])
  else
  some
  (SV.agg
  [SV.int IntKind.i64 p.id,
  SV.int IntKind.i64
  ((mpOf w d h len fun j => xs.getD (off + j) false).slide p.pos
  (V3.mk (cutM (nearV p.vel.x c.dx 16)) (cutM (nearV p.vel.y c.dy 16)) (cutM (IntKind.i64.wrap (24576 - 1024))))).fst.x,
  SV.int IntKind.i64
  ((mpOf w d h len fun j => xs.getD (off + j) false).slide p.pos
  (V3.mk (cutM (nearV p.vel.x c.dx 16)) (cutM (nearV p.vel.y c.dy 16)) (cutM (IntKind.i64.wrap (24576 - 1024))))).fst.y,
  SV.int IntKind.i64
  ((mpOf w d h len fun j => xs.getD (off + j) false).slide p.pos
  (V3.mk (cutM (nearV p.vel.x c.dx 16)) (cutM (nearV p.vel.y c.dy 16)) (cutM (IntKind.i64.wrap (24576 - 1024))))).fst.z,
  SV.int IntKind.i64 0, SV.int IntKind.i64 (cutM (nearV p.vel.y c.dy 16)), SV.int IntKind.i64 (cutM (IntKind.i64.wrap (24576 - 1024))),
  SV.bool
  (bif
  ((mpOf w d h len fun j => xs.getD (off + j) false).slide p.pos
  (V3.mk (cutM (nearV p.vel.x c.dx 16)) (cutM (nearV p.vel.y c.dy 16)) (cutM (IntKind.i64.wrap (24576 - 1024))))).snd.snd.snd ==
  true then
  false
  else false),
  SV.int IntKind.i64 p.health, SV.int IntKind.i64 p.armour, SV.int IntKind.i64 p.score, SV.int IntKind.i64 p.a0, SV.int IntKind.i64 p.a1, SV.int IntKind.i64 p.wait,
  SV.int IntKind.i64 p.dead],
  [])
  else
  bif
  ((mpOf w d h len fun j => xs.getD (off + j) false).slide p.pos
  (V3.mk (cutM (nearV p.vel.x c.dx 16)) (cutM (nearV p.vel.y c.dy 16)) (cutM (IntKind.i64.wrap (24576 - 1024))))).snd.snd.fst then
  bif
  ((mpOf w d h len fun j => xs.getD (off + j) false).slide p.pos
  (V3.mk (cutM (nearV p.vel.x c.dx 16)) (cutM (nearV p.vel.y c.dy 16)) (cutM (IntKind.i64.wrap (24576 - 1024))))).snd.snd.snd then
  some
  (SV.agg
  [SV.int IntKind.i64 p.id,
  SV.int IntKind.i64
  ((mpOf w d h len fun j => xs.getD (off + j) false).slide p.pos
  (V3.mk (cutM (nearV p.vel.x c.dx 16)) (cutM (nearV p.vel.y c.dy 16)) (cutM (IntKind.i64.wrap (24576 - 1024))))).fst.x,
  SV.int IntKind.i64
  ((mpOf w d h len fun j => xs.getD (off + j) false).slide p.pos
  (V3.mk (cutM (nearV p.vel.x c.dx 16)) (cutM (nearV p.vel.y c.dy 16)) (cutM (IntKind.i64.wrap (24576 - 1024))))).fst.y,
  SV.int IntKind.i64
  ((mpOf w d h len fun j => xs.getD (off + j) false).slide p.pos
  (V3.mk (cutM (nearV p.vel.x c.dx 16)) (cutM (nearV p.vel.y c.dy 16)) (cutM (IntKind.i64.wrap (24576 - 1024))))).fst.z,
  SV.int IntKind.i64 (cutM (nearV p.vel.x c.dx 16)), SV.int IntKind.i64 0, SV.int IntKind.i64 0,
  SV.bool
  (bif
  ((mpOf w d h len fun j => xs.getD (off + j) false).slide p.pos
  (V3.mk (cutM (nearV p.vel.x c.dx 16)) (cutM (nearV p.vel.y c.dy 16)) (cutM (IntKind.i64.wrap (24576 - 1024))))).snd.snd.snd ==
  true then
  false
  else false),
  SV.int IntKind.i64 p.health, SV.int IntKind.i64 p.armour, SV.int IntKind.i64 p.score, SV.int IntKind.i64 p.a0, SV.int IntKind.i64 p.a1, SV.int IntKind.i64 p.wait,
  SV.int IntKind.i64 p.dead],
  [])
  else
  some
  (SV.agg
  [SV.int IntKind.i64 p.id,
  SV.int IntKind.i64
  ((mpOf w d h len fun j => xs.getD (off + j) false).slide p.pos
  (V3.mk (cutM (nearV p.vel.x c.dx 16)) (cutM (nearV p.vel.y c.dy 16)) (cutM (IntKind.i64.wrap (24576 - 1024))))).fst.x,
  SV.int IntKind.i64
  ((mpOf w d h len fun j => xs.getD (off + j) false).slide p.pos
  (V3.mk (cutM (nearV p.vel.x c.dx 16)) (cutM (nearV p.vel.y c.dy 16)) (cutM (IntKind.i64.wrap (24576 - 1024))))).fst.y,
  SV.int IntKind.i64
  ((mpOf w d h len fun j => xs.getD (off + j) false).slide p.pos
  (V3.mk (cutM (nearV p.vel.x c.dx 16)) (cutM (nearV p.vel.y c.dy 16)) (cutM (IntKind.i64.wrap (24576 - 1024))))).fst.z,
  SV.int IntKind.i64 (cutM (nearV p.vel.x c.dx 16)), SV.int IntKind.i64 0, SV.int IntKind.i64 (cutM (IntKind.i64.wrap (24576 - 1024))),
  SV.bool
  (bif
  ((mpOf w d h len fun j => xs.getD (off + j) false).slide p.pos
  (V3.mk (cutM (nearV p.vel.x c.dx 16)) (cutM (nearV p.vel.y c.dy 16)) (cutM (IntKind.i64.wrap (24576 - 1024))))).snd.snd.snd ==
  true then
  false
  else false),
  SV.int IntKind.i64 p.health, SV.int IntKind.i64 p.armour, SV.int IntKind.i64 p.score, SV.int IntKind.i64 p.a0, SV.int IntKind.i64 p.a1, SV.int IntKind.i64 p.wait,
  SV.int IntKind.i64 p.dead],
  [])
  else
  bif
  ((mpOf w d h len fun j => xs.getD (off + j) false).slide p.pos
  (V3.mk (cutM (nearV p.vel.x c.dx 16)) (cutM (nearV p.vel.y c.dy 16)) (cutM (IntKind.i64.wrap (24576 - 1024))))).snd.snd.snd then
  some
  (SV.agg
  [SV.int IntKind.i64 p.id,
  SV.int IntKind.i64
  ((mpOf w d h len fun j => xs.getD (off + j) false).slide p.pos
  (V3.mk (cutM (nearV p.vel.x c.dx 16)) (cutM (nearV p.vel.y c.dy 16)) (cutM (IntKind.i64.wrap (24576 - 1024))))).fst.x,
  SV.int IntKind.i64
  ((mpOf w d h len fun j => xs.getD (off + j) false).slide p.pos
  (V3.mk (cutM (nearV p.vel.x c.dx 16)) (cutM (nearV p.vel.y c.dy 16)) (cutM (IntKind.i64.wrap (24576 - 1024))))).fst.y,
  SV.int IntKind.i64
  ((mpOf w d h len fun j => xs.getD (off + j) false).slide p.pos
  (V3.mk (cutM (nearV p.vel.x c.dx 16)) (cutM (nearV p.vel.y c.dy 16)) (cutM (IntKind.i64.wrap (24576 - 1024))))).fst.z,
  SV.int IntKind.i64 (cutM (nearV p.vel.x c.dx 16)), SV.int IntKind.i64 (cutM (nearV p.vel.y c.dy 16)), SV.int IntKind.i64 0,
  SV.bool
  (bif
  ((mpOf w d h len fun j => xs.getD (off + j) false).slide p.pos
  (V3.mk (cutM (nearV p.vel.x c.dx 16)) (cutM (nearV p.vel.y c.dy 16)) (cutM (IntKind.i64.wrap (24576 - 1024))))).snd.snd.snd ==
  true then
  false
  else false),
  SV.int IntKind.i64 p.health, SV.int IntKind.i64 p.armour, SV.int IntKind.i64 p.score, SV.int IntKind.i64 p.a0, SV.int IntKind.i64 p.a1, SV.int IntKind.i64 p.wait,
  SV.int IntKind.i64 p.dead],
  [])
  else
  some
  (SV.agg
  [SV.int IntKind.i64 p.id,
  SV.int IntKind.i64
  ((mpOf w d h len fun j => xs.getD (off + j) false).slide p.pos
  (V3.mk (cutM (nearV p.vel.x c.dx 16)) (cutM (nearV p.vel.y c.dy 16)) (cutM (IntKind.i64.wrap (24576 - 1024))))).fst.x,
  SV.int IntKind.i64
  ((mpOf w d h len fun j => xs.getD (off + j) false).slide p.pos
  (V3.mk (cutM (nearV p.vel.x c.dx 16)) (cutM (nearV p.vel.y c.dy 16)) (cutM (IntKind.i64.wrap (24576 - 1024))))).fst.y,
  SV.int IntKind.i64
  ((mpOf w d h len fun j => xs.getD (off + j) false).slide p.pos
  (V3.mk (cutM (nearV p.vel.x c.dx 16)) (cutM (nearV p.vel.y c.dy 16)) (cutM (IntKind.i64.wrap (24576 - 1024))))).fst.z,
  SV.int IntKind.i64 (cutM (nearV p.vel.x c.dx 16)), SV.int IntKind.i64 (cutM (nearV p.vel.y c.dy 16)), SV.int IntKind.i64 (cutM (IntKind.i64.wrap (24576 - 1024))),
  SV.bool
  (bif
  ((mpOf w d h len fun j => xs.getD (off + j) false).slide p.pos
  (V3.mk (cutM (nearV p.vel.x c.dx 16)) (cutM (nearV p.vel.y c.dy 16)) (cutM (IntKind.i64.wrap (24576 - 1024))))).snd.snd.snd ==
  true then
  false
  else false),
  SV.int IntKind.i64 p.health, SV.int IntKind.i64 p.armour, SV.int IntKind.i64 p.score, SV.int IntKind.i64 p.a0, SV.int IntKind.i64 p.a1, SV.int IntKind.i64 p.wait,
  SV.int IntKind.i64 p.dead],
  [])
  else none
  else
  bif mapOk w d h len && (fitsB p.pos && decide (off + len ≤ xs.length)) then
  bif
  ((mpOf w d h len fun j => xs.getD (off + j) false).slide p.pos
  (V3.mk (cutM (nearV p.vel.x c.dx 16)) (cutM (nearV p.vel.y c.dy 16)) (cutM (IntKind.i64.wrap (p.vel.z - 1024))))).snd.fst then
  bif
  ((mpOf w d h len fun j => xs.getD (off + j) false).slide p.pos
  (V3.mk (cutM (nearV p.vel.x c.dx 16)) (cutM (nearV p.vel.y c.dy 16)) (cutM (IntKind.i64.wrap (p.vel.z - 1024))))).snd.snd.fst then
  bif
  ((mpOf w d h len fun j => xs.getD (off + j) false).slide p.pos
  (V3.mk (cutM (nearV p.vel.x c.dx 16)) (cutM (nearV p.vel.y c.dy 16)) (cutM (IntKind.i64.wrap (p.vel.z - 1024))))).snd.snd.snd then
  some
  (SV.agg
  [SV.int IntKind.i64 p.id,
  SV.int IntKind.i64
  ((mpOf w d h len fun j => xs.getD (off + j) false).slide p.pos
  (V3.mk (cutM (nearV p.vel.x c.dx 16)) (cutM (nearV p.vel.y c.dy 16)) (cutM (IntKind.i64.wrap (p.vel.z - 1024))))).fst.x,
  SV.int IntKind.i64
  ((mpOf w d h len fun j => xs.getD (off + j) false).slide p.pos
  (V3.mk (cutM (nearV p.vel.x c.dx 16)) (cutM (nearV p.vel.y c.dy 16)) (cutM (IntKind.i64.wrap (p.vel.z - 1024))))).fst.y,
  SV.int IntKind.i64
  ((mpOf w d h len fun j => xs.getD (off + j) false).slide p.pos
  (V3.mk (cutM (nearV p.vel.x c.dx 16)) (cutM (nearV p.vel.y c.dy 16)) (cutM (IntKind.i64.wrap (p.vel.z - 1024))))).fst.z,
  SV.int IntKind.i64 0, SV.int IntKind.i64 0, SV.int IntKind.i64 0,
  SV.bool
  (bif
  ((mpOf w d h len fun j => xs.getD (off + j) false).slide p.pos
  (V3.mk (cutM (nearV p.vel.x c.dx 16)) (cutM (nearV p.vel.y c.dy 16)) (cutM (IntKind.i64.wrap (p.vel.z - 1024))))).snd.snd.snd ==
  true then
  decide (cutM (IntKind.i64.wrap (p.vel.z - 1024)) < 0)
  else false),
  SV.int IntKind.i64 p.health, SV.int IntKind.i64 p.armour, SV.int IntKind.i64 p.score, SV.int IntKind.i64 p.a0, SV.int IntKind.i64 p.a1, SV.int IntKind.i64 p.wait,
  SV.int IntKind.i64 p.dead],
  [])
  else
  some
  (SV.agg
  [SV.int IntKind.i64 p.id,
  SV.int IntKind.i64
  ((mpOf w d h len fun j => xs.getD (off + j) false).slide p.pos
  (V3.mk (cutM (nearV p.vel.x c.dx 16)) (cutM (nearV p.vel.y c.dy 16)) (cutM (IntKind.i64.wrap (p.vel.z - 1024))))).fst.x,
  SV.int IntKind.i64
  ((mpOf w d h len fun j => xs.getD (off + j) false).slide p.pos
  (V3.mk (cutM (nearV p.vel.x c.dx 16)) (cutM (nearV p.vel.y c.dy 16)) (cutM (IntKind.i64.wrap (p.vel.z - 1024))))).fst.y,
  SV.int IntKind.i64
  ((mpOf w d h len fun j => xs.getD (off + j) false).slide p.pos
  (V3.mk (cutM (nearV p.vel.x c.dx 16)) (cutM (nearV p.vel.y c.dy 16)) (cutM (IntKind.i64.wrap (p.vel.z - 1024))))).fst.z,
  SV.int IntKind.i64 0, SV.int IntKind.i64 0, SV.int IntKind.i64 (cutM (IntKind.i64.wrap (p.vel.z - 1024))),
  SV.bool
  (bif
  ((mpOf w d h len fun j => xs.getD (off + j) false).slide p.pos
  (V3.mk (cutM (nearV p.vel.x c.dx 16)) (cutM (nearV p.vel.y c.dy 16)) (cutM (IntKind.i64.wrap (p.vel.z - 1024))))).snd.snd.snd ==
  true then
  decide (cutM (IntKind.i64.wrap (p.vel.z - 1024)) < 0)
  else false),
  SV.int IntKind.i64 p.health, SV.int IntKind.i64 p.armour, SV.int IntKind.i64 p.score, SV.int IntKind.i64 p.a0, SV.int IntKind.i64 p.a1, SV.int IntKind.i64 p.wait,
  SV.int IntKind.i64 p.dead],
  [])
  else
  bif
  ((mpOf w d h len fun j => xs.getD (off + j) false).slide p.pos
  (V3.mk (cutM (nearV p.vel.x c.dx 16)) (cutM (nearV p.vel.y c.dy 16)) (cutM (IntKind.i64.wrap (p.vel.z - 1024))))).snd.snd.snd then
  some
  (SV.agg
  [SV.int IntKind.i64 p.id,
  SV.int IntKind.i64
  ((mpOf w d h len fun j => xs.getD (off + j) false).slide p.pos
  (V3.mk (cutM (nearV p.vel.x c.dx 16)) (cutM (nearV p.vel.y c.dy 16)) (cutM (IntKind.i64.wrap (p.vel.z - 1024))))).fst.x,
  SV.int IntKind.i64
  ((mpOf w d h len fun j => xs.getD (off + j) false).slide p.pos
  (V3.mk (cutM (nearV p.vel.x c.dx 16)) (cutM (nearV p.vel.y c.dy 16)) (cutM (IntKind.i64.wrap (p.vel.z - 1024))))).fst.y,
  SV.int IntKind.i64
  ((mpOf w d h len fun j => xs.getD (off + j) false).slide p.pos
  (V3.mk (cutM (nearV p.vel.x c.dx 16)) (cutM (nearV p.vel.y c.dy 16)) (cutM (IntKind.i64.wrap (p.vel.z - 1024))))).fst.z,
  SV.int IntKind.i64 0, SV.int IntKind.i64 (cutM (nearV p.vel.y c.dy 16)), SV.int IntKind.i64 0,
  SV.bool
  (bif
  ((mpOf w d h len fun j => xs.getD (off + j) false).slide p.pos
  (V3.mk (cutM (nearV p.vel.x c.dx 16)) (cutM (nearV p.vel.y c.dy 16)) (cutM (IntKind.i64.wrap (p.vel.z - 1024))))).snd.snd.snd ==
  true then
  decide (cutM (IntKind.i64.wrap (p.vel.z - 1024)) < 0)
  else false),
  SV.int IntKind.i64 p.health, SV.int IntKind.i64 p.armour, SV.int IntKind.i64 p.score, SV.int IntKind.i64 p.a0, SV.int IntKind.i64 p.a1, SV.int IntKind.i64 p.wait,
  SV.int IntKind.i64 p.dead],
  [])
  else
  some
  (SV.agg
  [SV.int IntKind.i64 p.id,
  SV.int IntKind.i64
  ((mpOf w d h len fun j => xs.getD (off + j) false).slide p.pos
  (V3.mk (cutM (nearV p.vel.x c.dx 16)) (cutM (nearV p.vel.y c.dy 16)) (cutM (IntKind.i64.wrap (p.vel.z - 1024))))).fst.x,
  SV.int IntKind.i64
  ((mpOf w d h len fun j => xs.getD (off + j) false).slide p.pos
  (V3.mk (cutM (nearV p.vel.x c.dx 16)) (cutM (nearV p.vel.y c.dy 16)) (cutM (IntKind.i64.wrap (p.vel.z - 1024))))).fst.y,
  SV.int IntKind.i64
  ((mpOf w d h len fun j => xs.getD (off + j) false).slide p.pos
  (V3.mk (cutM (nearV p.vel.x c.dx 16)) (cutM (nearV p.vel.y c.dy 16)) (cutM (IntKind.i64.wrap (p.vel.z - 1024))))).fst.z,
  SV.int IntKind.i64 0, SV.int IntKind.i64 (cutM (nearV p.vel.y c.dy 16)), SV.int IntKind.i64 (cutM (IntKind.i64.wrap (p.vel.z - 1024))),
  SV.bool
  (bif
  ((mpOf w d h len fun j => xs.getD (off + j) false).slide p.pos
  (V3.mk (cutM (nearV p.vel.x c.dx 16)) (cutM (nearV p.vel.y c.dy 16)) (cutM (IntKind.i64.wrap (p.vel.z - 1024))))).snd.snd.snd ==
  true then
  decide (cutM (IntKind.i64.wrap (p.vel.z - 1024)) < 0)
  else false),
  SV.int IntKind.i64 p.health, SV.int IntKind.i64 p.armour, SV.int IntKind.i64 p.score, SV.int IntKind.i64 p.a0, SV.int IntKind.i64 p.a1, SV.int IntKind.i64 p.wait,
  SV.int IntKind.i64 p.dead],
  [])
  else
  bif
  ((mpOf w d h len fun j => xs.getD (off + j) false).slide p.pos
  (V3.mk (cutM (nearV p.vel.x c.dx 16)) (cutM (nearV p.vel.y c.dy 16)) (cutM (IntKind.i64.wrap (p.vel.z - 1024))))).snd.snd.fst then
  bif
  ((mpOf w d h len fun j => xs.getD (off + j) false).slide p.pos
  (V3.mk (cutM (nearV p.vel.x c.dx 16)) (cutM (nearV p.vel.y c.dy 16)) (cutM (IntKind.i64.wrap (p.vel.z - 1024))))).snd.snd.snd then
  some
  (SV.agg
  [SV.int IntKind.i64 p.id,
  SV.int IntKind.i64
  ((mpOf w d h len fun j => xs.getD (off + j) false).slide p.pos
  (V3.mk (cutM (nearV p.vel.x c.dx 16)) (cutM (nearV p.vel.y c.dy 16)) (cutM (IntKind.i64.wrap (p.vel.z - 1024))))).fst.x,
  SV.int IntKind.i64
  ((mpOf w d h len fun j => xs.getD (off + j) false).slide p.pos
  (V3.mk (cutM (nearV p.vel.x c.dx 16)) (cutM (nearV p.vel.y c.dy 16)) (cutM (IntKind.i64.wrap (p.vel.z - 1024))))).fst.y,
  SV.int IntKind.i64
  ((mpOf w d h len fun j => xs.getD (off + j) false).slide p.pos
  (V3.mk (cutM (nearV p.vel.x c.dx 16)) (cutM (nearV p.vel.y c.dy 16)) (cutM (IntKind.i64.wrap (p.vel.z - 1024))))).fst.z,
  SV.int IntKind.i64 (cutM (nearV p.vel.x c.dx 16)), SV.int IntKind.i64 0, SV.int IntKind.i64 0,
  SV.bool
  (bif
  ((mpOf w d h len fun j => xs.getD (off + j) false).slide p.pos
  (V3.mk (cutM (nearV p.vel.x c.dx 16)) (cutM (nearV p.vel.y c.dy 16)) (cutM (IntKind.i64.wrap (p.vel.z - 1024))))).snd.snd.snd ==
  true then
  decide (cutM (IntKind.i64.wrap (p.vel.z - 1024)) < 0)
  else false),
  SV.int IntKind.i64 p.health, SV.int IntKind.i64 p.armour, SV.int IntKind.i64 p.score, SV.int IntKind.i64 p.a0, SV.int IntKind.i64 p.a1, SV.int IntKind.i64 p.wait,
  SV.int IntKind.i64 p.dead],
  [])
  else
  some
  (SV.agg
  [SV.int IntKind.i64 p.id,
  SV.int IntKind.i64
  ((mpOf w d h len fun j => xs.getD (off + j) false).slide p.pos
  (V3.mk (cutM (nearV p.vel.x c.dx 16)) (cutM (nearV p.vel.y c.dy 16)) (cutM (IntKind.i64.wrap (p.vel.z - 1024))))).fst.x,
  SV.int IntKind.i64
  ((mpOf w d h len fun j => xs.getD (off + j) false).slide p.pos
  (V3.mk (cutM (nearV p.vel.x c.dx 16)) (cutM (nearV p.vel.y c.dy 16)) (cutM (IntKind.i64.wrap (p.vel.z - 1024))))).fst.y,
  SV.int IntKind.i64
  ((mpOf w d h len fun j => xs.getD (off + j) false).slide p.pos
  (V3.mk (cutM (nearV p.vel.x c.dx 16)) (cutM (nearV p.vel.y c.dy 16)) (cutM (IntKind.i64.wrap (p.vel.z - 1024))))).fst.z,
  SV.int IntKind.i64 (cutM (nearV p.vel.x c.dx 16)), SV.int IntKind.i64 0, SV.int IntKind.i64 (cutM (IntKind.i64.wrap (p.vel.z - 1024))),
  SV.bool
  (bif
  ((mpOf w d h len fun j => xs.getD (off + j) false).slide p.pos
  (V3.mk (cutM (nearV p.vel.x c.dx 16)) (cutM (nearV p.vel.y c.dy 16)) (cutM (IntKind.i64.wrap (p.vel.z - 1024))))).snd.snd.snd ==
  true then
  decide (cutM (IntKind.i64.wrap (p.vel.z - 1024)) < 0)
  else false),
  SV.int IntKind.i64 p.health, SV.int IntKind.i64 p.armour, SV.int IntKind.i64 p.score, SV.int IntKind.i64 p.a0, SV.int IntKind.i64 p.a1, SV.int IntKind.i64 p.wait,
  SV.int IntKind.i64 p.dead],
  [])
  else
  bif
  ((mpOf w d h len fun j => xs.getD (off + j) false).slide p.pos
  (V3.mk (cutM (nearV p.vel.x c.dx 16)) (cutM (nearV p.vel.y c.dy 16)) (cutM (IntKind.i64.wrap (p.vel.z - 1024))))).snd.snd.snd then
  some
  (SV.agg
  [SV.int IntKind.i64 p.id,
  SV.int IntKind.i64
  ((mpOf w d h len fun j => xs.getD (off + j) false).slide p.pos
  (V3.mk (cutM (nearV p.vel.x c.dx 16)) (cutM (nearV p.vel.y c.dy 16)) (cutM (IntKind.i64.wrap (p.vel.z - 1024))))).fst.x,
  SV.int IntKind.i64
  ((mpOf w d h len fun j => xs.getD (off + j) false).slide p.pos
  (V3.mk (cutM (nearV p.vel.x c.dx 16)) (cutM (nearV p.vel.y c.dy 16)) (cutM (IntKind.i64.wrap (p.vel.z - 1024))))).fst.y,
  SV.int IntKind.i64
  ((mpOf w d h len fun j => xs.getD (off + j) false).slide p.pos
  (V3.mk (cutM (nearV p.vel.x c.dx 16)) (cutM (nearV p.vel.y c.dy 16)) (cutM (IntKind.i64.wrap (p.vel.z - 1024))))).fst.z,
  SV.int IntKind.i64 (cutM (nearV p.vel.x c.dx 16)), SV.int IntKind.i64 (cutM (nearV p.vel.y c.dy 16)), SV.int IntKind.i64 0,
  SV.bool
  (bif
  ((mpOf w d h len fun j => xs.getD (off + j) false).slide p.pos
  (V3.mk (cutM (nearV p.vel.x c.dx 16)) (cutM (nearV p.vel.y c.dy 16)) (cutM (IntKind.i64.wrap (p.vel.z - 1024))))).snd.snd.snd ==
  true then
  decide (cutM (IntKind.i64.wrap (p.vel.z - 1024)) < 0)
  else false),
  SV.int IntKind.i64 p.health, SV.int IntKind.i64 p.armour, SV.int IntKind.i64 p.score, SV.int IntKind.i64 p.a0, SV.int IntKind.i64 p.a1, SV.int IntKind.i64 p.wait,
  SV.int IntKind.i64 p.dead],
  [])
  else
  some
  (SV.agg
  [SV.int IntKind.i64 p.id,
  SV.int IntKind.i64
  ((mpOf w d h len fun j => xs.getD (off + j) false).slide p.pos
  (V3.mk (cutM (nearV p.vel.x c.dx 16)) (cutM (nearV p.vel.y c.dy 16)) (cutM (IntKind.i64.wrap (p.vel.z - 1024))))).fst.x,
  SV.int IntKind.i64
  ((mpOf w d h len fun j => xs.getD (off + j) false).slide p.pos
  (V3.mk (cutM (nearV p.vel.x c.dx 16)) (cutM (nearV p.vel.y c.dy 16)) (cutM (IntKind.i64.wrap (p.vel.z - 1024))))).fst.y,
  SV.int IntKind.i64
  ((mpOf w d h len fun j => xs.getD (off + j) false).slide p.pos
  (V3.mk (cutM (nearV p.vel.x c.dx 16)) (cutM (nearV p.vel.y c.dy 16)) (cutM (IntKind.i64.wrap (p.vel.z - 1024))))).fst.z,
  SV.int IntKind.i64 (cutM (nearV p.vel.x c.dx 16)), SV.int IntKind.i64 (cutM (nearV p.vel.y c.dy 16)), SV.int IntKind.i64 (cutM (IntKind.i64.wrap (p.vel.z - 1024))),
  SV.bool
  (bif
  ((mpOf w d h len fun j => xs.getD (off + j) false).slide p.pos
  (V3.mk (cutM (nearV p.vel.x c.dx 16)) (cutM (nearV p.vel.y c.dy 16)) (cutM (IntKind.i64.wrap (p.vel.z - 1024))))).snd.snd.snd ==
  true then
  decide (cutM (IntKind.i64.wrap (p.vel.z - 1024)) < 0)
  else false),
  SV.int IntKind.i64 p.health, SV.int IntKind.i64 p.armour, SV.int IntKind.i64 p.score, SV.int IntKind.i64 p.a0, SV.int IntKind.i64 p.a1, SV.int IntKind.i64 p.wait,
  SV.int IntKind.i64 p.dead],
  [])
  else none := by kernel_rfl

/-- A player behind a tick: what is asked of the buttons, the speed that is tried, and what becomes of it. -/
def firmB (p : Pl) (c : Cm) : Bool := p.ground && (IntKind.u8.wrap ((BitVec.ofInt IntKind.u8.bits c.buttons &&& BitVec.ofInt IntKind.u8.bits 2).toNat : Int) == 0)
def jumpB (p : Pl) (c : Cm) : Bool := p.ground && (IntKind.u8.wrap ((BitVec.ofInt IntKind.u8.bits c.buttons &&& BitVec.ofInt IntKind.u8.bits 1).toNat : Int) != 0)
def triedV (f j : Bool) (p : Pl) (c : Cm) : V3 := ⟨cutM (nearV p.vel.x c.dx (bif f then 4 else 16)), cutM (nearV p.vel.y c.dy (bif f then 4 else 16)), cutM (IntKind.i64.wrap ((bif j then 24576 else p.vel.z) - 1024))⟩
def landP (p : Pl) (v : V3) (r : V3 × Bool × Bool × Bool) : Pl := ⟨p.id, r.1, ⟨bif r.2.1 then 0 else v.x, bif r.2.2.1 then 0 else v.y, bif r.2.2.2 then 0 else v.z⟩, r.2.2.2 && decide (v.z < 0), p.health, p.armour, p.score, p.a0, p.a1, p.wait, p.dead⟩
def tickP (S : V3 → V3 → V3 × Bool × Bool × Bool) (p : Pl) (c : Cm) : Pl := bif decide (p.dead > 0) then p else landP p (triedV (firmB p c) (jumpB p c) p c) (S p.pos (triedV (firmB p c) (jumpB p c) p c))
set_option maxHeartbeats 0 in
theorem tick_val {w d h : Int} {len off : Nat} {xs : List Bool} {p : Pl} {c : Cm} (hm : mapOk w d h len = true) (hl : decide (off + len ≤ xs.length) = true) (hp : p.pos.fits) :
    runK xTc (fun _ _ => none) 400 13 Try.f13 0 [mapS w d h (.slice 0 1 off len none) .unk, .agg p.sv, .agg c.sv] [.vec true .bool xs] = some (.agg (tickP (mpOf w d h len fun j => xs.getD (off + j) false).slide p c).sv, []) := by
  rw [tick_tree]
  simp only [and_form, hm, hl, fitsB_iff.2 hp, Bool.and_true, cond_true]
  generalize (mpOf w d h len fun j => xs.getD (off + j) false).slide = S
  unfold tickP
  cases decide (p.dead > 0) with
  | true => rfl
  | false =>
    rw [cond_false, cond_false]
    rw [show (p.ground && (IntKind.u8.wrap ((BitVec.ofInt IntKind.u8.bits c.buttons &&& BitVec.ofInt IntKind.u8.bits 2).toNat : Int) == 0)) = firmB p c from rfl]
    rw [show (p.ground && (IntKind.u8.wrap ((BitVec.ofInt IntKind.u8.bits c.buttons &&& BitVec.ofInt IntKind.u8.bits 1).toNat : Int) != 0)) = jumpB p c from rfl]
    cases firmB p c <;> cases jumpB p c <;> unfold triedV <;> simp only [cond_true, cond_false]
    · generalize S p.pos _ = r
      obtain ⟨q, b1, b2, b3⟩ := r
      cases b1 <;> cases b2 <;> cases b3 <;> rfl
    · generalize S p.pos _ = r
      obtain ⟨q, b1, b2, b3⟩ := r
      cases b1 <;> cases b2 <;> cases b3 <;> rfl
    · generalize S p.pos _ = r
      obtain ⟨q, b1, b2, b3⟩ := r
      cases b1 <;> cases b2 <;> cases b3 <;> rfl
    · generalize S p.pos _ = r
      obtain ⟨q, b1, b2, b3⟩ := r
      cases b1 <;> cases b2 <;> cases b3 <;> rfl
noncomputable def oTick (args : List SV) (rows : List Row) : Option Eff :=
  match args with
  | [.agg [.int .i64 w, .int .i64 d, .int .i64 h, .slice id st off len _, sp], .agg [.int .i64 a0, .int .i64 a1, .int .i64 a2, .int .i64 a3, .int .i64 a4, .int .i64 a5, .int .i64 a6, .bool a7, .int .i64 a8, .int .i64 a9, .int .i64 a10, .int .i64 a11, .int .i64 a12, .int .i64 a13, .int .i64 a14], .agg [.int .u16 c0, .int .u8 c1, .int .i8 c2, .int .i8 c3, .int .i64 c4]] => match rows[id]? with
    | some (.vec _ .bool xs) => bif Nat.beq st 1 && sp.one then some { ok := mapOk w d h len && (fitsB ⟨a1, a2, a3⟩ && decide (off + len ≤ xs.length)), val := .agg (tickP (mpOf w d h len fun j => xs.getD (off + j) false).slide ⟨a0, ⟨a1, a2, a3⟩, ⟨a4, a5, a6⟩, a7, a8, a9, a10, a11, a12, a13, a14⟩ ⟨c0, c1, c2, c3, c4⟩).sv, rd := [id] } else none
    | _ => none
  | _ => none
set_option maxHeartbeats 0 in
theorem oTick_ok {args : List SV} {rows : List Row} {n : Nat} {e : Eff} (h : oTick args rows = some e) (hok : e.ok = true) : FnOk Try.prog 13 args (rows[·]?) n e := by
  unfold oTick at h
  split at h
  · rename_i wd dd hd id st off len cap sp a0 a1 a2 a3 a4 a5 a6 a7 a8 a9 a10 a11 a12 a13 a14 c0 c1 c2 c3 c4
    split at h
    · rename_i ro xs hrow
      cases hb : Nat.beq st 1 && sp.one with
      | false => simp [hb] at h
      | true =>
        simp only [hb, cond_true, Option.some.injEq] at h
        subst h
        rw [Bool.and_eq_true] at hb
        have hst := Nat.eq_of_beq_eq_true hb.1
        subst hst
        simp only [Bool.and_eq_true, fitsB_iff] at hok
        obtain ⟨h1, h2, h3⟩ := hok
        obtain ⟨rows', hc, _⟩ := runK_ok xTc_ok lok_none Try.func13 (tick_val (p := ⟨a0, ⟨a1, a2, a3⟩, ⟨a4, a5, a6⟩, a7, a8, a9, a10, a11, a12, a13, a14⟩) (c := ⟨c0, c1, c2, c3, c4⟩) h1 h3 h2)
        exact fnOk_map hb.2 hc rfl rfl hrow
    · cases h
  · cases h
noncomputable def orcTick : Orc := ⟨13, oTick, fun _ _ _ h hok => oTick_ok h hok, bodied Try.func13 (by kernel_rfl)⟩

end Go.Proofs.Ytihpfaeabocdbaa
