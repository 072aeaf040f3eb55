/- BlastScores: its second loop.s round. -/
import Derived.Test.YtboljdeeodeeeaaVmBu
namespace Go.Proofs.Ytboljdeeodeeeaa
set_option linter.unusedSimpArgs false
set_option linter.unusedVariables false
set_option maxRecDepth 100000
open Go.RowKit

noncomputable def xBs0 : Ctx := ctxOf [] []
theorem xBs0_ok : COk Try.prog xBs0 := ctxOf_ok (by kernel_rfl)
def rowBs (xs : List Bool) (sp : List V3) (ps : List Pl) (w d h : Int) (len ls : Nat) (at' : V3) (zs : List Pl) : List Row := [.vec true .bool xs, .vec true .vec sp, .vec true .pl ps, .own [.int .i64 w, .int .i64 d, .int .i64 h, .slice 0 1 0 len none, .slice 1 3 0 ls none], .own at'.sv, .gone, .vec false .pl zs]
def valBa (owner : Int) (k : Nat) (i : Int) : List SV := [.int .i64 owner, .slice 6 15 0 k none, .ptr 3 0 0 0, .ptr 4 0 0 0, .bool false, .bool true, .int .i64 i]
noncomputable def rdBa : List SV → List Row → Option Res2 := roundS xBs0 (fun _ _ => none) 100 6 [0, 1, 0, 1, 1, 1, 1] (bodyAt Try.f6 [0, 1, 0, 1, 1, 1, 1]) 206 7 [2, 3, 4, 5, 8, 9, 11]

def valBb (owner : Int) (k k2 : Nat) (s i : Int) : List SV := [.int .i64 owner, .slice 6 15 0 k none, .bool false, .bool true, .slice 7 15 0 k2 none, .int .i64 s, .int .i64 i]
noncomputable def rdBb : List SV → List Row → Option Res2 := roundS xBs0 (fun _ _ => none) 100 6 [0, 1, 0, 1, 1, 1, 1, 1, 1, 1, 1, 1] (bodyAt Try.f6 [0, 1, 0, 1, 1, 1, 1, 1, 1, 1, 1, 1]) 206 8 [2, 3, 8, 9, 12, 13, 14]

set_option maxRecDepth 100000 in
set_option maxHeartbeats 0 in
theorem bb_round (xs : List Bool) (sp : List V3) (ps : List Pl) (w d h : Int) (len ls : Nat) (at' : V3) (zs ys : List Pl) (owner : Int) (k k2 : Nat) (s i : Int) : rdBb (valBb owner k k2 s i) (rowBs xs sp ps w d h len ls at' zs ++ [.vec true .pl ys]) =
  bif decide (i < (↑k : Int)) then
  bif decide (0 ≤ i) && decide (i < (↑k : Int)) then
  bif decide (0 + i.toNat < zs.length) then
  bif
  (decide (0 ≤ i) && decide (i < (↑k2 : Int)) && (decide (0 + i.toNat < ys.length) && true) && true || decide ((zs.getD (0 + i.toNat) Knd.pl.dflt).dead ≤ 0) != true) &&
  (true || decide ((zs.getD (0 + i.toNat) Knd.pl.dflt).dead ≤ 0) == true) &&
  true then
  bif
  bif (bif decide ((zs.getD (0 + i.toNat) Knd.pl.dflt).dead ≤ 0) == true then decide ((ys.getD (0 + i.toNat) Knd.pl.dflt).dead > 0) else false) == true then IntKind.i64.wrap (i + 1) != owner
  else false then
  bif
  bif (bif decide ((zs.getD (0 + i.toNat) Knd.pl.dflt).dead ≤ 0) == true then decide ((ys.getD (0 + i.toNat) Knd.pl.dflt).dead > 0) else false) == true then
  IntKind.i64.wrap (i + 1) == owner
  else false then
  bif decide (0 ≤ i) && decide (i < (↑k2 : Int)) then
  bif decide (0 + i.toNat < ys.length) then
  bif decide (0 ≤ i) && decide (i < (↑k : Int)) then
  bif decide (0 + i.toNat < zs.length) then
  bif (ys.getD (0 + i.toNat) Knd.pl.dflt).id != (zs.getD (0 + i.toNat) Knd.pl.dflt).id then
  some
  (SV.tuple
  [SV.nils,
  SV.tuple
  [SV.int IntKind.i64 owner, SV.slice 6 15 0 k none, SV.bool false, SV.bool true, SV.slice 7 15 0 k2 none,
  SV.int IntKind.i64 (IntKind.i64.wrap (IntKind.i64.wrap (s + 1) - 1)), SV.int IntKind.i64 i]],
  [Row.vec true Knd.bool xs, Row.vec true Knd.vec sp, Row.vec true Knd.pl ps,
  Row.own [SV.int IntKind.i64 w, SV.int IntKind.i64 d, SV.int IntKind.i64 h, SV.slice 0 1 0 len none, SV.slice 1 3 0 ls none],
  Row.own [SV.int IntKind.i64 at'.x, SV.int IntKind.i64 at'.y, SV.int IntKind.i64 at'.z], Row.gone, Row.vec false Knd.pl zs, Row.vec true Knd.pl ys])
  else
  bif decide (0 ≤ i) && decide (i < (↑k2 : Int)) then
  bif decide (0 + i.toNat < ys.length) then
  bif decide (0 ≤ i) && decide (i < (↑k : Int)) then
  bif decide (0 + i.toNat < zs.length) then
  bif
  !((ys.getD (0 + i.toNat) Knd.pl.dflt).pos.x == (zs.getD (0 + i.toNat) Knd.pl.dflt).pos.x &&
  ((ys.getD (0 + i.toNat) Knd.pl.dflt).pos.y == (zs.getD (0 + i.toNat) Knd.pl.dflt).pos.y &&
  ((ys.getD (0 + i.toNat) Knd.pl.dflt).pos.z == (zs.getD (0 + i.toNat) Knd.pl.dflt).pos.z && true))) then
  some
  (SV.tuple
  [SV.nils,
  SV.tuple
  [SV.int IntKind.i64 owner, SV.slice 6 15 0 k none, SV.bool false, SV.bool true, SV.slice 7 15 0 k2 none,
  SV.int IntKind.i64 (IntKind.i64.wrap (IntKind.i64.wrap (s + 1) - 1)), SV.int IntKind.i64 i]],
  [Row.vec true Knd.bool xs, Row.vec true Knd.vec sp, Row.vec true Knd.pl ps,
  Row.own [SV.int IntKind.i64 w, SV.int IntKind.i64 d, SV.int IntKind.i64 h, SV.slice 0 1 0 len none, SV.slice 1 3 0 ls none],
  Row.own [SV.int IntKind.i64 at'.x, SV.int IntKind.i64 at'.y, SV.int IntKind.i64 at'.z], Row.gone, Row.vec false Knd.pl zs, Row.vec true Knd.pl ys])
  else
  bif decide (0 ≤ i) && decide (i < (↑k2 : Int)) then
  bif decide (0 + i.toNat < ys.length) then
  bif decide (0 ≤ i) && decide (i < (↑k : Int)) then
  bif decide (0 + i.toNat < zs.length) then
  bif
  !((ys.getD (0 + i.toNat) Knd.pl.dflt).vel.x == (zs.getD (0 + i.toNat) Knd.pl.dflt).vel.x &&
  ((ys.getD (0 + i.toNat) Knd.pl.dflt).vel.y == (zs.getD (0 + i.toNat) Knd.pl.dflt).vel.y &&
  ((ys.getD (0 + i.toNat) Knd.pl.dflt).vel.z == (zs.getD (0 + i.toNat) Knd.pl.dflt).vel.z && true))) then
  some
  (SV.tuple
  [SV.nils,
  SV.tuple
  [SV.int IntKind.i64 owner, SV.slice 6 15 0 k none, SV.bool false, SV.bool true, SV.slice 7 15 0 k2 none,
  SV.int IntKind.i64 (IntKind.i64.wrap (IntKind.i64.wrap (s + 1) - 1)), SV.int IntKind.i64 i]],
  [Row.vec true Knd.bool xs, Row.vec true Knd.vec sp, Row.vec true Knd.pl ps,
  Row.own [SV.int IntKind.i64 w, SV.int IntKind.i64 d, SV.int IntKind.i64 h, SV.slice 0 1 0 len none, SV.slice 1 3 0 ls none],
  Row.own [SV.int IntKind.i64 at'.x, SV.int IntKind.i64 at'.y, SV.int IntKind.i64 at'.z], Row.gone, Row.vec false Knd.pl zs, Row.vec true Knd.pl ys])
  else
  bif decide (0 ≤ i) && decide (i < (↑k2 : Int)) then
  bif decide (0 + i.toNat < ys.length) then
  bif decide (0 ≤ i) && decide (i < (↑k : Int)) then
  bif decide (0 + i.toNat < zs.length) then
  bif
  !((ys.getD (0 + i.toNat) Knd.pl.dflt).a0 == (zs.getD (0 + i.toNat) Knd.pl.dflt).a0 &&
  ((ys.getD (0 + i.toNat) Knd.pl.dflt).a1 == (zs.getD (0 + i.toNat) Knd.pl.dflt).a1 && true)) then
  some
  (SV.tuple
  [SV.nils,
  SV.tuple
  [SV.int IntKind.i64 owner, SV.slice 6 15 0 k none, SV.bool false, SV.bool true, SV.slice 7 15 0 k2 none,
  SV.int IntKind.i64 (IntKind.i64.wrap (IntKind.i64.wrap (s + 1) - 1)), SV.int IntKind.i64 i]],
  [Row.vec true Knd.bool xs, Row.vec true Knd.vec sp, Row.vec true Knd.pl ps,
  Row.own [SV.int IntKind.i64 w, SV.int IntKind.i64 d, SV.int IntKind.i64 h, SV.slice 0 1 0 len none, SV.slice 1 3 0 ls none],
  Row.own [SV.int IntKind.i64 at'.x, SV.int IntKind.i64 at'.y, SV.int IntKind.i64 at'.z], Row.gone, Row.vec false Knd.pl zs,
  Row.vec true Knd.pl ys])
  else
  bif decide (0 ≤ i) && decide (i < (↑k2 : Int)) then
  bif decide (0 + i.toNat < ys.length) then
  bif decide (0 ≤ i) && decide (i < (↑k : Int)) then
  bif decide (0 + i.toNat < zs.length) then
  bif (ys.getD (0 + i.toNat) Knd.pl.dflt).wait != (zs.getD (0 + i.toNat) Knd.pl.dflt).wait then
  some
  (SV.tuple
  [SV.nils,
  SV.tuple
  [SV.int IntKind.i64 owner, SV.slice 6 15 0 k none, SV.bool false, SV.bool true, SV.slice 7 15 0 k2 none,
  SV.int IntKind.i64 (IntKind.i64.wrap (IntKind.i64.wrap (s + 1) - 1)), SV.int IntKind.i64 i]],
  [Row.vec true Knd.bool xs, Row.vec true Knd.vec sp, Row.vec true Knd.pl ps,
  Row.own [SV.int IntKind.i64 w, SV.int IntKind.i64 d, SV.int IntKind.i64 h, SV.slice 0 1 0 len none, SV.slice 1 3 0 ls none],
  Row.own [SV.int IntKind.i64 at'.x, SV.int IntKind.i64 at'.y, SV.int IntKind.i64 at'.z], Row.gone, Row.vec false Knd.pl zs,
  Row.vec true Knd.pl ys])
  else
  bif IntKind.i64.wrap (i + 1) != owner then
  bif decide (0 ≤ i) && decide (i < (↑k2 : Int)) then
  bif decide (0 + i.toNat < ys.length) then
  bif decide (0 ≤ i) && decide (i < (↑k : Int)) then
  bif decide (0 + i.toNat < zs.length) then
  bif (ys.getD (0 + i.toNat) Knd.pl.dflt).score != (zs.getD (0 + i.toNat) Knd.pl.dflt).score then
  some
  (SV.tuple
  [SV.nils,
  SV.tuple
  [SV.int IntKind.i64 owner, SV.slice 6 15 0 k none, SV.bool false, SV.bool true, SV.slice 7 15 0 k2 none,
  SV.int IntKind.i64 (IntKind.i64.wrap (IntKind.i64.wrap (s + 1) - 1)), SV.int IntKind.i64 i]],
  [Row.vec true Knd.bool xs, Row.vec true Knd.vec sp, Row.vec true Knd.pl ps,
  Row.own
  [SV.int IntKind.i64 w, SV.int IntKind.i64 d, SV.int IntKind.i64 h, SV.slice 0 1 0 len none, SV.slice 1 3 0 ls none],
  Row.own [SV.int IntKind.i64 at'.x, SV.int IntKind.i64 at'.y, SV.int IntKind.i64 at'.z], Row.gone,
  Row.vec false Knd.pl zs, Row.vec true Knd.pl ys])
  else
  some
  (SV.tuple
  [SV.nilp,
  SV.tuple
  [SV.int IntKind.i64 owner, SV.slice 6 15 0 k none, SV.bool false, SV.bool true, SV.slice 7 15 0 k2 none,
  SV.int IntKind.i64 (IntKind.i64.wrap (IntKind.i64.wrap (s + 1) - 1)),
  SV.int IntKind.i64 (IntKind.i64.wrap (i + 1))]],
  [Row.vec true Knd.bool xs, Row.vec true Knd.vec sp, Row.vec true Knd.pl ps,
  Row.own
  [SV.int IntKind.i64 w, SV.int IntKind.i64 d, SV.int IntKind.i64 h, SV.slice 0 1 0 len none, SV.slice 1 3 0 ls none],
  Row.own [SV.int IntKind.i64 at'.x, SV.int IntKind.i64 at'.y, SV.int IntKind.i64 at'.z], Row.gone,
  Row.vec false Knd.pl zs, Row.vec true Knd.pl ys])
  else none
  else none
  else none
  else none
  else
  some
  (SV.tuple
  [SV.nilp,
  SV.tuple
  [SV.int IntKind.i64 owner, SV.slice 6 15 0 k none, SV.bool false, SV.bool true, SV.slice 7 15 0 k2 none,
  SV.int IntKind.i64 (IntKind.i64.wrap (IntKind.i64.wrap (s + 1) - 1)), SV.int IntKind.i64 (IntKind.i64.wrap (i + 1))]],
  [Row.vec true Knd.bool xs, Row.vec true Knd.vec sp, Row.vec true Knd.pl ps,
  Row.own [SV.int IntKind.i64 w, SV.int IntKind.i64 d, SV.int IntKind.i64 h, SV.slice 0 1 0 len none, SV.slice 1 3 0 ls none],
  Row.own [SV.int IntKind.i64 at'.x, SV.int IntKind.i64 at'.y, SV.int IntKind.i64 at'.z], Row.gone, Row.vec false Knd.pl zs,
  Row.vec true Knd.pl ys])
  else none
  else none
  else none
  else none
  else none
  else none
  else none
  else none
  else none
  else none
  else none
  else none
  else none
  else none
  else none
  else none
  else none
  else none
  else none
  else none
  else
  bif decide (0 ≤ i) && decide (i < (↑k2 : Int)) then
  bif decide (0 + i.toNat < ys.length) then
  bif decide (0 ≤ i) && decide (i < (↑k : Int)) then
  bif decide (0 + i.toNat < zs.length) then
  bif (ys.getD (0 + i.toNat) Knd.pl.dflt).id != (zs.getD (0 + i.toNat) Knd.pl.dflt).id then
  some
  (SV.tuple
  [SV.nils,
  SV.tuple
  [SV.int IntKind.i64 owner, SV.slice 6 15 0 k none, SV.bool false, SV.bool true, SV.slice 7 15 0 k2 none, SV.int IntKind.i64 (IntKind.i64.wrap (s + 1)),
  SV.int IntKind.i64 i]],
  [Row.vec true Knd.bool xs, Row.vec true Knd.vec sp, Row.vec true Knd.pl ps,
  Row.own [SV.int IntKind.i64 w, SV.int IntKind.i64 d, SV.int IntKind.i64 h, SV.slice 0 1 0 len none, SV.slice 1 3 0 ls none],
  Row.own [SV.int IntKind.i64 at'.x, SV.int IntKind.i64 at'.y, SV.int IntKind.i64 at'.z], Row.gone, Row.vec false Knd.pl zs, Row.vec true Knd.pl ys])
  else
  bif decide (0 ≤ i) && decide (i < (↑k2 : Int)) then
  bif decide (0 + i.toNat < ys.length) then
  bif decide (0 ≤ i) && decide (i < (↑k : Int)) then
  bif decide (0 + i.toNat < zs.length) then
  bif
  !((ys.getD (0 + i.toNat) Knd.pl.dflt).pos.x == (zs.getD (0 + i.toNat) Knd.pl.dflt).pos.x &&
  ((ys.getD (0 + i.toNat) Knd.pl.dflt).pos.y == (zs.getD (0 + i.toNat) Knd.pl.dflt).pos.y &&
  ((ys.getD (0 + i.toNat) Knd.pl.dflt).pos.z == (zs.getD (0 + i.toNat) Knd.pl.dflt).pos.z && true))) then
  some
  (SV.tuple
  [SV.nils,
  SV.tuple
  [SV.int IntKind.i64 owner, SV.slice 6 15 0 k none, SV.bool false, SV.bool true, SV.slice 7 15 0 k2 none, SV.int IntKind.i64 (IntKind.i64.wrap (s + 1)),
  SV.int IntKind.i64 i]],
  [Row.vec true Knd.bool xs, Row.vec true Knd.vec sp, Row.vec true Knd.pl ps,
  Row.own [SV.int IntKind.i64 w, SV.int IntKind.i64 d, SV.int IntKind.i64 h, SV.slice 0 1 0 len none, SV.slice 1 3 0 ls none],
  Row.own [SV.int IntKind.i64 at'.x, SV.int IntKind.i64 at'.y, SV.int IntKind.i64 at'.z], Row.gone, Row.vec false Knd.pl zs, Row.vec true Knd.pl ys])
  else
  bif decide (0 ≤ i) && decide (i < (↑k2 : Int)) then
  bif decide (0 + i.toNat < ys.length) then
  bif decide (0 ≤ i) && decide (i < (↑k : Int)) then
  bif decide (0 + i.toNat < zs.length) then
  bif
  !((ys.getD (0 + i.toNat) Knd.pl.dflt).vel.x == (zs.getD (0 + i.toNat) Knd.pl.dflt).vel.x &&
  ((ys.getD (0 + i.toNat) Knd.pl.dflt).vel.y == (zs.getD (0 + i.toNat) Knd.pl.dflt).vel.y &&
  ((ys.getD (0 + i.toNat) Knd.pl.dflt).vel.z == (zs.getD (0 + i.toNat) Knd.pl.dflt).vel.z && true))) then
  some
  (SV.tuple
  [SV.nils,
  SV.tuple
  [SV.int IntKind.i64 owner, SV.slice 6 15 0 k none, SV.bool false, SV.bool true, SV.slice 7 15 0 k2 none,
  SV.int IntKind.i64 (IntKind.i64.wrap (s + 1)), SV.int IntKind.i64 i]],
  [Row.vec true Knd.bool xs, Row.vec true Knd.vec sp, Row.vec true Knd.pl ps,
  Row.own [SV.int IntKind.i64 w, SV.int IntKind.i64 d, SV.int IntKind.i64 h, SV.slice 0 1 0 len none, SV.slice 1 3 0 ls none],
  Row.own [SV.int IntKind.i64 at'.x, SV.int IntKind.i64 at'.y, SV.int IntKind.i64 at'.z], Row.gone, Row.vec false Knd.pl zs, Row.vec true Knd.pl ys])
  else
  bif decide (0 ≤ i) && decide (i < (↑k2 : Int)) then
  bif decide (0 + i.toNat < ys.length) then
  bif decide (0 ≤ i) && decide (i < (↑k : Int)) then
  bif decide (0 + i.toNat < zs.length) then
  bif
  !((ys.getD (0 + i.toNat) Knd.pl.dflt).a0 == (zs.getD (0 + i.toNat) Knd.pl.dflt).a0 &&
  ((ys.getD (0 + i.toNat) Knd.pl.dflt).a1 == (zs.getD (0 + i.toNat) Knd.pl.dflt).a1 && true)) then
  some
  (SV.tuple
  [SV.nils,
  SV.tuple
  [SV.int IntKind.i64 owner, SV.slice 6 15 0 k none, SV.bool false, SV.bool true, SV.slice 7 15 0 k2 none,
  SV.int IntKind.i64 (IntKind.i64.wrap (s + 1)), SV.int IntKind.i64 i]],
  [Row.vec true Knd.bool xs, Row.vec true Knd.vec sp, Row.vec true Knd.pl ps,
  Row.own [SV.int IntKind.i64 w, SV.int IntKind.i64 d, SV.int IntKind.i64 h, SV.slice 0 1 0 len none, SV.slice 1 3 0 ls none],
  Row.own [SV.int IntKind.i64 at'.x, SV.int IntKind.i64 at'.y, SV.int IntKind.i64 at'.z], Row.gone, Row.vec false Knd.pl zs,
  Row.vec true Knd.pl ys])
  else
  bif decide (0 ≤ i) && decide (i < (↑k2 : Int)) then
  bif decide (0 + i.toNat < ys.length) then
  bif decide (0 ≤ i) && decide (i < (↑k : Int)) then
  bif decide (0 + i.toNat < zs.length) then
  bif (ys.getD (0 + i.toNat) Knd.pl.dflt).wait != (zs.getD (0 + i.toNat) Knd.pl.dflt).wait then
  some
  (SV.tuple
  [SV.nils,
  SV.tuple
  [SV.int IntKind.i64 owner, SV.slice 6 15 0 k none, SV.bool false, SV.bool true, SV.slice 7 15 0 k2 none,
  SV.int IntKind.i64 (IntKind.i64.wrap (s + 1)), SV.int IntKind.i64 i]],
  [Row.vec true Knd.bool xs, Row.vec true Knd.vec sp, Row.vec true Knd.pl ps,
  Row.own [SV.int IntKind.i64 w, SV.int IntKind.i64 d, SV.int IntKind.i64 h, SV.slice 0 1 0 len none, SV.slice 1 3 0 ls none],
  Row.own [SV.int IntKind.i64 at'.x, SV.int IntKind.i64 at'.y, SV.int IntKind.i64 at'.z], Row.gone, Row.vec false Knd.pl zs,
  Row.vec true Knd.pl ys])
  else
  bif IntKind.i64.wrap (i + 1) != owner then
  bif decide (0 ≤ i) && decide (i < (↑k2 : Int)) then
  bif decide (0 + i.toNat < ys.length) then
  bif decide (0 ≤ i) && decide (i < (↑k : Int)) then
  bif decide (0 + i.toNat < zs.length) then
  bif (ys.getD (0 + i.toNat) Knd.pl.dflt).score != (zs.getD (0 + i.toNat) Knd.pl.dflt).score then
  some
  (SV.tuple
  [SV.nils,
  SV.tuple
  [SV.int IntKind.i64 owner, SV.slice 6 15 0 k none, SV.bool false, SV.bool true, SV.slice 7 15 0 k2 none,
  SV.int IntKind.i64 (IntKind.i64.wrap (s + 1)), SV.int IntKind.i64 i]],
  [Row.vec true Knd.bool xs, Row.vec true Knd.vec sp, Row.vec true Knd.pl ps,
  Row.own
  [SV.int IntKind.i64 w, SV.int IntKind.i64 d, SV.int IntKind.i64 h, SV.slice 0 1 0 len none, SV.slice 1 3 0 ls none],
  Row.own [SV.int IntKind.i64 at'.x, SV.int IntKind.i64 at'.y, SV.int IntKind.i64 at'.z], Row.gone,
  Row.vec false Knd.pl zs, Row.vec true Knd.pl ys])
  else
  some
  (SV.tuple
  [SV.nilp,
  SV.tuple
  [SV.int IntKind.i64 owner, SV.slice 6 15 0 k none, SV.bool false, SV.bool true, SV.slice 7 15 0 k2 none,
  SV.int IntKind.i64 (IntKind.i64.wrap (s + 1)), SV.int IntKind.i64 (IntKind.i64.wrap (i + 1))]],
  [Row.vec true Knd.bool xs, Row.vec true Knd.vec sp, Row.vec true Knd.pl ps,
  Row.own
  [SV.int IntKind.i64 w, SV.int IntKind.i64 d, SV.int IntKind.i64 h, SV.slice 0 1 0 len none, SV.slice 1 3 0 ls none],
  Row.own [SV.int IntKind.i64 at'.x, SV.int IntKind.i64 at'.y, SV.int IntKind.i64 at'.z], Row.gone,
  Row.vec false Knd.pl zs, Row.vec true Knd.pl ys])
  else none
  else none
  else none
  else none
  else
  some
  (SV.tuple
  [SV.nilp,
  SV.tuple
  [SV.int IntKind.i64 owner, SV.slice 6 15 0 k none, SV.bool false, SV.bool true, SV.slice 7 15 0 k2 none,
  SV.int IntKind.i64 (IntKind.i64.wrap (s + 1)), SV.int IntKind.i64 (IntKind.i64.wrap (i + 1))]],
  [Row.vec true Knd.bool xs, Row.vec true Knd.vec sp, Row.vec true Knd.pl ps,
  Row.own [SV.int IntKind.i64 w, SV.int IntKind.i64 d, SV.int IntKind.i64 h, SV.slice 0 1 0 len none, SV.slice 1 3 0 ls none],
  Row.own [SV.int IntKind.i64 at'.x, SV.int IntKind.i64 at'.y, SV.int IntKind.i64 at'.z], Row.gone, Row.vec false Knd.pl zs,
  Row.vec true Knd.pl ys])
  else none
  else none
  else none
  else none
  else none
  else none
  else none
  else none
  else none
  else none
  else none
  else none
  else none
  else none
  else none
  else none
  else none
  else none
  else none
  else none
  else
  bif
  bif (bif decide ((zs.getD (0 + i.toNat) Knd.pl.dflt).dead ≤ 0) == true then decide ((ys.getD (0 + i.toNat) Knd.pl.dflt).dead > 0) else false) == true then
  IntKind.i64.wrap (i + 1) == owner
  else false then
  bif decide (0 ≤ i) && decide (i < (↑k2 : Int)) then
  bif decide (0 + i.toNat < ys.length) then
  bif decide (0 ≤ i) && decide (i < (↑k : Int)) then
  bif decide (0 + i.toNat < zs.length) then
  bif (ys.getD (0 + i.toNat) Knd.pl.dflt).id != (zs.getD (0 + i.toNat) Knd.pl.dflt).id then
  some
  (SV.tuple
  [SV.nils,
  SV.tuple
  [SV.int IntKind.i64 owner, SV.slice 6 15 0 k none, SV.bool false, SV.bool true, SV.slice 7 15 0 k2 none, SV.int IntKind.i64 (IntKind.i64.wrap (s - 1)),
  SV.int IntKind.i64 i]],
  [Row.vec true Knd.bool xs, Row.vec true Knd.vec sp, Row.vec true Knd.pl ps,
  Row.own [SV.int IntKind.i64 w, SV.int IntKind.i64 d, SV.int IntKind.i64 h, SV.slice 0 1 0 len none, SV.slice 1 3 0 ls none],
  Row.own [SV.int IntKind.i64 at'.x, SV.int IntKind.i64 at'.y, SV.int IntKind.i64 at'.z], Row.gone, Row.vec false Knd.pl zs, Row.vec true Knd.pl ys])
  else
  bif decide (0 ≤ i) && decide (i < (↑k2 : Int)) then
  bif decide (0 + i.toNat < ys.length) then
  bif decide (0 ≤ i) && decide (i < (↑k : Int)) then
  bif decide (0 + i.toNat < zs.length) then
  bif
  !((ys.getD (0 + i.toNat) Knd.pl.dflt).pos.x == (zs.getD (0 + i.toNat) Knd.pl.dflt).pos.x &&
  ((ys.getD (0 + i.toNat) Knd.pl.dflt).pos.y == (zs.getD (0 + i.toNat) Knd.pl.dflt).pos.y &&
  ((ys.getD (0 + i.toNat) Knd.pl.dflt).pos.z == (zs.getD (0 + i.toNat) Knd.pl.dflt).pos.z && true))) then
  some
  (SV.tuple
  [SV.nils,
  SV.tuple
  [SV.int IntKind.i64 owner, SV.slice 6 15 0 k none, SV.bool false, SV.bool true, SV.slice 7 15 0 k2 none, SV.int IntKind.i64 (IntKind.i64.wrap (s - 1)),
  SV.int IntKind.i64 i]],
  [Row.vec true Knd.bool xs, Row.vec true Knd.vec sp, Row.vec true Knd.pl ps,
  Row.own [SV.int IntKind.i64 w, SV.int IntKind.i64 d, SV.int IntKind.i64 h, SV.slice 0 1 0 len none, SV.slice 1 3 0 ls none],
  Row.own [SV.int IntKind.i64 at'.x, SV.int IntKind.i64 at'.y, SV.int IntKind.i64 at'.z], Row.gone, Row.vec false Knd.pl zs, Row.vec true Knd.pl ys])
  else
  bif decide (0 ≤ i) && decide (i < (↑k2 : Int)) then
  bif decide (0 + i.toNat < ys.length) then
  bif decide (0 ≤ i) && decide (i < (↑k : Int)) then
  bif decide (0 + i.toNat < zs.length) then
  bif
  !((ys.getD (0 + i.toNat) Knd.pl.dflt).vel.x == (zs.getD (0 + i.toNat) Knd.pl.dflt).vel.x &&
  ((ys.getD (0 + i.toNat) Knd.pl.dflt).vel.y == (zs.getD (0 + i.toNat) Knd.pl.dflt).vel.y &&
  ((ys.getD (0 + i.toNat) Knd.pl.dflt).vel.z == (zs.getD (0 + i.toNat) Knd.pl.dflt).vel.z && true))) then
  some
  (SV.tuple
  [SV.nils,
  SV.tuple
  [SV.int IntKind.i64 owner, SV.slice 6 15 0 k none, SV.bool false, SV.bool true, SV.slice 7 15 0 k2 none,
  SV.int IntKind.i64 (IntKind.i64.wrap (s - 1)), SV.int IntKind.i64 i]],
  [Row.vec true Knd.bool xs, Row.vec true Knd.vec sp, Row.vec true Knd.pl ps,
  Row.own [SV.int IntKind.i64 w, SV.int IntKind.i64 d, SV.int IntKind.i64 h, SV.slice 0 1 0 len none, SV.slice 1 3 0 ls none],
  Row.own [SV.int IntKind.i64 at'.x, SV.int IntKind.i64 at'.y, SV.int IntKind.i64 at'.z], Row.gone, Row.vec false Knd.pl zs, Row.vec true Knd.pl ys])
  else
  bif decide (0 ≤ i) && decide (i < (↑k2 : Int)) then
  bif decide (0 + i.toNat < ys.length) then
  bif decide (0 ≤ i) && decide (i < (↑k : Int)) then
  bif decide (0 + i.toNat < zs.length) then
  bif
  !((ys.getD (0 + i.toNat) Knd.pl.dflt).a0 == (zs.getD (0 + i.toNat) Knd.pl.dflt).a0 &&
  ((ys.getD (0 + i.toNat) Knd.pl.dflt).a1 == (zs.getD (0 + i.toNat) Knd.pl.dflt).a1 && true)) then
  some
  (SV.tuple
  [SV.nils,
  SV.tuple
  [SV.int IntKind.i64 owner, SV.slice 6 15 0 k none, SV.bool false, SV.bool true, SV.slice 7 15 0 k2 none,
  SV.int IntKind.i64 (IntKind.i64.wrap (s - 1)), SV.int IntKind.i64 i]],
  [Row.vec true Knd.bool xs, Row.vec true Knd.vec sp, Row.vec true Knd.pl ps,
  Row.own [SV.int IntKind.i64 w, SV.int IntKind.i64 d, SV.int IntKind.i64 h, SV.slice 0 1 0 len none, SV.slice 1 3 0 ls none],
  Row.own [SV.int IntKind.i64 at'.x, SV.int IntKind.i64 at'.y, SV.int IntKind.i64 at'.z], Row.gone, Row.vec false Knd.pl zs,
  Row.vec true Knd.pl ys])
  else
  bif decide (0 ≤ i) && decide (i < (↑k2 : Int)) then
  bif decide (0 + i.toNat < ys.length) then
  bif decide (0 ≤ i) && decide (i < (↑k : Int)) then
  bif decide (0 + i.toNat < zs.length) then
  bif (ys.getD (0 + i.toNat) Knd.pl.dflt).wait != (zs.getD (0 + i.toNat) Knd.pl.dflt).wait then
  some
  (SV.tuple
  [SV.nils,
  SV.tuple
  [SV.int IntKind.i64 owner, SV.slice 6 15 0 k none, SV.bool false, SV.bool true, SV.slice 7 15 0 k2 none,
  SV.int IntKind.i64 (IntKind.i64.wrap (s - 1)), SV.int IntKind.i64 i]],
  [Row.vec true Knd.bool xs, Row.vec true Knd.vec sp, Row.vec true Knd.pl ps,
  Row.own [SV.int IntKind.i64 w, SV.int IntKind.i64 d, SV.int IntKind.i64 h, SV.slice 0 1 0 len none, SV.slice 1 3 0 ls none],
  Row.own [SV.int IntKind.i64 at'.x, SV.int IntKind.i64 at'.y, SV.int IntKind.i64 at'.z], Row.gone, Row.vec false Knd.pl zs,
  Row.vec true Knd.pl ys])
  else
  bif IntKind.i64.wrap (i + 1) != owner then
  bif decide (0 ≤ i) && decide (i < (↑k2 : Int)) then
  bif decide (0 + i.toNat < ys.length) then
  bif decide (0 ≤ i) && decide (i < (↑k : Int)) then
  bif decide (0 + i.toNat < zs.length) then
  bif (ys.getD (0 + i.toNat) Knd.pl.dflt).score != (zs.getD (0 + i.toNat) Knd.pl.dflt).score then
  some
  (SV.tuple
  [SV.nils,
  SV.tuple
  [SV.int IntKind.i64 owner, SV.slice 6 15 0 k none, SV.bool false, SV.bool true, SV.slice 7 15 0 k2 none,
  SV.int IntKind.i64 (IntKind.i64.wrap (s - 1)), SV.int IntKind.i64 i]],
  [Row.vec true Knd.bool xs, Row.vec true Knd.vec sp, Row.vec true Knd.pl ps,
  Row.own
  [SV.int IntKind.i64 w, SV.int IntKind.i64 d, SV.int IntKind.i64 h, SV.slice 0 1 0 len none, SV.slice 1 3 0 ls none],
  Row.own [SV.int IntKind.i64 at'.x, SV.int IntKind.i64 at'.y, SV.int IntKind.i64 at'.z], Row.gone,
  Row.vec false Knd.pl zs, Row.vec true Knd.pl ys])
  else
  some
  (SV.tuple
  [SV.nilp,
  SV.tuple
  [SV.int IntKind.i64 owner, SV.slice 6 15 0 k none, SV.bool false, SV.bool true, SV.slice 7 15 0 k2 none,
  SV.int IntKind.i64 (IntKind.i64.wrap (s - 1)), SV.int IntKind.i64 (IntKind.i64.wrap (i + 1))]],
  [Row.vec true Knd.bool xs, Row.vec true Knd.vec sp, Row.vec true Knd.pl ps,
  Row.own
  [SV.int IntKind.i64 w, SV.int IntKind.i64 d, SV.int IntKind.i64 h, SV.slice 0 1 0 len none, SV.slice 1 3 0 ls none],
  Row.own [SV.int IntKind.i64 at'.x, SV.int IntKind.i64 at'.y, SV.int IntKind.i64 at'.z], Row.gone,
  Row.vec false Knd.pl zs, Row.vec true Knd.pl ys])
  else none
  else none
  else none
  else none
  else
  some
  (SV.tuple
  [SV.nilp,
  SV.tuple
  [SV.int IntKind.i64 owner, SV.slice 6 15 0 k none, SV.bool false, SV.bool true, SV.slice 7 15 0 k2 none,
  SV.int IntKind.i64 (IntKind.i64.wrap (s - 1)), SV.int IntKind.i64 (IntKind.i64.wrap (i + 1))]],
  [Row.vec true Knd.bool xs, Row.vec true Knd.vec sp, Row.vec true Knd.pl ps,
  Row.own [SV.int IntKind.i64 w, SV.int IntKind.i64 d, SV.int IntKind.i64 h, SV.slice 0 1 0 len none, SV.slice 1 3 0 ls none],
  Row.own [SV.int IntKind.i64 at'.x, SV.int IntKind.i64 at'.y, SV.int IntKind.i64 at'.z], Row.gone, Row.vec false Knd.pl zs,
  Row.vec true Knd.pl ys])
  else none
  else none
  else none
  else none
  else none
  else none
  else none
  else none
  else none
  else none
  else none
  else none
  else none
  else none
  else none
  else none
  else none
  else none
  else none
  else none
  else
  bif decide (0 ≤ i) && decide (i < (↑k2 : Int)) then
  bif decide (0 + i.toNat < ys.length) then
  bif decide (0 ≤ i) && decide (i < (↑k : Int)) then
  bif decide (0 + i.toNat < zs.length) then
  bif (ys.getD (0 + i.toNat) Knd.pl.dflt).id != (zs.getD (0 + i.toNat) Knd.pl.dflt).id then
  some
  (SV.tuple
  [SV.nils, SV.tuple [SV.int IntKind.i64 owner, SV.slice 6 15 0 k none, SV.bool false, SV.bool true, SV.slice 7 15 0 k2 none, SV.int IntKind.i64 s, SV.int IntKind.i64 i]],
  [Row.vec true Knd.bool xs, Row.vec true Knd.vec sp, Row.vec true Knd.pl ps,
  Row.own [SV.int IntKind.i64 w, SV.int IntKind.i64 d, SV.int IntKind.i64 h, SV.slice 0 1 0 len none, SV.slice 1 3 0 ls none],
  Row.own [SV.int IntKind.i64 at'.x, SV.int IntKind.i64 at'.y, SV.int IntKind.i64 at'.z], Row.gone, Row.vec false Knd.pl zs, Row.vec true Knd.pl ys])
  else
  bif decide (0 ≤ i) && decide (i < (↑k2 : Int)) then
  bif decide (0 + i.toNat < ys.length) then
  bif decide (0 ≤ i) && decide (i < (↑k : Int)) then
  bif decide (0 + i.toNat < zs.length) then
  bif
  !((ys.getD (0 + i.toNat) Knd.pl.dflt).pos.x == (zs.getD (0 + i.toNat) Knd.pl.dflt).pos.x &&
  ((ys.getD (0 + i.toNat) Knd.pl.dflt).pos.y == (zs.getD (0 + i.toNat) Knd.pl.dflt).pos.y &&
  ((ys.getD (0 + i.toNat) Knd.pl.dflt).pos.z == (zs.getD (0 + i.toNat) Knd.pl.dflt).pos.z && true))) then
  some
  (SV.tuple
  [SV.nils,
  SV.tuple [SV.int IntKind.i64 owner, SV.slice 6 15 0 k none, SV.bool false, SV.bool true, SV.slice 7 15 0 k2 none, SV.int IntKind.i64 s, SV.int IntKind.i64 i]],
  [Row.vec true Knd.bool xs, Row.vec true Knd.vec sp, Row.vec true Knd.pl ps,
  Row.own [SV.int IntKind.i64 w, SV.int IntKind.i64 d, SV.int IntKind.i64 h, SV.slice 0 1 0 len none, SV.slice 1 3 0 ls none],
  Row.own [SV.int IntKind.i64 at'.x, SV.int IntKind.i64 at'.y, SV.int IntKind.i64 at'.z], Row.gone, Row.vec false Knd.pl zs, Row.vec true Knd.pl ys])
  else
  bif decide (0 ≤ i) && decide (i < (↑k2 : Int)) then
  bif decide (0 + i.toNat < ys.length) then
  bif decide (0 ≤ i) && decide (i < (↑k : Int)) then
  bif decide (0 + i.toNat < zs.length) then
  bif
  !((ys.getD (0 + i.toNat) Knd.pl.dflt).vel.x == (zs.getD (0 + i.toNat) Knd.pl.dflt).vel.x &&
  ((ys.getD (0 + i.toNat) Knd.pl.dflt).vel.y == (zs.getD (0 + i.toNat) Knd.pl.dflt).vel.y &&
  ((ys.getD (0 + i.toNat) Knd.pl.dflt).vel.z == (zs.getD (0 + i.toNat) Knd.pl.dflt).vel.z && true))) then
  some
  (SV.tuple
  [SV.nils,
  SV.tuple
  [SV.int IntKind.i64 owner, SV.slice 6 15 0 k none, SV.bool false, SV.bool true, SV.slice 7 15 0 k2 none, SV.int IntKind.i64 s,
  SV.int IntKind.i64 i]],
  [Row.vec true Knd.bool xs, Row.vec true Knd.vec sp, Row.vec true Knd.pl ps,
  Row.own [SV.int IntKind.i64 w, SV.int IntKind.i64 d, SV.int IntKind.i64 h, SV.slice 0 1 0 len none, SV.slice 1 3 0 ls none],
  Row.own [SV.int IntKind.i64 at'.x, SV.int IntKind.i64 at'.y, SV.int IntKind.i64 at'.z], Row.gone, Row.vec false Knd.pl zs, Row.vec true Knd.pl ys])
  else
  bif decide (0 ≤ i) && decide (i < (↑k2 : Int)) then
  bif decide (0 + i.toNat < ys.length) then
  bif decide (0 ≤ i) && decide (i < (↑k : Int)) then
  bif decide (0 + i.toNat < zs.length) then
  bif
  !((ys.getD (0 + i.toNat) Knd.pl.dflt).a0 == (zs.getD (0 + i.toNat) Knd.pl.dflt).a0 &&
  ((ys.getD (0 + i.toNat) Knd.pl.dflt).a1 == (zs.getD (0 + i.toNat) Knd.pl.dflt).a1 && true)) then
  some
  (SV.tuple
  [SV.nils,
  SV.tuple
  [SV.int IntKind.i64 owner, SV.slice 6 15 0 k none, SV.bool false, SV.bool true, SV.slice 7 15 0 k2 none, SV.int IntKind.i64 s,
  SV.int IntKind.i64 i]],
  [Row.vec true Knd.bool xs, Row.vec true Knd.vec sp, Row.vec true Knd.pl ps,
  Row.own [SV.int IntKind.i64 w, SV.int IntKind.i64 d, SV.int IntKind.i64 h, SV.slice 0 1 0 len none, SV.slice 1 3 0 ls none],
  Row.own [SV.int IntKind.i64 at'.x, SV.int IntKind.i64 at'.y, SV.int IntKind.i64 at'.z], Row.gone, Row.vec false Knd.pl zs,
  Row.vec true Knd.pl ys])
  else
  bif decide (0 ≤ i) && decide (i < (↑k2 : Int)) then
  bif decide (0 + i.toNat < ys.length) then
  bif decide (0 ≤ i) && decide (i < (↑k : Int)) then
  bif decide (0 + i.toNat < zs.length) then
  bif (ys.getD (0 + i.toNat) Knd.pl.dflt).wait != (zs.getD (0 + i.toNat) Knd.pl.dflt).wait then
  some
  (SV.tuple
  [SV.nils,
  SV.tuple
  [SV.int IntKind.i64 owner, SV.slice 6 15 0 k none, SV.bool false, SV.bool true, SV.slice 7 15 0 k2 none, SV.int IntKind.i64 s,
  SV.int IntKind.i64 i]],
  [Row.vec true Knd.bool xs, Row.vec true Knd.vec sp, Row.vec true Knd.pl ps,
  Row.own [SV.int IntKind.i64 w, SV.int IntKind.i64 d, SV.int IntKind.i64 h, SV.slice 0 1 0 len none, SV.slice 1 3 0 ls none],
  Row.own [SV.int IntKind.i64 at'.x, SV.int IntKind.i64 at'.y, SV.int IntKind.i64 at'.z], Row.gone, Row.vec false Knd.pl zs,
  Row.vec true Knd.pl ys])
  else
  bif IntKind.i64.wrap (i + 1) != owner then
  bif decide (0 ≤ i) && decide (i < (↑k2 : Int)) then
  bif decide (0 + i.toNat < ys.length) then
  bif decide (0 ≤ i) && decide (i < (↑k : Int)) then
  bif decide (0 + i.toNat < zs.length) then
  bif (ys.getD (0 + i.toNat) Knd.pl.dflt).score != (zs.getD (0 + i.toNat) Knd.pl.dflt).score then
  some
  (SV.tuple
  [SV.nils,
  SV.tuple
  [SV.int IntKind.i64 owner, SV.slice 6 15 0 k none, SV.bool false, SV.bool true, SV.slice 7 15 0 k2 none,
  SV.int IntKind.i64 s, SV.int IntKind.i64 i]],
  [Row.vec true Knd.bool xs, Row.vec true Knd.vec sp, Row.vec true Knd.pl ps,
  Row.own
  [SV.int IntKind.i64 w, SV.int IntKind.i64 d, SV.int IntKind.i64 h, SV.slice 0 1 0 len none, SV.slice 1 3 0 ls none],
  Row.own [SV.int IntKind.i64 at'.x, SV.int IntKind.i64 at'.y, SV.int IntKind.i64 at'.z], Row.gone,
  Row.vec false Knd.pl zs, Row.vec true Knd.pl ys])
  else
  some
  (SV.tuple
  [SV.nilp,
  SV.tuple
  [SV.int IntKind.i64 owner, SV.slice 6 15 0 k none, SV.bool false, SV.bool true, SV.slice 7 15 0 k2 none,
  SV.int IntKind.i64 s, SV.int IntKind.i64 (IntKind.i64.wrap (i + 1))]],
  [Row.vec true Knd.bool xs, Row.vec true Knd.vec sp, Row.vec true Knd.pl ps,
  Row.own
  [SV.int IntKind.i64 w, SV.int IntKind.i64 d, SV.int IntKind.i64 h, SV.slice 0 1 0 len none, SV.slice 1 3 0 ls none],
  Row.own [SV.int IntKind.i64 at'.x, SV.int IntKind.i64 at'.y, SV.int IntKind.i64 at'.z], Row.gone,
  Row.vec false Knd.pl zs, Row.vec true Knd.pl ys])
  else none
  else none
  else none
  else none
  else
  some
  (SV.tuple
  [SV.nilp,
  SV.tuple
  [SV.int IntKind.i64 owner, SV.slice 6 15 0 k none, SV.bool false, SV.bool true, SV.slice 7 15 0 k2 none, SV.int IntKind.i64 s,
  SV.int IntKind.i64 (IntKind.i64.wrap (i + 1))]],
  [Row.vec true Knd.bool xs, Row.vec true Knd.vec sp, Row.vec true Knd.pl ps,
  Row.own [SV.int IntKind.i64 w, SV.int IntKind.i64 d, SV.int IntKind.i64 h, SV.slice 0 1 0 len none, SV.slice 1 3 0 ls none],
  Row.own [SV.int IntKind.i64 at'.x, SV.int IntKind.i64 at'.y, SV.int IntKind.i64 at'.z], Row.gone, Row.vec false Knd.pl zs,
  Row.vec true Knd.pl ys])
  else none
  else none
  else none
  else none
  else none
  else none
  else none
  else none
  else none
  else none
  else none
  else none
  else none
  else none
  else none
  else none
  else none
  else none
  else none
  else none
  else none
  else none
  else none
  else
  some
  (SV.tuple [SV.ptr 2 0 0 0, SV.tuple [SV.int IntKind.i64 owner, SV.slice 6 15 0 k none, SV.bool false, SV.bool true, SV.slice 7 15 0 k2 none, SV.int IntKind.i64 s, SV.int IntKind.i64 i]],
  [Row.vec true Knd.bool xs, Row.vec true Knd.vec sp, Row.vec true Knd.pl ps,
  Row.own [SV.int IntKind.i64 w, SV.int IntKind.i64 d, SV.int IntKind.i64 h, SV.slice 0 1 0 len none, SV.slice 1 3 0 ls none],
  Row.own [SV.int IntKind.i64 at'.x, SV.int IntKind.i64 at'.y, SV.int IntKind.i64 at'.z], Row.gone, Row.vec false Knd.pl zs, Row.vec true Knd.pl ys]) := by kernel_rfl

end Go.Proofs.Ytboljdeeodeeeaa
