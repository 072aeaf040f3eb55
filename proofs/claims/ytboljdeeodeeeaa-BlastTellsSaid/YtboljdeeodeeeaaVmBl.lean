/- BlastTells: the law's loop and call. BlastTells: the law, plain. -/
import Derived.Test.YtboljdeeodeeeaaVmRb
import Derived.Test.YtboljdeeodeeeaaVmTa
import Derived.Test.YtboljdeeodeeeaaVmRt
import Derived.Test.YtboljdeeodeeeaaVmG13
namespace Go.Proofs.Ytboljdeeodeeeaa
set_option linter.unusedSimpArgs false
set_option linter.unusedVariables false
set_option maxRecDepth 100000
open Go.RowKit

noncomputable def xBl : Ctx := ctxOf [] [orcHurt, orcRHurt, orcTake, orcRTake]
theorem xBl_ok : COk Try.prog xBl := ctxOf_ok (by kernel_rfl)
def valBl (owner : Int) (k : Nat) (n : Int) (k2 : Nat) (i : Int) : List SV := [.int .i64 owner, .slice 6 15 0 k none, .int .i64 n, .ptr 3 0 0 0, .ptr 4 0 0 0, .bool false, .bool true, .slice 8 15 0 k2 none, .int .i64 i]
def rowBl (xs : List Bool) (sp : List V3) (ps : List Pl) (w d h : Int) (len ls : Nat) (at' : V3) (zs ws : List Pl) : List Row := [.vec true .bool xs, .vec true .vec sp, .vec true .pl ps, .own [.int .i64 w, .int .i64 d, .int .i64 h, .slice 0 1 0 len none, .slice 1 3 0 ls none], .own at'.sv, .gone, .vec false .pl zs, .gone, .vec false .pl ws]
noncomputable def rdBl : List SV → List Row → Option Res2 := roundS xBl (fun _ _ => none) 100 4 [0, 1, 0, 1, 1, 1, 1, 1, 1] (bodyAt Try.f4 [0, 1, 0, 1, 1, 1, 1, 1, 1]) 94 9 [2, 3, 4, 5, 6, 10, 11, 13, 14]

set_option maxRecDepth 100000 in
set_option maxHeartbeats 0 in
theorem bl_round (xs : List Bool) (sp : List V3) (ps : List Pl) (w d h : Int) (len ls : Nat) (at' : V3) (zs ws : List Pl) (owner : Int) (k : Nat) (n : Int) (k2 : Nat) (i : Int) : rdBl (valBl owner k n k2 i) (rowBl xs sp ps w d h len ls at' zs ws) =
  bif decide (i < (↑k : Int)) then
  bif decide (0 ≤ i) && decide (i < (↑k : Int)) then
  bif decide (0 + i.toNat < zs.length) then
  bif mapOk w d h len && (fitsB at' && (fitsB (zs.getD (0 + i.toNat) Knd.pl.dflt).pos && decide (0 + len ≤ xs.length))) then
  bif decide (0 ≤ i) && decide (i < (↑k : Int)) then
  bif decide (0 + i.toNat < zs.length) then
  bif mapOk w d h len && (fitsB at' && (fitsB (zs.getD (0 + i.toNat) Knd.pl.dflt).pos && decide (0 + len ≤ xs.length))) then
  bif
  (mpOf w d h len fun j => xs.getD (0 + j) false).hurt at' (zs.getD (0 + i.toNat) Knd.pl.dflt) !=
  (mpOf w d h len fun j => xs.getD (0 + j) false).hurt at' (zs.getD (0 + i.toNat) Knd.pl.dflt) then
  some
  (SV.tuple
  [SV.nils,
  SV.tuple
  [SV.int IntKind.i64 owner, SV.slice 6 15 0 k none, SV.int IntKind.i64 n, SV.ptr 3 0 0 0, SV.ptr 4 0 0 0, SV.bool false, SV.bool true, SV.slice 8 15 0 k2 none,
  SV.int IntKind.i64 i]],
  [Row.vec true Knd.bool xs, Row.vec true Knd.vec sp, Row.vec true Knd.pl ps,
  Row.own [SV.int IntKind.i64 w, SV.int IntKind.i64 d, SV.int IntKind.i64 h, SV.slice 0 1 0 len none, SV.slice 1 3 0 ls none],
  Row.own [SV.int IntKind.i64 at'.x, SV.int IntKind.i64 at'.y, SV.int IntKind.i64 at'.z], Row.gone, Row.vec false Knd.pl zs, Row.gone, Row.vec false Knd.pl ws])
  else
  bif decide (0 ≤ i) && decide (i < (↑k : Int)) then
  bif decide (0 + i.toNat < zs.length) then
  bif decide (0 ≤ i) && decide (i < (↑k : Int)) then
  bif decide (0 + i.toNat < zs.length) then
  bif
  !((takeP (zs.getD (0 + i.toNat) Knd.pl.dflt) n).id == (takeP (zs.getD (0 + i.toNat) Knd.pl.dflt) n).id &&
  ((takeP (zs.getD (0 + i.toNat) Knd.pl.dflt) n).pos.x == (takeP (zs.getD (0 + i.toNat) Knd.pl.dflt) n).pos.x &&
  ((takeP (zs.getD (0 + i.toNat) Knd.pl.dflt) n).pos.y == (takeP (zs.getD (0 + i.toNat) Knd.pl.dflt) n).pos.y &&
  ((takeP (zs.getD (0 + i.toNat) Knd.pl.dflt) n).pos.z == (takeP (zs.getD (0 + i.toNat) Knd.pl.dflt) n).pos.z &&
  ((takeP (zs.getD (0 + i.toNat) Knd.pl.dflt) n).vel.x == (takeP (zs.getD (0 + i.toNat) Knd.pl.dflt) n).vel.x &&
  ((takeP (zs.getD (0 + i.toNat) Knd.pl.dflt) n).vel.y == (takeP (zs.getD (0 + i.toNat) Knd.pl.dflt) n).vel.y &&
  ((takeP (zs.getD (0 + i.toNat) Knd.pl.dflt) n).vel.z == (takeP (zs.getD (0 + i.toNat) Knd.pl.dflt) n).vel.z &&
  ((takeP (zs.getD (0 + i.toNat) Knd.pl.dflt) n).ground == (takeP (zs.getD (0 + i.toNat) Knd.pl.dflt) n).ground &&
  ((takeP (zs.getD (0 + i.toNat) Knd.pl.dflt) n).health == (takeP (zs.getD (0 + i.toNat) Knd.pl.dflt) n).health &&
  ((takeP (zs.getD (0 + i.toNat) Knd.pl.dflt) n).armour == (takeP (zs.getD (0 + i.toNat) Knd.pl.dflt) n).armour &&
  ((takeP (zs.getD (0 + i.toNat) Knd.pl.dflt) n).score == (takeP (zs.getD (0 + i.toNat) Knd.pl.dflt) n).score &&
  ((takeP (zs.getD (0 + i.toNat) Knd.pl.dflt) n).a0 == (takeP (zs.getD (0 + i.toNat) Knd.pl.dflt) n).a0 &&
  ((takeP (zs.getD (0 + i.toNat) Knd.pl.dflt) n).a1 == (takeP (zs.getD (0 + i.toNat) Knd.pl.dflt) n).a1 &&
  ((takeP (zs.getD (0 + i.toNat) Knd.pl.dflt) n).wait == (takeP (zs.getD (0 + i.toNat) Knd.pl.dflt) n).wait &&
  ((takeP (zs.getD (0 + i.toNat) Knd.pl.dflt) n).dead == (takeP (zs.getD (0 + i.toNat) Knd.pl.dflt) n).dead && true))))))))))))))) then
  some
  (SV.tuple
  [SV.nils,
  SV.tuple
  [SV.int IntKind.i64 owner, SV.slice 6 15 0 k none, SV.int IntKind.i64 n, SV.ptr 3 0 0 0, SV.ptr 4 0 0 0, SV.bool false, SV.bool true, SV.slice 8 15 0 k2 none,
  SV.int IntKind.i64 i]],
  [Row.vec true Knd.bool xs, Row.vec true Knd.vec sp, Row.vec true Knd.pl ps,
  Row.own [SV.int IntKind.i64 w, SV.int IntKind.i64 d, SV.int IntKind.i64 h, SV.slice 0 1 0 len none, SV.slice 1 3 0 ls none],
  Row.own [SV.int IntKind.i64 at'.x, SV.int IntKind.i64 at'.y, SV.int IntKind.i64 at'.z], Row.gone, Row.vec false Knd.pl zs, Row.gone, Row.vec false Knd.pl ws])
  else
  some
  (SV.tuple
  [SV.nilp,
  SV.tuple
  [SV.int IntKind.i64 owner, SV.slice 6 15 0 k none, SV.int IntKind.i64 n, SV.ptr 3 0 0 0, SV.ptr 4 0 0 0, SV.bool false, SV.bool true, SV.slice 8 15 0 k2 none,
  SV.int IntKind.i64 (IntKind.i64.wrap (i + 1))]],
  [Row.vec true Knd.bool xs, Row.vec true Knd.vec sp, Row.vec true Knd.pl ps,
  Row.own [SV.int IntKind.i64 w, SV.int IntKind.i64 d, SV.int IntKind.i64 h, SV.slice 0 1 0 len none, SV.slice 1 3 0 ls none],
  Row.own [SV.int IntKind.i64 at'.x, SV.int IntKind.i64 at'.y, SV.int IntKind.i64 at'.z], Row.gone, Row.vec false Knd.pl zs, Row.gone, Row.vec false Knd.pl ws])
  else none
  else none
  else none
  else none
  else none
  else none
  else none
  else none
  else none
  else none
  else
  some
  (SV.tuple
  [SV.ptr 0 0 0 0,
  SV.tuple
  [SV.int IntKind.i64 owner, SV.slice 6 15 0 k none, SV.int IntKind.i64 n, SV.ptr 3 0 0 0, SV.ptr 4 0 0 0, SV.bool false, SV.bool true, SV.slice 8 15 0 k2 none, SV.int IntKind.i64 i]],
  [Row.vec true Knd.bool xs, Row.vec true Knd.vec sp, Row.vec true Knd.pl ps,
  Row.own [SV.int IntKind.i64 w, SV.int IntKind.i64 d, SV.int IntKind.i64 h, SV.slice 0 1 0 len none, SV.slice 1 3 0 ls none],
  Row.own [SV.int IntKind.i64 at'.x, SV.int IntKind.i64 at'.y, SV.int IntKind.i64 at'.z], Row.gone, Row.vec false Knd.pl zs, Row.gone, Row.vec false Knd.pl ws]) := by kernel_rfl

section
variable {xs : List Bool} {sp : List V3} {ps : List Pl} {w d h : Int} {len ls : Nat} {a : V3} {ws : List Pl}
theorem bl_loop (hm : mapOk w d h len = true) (ha : fitsB a = true) (hl : decide (0 + len ≤ xs.length) = true) {owner n : Int} {k2 : Nat} {zs : List Pl} (hp : zs.all (fun p => fitsB p.pos) = true) (hk : zs.length ≤ 1000) : ∀ (m i : Nat), i + m = zs.length →
    LoopTo rdBl (valBl owner zs.length n k2 i) (rowBl xs sp ps w d h len ls a zs ws) (.exit 0) (valBl owner zs.length n k2 zs.length) (rowBl xs sp ps w d h len ls a zs ws)
  | 0, i, h1 => by
    obtain rfl : i = zs.length := by omega
    refine .done ?_ (by simp)
    rw [bl_round, decide_eq_false (by omega), cond_false]
    rfl
  | m + 1, i, h1 => by
    have hi : i < zs.length := by omega
    have hro := bl_round xs sp ps w d h len ls a zs ws owner zs.length n k2 i
    have e0 : zs.getD (0 + ((i : Int)).toNat) Knd.pl.dflt = zs[i] := by
      rw [show 0 + ((i : Int)).toNat = i by omega]
      exact getD_pl _ hi
    have ef : fitsB (zs[i]).pos = true := List.all_eq_true.1 hp _ (List.getElem_mem hi)
    rw [e0, ef, hm, ha, hl, decide_eq_true (show (i : Int) < (zs.length : Int) by omega), decide_eq_true (show (0 : Int) ≤ (i : Int) by omega), decide_eq_true (show 0 + ((i : Int)).toNat < zs.length by omega), IntWalk.i64_in ((i : Int) + 1) (by omega)] at hro
    simp only [Bool.and_self, beq_self_eq_true, bne_self_eq_false, Bool.not_true, cond_true, cond_false] at hro
    have ih := bl_loop hm ha hl (owner := owner) (n := n) (k2 := k2) hp hk m (i + 1) (by omega)
    rw [show ((i + 1 : Nat) : Int) = (i : Int) + 1 by omega] at ih
    exact .more hro ih
end
set_option maxHeartbeats 0 in
noncomputable def outBl (v : List SV) (R : List Row) (k : Ex → List SV → List Row → Option Res2) : Option Res2 := match v, R with
  | [.int .i64 owner, .slice 6 15 0 kk none, .int .i64 n, .ptr 3 0 0 0, .ptr 4 0 0 0, .bool false, .bool true, .slice 8 15 0 k2 none, .int .i64 i], [.vec true .bool xs, .vec true .vec sp, .vec true .pl ps, .own [.int .i64 w, .int .i64 d, .int .i64 h, .slice 0 1 0 len none, .slice 1 3 0 ls none], .own [.int .i64 ax, .int .i64 ay, .int .i64 az], .gone, .vec false .pl zs, .gone, .vec false .pl ws] =>
      bif decide (i = 0) && buOk w d h 0 len xs ⟨ax, ay, az⟩ zs kk then k (.exit 0) (valBl owner kk n k2 kk) (rowBl xs sp ps w d h len ls ⟨ax, ay, az⟩ zs ws) else none
  | _, _ => none
set_option maxHeartbeats 0 in
theorem lpoBl_ok : LpOk 4 [0, 1, 0, 1, 1, 1, 1, 1, 1] (loopF 94 [2, 3, 4, 5, 6, 10, 11, 13, 14] outBl) := by
  intro b hat s K r h
  refine loopF_ok (fuel := 100) xBl_ok lok_none hat (fun v R k r hr => ?_) h
  have hbody := at_body Try.func4 hat
  subst hbody
  unfold outBl at hr
  split at hr
  · rename_i owner kk n k2 i xs sp ps w d h len ls ax ay az zs ws
    obtain ⟨hb, hr2⟩ := cond_some hr
    unfold buOk at hb
    simp only [Bool.and_eq_true, decide_eq_true_eq] at hb
    obtain ⟨rfl, ⟨⟨h1, h2⟩, h3⟩, h4, h5, h6⟩ := hb
    have e1 : kk = List.length (α := Pl) zs := h5
    subst e1
    exact ⟨_, _, _, hr2, bl_loop (sp := sp) (ps := ps) (ls := ls) (ws := ws) h1 h2 (decide_eq_true h3) (owner := owner) (n := n) (k2 := k2) (zs := zs) h4 h6 (List.length (α := Pl) zs) 0 (by omega)⟩
  · cases hr
noncomputable def lpoBl : Lpo := ⟨_, _, _, lpoBl_ok⟩

noncomputable def xBt : Ctx := ctxOf [11, 10] [orcShown13, orcRight, orcNearB, orcBurst, orcRBurst, orcSame]
theorem xBt_ok : COk Try.prog xBt := ctxOf_ok (by kernel_rfl)

set_option maxRecDepth 100000 in
set_option maxHeartbeats 0 in
theorem tells_tree (w d h : Int) (len ls ll : Nat) (xs : List Bool) (sp : List V3) (ps : List Pl) (a : V3) (owner n : Int) : runK xBt (loopOf [lpoTa, lpoBl]) 400 4 Try.f4 0 [mapS w d h (.slice 0 1 0 len none) (.slice 1 3 0 ls none), .agg a.sv, .int .i64 owner, .slice 2 15 0 ll none, .int .i64 n] [.vec true .bool xs, .vec true .vec sp, .vec true .pl ps] =
  bif decide (0 ≤ min (↑ll : Int) 20) && decide (min (↑ll : Int) 20 ≤ (↑(capOr none ll) : Int)) then
  bif
  decide (0 + (min (↑ll : Int) 20).toNat ≤ ps.length) &&
  ((false || (some 0).isSome) && (decide (0 + (min (↑ll : Int) 20).toNat ≤ 9223372036854775807) && decide ((0 + (min (↑ll : Int) 20).toNat) * 120 ≤ 140737488355328))) then
  bif decide (0 + (min (↑ll : Int) 20).toNat = (List.take 0 [] ++ List.take (min (↑ll : Int) 20).toNat (List.drop 0 ps)).length) && decide (0 + (min (↑ll : Int) 20).toNat ≤ 1000) then
  bif (List.take 0 [] ++ List.take (min (↑ll : Int) 20).toNat (List.drop 0 ps)).all tameB then
  bif
  (mapOk w d h len && (decide (0 + len ≤ xs.length) && (decide (0 + ls ≤ sp.length) && (decide (ls ≤ 9223372036854775807) && sp.all fitsB))) && true && true ||
  (bif (bif decide (w ≤ 10) == true then decide (d ≤ 10) else false) == true then decide (h ≤ 10) else false) != true) &&
  (true || (bif (bif decide (w ≤ 10) == true then decide (d ≤ 10) else false) == true then decide (h ≤ 10) else false) == true) &&
  true then
  bif
  bif
  (bif
  (!bif (bif (bif decide (w ≤ 10) == true then decide (d ≤ 10) else false) == true then decide (h ≤ 10) else false) == true then
  rightE ((mpOf w d h len fun j => xs.getD (0 + j) false).right (spAt sp 0) ls) == 0
  else false) ==
  false then
  !a.nearB
  else true) ==
  false then
  false
  else true then
  some (SV.bool true, [])
  else
  bif
  decide (0 + (0 + (min (↑ll : Int) 20).toNat) ≤ (List.take 0 [] ++ List.take (min (↑ll : Int) 20).toNat (List.drop 0 ps)).length) &&
  ((false || (some 0).isSome) && (decide (0 + (0 + (min (↑ll : Int) 20).toNat) ≤ 9223372036854775807) && decide ((0 + (0 + (min (↑ll : Int) 20).toNat)) * 120 ≤ 140737488355328))) then
  bif buOk w d h 0 len xs a (List.take 0 [] ++ List.take (min (↑ll : Int) 20).toNat (List.drop 0 ps)) (0 + (min (↑ll : Int) 20).toNat) then
  bif buOk w d h 0 len xs a (List.take 0 [] ++ List.take (min (↑ll : Int) 20).toNat (List.drop 0 ps)) (0 + (min (↑ll : Int) 20).toNat) then
  bif buOk w d h 0 len xs a (List.take 0 [] ++ List.take (min (↑ll : Int) 20).toNat (List.drop 0 ps)) (0 + (min (↑ll : Int) 20).toNat) then
  bif
  decide
  ((burstL ((mpOf w d h len fun j => xs.getD (0 + j) false).brQ a) owner (List.take 0 [] ++ List.take (min (↑ll : Int) 20).toNat (List.drop 0 ps))).length =
  (burstL ((mpOf w d h len fun j => xs.getD (0 + j) false).brQ a) owner (List.take 0 [] ++ List.take (min (↑ll : Int) 20).toNat (List.drop 0 ps))).length) &&
  decide
  ((burstL ((mpOf w d h len fun j => xs.getD (0 + j) false).brQ a) owner (List.take 0 [] ++ List.take (min (↑ll : Int) 20).toNat (List.drop 0 ps))).length =
  (burstL ((mpOf w d h len fun j => xs.getD (0 + j) false).brQ a) owner (List.take 0 [] ++ List.take (min (↑ll : Int) 20).toNat (List.drop 0 ps))).length) &&
  (decide ((burstL ((mpOf w d h len fun j => xs.getD (0 + j) false).brQ a) owner (List.take 0 [] ++ List.take (min (↑ll : Int) 20).toNat (List.drop 0 ps))).length ≤ 1000) &&
  sameL (burstL ((mpOf w d h len fun j => xs.getD (0 + j) false).brQ a) owner (List.take 0 [] ++ List.take (min (↑ll : Int) 20).toNat (List.drop 0 ps)))
  (burstL ((mpOf w d h len fun j => xs.getD (0 + j) false).brQ a) owner (List.take 0 [] ++ List.take (min (↑ll : Int) 20).toNat (List.drop 0 ps)))) then
  bif
  decide (0 + (min (↑ll : Int) 20).toNat = (List.take 0 [] ++ List.take (min (↑ll : Int) 20).toNat (List.drop 0 ps)).length) &&
  decide
  (0 + (0 + (min (↑ll : Int) 20).toNat) =
  (List.take 0 [] ++ List.take (0 + (min (↑ll : Int) 20).toNat) (List.drop 0 (List.take 0 [] ++ List.take (min (↑ll : Int) 20).toNat (List.drop 0 ps)))).length) &&
  (decide (0 + (min (↑ll : Int) 20).toNat ≤ 1000) &&
  sameL (List.take 0 [] ++ List.take (min (↑ll : Int) 20).toNat (List.drop 0 ps))
  (List.take 0 [] ++ List.take (0 + (min (↑ll : Int) 20).toNat) (List.drop 0 (List.take 0 [] ++ List.take (min (↑ll : Int) 20).toNat (List.drop 0 ps))))) then
  some (SV.bool true, [])
  else none
  else none
  else none
  else none
  else none
  else none
  else none
  else
  bif
  (mapOk w d h len && (decide (0 + len ≤ xs.length) && (decide (0 + ls ≤ sp.length) && (decide (ls ≤ 9223372036854775807) && sp.all fitsB))) && true && true ||
  (bif (bif decide (w ≤ 10) == true then decide (d ≤ 10) else false) == true then decide (h ≤ 10) else false) != true) &&
  (true || (bif (bif decide (w ≤ 10) == true then decide (d ≤ 10) else false) == true then decide (h ≤ 10) else false) == true) &&
  true then
  bif
  bif
  (bif
  (!bif (bif (bif decide (w ≤ 10) == true then decide (d ≤ 10) else false) == true then decide (h ≤ 10) else false) == true then
  rightE ((mpOf w d h len fun j => xs.getD (0 + j) false).right (spAt sp 0) ls) == 0
  else false) ==
  false then
  !a.nearB
  else true) ==
  false then
  true
  else true then
  some (SV.bool true, [])
  else none
  else none
  else none
  else none
  else none := by kernel_rfl

end Go.Proofs.Ytboljdeeodeeeaa

namespace Go.Proofs.Ytboljdeeodeeeaa
set_option linter.unusedSimpArgs false
set_option linter.unusedVariables false
set_option maxRecDepth 100000
open Go.RowKit

set_option maxHeartbeats 0 in
theorem tells_core {w d h : Int} {len ls k : Nat} {xs : List Bool} {sp : List V3} {zs ws : List Pl} {m : Mp} {F : Pl → Pl} {a : V3} {owner : Int} (c1 : (mapOk w d h len && (decide (0 + len ≤ xs.length) && (decide (0 + ls ≤ sp.length) && (decide (ls ≤ 9223372036854775807) && sp.all fitsB)))) = true)
    (hz : zs.length = k) (hk : k ≤ 1000) (hw : ws = zs) (hb : buOk w d h 0 len xs a zs k = true) :
    ((bif decide (k = zs.length) && decide (k ≤ 1000) then bif zs.all tameB then bif (mapOk w d h len && (decide (0 + len ≤ xs.length) && (decide (0 + ls ≤ sp.length) && (decide (ls ≤ 9223372036854775807) && sp.all fitsB))) && true && true || (bif (bif decide (w ≤ 10) == true then decide (d ≤ 10) else false) == true then decide (h ≤ 10) else false) != true) && (true || (bif (bif decide (w ≤ 10) == true then decide (d ≤ 10) else false) == true then decide (h ≤ 10) else false) == true) && true then bif bif (bif (!bif (bif (bif decide (w ≤ 10) == true then decide (d ≤ 10) else false) == true then decide (h ≤ 10) else false) == true then rightE (m.right (spAt sp 0) ls) == 0 else false) == false then !a.nearB else true) == false then false else true then some (SV.bool true, []) else bif decide (0 + k ≤ zs.length) && ((false || (some 0).isSome) && (decide (0 + k ≤ 9223372036854775807) && decide ((0 + k) * 120 ≤ 140737488355328))) then bif buOk w d h 0 len xs a zs k then bif buOk w d h 0 len xs a zs k then bif buOk w d h 0 len xs a zs k then bif decide ((burstL F owner zs).length = (burstL F owner zs).length) && decide ((burstL F owner zs).length = (burstL F owner zs).length) && (decide ((burstL F owner zs).length ≤ 1000) && sameL (burstL F owner zs) (burstL F owner zs)) then bif decide (k = zs.length) && decide (0 + k = ws.length) && (decide (k ≤ 1000) && sameL zs ws) then some (SV.bool true, []) else none else none else none else none else none else none else none else bif (mapOk w d h len && (decide (0 + len ≤ xs.length) && (decide (0 + ls ≤ sp.length) && (decide (ls ≤ 9223372036854775807) && sp.all fitsB))) && true && true || (bif (bif decide (w ≤ 10) == true then decide (d ≤ 10) else false) == true then decide (h ≤ 10) else false) != true) && (true || (bif (bif decide (w ≤ 10) == true then decide (d ≤ 10) else false) == true then decide (h ≤ 10) else false) == true) && true then bif bif (bif (!bif (bif (bif decide (w ≤ 10) == true then decide (d ≤ 10) else false) == true then decide (h ≤ 10) else false) == true then rightE (m.right (spAt sp 0) ls) == 0 else false) == false then !a.nearB else true) == false then true else true then some (SV.bool true, []) else none else none else none : Option Res2)) = some (SV.bool true, []) := by
  subst hw
  subst hz
  have hl : (burstL F owner ws).length = ws.length := burst_len ..
  rw [c1, hb, hl, sameL_refl, sameL_refl, decide_eq_true (show 0 + ws.length ≤ ws.length by omega), decide_eq_true (show 0 + ws.length ≤ 9223372036854775807 by omega), decide_eq_true (show (0 + ws.length) * 120 ≤ 140737488355328 by omega), decide_eq_true (show 0 + ws.length = ws.length by omega)]
  simp only [Bool.and_true, Bool.true_or, Bool.true_and, Bool.false_or, Option.isSome_some, cond_true, and_form, or_form, decide_true, decide_eq_true hk]
  refine bif_law (fun _ => ?_) (fun _ => ?_)
  · exact bif_law (fun _ => rfl) (fun _ => rfl)
  · refine bif_law (fun _ => rfl) (fun h1 => ?_)
    simp at h1

theorem all_fits (l : List Pl) (h : ∀ x ∈ l, x.pos.fits) : l.all (fun p => fitsB p.pos) = true := List.all_eq_true.2 fun x hx => fitsB_iff.2 (h x hx)
set_option maxHeartbeats 0 in
theorem tells_law {w d h : Int} {len ls ll : Nat} {xs : List Bool} {sp : List V3} {ps : List Pl} {a : V3} {owner n : Int} (hw : In64 w) (hd : In64 d) (hh : In64 h) (hl : len ≤ 9223372036854775807) (hx : xs.length = len) (hs : ls ≤ 9223372036854775807) (hy : sp.length = ls) (hf : ∀ p ∈ sp, p.fits) (ha : a.fits) (hn : ps.length = ll) (hp : ∀ p ∈ ps, p.pos.fits) :
    runK xBt (loopOf [lpoTa, lpoBl]) 400 4 Try.f4 0 [mapS w d h (.slice 0 1 0 len none) (.slice 1 3 0 ls none), .agg a.sv, .int .i64 owner, .slice 2 15 0 ll none, .int .i64 n] [.vec true .bool xs, .vec true .vec sp, .vec true .pl ps] = some (.bool true, []) := by
  obtain ⟨c1, c2, c3⟩ := right_facts hw hd hh hl hx hs hy hf
  have hzl : (ps.take (min (ll : Int) 20).toNat).length = 0 + (min (ll : Int) 20).toNat := by
    rw [List.length_take]
    omega
  have hz : ∀ x ∈ ps.take (min (ll : Int) 20).toNat, x.pos.fits := fun x hx => hp x (List.mem_of_mem_take hx)
  have hb : buOk w d h 0 len xs a (ps.take (min (ll : Int) 20).toNat) (0 + (min (ll : Int) 20).toNat) = true := by
    unfold buOk
    rw [c2, c3, fitsB_iff.2 ha, all_fits _ hz, hzl, decide_eq_true rfl, decide_eq_true (by omega)]
    rfl
  have key := tells_core (m := mpOf w d h len fun j => xs.getD (0 + j) false) (F := (mpOf w d h len fun j => xs.getD (0 + j) false).brQ a) (a := a) (owner := owner) (ws := (ps.take (min (ll : Int) 20).toNat).take (0 + (min (ll : Int) 20).toNat)) c1 hzl (by omega) (List.take_of_length_le (by omega)) hb
  refine (tells_tree ..).trans ?_
  refine bif_true ?_ (bif_true ?_ key)
  · rw [decide_eq_true (show 0 ≤ min (ll : Int) 20 by omega), decide_eq_true (show min (ll : Int) 20 ≤ ((capOr none ll : Nat) : Int) by unfold capOr; simp only [Option.getD_none]; omega)]
    rfl
  · rw [decide_eq_true (show 0 + (min (ll : Int) 20).toNat ≤ ps.length by omega), decide_eq_true (show 0 + (min (ll : Int) 20).toNat ≤ 9223372036854775807 by omega), decide_eq_true (show (0 + (min (ll : Int) 20).toNat) * 120 ≤ 140737488355328 by omega)]
    rfl

end Go.Proofs.Ytboljdeeodeeeaa
