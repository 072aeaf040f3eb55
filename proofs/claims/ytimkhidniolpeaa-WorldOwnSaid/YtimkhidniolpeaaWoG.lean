/- A game's Tick: its shots' loop, rounds. -/
import Derived.Test.YtimkhidniolpeaaWoB
namespace Go.Proofs.Ytimkhidniolpeaa
set_option linter.unusedSimpArgs false
set_option linter.unusedVariables false
set_option maxRecDepth 100000
set_option maxHeartbeats 0
open Go.RowKit

theorem burst_none (w d h : Int) (len off : Nat) (xs : List Bool) (a : V3) (o : Int) : runK xBu (fun _ _ => none) 300 57 Try.f57 0 [mapS w d h (.slice 0 1 off len none) .unk, .agg a.sv, .int .i64 o, .nils] [.vec true .bool xs] = some (.nils, []) := by kernel_rfl
noncomputable def oBurst0 (args : List SV) (rows : List Row) : Option Eff := match args with
 | [.agg [.int .i64 w, .int .i64 d, .int .i64 h, .slice id st off len _, sp], .agg [.int .i64 x, .int .i64 y, .int .i64 z], .int .i64 o, .nils] => match rows[id]? with
  | some (.vec _ .bool _) => bif Nat.beq st 1 && sp.one then some { val := .nils, rd := [id] } else none
  | _ => none
 | _ => oBurst args rows
theorem oBurst0_ok {args : List SV} {rows : List Row} {e : Eff} (h : oBurst0 args rows = some e) (hok : e.ok = true) : FnOk Try.prog 57 args (rows[·]?) rows.length e := by
 unfold oBurst0 at h
 split at h
 · rename_i w d hh id st off len cap sp x y z o
   split at h
   · rename_i ro xs hrow
     obtain ⟨hb, h⟩ := cond_some h
     cases h
     exact fnOk_grid xBu_ok lok_none Try.func57 hb hrow rfl rfl (burst_none w d hh len off xs ⟨x, y, z⟩ o)
   · cases h
 · exact oBurst_ok h hok
noncomputable def orcBurst0 : Orc := ⟨57, oBurst0, fun _ _ _ h hok => oBurst0_ok h hok, bodied Try.func57 (by kernel_rfl)⟩

noncomputable def xWf : Ctx := ctxOf [34] [orcSpawn, orcFire, orcAtick, orcBack, orcStepW, orcNew, orcStep, orcBurst0, orcHits] roW
theorem xWf_ok : COk Try.prog xWf := ctxOf_ok (by kernel_rfl)
def hO (s : WS) (l : WLay) : SV := match l.hc with | none => .nils | some c => .slice 4 11 0 s.shots.length (some c)
def valS (s : WS) (l : WLay) (X : Option (Nat × List Sh)) (i : Int) : List SV := [.ptr 0 0 0 0, hX s X, hO s l, .int .i64 (s.shots.length : Int), .int .i64 i]
def rowS (s : WS) (l : WLay) (X : Option (Nat × List Sh)) : List Row := gk s l (hO s l) (moreX X)
noncomputable def rdS (n0 : Nat) : List SV → List Row → Option Res2 := roundS xWf (fun _ _ => none) 200 15 [0, 1, 0, 1, 1] (bodyAt Try.f15 [0, 1, 0, 1, 1]) 81 n0 [0, 2, 18, 19, 20]

def shN (s : WS) (i : Int) : Sh := s.shots.getD (0 + i.toNat) Knd.sh.dflt
def brAt (B : List Pl) : Nat → List PL → List PL
 | _, [] => []
 | k, p :: ps => ⟨B.getD k Knd.pl.dflt, p.left⟩ :: brAt B (k + 1) ps
noncomputable def burstB (s : WS) (t : Sh) : List Pl := burstL (s.mp.brQ t.pos) t.owner (s.ps.map PL.p)
noncomputable def burstW (s : WS) (t : Sh) : WS := { s with ps := brAt (burstB s t) 0 s.ps }
def hitT (t : Sh) (b k : Option Res2) : List PL → Option Res2
 | [] => k
 | p :: ps => bif hitB t p.p then b else hitT t b k ps
def burstOk (s : WS) (t : Sh) (b : Option Res2) : Option Res2 := match s.ps with
 | [] => b
 | _ => bif buOk s.w s.d s.h 0 s.cells.length s.cells t.pos (s.ps.map PL.p) s.ps.length then b else none
def flyT (s : WS) (t : Sh) (b k : Option Res2) : Option Res2 :=
 bif mapOk s.w s.d s.h s.cells.length && (fitsB t.pos && decide (0 + s.cells.length ≤ s.cells.length)) then
  (bif !(stepS s.mp.at t).2 then hitT (stepS s.mp.at t).1 (burstOk s (stepS s.mp.at t).1 b) k s.ps else burstOk s (stepS s.mp.at t).1 b) else none
def growSh (ll : Nat) (xs : List Sh) : Bool := (decide (0 < ll) || (none : Option Nat).isSome) && (decide (ll ≤ xs.length) && (decide (ll + 1 ≤ 9223372036854775807) && decide ((ll + 1) * 88 ≤ 140737488355328)))
def goS (s : WS) (l : WLay) (X : Option (Nat × List Sh)) (i : Int) : Option Res2 := some (.tuple [.nilp, .tuple (valS s l X (IntKind.i64.wrap (i + 1)))], rowS s l X)
def keepT (s : WS) (l : WLay) (X : Option (Nat × List Sh)) (i : Int) (t : Sh) : Option Res2 := match X with
 | none => goS s l (some (1, [t])) i
 | some (ll, xs) => bif growSh ll xs then goS s l (some (ll + 1, xs.take ll ++ [t])) i else none
noncomputable def roundS1 (s : WS) (l : WLay) (X : Option (Nat × List Sh)) (i : Int) : Option Res2 :=
 bif decide (i < (s.shots.length : Int)) then (bif decide (0 ≤ i) && decide (i < (s.shots.length : Int)) then (bif decide (0 + i.toNat < s.shots.length) then
  flyT s (shN s i) (goS (burstW s (stepS s.mp.at (shN s i)).1) l X i) (keepT s l X i (stepS s.mp.at (shN s i)).1) else none) else none)
 else some (.tuple [exS (.exit 0), .tuple (valS s l X i)], rowS s l X)
theorem s1_n0a (w d h : Int) (cells : List Bool) (spawns : List V3) (now given fired : Int) (cc sc : Nat) (shots : List Sh) (hc : Nat) (i : Int) : rdS (5 + 0) (valS ⟨w, d, h, cells, spawns, now, [], shots, given, fired⟩ ⟨cc, sc, none, some hc⟩ none i) (rowS ⟨w, d, h, cells, spawns, now, [], shots, given, fired⟩ ⟨cc, sc, none, some hc⟩ none) = roundS1 ⟨w, d, h, cells, spawns, now, [], shots, given, fired⟩ ⟨cc, sc, none, some hc⟩ none i := by kernel_rfl
theorem s1_n0b (w d h : Int) (cells : List Bool) (spawns : List V3) (now given fired : Int) (cc sc : Nat) (shots : List Sh) (hc : Nat) (i : Int) (ll : Nat) (xs : List Sh) : rdS (5 + 0) (valS ⟨w, d, h, cells, spawns, now, [], shots, given, fired⟩ ⟨cc, sc, none, some hc⟩ (some (ll, xs)) i) (rowS ⟨w, d, h, cells, spawns, now, [], shots, given, fired⟩ ⟨cc, sc, none, some hc⟩ (some (ll, xs))) = roundS1 ⟨w, d, h, cells, spawns, now, [], shots, given, fired⟩ ⟨cc, sc, none, some hc⟩ (some (ll, xs)) i := by kernel_rfl
theorem s1_c0a (w d h : Int) (cells : List Bool) (spawns : List V3) (now given fired : Int) (cc sc : Nat) (shots : List Sh) (hc : Nat) (i : Int) (c : Nat) : rdS (5 + 0) (valS ⟨w, d, h, cells, spawns, now, [], shots, given, fired⟩ ⟨cc, sc, some c, some hc⟩ none i) (rowS ⟨w, d, h, cells, spawns, now, [], shots, given, fired⟩ ⟨cc, sc, some c, some hc⟩ none) = roundS1 ⟨w, d, h, cells, spawns, now, [], shots, given, fired⟩ ⟨cc, sc, some c, some hc⟩ none i := by kernel_rfl
theorem s1_c0b (w d h : Int) (cells : List Bool) (spawns : List V3) (now given fired : Int) (cc sc : Nat) (shots : List Sh) (hc : Nat) (i : Int) (c : Nat) (ll : Nat) (xs : List Sh) : rdS (5 + 0) (valS ⟨w, d, h, cells, spawns, now, [], shots, given, fired⟩ ⟨cc, sc, some c, some hc⟩ (some (ll, xs)) i) (rowS ⟨w, d, h, cells, spawns, now, [], shots, given, fired⟩ ⟨cc, sc, some c, some hc⟩ (some (ll, xs))) = roundS1 ⟨w, d, h, cells, spawns, now, [], shots, given, fired⟩ ⟨cc, sc, some c, some hc⟩ (some (ll, xs)) i := by kernel_rfl
theorem s1_c1a (w d h : Int) (cells : List Bool) (spawns : List V3) (now given fired : Int) (cc sc : Nat) (shots : List Sh) (hc : Nat) (i : Int) (c : Nat) (p1 : PL) : rdS (5 + 1) (valS ⟨w, d, h, cells, spawns, now, [p1], shots, given, fired⟩ ⟨cc, sc, some c, some hc⟩ none i) (rowS ⟨w, d, h, cells, spawns, now, [p1], shots, given, fired⟩ ⟨cc, sc, some c, some hc⟩ none) = roundS1 ⟨w, d, h, cells, spawns, now, [p1], shots, given, fired⟩ ⟨cc, sc, some c, some hc⟩ none i := by kernel_rfl
theorem s1_c1b (w d h : Int) (cells : List Bool) (spawns : List V3) (now given fired : Int) (cc sc : Nat) (shots : List Sh) (hc : Nat) (i : Int) (c : Nat) (p1 : PL) (ll : Nat) (xs : List Sh) : rdS (5 + 1) (valS ⟨w, d, h, cells, spawns, now, [p1], shots, given, fired⟩ ⟨cc, sc, some c, some hc⟩ (some (ll, xs)) i) (rowS ⟨w, d, h, cells, spawns, now, [p1], shots, given, fired⟩ ⟨cc, sc, some c, some hc⟩ (some (ll, xs))) = roundS1 ⟨w, d, h, cells, spawns, now, [p1], shots, given, fired⟩ ⟨cc, sc, some c, some hc⟩ (some (ll, xs)) i := by kernel_rfl
theorem s1_c2a (w d h : Int) (cells : List Bool) (spawns : List V3) (now given fired : Int) (cc sc : Nat) (shots : List Sh) (hc : Nat) (i : Int) (c : Nat) (p1 p2 : PL) : rdS (5 + 2) (valS ⟨w, d, h, cells, spawns, now, [p1, p2], shots, given, fired⟩ ⟨cc, sc, some c, some hc⟩ none i) (rowS ⟨w, d, h, cells, spawns, now, [p1, p2], shots, given, fired⟩ ⟨cc, sc, some c, some hc⟩ none) = roundS1 ⟨w, d, h, cells, spawns, now, [p1, p2], shots, given, fired⟩ ⟨cc, sc, some c, some hc⟩ none i := by kernel_rfl
theorem s1_c2b (w d h : Int) (cells : List Bool) (spawns : List V3) (now given fired : Int) (cc sc : Nat) (shots : List Sh) (hc : Nat) (i : Int) (c : Nat) (p1 p2 : PL) (ll : Nat) (xs : List Sh) : rdS (5 + 2) (valS ⟨w, d, h, cells, spawns, now, [p1, p2], shots, given, fired⟩ ⟨cc, sc, some c, some hc⟩ (some (ll, xs)) i) (rowS ⟨w, d, h, cells, spawns, now, [p1, p2], shots, given, fired⟩ ⟨cc, sc, some c, some hc⟩ (some (ll, xs))) = roundS1 ⟨w, d, h, cells, spawns, now, [p1, p2], shots, given, fired⟩ ⟨cc, sc, some c, some hc⟩ (some (ll, xs)) i := by kernel_rfl
theorem s1_c3a (w d h : Int) (cells : List Bool) (spawns : List V3) (now given fired : Int) (cc sc : Nat) (shots : List Sh) (hc : Nat) (i : Int) (c : Nat) (p1 p2 p3 : PL) : rdS (5 + 3) (valS ⟨w, d, h, cells, spawns, now, [p1, p2, p3], shots, given, fired⟩ ⟨cc, sc, some c, some hc⟩ none i) (rowS ⟨w, d, h, cells, spawns, now, [p1, p2, p3], shots, given, fired⟩ ⟨cc, sc, some c, some hc⟩ none) = roundS1 ⟨w, d, h, cells, spawns, now, [p1, p2, p3], shots, given, fired⟩ ⟨cc, sc, some c, some hc⟩ none i := by kernel_rfl
theorem s1_c3b (w d h : Int) (cells : List Bool) (spawns : List V3) (now given fired : Int) (cc sc : Nat) (shots : List Sh) (hc : Nat) (i : Int) (c : Nat) (p1 p2 p3 : PL) (ll : Nat) (xs : List Sh) : rdS (5 + 3) (valS ⟨w, d, h, cells, spawns, now, [p1, p2, p3], shots, given, fired⟩ ⟨cc, sc, some c, some hc⟩ (some (ll, xs)) i) (rowS ⟨w, d, h, cells, spawns, now, [p1, p2, p3], shots, given, fired⟩ ⟨cc, sc, some c, some hc⟩ (some (ll, xs))) = roundS1 ⟨w, d, h, cells, spawns, now, [p1, p2, p3], shots, given, fired⟩ ⟨cc, sc, some c, some hc⟩ (some (ll, xs)) i := by kernel_rfl
theorem s1_c4a (w d h : Int) (cells : List Bool) (spawns : List V3) (now given fired : Int) (cc sc : Nat) (shots : List Sh) (hc : Nat) (i : Int) (c : Nat) (p1 p2 p3 p4 : PL) : rdS (5 + 4) (valS ⟨w, d, h, cells, spawns, now, [p1, p2, p3, p4], shots, given, fired⟩ ⟨cc, sc, some c, some hc⟩ none i) (rowS ⟨w, d, h, cells, spawns, now, [p1, p2, p3, p4], shots, given, fired⟩ ⟨cc, sc, some c, some hc⟩ none) = roundS1 ⟨w, d, h, cells, spawns, now, [p1, p2, p3, p4], shots, given, fired⟩ ⟨cc, sc, some c, some hc⟩ none i := by kernel_rfl
theorem s1_c4b (w d h : Int) (cells : List Bool) (spawns : List V3) (now given fired : Int) (cc sc : Nat) (shots : List Sh) (hc : Nat) (i : Int) (c : Nat) (p1 p2 p3 p4 : PL) (ll : Nat) (xs : List Sh) : rdS (5 + 4) (valS ⟨w, d, h, cells, spawns, now, [p1, p2, p3, p4], shots, given, fired⟩ ⟨cc, sc, some c, some hc⟩ (some (ll, xs)) i) (rowS ⟨w, d, h, cells, spawns, now, [p1, p2, p3, p4], shots, given, fired⟩ ⟨cc, sc, some c, some hc⟩ (some (ll, xs))) = roundS1 ⟨w, d, h, cells, spawns, now, [p1, p2, p3, p4], shots, given, fired⟩ ⟨cc, sc, some c, some hc⟩ (some (ll, xs)) i := by kernel_rfl
theorem s1_c5a (w d h : Int) (cells : List Bool) (spawns : List V3) (now given fired : Int) (cc sc : Nat) (shots : List Sh) (hc : Nat) (i : Int) (c : Nat) (p1 p2 p3 p4 p5 : PL) : rdS (5 + 5) (valS ⟨w, d, h, cells, spawns, now, [p1, p2, p3, p4, p5], shots, given, fired⟩ ⟨cc, sc, some c, some hc⟩ none i) (rowS ⟨w, d, h, cells, spawns, now, [p1, p2, p3, p4, p5], shots, given, fired⟩ ⟨cc, sc, some c, some hc⟩ none) = roundS1 ⟨w, d, h, cells, spawns, now, [p1, p2, p3, p4, p5], shots, given, fired⟩ ⟨cc, sc, some c, some hc⟩ none i := by kernel_rfl
theorem s1_c5b (w d h : Int) (cells : List Bool) (spawns : List V3) (now given fired : Int) (cc sc : Nat) (shots : List Sh) (hc : Nat) (i : Int) (c : Nat) (p1 p2 p3 p4 p5 : PL) (ll : Nat) (xs : List Sh) : rdS (5 + 5) (valS ⟨w, d, h, cells, spawns, now, [p1, p2, p3, p4, p5], shots, given, fired⟩ ⟨cc, sc, some c, some hc⟩ (some (ll, xs)) i) (rowS ⟨w, d, h, cells, spawns, now, [p1, p2, p3, p4, p5], shots, given, fired⟩ ⟨cc, sc, some c, some hc⟩ (some (ll, xs))) = roundS1 ⟨w, d, h, cells, spawns, now, [p1, p2, p3, p4, p5], shots, given, fired⟩ ⟨cc, sc, some c, some hc⟩ (some (ll, xs)) i := by kernel_rfl
theorem s1_c6a (w d h : Int) (cells : List Bool) (spawns : List V3) (now given fired : Int) (cc sc : Nat) (shots : List Sh) (hc : Nat) (i : Int) (c : Nat) (p1 p2 p3 p4 p5 p6 : PL) : rdS (5 + 6) (valS ⟨w, d, h, cells, spawns, now, [p1, p2, p3, p4, p5, p6], shots, given, fired⟩ ⟨cc, sc, some c, some hc⟩ none i) (rowS ⟨w, d, h, cells, spawns, now, [p1, p2, p3, p4, p5, p6], shots, given, fired⟩ ⟨cc, sc, some c, some hc⟩ none) = roundS1 ⟨w, d, h, cells, spawns, now, [p1, p2, p3, p4, p5, p6], shots, given, fired⟩ ⟨cc, sc, some c, some hc⟩ none i := by kernel_rfl
theorem s1_c6b (w d h : Int) (cells : List Bool) (spawns : List V3) (now given fired : Int) (cc sc : Nat) (shots : List Sh) (hc : Nat) (i : Int) (c : Nat) (p1 p2 p3 p4 p5 p6 : PL) (ll : Nat) (xs : List Sh) : rdS (5 + 6) (valS ⟨w, d, h, cells, spawns, now, [p1, p2, p3, p4, p5, p6], shots, given, fired⟩ ⟨cc, sc, some c, some hc⟩ (some (ll, xs)) i) (rowS ⟨w, d, h, cells, spawns, now, [p1, p2, p3, p4, p5, p6], shots, given, fired⟩ ⟨cc, sc, some c, some hc⟩ (some (ll, xs))) = roundS1 ⟨w, d, h, cells, spawns, now, [p1, p2, p3, p4, p5, p6], shots, given, fired⟩ ⟨cc, sc, some c, some hc⟩ (some (ll, xs)) i := by kernel_rfl
theorem s1_c7a (w d h : Int) (cells : List Bool) (spawns : List V3) (now given fired : Int) (cc sc : Nat) (shots : List Sh) (hc : Nat) (i : Int) (c : Nat) (p1 p2 p3 p4 p5 p6 p7 : PL) : rdS (5 + 7) (valS ⟨w, d, h, cells, spawns, now, [p1, p2, p3, p4, p5, p6, p7], shots, given, fired⟩ ⟨cc, sc, some c, some hc⟩ none i) (rowS ⟨w, d, h, cells, spawns, now, [p1, p2, p3, p4, p5, p6, p7], shots, given, fired⟩ ⟨cc, sc, some c, some hc⟩ none) = roundS1 ⟨w, d, h, cells, spawns, now, [p1, p2, p3, p4, p5, p6, p7], shots, given, fired⟩ ⟨cc, sc, some c, some hc⟩ none i := by kernel_rfl
theorem s1_c7b (w d h : Int) (cells : List Bool) (spawns : List V3) (now given fired : Int) (cc sc : Nat) (shots : List Sh) (hc : Nat) (i : Int) (c : Nat) (p1 p2 p3 p4 p5 p6 p7 : PL) (ll : Nat) (xs : List Sh) : rdS (5 + 7) (valS ⟨w, d, h, cells, spawns, now, [p1, p2, p3, p4, p5, p6, p7], shots, given, fired⟩ ⟨cc, sc, some c, some hc⟩ (some (ll, xs)) i) (rowS ⟨w, d, h, cells, spawns, now, [p1, p2, p3, p4, p5, p6, p7], shots, given, fired⟩ ⟨cc, sc, some c, some hc⟩ (some (ll, xs))) = roundS1 ⟨w, d, h, cells, spawns, now, [p1, p2, p3, p4, p5, p6, p7], shots, given, fired⟩ ⟨cc, sc, some c, some hc⟩ (some (ll, xs)) i := by kernel_rfl
theorem s1_c8a (w d h : Int) (cells : List Bool) (spawns : List V3) (now given fired : Int) (cc sc : Nat) (shots : List Sh) (hc : Nat) (i : Int) (c : Nat) (p1 p2 p3 p4 p5 p6 p7 p8 : PL) : rdS (5 + 8) (valS ⟨w, d, h, cells, spawns, now, [p1, p2, p3, p4, p5, p6, p7, p8], shots, given, fired⟩ ⟨cc, sc, some c, some hc⟩ none i) (rowS ⟨w, d, h, cells, spawns, now, [p1, p2, p3, p4, p5, p6, p7, p8], shots, given, fired⟩ ⟨cc, sc, some c, some hc⟩ none) = roundS1 ⟨w, d, h, cells, spawns, now, [p1, p2, p3, p4, p5, p6, p7, p8], shots, given, fired⟩ ⟨cc, sc, some c, some hc⟩ none i := by kernel_rfl
theorem s1_c8b (w d h : Int) (cells : List Bool) (spawns : List V3) (now given fired : Int) (cc sc : Nat) (shots : List Sh) (hc : Nat) (i : Int) (c : Nat) (p1 p2 p3 p4 p5 p6 p7 p8 : PL) (ll : Nat) (xs : List Sh) : rdS (5 + 8) (valS ⟨w, d, h, cells, spawns, now, [p1, p2, p3, p4, p5, p6, p7, p8], shots, given, fired⟩ ⟨cc, sc, some c, some hc⟩ (some (ll, xs)) i) (rowS ⟨w, d, h, cells, spawns, now, [p1, p2, p3, p4, p5, p6, p7, p8], shots, given, fired⟩ ⟨cc, sc, some c, some hc⟩ (some (ll, xs))) = roundS1 ⟨w, d, h, cells, spawns, now, [p1, p2, p3, p4, p5, p6, p7, p8], shots, given, fired⟩ ⟨cc, sc, some c, some hc⟩ (some (ll, xs)) i := by kernel_rfl

end Go.Proofs.Ytimkhidniolpeaa
