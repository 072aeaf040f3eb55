/- WorldAgain: the law's loop and call. -/
import Derived.Test.YtimkhidniolpeaaWoW
namespace Go.Proofs.Ytimkhidniolpeaa
set_option linter.unusedSimpArgs false
set_option linter.unusedVariables false
set_option maxRecDepth 100000
set_option maxHeartbeats 0
open Go.RowKit

def valAg (ll : Nat) (i : Int) : List SV := [.slice 2 12 0 ll none, .ptr 3 0 0 0, .bool false, .bool true, .ptr 4 0 0 0, .ptr 5 0 0 0, .int .i64 i]
def rowAg (w d h : Int) (len ls : Nat) (xs : List Bool) (sp : List V3) (cs : List WOp) (s t : WS) : List Row := [.vec true .bool xs, .vec true .vec sp, .vec true .wop cs, .own [.int .i64 w, .int .i64 d, .int .i64 h, .slice 0 1 0 len none, .slice 1 3 0 ls none], .obj s, .obj t]
noncomputable def rdAg : List SV → List Row → Option Res2 := roundS x16b (fun _ _ => none) 100 5 [0, 1, 0, 1, 1, 1, 1, 1, 1] (bodyAt Try.f5 [0, 1, 0, 1, 1, 1, 1, 1, 1]) 85 6 [1, 2, 4, 5, 6, 8, 10]

def diffB (a b : WS × Int × Int) : Bool := !(a.2.1 == b.2.1 && (a.2.2 == b.2.2 && true))
def valAgR (ll : Nat) (i : Int) : List SV := [.slice 2 12 0 ll none, .ptr 3 0 0 0, .bool false, .bool true, .ptr 4 0 0 0, .ptr 5 0 0 0, .int .i64 i]
theorem ag_round (w d h : Int) (len ls ll : Nat) (xs : List Bool) (sp : List V3) (cs : List WOp) (s t : WS) (i : Int) : rdAg (valAg ll i) (rowAg w d h len ls xs sp cs s t) =
 bif bif decide (i < (ll : Int)) == true then (bif true then decide (i < 60) else false) else false then
 bif decide (0 ≤ i) && decide (i < (ll : Int)) then
 bif decide (0 + i.toNat < cs.length) then
 bif opOk s (opN cs i) then
 bif decide (0 ≤ i) && decide (i < (ll : Int)) then
 bif decide (0 + i.toNat < cs.length) then
 bif opOk t (opN cs i) then
 bif diffB (opS s (opN cs i)) (opS t (opN cs i)) then some (.tuple [.nils, .tuple (valAgR ll i)], rowAg w d h len ls xs sp cs (opS s (opN cs i)).1 (opS t (opN cs i)).1)
 else some (.tuple [.nilp, .tuple (valAg ll (IntKind.i64.wrap (i + 1)))], rowAg w d h len ls xs sp cs (opS s (opN cs i)).1 (opS t (opN cs i)).1)
 else none else none else none else none else none else none
 else some (.tuple [.ptr 0 0 0 0, .tuple (valAg ll i)], rowAg w d h len ls xs sp cs s t) := by kernel_rfl

theorem ag_loop {w d h : Int} {len ls ll : Nat} {xs : List Bool} {sp : List V3} {cs : List WOp} (hc : ll ≤ cs.length) : ∀ (k i : Nat) (s : WS), s.Inv i → i + k = min ll 60 →
    LoopTo rdAg (valAg ll i) (rowAg w d h len ls xs sp cs s s) (.exit 0) (valAg ll ((min ll 60 : Nat) : Int)) (rowAg w d h len ls xs sp cs (opsS cs k i s) (opsS cs k i s))
 | 0, i, s, hs, hi => by
  obtain rfl : i = min ll 60 := by omega
  refine .done ?_ (by simp)
  rw [ag_round, and_form, show (decide ((((min ll 60 : Nat)) : Int) < (ll : Int)) && (bif true then decide ((((min ll 60 : Nat)) : Int) < 60) else false)) = false by simp; omega, cond_false]
  rfl
 | k + 1, i, s, hs, hi => by
  have hro := ag_round w d h len ls ll xs sp cs s s i
  obtain ⟨h1, h2⟩ := hs.op (by omega) (opN cs i)
  have e1 : ((i : Int)).toNat = i := by omega
  have hd : diffB (opS s (opN cs i)) (opS s (opN cs i)) = false := by simp [diffB]
  rw [e1, and_form, decide_eq_true (show (i : Int) < (ll : Int) by omega), decide_eq_true (show (i : Int) < 60 by omega), decide_eq_true (show (0 : Int) ≤ (i : Int) by omega), decide_eq_true (show 0 + i < cs.length by omega), h1, hd, IntWalk.i64_in ((i : Int) + 1) (by omega)] at hro
  simp only [Bool.and_true, cond_true, cond_false] at hro
  exact .more hro (ag_loop hc k (i + 1) _ h2 (by omega))

open Classical in
noncomputable def agOk (s t : WS) : Bool := decide (s.Inv 0 ∧ t = s)
open Classical in
theorem agOk_iff {s t : WS} : agOk s t = true ↔ s.Inv 0 ∧ t = s := by unfold agOk; exact decide_eq_true_iff
noncomputable def outAg (v : List SV) (R : List Row) (k : Ex → List SV → List Row → Option Res2) : Option Res2 := match v, R with
 | [.slice 2 12 0 ll none, .ptr 3 0 0 0, .bool false, .bool true, .ptr 4 0 0 0, .ptr 5 0 0 0, .int .i64 i],
  [.vec true .bool xs, .vec true .vec sp, .vec true .wop cs, .own [.int .i64 w, .int .i64 d, .int .i64 h, .slice 0 1 0 len none, .slice 1 3 0 ls none], .obj s, .obj t] =>
   bif decide (i = 0) && (decide (ll ≤ cs.length) && agOk s t) then
    k (.exit 0) (valAg ll ((min ll 60 : Nat) : Int)) (rowAg w d h len ls xs sp cs (opsS cs (min ll 60) 0 s) (opsS cs (min ll 60) 0 s)) else none
 | _, _ => none
theorem lpoAg_ok : LpOk 5 [0, 1, 0, 1, 1, 1, 1, 1, 1] (loopF 85 [1, 2, 4, 5, 6, 8, 10] outAg) := by
 intro b hat s K r h
 refine loopF_ok (fuel := 100) x16b_ok lok_none hat (fun v R k r hr => ?_) h
 have hbody := at_body Try.func5 hat
 subst hbody
 unfold outAg at hr
 split at hr
 · obtain ⟨hb, hr2⟩ := cond_some hr
   simp only [Bool.and_eq_true, decide_eq_true_eq, agOk_iff] at hb
   obtain ⟨h1, h2, h3, h4⟩ := hb
   subst h1 h4
   exact ⟨_, _, _, hr2, ag_loop h2 _ 0 _ h3 (by omega)⟩
 · cases hr
noncomputable def lpoAg : Lpo := ⟨_, _, _, lpoAg_ok⟩

def eqPs (l m : List Pl) : Bool := ((decide (l.length = l.length) && decide (m.length = m.length) && (decide (l.length ≤ 1000) && sameL l m) && true && true || true != true) && (!!true || true == true)) && true
def eqSs (l m : List Sh) : Bool := ((decide (l.length = l.length) && decide (m.length = m.length) && (decide (l.length ≤ 1000) && sameS l m) && true && true || true != true) && (!!true || true == true)) && true
noncomputable def endAg (s t : WS) : Option Res2 :=
 bif eqPs (s.ps.map PL.p) (t.ps.map PL.p) then bif decide (s.shots.length ≤ 1000) then bif decide (t.shots.length ≤ 1000) then bif eqSs s.shots t.shots then
  some (.bool (bif true == true then (bif true then s.now == t.now else false) else false), []) else none else none else none else none
theorem ag_tree (w d h : Int) (len ls ll : Nat) (xs : List Bool) (sp : List V3) (cs : List WOp) : runK x16b (loopOf [lpoAg]) 300 5 Try.f5 0 [mapS w d h (.slice 0 1 0 len none) (.slice 1 3 0 ls none), .slice 2 12 0 ll none] [.vec true .bool xs, .vec true .vec sp, .vec true .wop cs] =
 bif sm1 w d h len ls xs sp then bif sm2 w d h len ls xs sp then some (.bool true, []) else
 bif newC w d h len 0 xs ls 0 sp && newV w d h len 0 xs ls 0 sp then bif newC w d h len 0 xs ls 0 sp && newV w d h len 0 xs ls 0 sp then
 bif decide ((0 : Int) = 0) && (decide (ll ≤ cs.length) && agOk (newG w d h len 0 xs ls 0 sp) (newG w d h len 0 xs ls 0 sp)) then endAg (opsS cs (min ll 60) 0 (newG w d h len 0 xs ls 0 sp)) (opsS cs (min ll 60) 0 (newG w d h len 0 xs ls 0 sp)) else none else none else none else none := by kernel_rfl

theorem eqPs_refl {l : List Pl} (h : l.length ≤ 1000) : eqPs l l = true := by
 unfold eqPs
 rw [sameL_refl, decide_eq_true h]
 simp
theorem eqSs_refl {l : List Sh} (h : l.length ≤ 1000) : eqSs l l = true := by
 unfold eqSs
 rw [sameS_refl, decide_eq_true h]
 simp
theorem ag_law {w d h : Int} {len ls ll : Nat} {xs : List Bool} {sp : List V3} {cs : List WOp} (a : MapA w d h len ls xs sp) (hc : cs.length = ll) :
    runK x16b (loopOf [lpoAg]) 300 5 Try.f5 0 [mapS w d h (.slice 0 1 0 len none) (.slice 1 3 0 ls none), .slice 2 12 0 ll none] [.vec true .bool xs, .vec true .vec sp, .vec true .wop cs] = some (.bool true, []) := by
 rw [ag_tree, a.sm1, cond_true]
 refine bif_law (fun _ => rfl) (fun hr => ?_)
 have hv := sm2_false hr
 have hi := a.inv hv
 have hn := opsS_inv cs (min ll 60) 0 0 _ hi (by omega)
 rw [a.newC, hv, agOk_iff.2 ⟨hi, rfl⟩, decide_eq_true (show ll ≤ cs.length by omega)]
 simp only [decide_true, Bool.and_true, cond_true]
 unfold endAg
 rw [eqPs_refl (by have := hn.few; simp; omega), eqSs_refl (by have := hn.shots; omega), decide_eq_true (show _ ≤ 1000 by have := hn.shots; omega)]
 simp

end Go.Proofs.Ytimkhidniolpeaa
