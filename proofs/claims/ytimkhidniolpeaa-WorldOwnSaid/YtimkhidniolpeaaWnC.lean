/- WorldOwn: the law. -/
import Derived.Test.YtimkhidniolpeaaWnB
namespace Go.Proofs.Ytimkhidniolpeaa
set_option linter.unusedSimpArgs false
set_option linter.unusedVariables false
set_option maxRecDepth 100000
set_option maxHeartbeats 0
open Go.RowKit

def flipN : Nat → List Bool → List Bool
 | 0, ys => ys
 | k + 1, ys => flipN k (ys.map (!·))
def incN : Nat → List V3 → List V3
 | 0, zs => zs
 | k + 1, zs => incN k (incX zs)
section
variable {w d h : Int} {len ls n1 n2 ll : Nat} {xs : List Bool} {sp : List V3} {cs : List WOp}
theorem wn_step {i : Nat} {s : WS} {ys : List Bool} {zs : List V3} (hc : ll ≤ cs.length) (hs : s.Inv i) (hl : s.mp.len ≤ 100000) (h1 : n1 = ys.length) (h2 : n1 ≤ 100000) (h3 : 1 ≤ n2) (h4 : 1 ≤ zs.length) (hi : i < min ll 40) :
    rdN (valN ll i) (rowN w d h len ls n1 n2 xs sp cs ys zs s s) = some (.tuple [.nilp, .tuple (valN ll ((i + 1 : Nat) : Int))], rowN w d h len ls n1 n2 xs sp cs (ys.map (!·)) (incX zs) (opS s (opN cs i)).1 (opS s (opN cs i)).1) := by
 have hf := hs.few
 have hsh := hs.shots
 have hsp := hs.sp
 have hcl : s.cells.length ≤ 100000 := hl
 obtain ⟨o1, o2⟩ := hs.op (by omega) (opN cs i)
 have hin : ∀ K : Option Res2, inL ll cs.length (i : Int) K = K := fun K => inL_true (by omega) (by omega)
 have ht : (bif decide ((i : Int) < (ll : Int)) == true then (bif true then decide ((i : Int) < 40) else false) else false) = true := by
  rw [decide_eq_true (show (i : Int) < (ll : Int) by omega), decide_eq_true (show (i : Int) < 40 by omega)]
  rfl
 have hd : diffB (opS s (opN cs i)) (opS s (opN cs i)) = false := by simp [diffB]
 have hrest : restN w d h len ls n1 n2 ll xs sp cs ys zs s s (i : Int) (opN cs i) = some (.tuple [.nilp, .tuple (valN ll ((i + 1 : Nat) : Int))], rowN w d h len ls n1 n2 xs sp cs (ys.map (!·)) (incX zs) (opS s (opN cs i)).1 (opS s (opN cs i)).1) := by
  have he : (s.ps.isEmpty == (s.ps.map PL.p).isEmpty) = true := by cases s.ps <;> rfl
  unfold restN
  rw [he, decide_eq_true (show (s.ps.map PL.p).length ≤ 1000 by simp; omega), decide_eq_true (show s.shots.length ≤ 1000 by omega), hin, hin, o1, hd, IntWalk.i64_in ((i : Int) + 1) (by omega)]
  simp
 rw [wn_round, ht, cond_true, decide_eq_true hcl, decide_eq_true (show s.spawns.length ≤ 1000 by omega), decide_eq_true (show s.shots.length ≤ 1000 by omega), decide_eq_true h1, decide_eq_true h2, in0_true h3 h4, in0_true h3 h4, hrest]
 cases hb : (bif decide ((s.cells.length : Int) > 0) == true then (bif true then decide ((s.spawns.length : Int) > 0) else false) else false) with
 | false => rfl
 | true =>
  rw [and_form] at hb
  simp only [cond_true, Bool.and_eq_true, decide_eq_true_eq] at hb
  rw [in0_true (by omega) (by omega), in0_true (by omega) (by omega), in0_true (by omega) (by omega), in0_true (by omega) (by omega)]
  rfl
theorem wn_loop (hc : ll ≤ cs.length) : ∀ (k i : Nat) (s : WS) (ys : List Bool) (zs : List V3), s.Inv i → s.mp.len ≤ 100000 → n1 = ys.length → n1 ≤ 100000 → 1 ≤ n2 → 1 ≤ zs.length → i + k = min ll 40 →
    LoopTo rdN (valN ll i) (rowN w d h len ls n1 n2 xs sp cs ys zs s s) (.exit 0) (valN ll ((min ll 40 : Nat) : Int)) (rowN w d h len ls n1 n2 xs sp cs (flipN k ys) (incN k zs) (opsS cs k i s) (opsS cs k i s))
 | 0, i, s, ys, zs, _, _, _, _, _, _, hi => by
  obtain rfl : i = min ll 40 := by omega
  refine .done ?_ (by simp)
  rw [wn_round, and_form, show (decide ((((min ll 40 : Nat)) : Int) < (ll : Int)) && (bif true then decide ((((min ll 40 : Nat)) : Int) < 40) else false)) = false by simp; omega, cond_false]
  rfl
 | k + 1, i, s, ys, zs, hs, hl, h1, h2, h3, h4, hi => by
  have hop := hs.op (by omega) (opN cs i)
  have hmp := (opS_counts hs (by omega) (opN cs i)).1
  exact .more (wn_step hc hs hl h1 h2 h3 h4 (by omega)) (wn_loop hc k (i + 1) _ _ _ hop.2 (by rw [hmp]; exact hl) (by simp [h1]) h2 h3 (by unfold incX; simp; omega) (by omega))
end
open Classical in
noncomputable def wnB (n1 n2 : Nat) (ys : List Bool) (zs : List V3) (s t : WS) : Bool := decide (s.Inv 0 ∧ t = s ∧ s.mp.len ≤ 100000 ∧ n1 = ys.length ∧ n1 ≤ 100000 ∧ 1 ≤ n2 ∧ 1 ≤ zs.length)
open Classical in
theorem wnB_iff {n1 n2 : Nat} {ys : List Bool} {zs : List V3} {s t : WS} : wnB n1 n2 ys zs s t = true ↔ s.Inv 0 ∧ t = s ∧ s.mp.len ≤ 100000 ∧ n1 = ys.length ∧ n1 ≤ 100000 ∧ 1 ≤ n2 ∧ 1 ≤ zs.length := by unfold wnB; exact decide_eq_true_iff
noncomputable def outN1 (v : List SV) (R : List Row) (k : Ex → List SV → List Row → Option Res2) : Option Res2 := match v, R with
 | [.slice 2 12 0 ll none, .ptr 3 0 0 0, .bool false, .bool true, .ptr 4 0 0 0, .ptr 9 0 0 0, .ptr 10 0 0 0, .int .i64 i],
  [.vec true .bool xs, .vec true .vec sp, .vec true .wop cs, .own [.int .i64 w, .int .i64 d, .int .i64 h, .slice 0 1 0 len none, .slice 1 3 0 ls none], .own [.int .i64 w2, .int .i64 d2, .int .i64 h2, .slice 6 1 0 n1 none, .slice 8 3 0 n2 none], .gone, .vec false .bool ys, .gone, .vec false .vec zs, .obj s, .obj t] =>
   bif decide (i = 0) && (decide (ll ≤ cs.length) && ((decide (w2 = w) && (decide (d2 = d) && decide (h2 = h))) && wnB n1 n2 ys zs s t)) then
    k (.exit 0) (valN ll ((min ll 40 : Nat) : Int)) (rowN w d h len ls n1 n2 xs sp cs (flipN (min ll 40) ys) (incN (min ll 40) zs) (opsS cs (min ll 40) 0 s) (opsS cs (min ll 40) 0 s)) else none
 | _, _ => none
theorem lpoN1_ok : LpOk 7 [0, 1, 0, 1, 1, 1, 1, 1, 1, 1, 1, 1] (loopF 173 [1, 2, 4, 5, 6, 7, 9, 11] outN1) := by
 intro b hat s K r h
 refine loopFQ_ok (L := loopOf [lpoN2, lpoN3, lpoN4]) (fuel := 100) x16n_ok loopOf_ok hat (fun v R k r hr => ?_) h
 have hbody := at_body Try.func7 hat
 subst hbody
 unfold outN1 at hr
 split at hr
 · obtain ⟨hb, hr2⟩ := cond_some hr
   rw [Bool.and_eq_true, decide_eq_true_eq, Bool.and_eq_true, decide_eq_true_eq, Bool.and_eq_true, Bool.and_eq_true, Bool.and_eq_true, decide_eq_true_eq, decide_eq_true_eq, decide_eq_true_eq] at hb
   obtain ⟨rfl, h2, ⟨rfl, rfl, rfl⟩, h3⟩ := hb
   obtain ⟨g1, rfl, g2, g3, g4, g5, g6⟩ := wnB_iff.1 h3
   exact ⟨_, _, _, hr2, wn_loop h2 _ 0 _ _ _ g1 g2 g3 g4 g5 g6 (Nat.zero_add _)⟩
 · cases hr
noncomputable def lpoN1 : Lpo := ⟨_, _, _, lpoN1_ok⟩

end Go.Proofs.Ytimkhidniolpeaa
