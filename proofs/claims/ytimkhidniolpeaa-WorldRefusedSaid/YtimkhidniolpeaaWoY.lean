/- WorldRefused: the law's loop and call. -/
import Derived.Test.YtimkhidniolpeaaWoW
namespace Go.Proofs.Ytimkhidniolpeaa
set_option linter.unusedSimpArgs false
set_option linter.unusedVariables false
set_option maxRecDepth 100000
set_option maxHeartbeats 0
open Go.RowKit

def valRf (ll : Nat) (i : Int) : List SV := [.slice 2 12 0 ll none, .ptr 3 0 0 0, .ptr 4 0 0 0, .bool false, .bool true, .ptr 5 0 0 0, .int .i64 i]
def rowRf (w d h : Int) (len ls : Nat) (xs : List Bool) (sp : List V3) (cs : List WOp) (o : WOp) (s : WS) : List Row := [.vec true .bool xs, .vec true .vec sp, .vec true .wop cs, .own [.int .i64 w, .int .i64 d, .int .i64 h, .slice 0 1 0 len none, .slice 1 3 0 ls none], .own o.sv, .obj s]
noncomputable def rdRf : List SV → List Row → Option Res2 := roundS x16b (fun _ _ => none) 100 8 [0, 1, 0, 1, 1, 1, 1, 1] (bodyAt Try.f8 [0, 1, 0, 1, 1, 1, 1, 1]) 88 6 [1, 3, 5, 6, 7, 8, 10]
theorem rf_round (w d h : Int) (len ls ll : Nat) (xs : List Bool) (sp : List V3) (cs : List WOp) (o : WOp) (s : WS) (i : Int) : rdRf (valRf ll i) (rowRf w d h len ls xs sp cs o s) =
 bif bif decide (i < (ll : Int)) == true then (bif true then decide (i < 40) else false) else false then
 bif decide (0 ≤ i) && decide (i < (ll : Int)) then
 bif decide (0 + i.toNat < cs.length) then
 bif opOk s (opN cs i) then some (.tuple [.nilp, .tuple (valRf ll (IntKind.i64.wrap (i + 1)))], rowRf w d h len ls xs sp cs o (opS s (opN cs i)).1)
 else none else none else none
 else some (.tuple [.ptr 0 0 0 0, .tuple (valRf ll i)], rowRf w d h len ls xs sp cs o s) := by kernel_rfl

theorem rf_loop {w d h : Int} {len ls ll : Nat} {xs : List Bool} {sp : List V3} {cs : List WOp} {o : WOp} (hc : ll ≤ cs.length) : ∀ (k i : Nat) (s : WS), s.Inv i → i + k = min ll 40 →
    LoopTo rdRf (valRf ll i) (rowRf w d h len ls xs sp cs o s) (.exit 0) (valRf ll ((min ll 40 : Nat) : Int)) (rowRf w d h len ls xs sp cs o (opsS cs k i s))
 | 0, i, s, hs, hi => by
  obtain rfl : i = min ll 40 := by omega
  refine .done ?_ (by simp)
  rw [rf_round, and_form, show (decide ((((min ll 40 : Nat)) : Int) < (ll : Int)) && (bif true then decide ((((min ll 40 : Nat)) : Int) < 40) else false)) = false by simp; omega, cond_false]
  rfl
 | k + 1, i, s, hs, hi => by
  have hro := rf_round w d h len ls ll xs sp cs o s i
  obtain ⟨h1, h2⟩ := hs.op (by omega) (opN cs i)
  have e1 : ((i : Int)).toNat = i := by omega
  rw [e1, and_form, decide_eq_true (show (i : Int) < (ll : Int) by omega), decide_eq_true (show (i : Int) < 40 by omega), decide_eq_true (show (0 : Int) ≤ (i : Int) by omega), decide_eq_true (show 0 + i < cs.length by omega), h1, IntWalk.i64_in ((i : Int) + 1) (by omega)] at hro
  simp only [Bool.and_true, cond_true, cond_false] at hro
  exact .more hro (rf_loop hc k (i + 1) _ h2 (by omega))

noncomputable def outRf (v : List SV) (R : List Row) (k : Ex → List SV → List Row → Option Res2) : Option Res2 := match v, R with
 | [.slice 2 12 0 ll none, .ptr 3 0 0 0, .ptr 4 0 0 0, .bool false, .bool true, .ptr 5 0 0 0, .int .i64 i],
  [.vec true .bool xs, .vec true .vec sp, .vec true .wop cs, .own [.int .i64 w, .int .i64 d, .int .i64 h, .slice 0 1 0 len none, .slice 1 3 0 ls none], .own co, .obj s] => match dWOp co with
   | some o => bif decide (i = 0) && (decide (ll ≤ cs.length) && invB s) then
    k (.exit 0) (valRf ll ((min ll 40 : Nat) : Int)) (rowRf w d h len ls xs sp cs o (opsS cs (min ll 40) 0 s)) else none
   | none => none
 | _, _ => none
theorem lpoRf_ok : LpOk 8 [0, 1, 0, 1, 1, 1, 1, 1] (loopF 88 [1, 3, 5, 6, 7, 8, 10] outRf) := by
 intro b hat s K r h
 refine loopF_ok (fuel := 100) x16b_ok lok_none hat (fun v R k r hr => ?_) h
 have hbody := at_body Try.func8 hat
 subst hbody
 unfold outRf at hr
 split at hr
 · split at hr
   · rename_i o ho
     obtain ⟨hb, hr2⟩ := cond_some hr
     simp only [Bool.and_eq_true, decide_eq_true_eq, invB_iff] at hb
     obtain ⟨h1, h2, h3⟩ := hb
     subst h1
     rw [dWOp_sv ho]
     exact ⟨_, _, _, hr2, rf_loop h2 _ 0 _ h3 (by omega)⟩
   · cases hr
 · cases hr
noncomputable def lpoRf : Lpo := ⟨_, _, _, lpoRf_ok⟩

theorem fireL_refused {s : WS} {id k : Int} {d : V3} {ahead : Int} : ∀ {ps pre : List PL}, (fireL s id k d ahead pre ps).2.2 ≠ 0 → (fireL s id k d ahead pre ps).1 = s ∧ (fireL s id k d ahead pre ps).2.1 = 0
 | [], _, _ => ⟨rfl, rfl⟩
 | p :: ps, pre, h => by
  rw [fireL] at h ⊢
  cases hid : p.p.id == id with
  | false =>
   rw [hid] at h
   exact fireL_refused h
  | true =>
   rw [hid] at h
   simp only [cond_true] at h ⊢
   unfold fire1 at h ⊢
   cases hn : newE k d != 0 with
   | true => exact ⟨rfl, rfl⟩
   | false =>
   cases he : (fireP p.p k).2 != 0 with
   | true => exact ⟨rfl, rfl⟩
   | false =>
   cases h64 : (s.shots.length : Int) == 64 with
   | true => exact ⟨rfl, rfl⟩
   | false =>
    rw [hn, he, h64] at h
    simp only [cond_false] at h
    exfalso
    refine h ?_
    unfold fire2
    cases (zF (firedS s pre p ps k) (fireSh s p id k d) (fireB ahead)).2.2.1 <;> rfl
theorem leave_refused {s : WS} {id : Int} (h : thereB id s.ps = false) : leaveW s id = s := by
 unfold leaveW
 have : s.ps.filter (fun p => !(p.p.id == id)) = s.ps := by
  rw [List.filter_eq_self]
  intro p hp
  unfold thereB at h
  rw [List.any_eq_false] at h
  have := h p hp
  simpa using this
 rw [this]
theorem refused {s : WS} {o : WOp} (h : (opS s o).2.2 ≠ 0) : (opS s o).1 = s ∧ (opS s o).2.1 = 0 := by
 unfold opS at h ⊢
 cases h1 : o.kind == 0 || o.kind == 1 with
 | true =>
  rw [h1] at h
  refine ⟨?_, rfl⟩
  show doS s o.player o.cmd = s
  unfold doS
  rw [doL_refused h]
 | false =>
 cases h2 : o.kind == 2 || o.kind == 3 with
 | true => rw [h1, h2] at h; exact fireL_refused h
 | false =>
 cases h3 : o.kind == 4 || (o.kind == 5 || o.kind == 6) with
 | true => rw [h1, h2, h3] at h; exact absurd rfl h
 | false =>
 cases h4 : o.kind == 7 with
 | true =>
  rw [h1, h2, h3, h4] at h
  simp only [cond_true, cond_false] at h ⊢
  unfold joinW
  cases hf : fullB s with
  | true => exact ⟨rfl, rfl⟩
  | false => rw [hf] at h; exact absurd rfl h
 | false =>
 cases h5 : o.kind == 8 with
 | true =>
  rw [h1, h2, h3, h4, h5] at h
  simp only [cond_true, cond_false] at h ⊢
  refine ⟨leave_refused ?_, trivial⟩
  cases ht : thereB o.player s.ps with
  | true => rw [ht] at h; exact absurd rfl h
  | false => rfl
 | false => exact ⟨rfl, rfl⟩

noncomputable def endRf (z : WS) (o : WOp) (y : WS × Int × Int) : Option Res2 :=
 bif decide (z.shots.length ≤ 1000) then bif opOk z o then bif y.2.2 == 0 then some (.bool true, []) else
  bif bif true == true then (bif true then y.2.1 == 0 else false) else false then
  bif eqPg (y.1.ps.map PL.p) (z.ps.map PL.p) then bif decide (y.1.shots.length ≤ 1000) then bif eqSg y.1.shots z.shots then
  some (.bool (bif true == true then (bif true then leftL o.player y.1.ps == leftL o.player z.ps else false) else false), []) else none else none else none else some (.bool false, []) else none else none
theorem rf_tree (w d h : Int) (len ls ll : Nat) (xs : List Bool) (sp : List V3) (cs : List WOp) (o : WOp) : runK x16b (loopOf [lpoRf]) 300 8 Try.f8 0 [mapS w d h (.slice 0 1 0 len none) (.slice 1 3 0 ls none), .slice 2 12 0 ll none, .agg o.sv] [.vec true .bool xs, .vec true .vec sp, .vec true .wop cs] =
 bif sm1 w d h len ls xs sp then bif sm2 w d h len ls xs sp then some (.bool true, []) else
 bif newC w d h len 0 xs ls 0 sp && newV w d h len 0 xs ls 0 sp then
 bif decide ((0 : Int) = 0) && (decide (ll ≤ cs.length) && invB (newG w d h len 0 xs ls 0 sp)) then endRf (opsS cs (min ll 40) 0 (newG w d h len 0 xs ls 0 sp)) o (opS (opsS cs (min ll 40) 0 (newG w d h len 0 xs ls 0 sp)) o) else none else none else none := by kernel_rfl

theorem rf_law {w d h : Int} {len ls ll : Nat} {xs : List Bool} {sp : List V3} {cs : List WOp} {o : WOp} (a : MapA w d h len ls xs sp) (hc : cs.length = ll) :
    runK x16b (loopOf [lpoRf]) 300 8 Try.f8 0 [mapS w d h (.slice 0 1 0 len none) (.slice 1 3 0 ls none), .slice 2 12 0 ll none, .agg o.sv] [.vec true .bool xs, .vec true .vec sp, .vec true .wop cs] = some (.bool true, []) := by
 rw [rf_tree, a.sm1, cond_true]
 refine bif_law (fun _ => rfl) (fun hr => ?_)
 have hv := sm2_false hr
 have hi := a.inv hv
 have hn := opsS_inv cs (min ll 40) 0 0 _ hi (by omega)
 rw [a.newC, hv, invB_iff.2 hi, decide_eq_true (show ll ≤ cs.length by omega)]
 simp only [decide_true, Bool.and_true, cond_true]
 have hf := hn.few
 have hs := hn.shots
 unfold endRf
 rw [(hn.op (by omega) o).1, decide_eq_true (show _ ≤ 1000 by omega)]
 simp only [cond_true]
 refine bif_law (fun _ => rfl) (fun h0 => ?_)
 obtain ⟨e1, e2⟩ := refused (s := opsS cs (min ll 40) 0 (newG w d h len 0 xs ls 0 sp)) (o := o) (by simpa using h0)
 rw [e1, e2, eqPg_refl (by simp; omega), eqSg_refl (by omega), decide_eq_true (show _ ≤ 1000 by omega)]
 simp

end Go.Proofs.Ytimkhidniolpeaa
