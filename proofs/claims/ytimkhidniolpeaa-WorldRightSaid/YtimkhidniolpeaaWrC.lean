/- WorldRight: the law. -/
import Derived.Test.YtimkhidniolpeaaWrB
namespace Go.Proofs.Ytimkhidniolpeaa
set_option linter.unusedSimpArgs false
set_option linter.unusedVariables false
set_option maxRecDepth 100000
set_option maxHeartbeats 0
open Go.RowKit

theorem fireL_counts {s : WS} {id k : Int} {d : V3} {ahead : Int} : ∀ (ps pre : List PL), (fireL s id k d ahead pre ps).1.given = s.given ∧ (fireL s id k d ahead pre ps).1.mp = s.mp ∧
    ((fireL s id k d ahead pre ps).2.2 = 0 → (fireL s id k d ahead pre ps).2.1 = IntKind.i64.wrap (s.fired + 1) ∧ (fireL s id k d ahead pre ps).1.fired = IntKind.i64.wrap (s.fired + 1))
 | [], _ => ⟨rfl, rfl, fun h => by cases h⟩
 | p :: ps, pre => by
  rw [fireL]
  cases hid : p.p.id == id with
  | false => exact fireL_counts ps (pre ++ [p])
  | true =>
   simp only [cond_true]
   unfold fire1
   cases hn : newE k d != 0 with
   | true => exact ⟨rfl, rfl, fun h => by rw [bne_iff_ne] at hn; exact absurd h hn⟩
   | false =>
   cases he : (fireP p.p k).2 != 0 with
   | true => exact ⟨rfl, rfl, fun h => by rw [bne_iff_ne] at he; exact absurd h he⟩
   | false =>
   cases h64 : (s.shots.length : Int) == 64 with
   | true => exact ⟨rfl, rfl, fun h => by cases h⟩
   | false =>
    simp only [cond_false]
    have hz := (fliesF_len (fireB ahead).toNat 0 (firedS s pre p ps k) (fireSh s p id k d)).2
    have z1 : (zF (firedS s pre p ps k) (fireSh s p id k d) (fireB ahead)).1.given = s.given := by unfold zF; rw [hz]; rfl
    have z2 : (zF (firedS s pre p ps k) (fireSh s p id k d) (fireB ahead)).1.mp = s.mp := by unfold zF; rw [hz]; rfl
    have z3 : (zF (firedS s pre p ps k) (fireSh s p id k d) (fireB ahead)).1.fired = IntKind.i64.wrap (s.fired + 1) := by unfold zF; rw [hz]; rfl
    unfold fire2
    cases (zF (firedS s pre p ps k) (fireSh s p id k d) (fireB ahead)).2.2.1 with
    | true => exact ⟨z1, z2, fun _ => ⟨z3, z3⟩⟩
    | false => exact ⟨z1, z2, fun _ => ⟨z3, z3⟩⟩
theorem tickW_same (s : WS) : (tickW s).given = s.given ∧ (tickW s).fired = s.fired ∧ (tickW s).mp = s.mp := by
 unfold tickW stepAll
 rw [(fliesG_len s.shots (nowS s) []).2]
 exact ⟨rfl, rfl, rfl⟩
def gvB (o : WOp) (y : WS × Int × Int) : Bool := o.kind == 7 && y.2.2 == 0
def fdB (o : WOp) (y : WS × Int × Int) : Bool := (o.kind == 2 || o.kind == 3) && y.2.2 == 0
theorem opS_counts {k : Nat} {s : WS} (h : s.Inv k) (hk : k ≤ 1000) (o : WOp) : (opS s o).1.mp = s.mp ∧
    (gvB o (opS s o) = true → (opS s o).2.1 = s.given + 1 ∧ (opS s o).1.given = s.given + 1) ∧ (gvB o (opS s o) = false → (opS s o).1.given = s.given) ∧
    (fdB o (opS s o) = true → (opS s o).2.1 = s.fired + 1 ∧ (opS s o).1.fired = s.fired + 1) ∧ (fdB o (opS s o) = false → (opS s o).1.fired = s.fired) := by
 have wg : IntKind.i64.wrap (s.given + 1) = s.given + 1 := IntWalk.i64_in _ (by have := h.given; omega)
 have wf : IntKind.i64.wrap (s.fired + 1) = s.fired + 1 := IntWalk.i64_in _ (by have := h.fired; omega)
 unfold gvB fdB opS
 cases h1 : o.kind == 0 || o.kind == 1 with
 | true =>
  have e7 : (o.kind == 7) = false := by simp only [Bool.or_eq_true, beq_iff_eq] at h1; rw [beq_eq_false_iff_ne]; omega
  have e2 : (o.kind == 2 || o.kind == 3) = false := by simp only [Bool.or_eq_true, beq_iff_eq] at h1; simp only [Bool.or_eq_false_iff, beq_eq_false_iff_ne]; omega
  rw [e7, e2]
  exact ⟨rfl, (fun h => by cases h), fun _ => rfl, (fun h => by cases h), fun _ => rfl⟩
 | false =>
 cases h2 : o.kind == 2 || o.kind == 3 with
 | true =>
  have e7 : (o.kind == 7) = false := by simp only [Bool.or_eq_true, beq_iff_eq] at h2; rw [beq_eq_false_iff_ne]; omega
  obtain ⟨c1, c2, c3⟩ := fireL_counts (s := s) (id := o.player) (k := o.shot) (d := o.dir) (ahead := o.ahead) s.ps []
  rw [wf] at c3
  rw [e7]
  refine ⟨c2, (fun h => by cases h), fun _ => c1, fun h => c3 ?_, fun h => ?_⟩
  · have h : (fireS s o.player o.shot o.dir o.ahead).2.2 = 0 := by simpa using h
    exact h
  have hne : (fireS s o.player o.shot o.dir o.ahead).2.2 ≠ 0 := by simpa using h
  have := (fireL_refused (ps := s.ps) (pre := []) hne).1
  show (fireL s o.player o.shot o.dir o.ahead [] s.ps).1.fired = s.fired
  rw [this]
 | false =>
 cases h3 : o.kind == 4 || (o.kind == 5 || o.kind == 6) with
 | true =>
  have e7 : (o.kind == 7) = false := by simp only [Bool.or_eq_true, beq_iff_eq] at h3; rw [beq_eq_false_iff_ne]; omega
  obtain ⟨t1, t2, t3⟩ := tickW_same s
  rw [e7]
  exact ⟨t3, (fun h => by cases h), fun _ => t1, (fun h => by cases h), fun _ => t2⟩
 | false =>
 cases h4 : o.kind == 7 with
 | true =>
  unfold joinW
  cases hf : fullB s with
  | true => exact ⟨rfl, (fun h => by cases h), fun _ => rfl, (fun h => by cases h), fun _ => rfl⟩
  | false =>
   refine ⟨rfl, fun _ => ⟨wg, wg⟩, fun h => ?_, (fun h => by cases h), fun _ => rfl⟩
   cases h
 | false =>
 cases h5 : o.kind == 8 with
 | true => exact ⟨rfl, (fun h => by cases h), fun _ => rfl, (fun h => by cases h), fun _ => rfl⟩
 | false => exact ⟨rfl, (fun h => by cases h), fun _ => rfl, (fun h => by cases h), fun _ => rfl⟩

theorem leftL_in {id : Int} : ∀ {ps : List PL}, (∀ p ∈ ps, 0 ≤ p.left ∧ p.left ≤ 16) → 0 ≤ leftL id ps ∧ leftL id ps ≤ 16
 | [], _ => ⟨Int.le_refl _, by simp [leftL]⟩
 | p :: ps, h => by
  rw [leftL]
  cases p.p.id == id with
  | true => exact h p (by simp)
  | false => exact leftL_in fun q hq => h q (by simp [hq])
theorem plN_get {ps : List PL} {k : Nat} (hk : k < (ps.map PL.p).length) : ∃ p, ps[k]? = some p ∧ plN (ps.map PL.p) (k : Int) = p.p := by
 have hk2 : k < ps.length := by simpa using hk
 refine ⟨ps[k], List.getElem?_eq_getElem hk2, ?_⟩
 have key : ∀ d : Pl, (ps.map PL.p).getD (0 + ((k : Int)).toNat) d = ps[k].p := by
  intro d
  rw [show 0 + ((k : Int)).toNat = k by omega, List.getD_eq_getElem?_getD, List.getElem?_map, List.getElem?_eq_getElem hk2]
  rfl
 exact key _
theorem shK_get {ts : List Sh} {k : Nat} (hk : k < ts.length) : shK ts (k : Int) = ts[k] := by
 have key : ∀ d : Sh, ts.getD (0 + ((k : Int)).toNat) d = ts[k] := by
  intro d
  rw [show 0 + ((k : Int)).toNat = k by omega, List.getD_eq_getElem?_getD, List.getElem?_eq_getElem hk]
  rfl
 exact key _
theorem goodP_of {k : Nat} {s : WS} (hi : s.Inv k) (hr : s.Rgt) : GoodP s.mp.free s s.given (s.ps.map PL.p) := by
 refine ⟨fun i h => ?_, fun i h => ?_, fun i h => ?_, fun i h => ?_, by have := hi.few; simp; omega⟩
 · obtain ⟨p, h1, h2⟩ := plN_get h
   rw [h2]
   exact fitsB_iff.2 (hi.ps p (List.mem_of_getElem? h1)).2.2
 · obtain ⟨p, h1, h2⟩ := plN_get h
   rw [h2]
   exact ⟨(hr.pls.ps p (List.mem_of_getElem? h1)).1, (hi.ps p (List.mem_of_getElem? h1)).2.1⟩
 · exact leftL_in fun q hq => (hr.pls.ps q hq).2
 · obtain ⟨p, h1, h2⟩ := plN_get (show i < (s.ps.map PL.p).length by omega)
   obtain ⟨q, h3, h4⟩ := plN_get h
   rw [h2, h4]
   have hp := hr.pls.ids
   unfold idsW at hp
   rw [List.pairwise_iff_getElem] at hp
   have hl : i + 1 < s.ps.length := by simpa using h
   have := hp i (i + 1) (by simp; omega) (by simp; omega) (by omega)
   simp only [List.getElem_map] at this
   rw [List.getElem?_eq_getElem (by omega)] at h1 h3
   cases h1
   cases h3
   exact this
theorem goodS_of {k : Nat} {s : WS} (hi : s.Inv k) (hr : s.Rgt) : GoodS s.fired s.shots := by
 refine ⟨fun i h => ?_, fun i h => ?_, by have := hi.shots; omega⟩
 · rw [shK_get h]
   exact ⟨hr.sh _ (List.getElem_mem _), hr.shf _ (List.getElem_mem _)⟩
 · rw [shK_get (show i < s.shots.length by omega), shK_get h]
   have hp := hr.shi
   rw [List.pairwise_iff_getElem] at hp
   have := hp i (i + 1) (by simp; omega) (by simp; omega) (by omega)
   simpa using this

section
variable {w d h : Int} {len ls ll : Nat} {xs : List Bool} {sp : List V3} {cs : List WOp}
structure WrI (w d h : Int) (len : Nat) (xs : List Bool) (k : Nat) (s : WS) (gv fd : Int) : Prop where
 inv : s.Inv k
 rgt : s.Rgt
 mp : s.mp = mpOf w d h len fun j => xs.getD (0 + j) false
 map : mapOk w d h len = true
 len : len ≤ xs.length
 gv : gv = s.given
 fd : fd = s.fired
theorem endO_ok {k i : Nat} {s : WS} {gv fd : Int} (j : WrI w d h len xs k s gv fd) (hi : i ≤ 1000) : endO w d h len ls ll xs sp cs gv fd i s = some (.tuple [.nilp, .tuple (valO ll gv fd ((i + 1 : Nat) : Int))], rowO w d h len ls xs sp cs s) := by
 have hf := j.inv.few
 have hs := j.inv.shots
 have h1 : goodPB w d h len xs s gv (s.ps.map PL.p).length (s.ps.map PL.p) = true := goodPB_iff.2 ⟨j.map, j.len, by rw [← j.mp, j.gv]; exact goodP_of j.inv j.rgt, rfl⟩
 have h2 : goodSB fd s.shots.length s.shots = true := goodSB_iff.2 ⟨by rw [j.fd]; exact goodS_of j.inv j.rgt, rfl⟩
 unfold endO
 rw [h1, h2, decide_eq_true (show s.shots.length ≤ 1000 by omega), decide_eq_false (show ¬ (((s.ps.map PL.p).length : Nat) : Int) > 8 by simp; omega), decide_eq_false (show ¬ ((s.shots.length : Nat) : Int) > 64 by omega), IntWalk.i64_in ((i : Int) + 1) (by omega)]
 rfl
theorem wr_step {i : Nat} {s : WS} {gv fd : Int} (hc : ll ≤ cs.length) (j : WrI w d h len xs i s gv fd) (hi : i < min ll 80) : ∃ s' gv' fd', WrI w d h len xs (i + 1) s' gv' fd' ∧
    rdO (valO ll gv fd i) (rowO w d h len ls xs sp cs s) = some (.tuple [.nilp, .tuple (valO ll gv' fd' ((i + 1 : Nat) : Int))], rowO w d h len ls xs sp cs s') := by
 have hg := j.inv.given
 have hfi := j.inv.fired
 obtain ⟨h1, h2⟩ := j.inv.op (by omega) (opN cs i)
 have h3 := j.rgt.op j.inv (by omega) (opN cs i)
 obtain ⟨c0, c1, c2, c3, c4⟩ := opS_counts j.inv (by omega) (opN cs i)
 have hin : ∀ K : Option Res2, inL ll cs.length (i : Int) K = K := fun K => inL_true (by omega) (by omega)
 have ht : (bif decide ((i : Int) < (ll : Int)) == true then (bif true then decide ((i : Int) < 80) else false) else false) = true := by
  rw [decide_eq_true (show (i : Int) < (ll : Int) by omega), decide_eq_true (show (i : Int) < 80 by omega)]
  rfl
 rw [wr_round, ht, cond_true, hin, h1, cond_true, hin]
 have hbt : btO ll cs (i : Int) (opN cs i) = true := by
  unfold btO
  rw [decide_eq_true (show (0 : Int) ≤ (i : Int) by omega), decide_eq_true (show (i : Int) < (ll : Int) by omega), decide_eq_true (show 0 + ((i : Int)).toNat < cs.length by omega)]
  cases (opN cs i).kind == 2 <;> rfl
 have e7 : (bif ((opN cs i).kind == 7) == true then (bif true then (opS s (opN cs i)).2.2 == 0 else false) else false) = gvB (opN cs i) (opS s (opN cs i)) := by unfold gvB; cases (opN cs i).kind == 7 <;> rfl
 have e2 : (bif (bif ((opN cs i).kind == 2) == false then (bif false then true else (opN cs i).kind == 3) else true) == true then (bif true then (opS s (opN cs i)).2.2 == 0 else false) else false) = fdB (opN cs i) (opS s (opN cs i)) := by unfold fdB; cases (opN cs i).kind == 2 <;> cases (opN cs i).kind == 3 <;> rfl
 have wg : IntKind.i64.wrap (gv + 1) = s.given + 1 := by rw [j.gv]; exact IntWalk.i64_in _ (by omega)
 have wf : IntKind.i64.wrap (fd + 1) = s.fired + 1 := by rw [j.fd]; exact IntWalk.i64_in _ (by omega)
 have fin : ∀ gv', gv' = (opS s (opN cs i)).1.given → ∃ s' gv2 fd', WrI w d h len xs (i + 1) s' gv2 fd' ∧
     fireO w d h len ls ll xs sp cs gv' fd i (opN cs i) (opS s (opN cs i)) = some (.tuple [.nilp, .tuple (valO ll gv2 fd' ((i + 1 : Nat) : Int))], rowO w d h len ls xs sp cs s') := by
  intro gv' hgv
  unfold fireO
  rw [hin, hbt, cond_true, e2, wf]
  cases hb : fdB (opN cs i) (opS s (opN cs i)) with
  | true =>
   obtain ⟨a1, a2⟩ := c3 hb
   rw [a1, bne_self_eq_false]
   have jj : WrI w d h len xs (i + 1) (opS s (opN cs i)).1 gv' (s.fired + 1) := ⟨h2, h3, c0.trans j.mp, j.map, j.len, hgv, a2.symm⟩
   exact ⟨_, _, _, jj, endO_ok jj (by omega)⟩
  | false =>
   have jj : WrI w d h len xs (i + 1) (opS s (opN cs i)).1 gv' fd := ⟨h2, h3, c0.trans j.mp, j.map, j.len, hgv, j.fd.trans (c4 hb).symm⟩
   exact ⟨_, _, _, jj, endO_ok jj (by omega)⟩
 unfold joinO
 rw [e7, wg]
 cases hb : gvB (opN cs i) (opS s (opN cs i)) with
 | true =>
  obtain ⟨a1, a2⟩ := c1 hb
  rw [a1, bne_self_eq_false]
  exact fin _ a2.symm
 | false => exact fin _ (j.gv.trans (c2 hb).symm)
theorem wr_loop (hc : ll ≤ cs.length) : ∀ (k i : Nat) (s : WS) (gv fd : Int), WrI w d h len xs i s gv fd → i + k = min ll 80 →
    ∃ s' gv' fd', LoopTo rdO (valO ll gv fd i) (rowO w d h len ls xs sp cs s) (.exit 0) (valO ll gv' fd' ((min ll 80 : Nat) : Int)) (rowO w d h len ls xs sp cs s')
 | 0, i, s, gv, fd, _, hi => by
  obtain rfl : i = min ll 80 := by omega
  refine ⟨s, gv, fd, .done ?_ (by simp)⟩
  have ht : (bif decide (((min ll 80 : Nat) : Int) < (ll : Int)) == true then (bif true then decide (((min ll 80 : Nat) : Int) < 80) else false) else false) = false := by
   rw [and_form]; simp; omega
  rw [wr_round, ht, cond_false]
  rfl
 | k + 1, i, s, gv, fd, j, hi => by
  obtain ⟨s1, g1, f1, j1, r1⟩ := wr_step (ls := ls) (sp := sp) hc j (by omega)
  obtain ⟨s', g', f', hl⟩ := wr_loop hc k (i + 1) s1 g1 f1 j1 (by omega)
  exact ⟨s', g', f', .more r1 hl⟩
end
open Classical in
noncomputable def wrB (w d h : Int) (len : Nat) (xs : List Bool) (s : WS) (gv fd : Int) : Bool := decide (WrI w d h len xs 0 s gv fd)
open Classical in
theorem wrB_iff {w d h : Int} {len : Nat} {xs : List Bool} {s : WS} {gv fd : Int} : wrB w d h len xs s gv fd = true ↔ WrI w d h len xs 0 s gv fd := by unfold wrB; exact decide_eq_true_iff
noncomputable def finO (w d h : Int) (len ls ll : Nat) (xs : List Bool) (sp : List V3) (cs : List WOp) (s : WS) (gv fd : Int) : WS × Int × Int :=
 @Classical.epsilon (WS × Int × Int) ⟨(⟨0, 0, 0, [], [], 0, [], [], 0, 0⟩, 0, 0)⟩ fun z => LoopTo rdO (valO ll gv fd 0) (rowO w d h len ls xs sp cs s) (.exit 0) (valO ll z.2.1 z.2.2 ((min ll 80 : Nat) : Int)) (rowO w d h len ls xs sp cs z.1)
noncomputable def outO (v : List SV) (R : List Row) (k : Ex → List SV → List Row → Option Res2) : Option Res2 := match v, R with
 | [.slice 2 12 0 ll none, .ptr 3 0 0 0, .bool false, .bool true, .ptr 4 0 0 0, .int .i64 gv, .int .i64 fd, .int .i64 i],
  [.vec true .bool xs, .vec true .vec sp, .vec true .wop cs, .own [.int .i64 w, .int .i64 d, .int .i64 h, .slice 0 1 0 len none, .slice 1 3 0 ls none], .obj s] =>
   bif decide (i = 0) && (decide (ll ≤ cs.length) && wrB w d h len xs s gv fd) then
    k (.exit 0) (valO ll (finO w d h len ls ll xs sp cs s gv fd).2.1 (finO w d h len ls ll xs sp cs s gv fd).2.2 ((min ll 80 : Nat) : Int)) (rowO w d h len ls xs sp cs (finO w d h len ls ll xs sp cs s gv fd).1) else none
 | _, _ => none
theorem lpoO_ok : LpOk 9 [0, 1, 0, 1, 1, 1, 1, 1, 1, 1] (loopF 294 [1, 2, 4, 5, 6, 8, 9, 10] outO) := by
 intro b hat s K r h
 refine loopFQ_ok (L := loopOf [lpoR1, lpoR2]) (fuel := 100) x16r_ok loopOf_ok hat (fun v R k r hr => ?_) h
 have hbody := at_body Try.func9 hat
 subst hbody
 unfold outO at hr
 split at hr
 · rename_i ll gv fd i xs sp cs w d h len ls s
   obtain ⟨hb, hr2⟩ := cond_some hr
   rw [Bool.and_eq_true, decide_eq_true_eq, Bool.and_eq_true, decide_eq_true_eq] at hb
   obtain ⟨rfl, h2, h3⟩ := hb
   obtain ⟨s', g', f', hl⟩ := wr_loop (ls := ls) (sp := sp) h2 (min ll 80) 0 s gv fd (wrB_iff.1 h3) (by omega)
   exact ⟨_, _, _, hr2, Classical.epsilon_spec (p := fun z : WS × Int × Int => LoopTo rdO (valO ll gv fd 0) (rowO w d h len ls xs sp cs s) (.exit 0) (valO ll z.2.1 z.2.2 ((min ll 80 : Nat) : Int)) (rowO w d h len ls xs sp cs z.1)) ⟨(s', g', f'), hl⟩⟩
 · cases hr
noncomputable def lpoO : Lpo := ⟨_, _, _, lpoO_ok⟩

theorem wr_tree (w d h : Int) (len ls ll : Nat) (xs : List Bool) (sp : List V3) (cs : List WOp) : runK x16r (loopOf [lpoO]) 300 9 Try.f9 0 [mapS w d h (.slice 0 1 0 len none) (.slice 1 3 0 ls none), .slice 2 12 0 ll none] [.vec true .bool xs, .vec true .vec sp, .vec true .wop cs] =
 bif sm1 w d h len ls xs sp then bif sm2 w d h len ls xs sp then some (.bool true, []) else
 bif newC w d h len 0 xs ls 0 sp && newV w d h len 0 xs ls 0 sp then
 bif decide ((0 : Int) = 0) && (decide (ll ≤ cs.length) && wrB w d h len xs (newG w d h len 0 xs ls 0 sp) 0 0) then some (.bool true, []) else none else none else none := by kernel_rfl
theorem wr_law {w d h : Int} {len ls ll : Nat} {xs : List Bool} {sp : List V3} {cs : List WOp} (m : MapA w d h len ls xs sp) (hc : cs.length = ll) :
    runK x16r (loopOf [lpoO]) 300 9 Try.f9 0 [mapS w d h (.slice 0 1 0 len none) (.slice 1 3 0 ls none), .slice 2 12 0 ll none] [.vec true .bool xs, .vec true .vec sp, .vec true .wop cs] = some (.bool true, []) := by
 rw [wr_tree, m.sm1, cond_true]
 refine bif_law (fun _ => rfl) (fun hr => ?_)
 have hv := sm2_false hr
 have hi := m.inv hv
 have hmap : mapOk w d h len = true := by
  have := m.newC
  unfold newC at this
  simp only [Bool.and_eq_true] at this
  exact this.1
 have hmp : (newG w d h len 0 xs ls 0 sp).mp = mpOf w d h len fun j => xs.getD (0 + j) false := by
  unfold WS.mp newG
  have : (xs.drop 0).take len = xs := by rw [List.drop_zero, ← m.ix, List.take_length]
  simp only [this, m.ix]
 have hb : wrB w d h len xs (newG w d h len 0 xs ls 0 sp) 0 0 = true := wrB_iff.2 ⟨hi, rgt_new m.ix m.isp hv, hmp, hmap, by have := m.ix; omega, rfl, rfl⟩
 rw [m.newC, hv, decide_eq_true (show ll ≤ cs.length by omega), hb]
 rfl

end Go.Proofs.Ytimkhidniolpeaa
