/- WorldRight: the law's loops and call. -/
import Derived.Test.YtimkhidniolpeaaWrA
import Derived.Test.YtimkhidniolpeaaVmRw
import Derived.Test.YtimkhidniolpeaaVmNq
namespace Go.Proofs.Ytimkhidniolpeaa
set_option linter.unusedSimpArgs false
set_option linter.unusedVariables false
set_option maxRecDepth 100000
set_option maxHeartbeats 0
open Go.RowKit

noncomputable def x16r : Ctx := ctxOfO [11] [orcShown16, orcRight, orcRw] [orcNewG, orcLeftW, orcPlayersW, orcShotsW, orcDoes]
theorem x16r_ok : COk Try.prog x16r := ctxOfO_ok (by kernel_rfl)

def valR (ll np ns : Nat) (gv fd i k : Int) : List SV := [.slice 2 12 0 ll none, .ptr 3 0 0 0, .bool false, .bool true, .ptr 4 0 0 0, .int .i64 gv, .int .i64 fd, .int .i64 i, .ptr 5 0 0 0, .slice 6 15 0 np none, .slice 7 11 0 ns none, .int .i64 k]
def rowR (w d h : Int) (len ls : Nat) (xs : List Bool) (sp : List V3) (cs : List WOp) (s : WS) (ra rb : Int) (ps : List Pl) (ts : List Sh) : List Row := [.vec true .bool xs, .vec true .vec sp, .vec true .wop cs, .own [.int .i64 w, .int .i64 d, .int .i64 h, .slice 0 1 0 len none, .slice 1 3 0 ls none], .obj s, .own [.int .i64 ra, .int .i64 rb], .vec true .pl ps, .vec true .sh ts]
noncomputable def rdR1 : List SV → List Row → Option Res2 := roundQ x16r (fun _ _ => none) 100 9 [0, 1, 0, 1, 1, 1, 1, 1, 1, 0, 0, 1, 0, 0, 1, 0, 1, 1, 1, 1, 1, 1, 1] (bodyAt Try.f9 [0, 1, 0, 1, 1, 1, 1, 1, 1, 0, 0, 1, 0, 0, 1, 0, 1, 1, 1, 1, 1, 1, 1]) 294 8 [1, 2, 4, 5, 6, 8, 9, 10, 11, 12, 13, 14]
noncomputable def rdR2 : List SV → List Row → Option Res2 := roundQ x16r (fun _ _ => none) 100 9 [0, 1, 1, 1, 1, 1, 1, 1, 1, 0, 0, 1, 0, 0, 1, 0, 1, 1, 1, 1, 1, 1, 1] (bodyAt Try.f9 [0, 1, 1, 1, 1, 1, 1, 1, 1, 0, 0, 1, 0, 0, 1, 0, 1, 1, 1, 1, 1, 1, 1]) 294 8 [1, 2, 4, 5, 6, 8, 9, 10, 11, 12, 13, 15]

section
variable (w d h : Int) (len ls ll np ns : Nat) (xs : List Bool) (sp : List V3) (cs : List WOp) (s : WS) (ra rb gv fd i k : Int) (ps : List Pl) (ts : List Sh)
def nextR : Option Res2 := some (.tuple [.nilp, .tuple (valR ll np ns gv fd i (IntKind.i64.wrap (k + 1)))], rowR w d h len ls xs sp cs s ra rb ps ts)
def exitR (e : Nat) : Option Res2 := some (.tuple [.ptr e 0 0 0, .tuple (valR ll np ns gv fd i k)], rowR w d h len ls xs sp cs s ra rb ps ts)
def restR (K : Option Res2) : Option Res2 := inL np ps.length k (orR (decide ((plN ps k).id > gv)) retR (inL np ps.length k (orR (decide ((plN ps k).health < 0)) retR (inL np ps.length k (orR (decide ((plN ps k).health > 100)) retR (inL np ps.length k (orR (decide ((plN ps k).a0 < 0)) retR (inL np ps.length k (orR (decide ((plN ps k).a1 < 0)) retR (inL np ps.length k (orR (decide ((plN ps k).a0 > 10)) retR (inL np ps.length k (orR (decide ((plN ps k).wait < 0)) retR (inL np ps.length k (orR (decide ((plN ps k).wait > 10)) retR (inL np ps.length k (orR (decide ((plN ps k).dead < 0)) retR (inL np ps.length k (orR (decide ((plN ps k).dead > 30)) retR (inL np ps.length k (inL np ps.length k (orR (!((plN ps k).health == 0) == decide ((plN ps k).dead > 0)) retR (inL np ps.length k (orR (decide (leftL (plN ps k).id s.ps < 0)) retR (inL np ps.length k (orR (decide (leftL (plN ps k).id s.ps > 16)) retR K))))))))))))))))))))))))))
end
theorem wr_round1 (w d h : Int) (len ls ll np ns : Nat) (xs : List Bool) (sp : List V3) (cs : List WOp) (s : WS) (ra rb gv fd i k : Int) (ps : List Pl) (ts : List Sh) : rdR1 (valR ll np ns gv fd i k) (rowR w d h len ls xs sp cs s ra rb ps ts) =
 bif decide (k < (np : Int)) then inL np ps.length k (
  bif mapOk w d h len && (fitsB (plN ps k).pos && decide (0 + len ≤ xs.length)) then
  bif !wRight (mpOf w d h len fun j => xs.getD (0 + j) false).free (plN ps k) then retR else
  bif decide (k > 0) then inL np ps.length (IntKind.i64.wrap (k - 1)) (inL np ps.length k (orR (bif true then decide ((plN ps (IntKind.i64.wrap (k - 1))).id ≥ (plN ps k).id) else false) retR (restR np s gv k ps (nextR w d h len ls ll np ns xs sp cs s ra rb gv fd i k ps ts))))
  else restR np s gv k ps (nextR w d h len ls ll np ns xs sp cs s ra rb gv fd i k ps ts)
  else none)
 else exitR w d h len ls ll np ns xs sp cs s ra rb gv fd i k ps ts 2 := by kernel_rfl
theorem wr_round2 (w d h : Int) (len ls ll np ns : Nat) (xs : List Bool) (sp : List V3) (cs : List WOp) (s : WS) (ra rb gv fd i k : Int) (ps : List Pl) (ts : List Sh) : rdR2 (valR ll np ns gv fd i k) (rowR w d h len ls xs sp cs s ra rb ps ts) =
 bif decide (k < (ns : Int)) then inL ns ts.length k (
  bif decide ((shK ts k).fuse < 1) then retR else
  bif decide (k > 0) then inL ns ts.length (IntKind.i64.wrap (k - 1)) (inL ns ts.length k (orR (bif true then decide ((shK ts (IntKind.i64.wrap (k - 1))).id ≥ (shK ts k).id) else false) retR
   (inL ns ts.length k (orR (decide ((shK ts k).id > fd)) retR (nextR w d h len ls ll np ns xs sp cs s ra rb gv fd i k ps ts)))))
  else inL ns ts.length k (orR (decide ((shK ts k).id > fd)) retR (nextR w d h len ls ll np ns xs sp cs s ra rb gv fd i k ps ts)))
 else exitR w d h len ls ll np ns xs sp cs s ra rb gv fd i k ps ts 4 := by kernel_rfl

section
variable {w d h : Int} {len ls ll np ns : Nat} {xs : List Bool} {sp : List V3} {cs : List WOp} {s : WS} {ra rb gv fd i : Int} {ps : List Pl} {ts : List Sh}
structure GoodP (F : V3 → Bool) (s : WS) (gv : Int) (ps : List Pl) : Prop where
 fit : ∀ k, k < ps.length → fitsB (plN ps (k : Int)).pos = true
 ok : ∀ k, k < ps.length → PlOk F (plN ps (k : Int)) ∧ (plN ps (k : Int)).id ≤ gv
 left : ∀ k, k < ps.length → 0 ≤ leftL (plN ps (k : Int)).id s.ps ∧ leftL (plN ps (k : Int)).id s.ps ≤ 16
 ids : ∀ k, k + 1 < ps.length → (plN ps (k : Int)).id < (plN ps ((k + 1 : Nat) : Int)).id
 few : ps.length ≤ 1000
theorem wr_step1 (hm : mapOk w d h len = true) (hl : len ≤ xs.length) (g : GoodP (mpOf w d h len fun j => xs.getD (0 + j) false).free s gv ps) (hn : np = ps.length) {k : Nat} (hk : k < np) :
    rdR1 (valR ll np ns gv fd i k) (rowR w d h len ls xs sp cs s ra rb ps ts) = some (.tuple [.nilp, .tuple (valR ll np ns gv fd i ((k + 1 : Nat) : Int))], rowR w d h len ls xs sp cs s ra rb ps ts) := by
 have hk2 : k < ps.length := by omega
 have hfew := g.few
 have hin : ∀ K : Option Res2, inL np ps.length (k : Int) K = K := fun K => inL_true hk hk2
 obtain ⟨p1, p2⟩ := g.ok k hk2
 obtain ⟨l1, l2⟩ := g.left k hk2
 have q1 := p1.health
 have q2 := p1.a0
 have q3 := p1.a1
 have q4 := p1.wait
 have q5 := p1.dead
 have q6 := p1.both
 have hb : (!((plN ps (k : Int)).health == 0) == decide ((plN ps (k : Int)).dead > 0)) = false := by
  rw [Bool.not_eq_false', beq_iff_eq, Bool.eq_iff_iff]
  simp only [beq_iff_eq, decide_eq_true_eq]
  exact q6
 have hrest : ∀ K, restR np s gv (k : Int) ps K = K := by
  intro K
  unfold restR
  simp only [hin]
  rw [orR_no (decide_eq_false (by omega)), orR_no (decide_eq_false (by omega)), orR_no (decide_eq_false (by omega)), orR_no (decide_eq_false (by omega)), orR_no (decide_eq_false (by omega)), orR_no (decide_eq_false (by omega)), orR_no (decide_eq_false (by omega)),
   orR_no (decide_eq_false (by omega)), orR_no (decide_eq_false (by omega)), orR_no (decide_eq_false (by omega)), orR_no hb, orR_no (decide_eq_false (by omega)), orR_no (decide_eq_false (by omega))]
 rw [wr_round1, decide_eq_true (show (k : Int) < (np : Int) by omega), hin, hm, g.fit k hk2, decide_eq_true (show 0 + len ≤ xs.length by omega), p1.right]
 simp only [cond_true, Bool.and_self, Bool.not_true, cond_false, hin, hrest]
 have hnx : nextR w d h len ls ll np ns xs sp cs s ra rb gv fd i (k : Int) ps ts = some (.tuple [.nilp, .tuple (valR ll np ns gv fd i ((k + 1 : Nat) : Int))], rowR w d h len ls xs sp cs s ra rb ps ts) := by
  unfold nextR
  rw [IntWalk.i64_in ((k : Int) + 1) (by omega)]
  rfl
 rw [hnx]
 cases hk0 : decide ((k : Int) > 0) with
 | false => rfl
 | true =>
  have hk0 := of_decide_eq_true hk0
  obtain ⟨j, rfl⟩ : ∃ j, k = j + 1 := ⟨k - 1, by omega⟩
  have hw : IntKind.i64.wrap (((j + 1 : Nat) : Int) - 1) = (j : Int) := by rw [IntWalk.i64_in _ (by omega)]; omega
  have hid := g.ids j (by omega)
  rw [hw, inL_true (by omega) (by omega), orR_no (decide_eq_false (by omega))]
  rfl
theorem wr_loop1 (hm : mapOk w d h len = true) (hl : len ≤ xs.length) (g : GoodP (mpOf w d h len fun j => xs.getD (0 + j) false).free s gv ps) (hn : np = ps.length) : ∀ (n k : Nat), k + n = np →
    LoopTo rdR1 (valR ll np ns gv fd i k) (rowR w d h len ls xs sp cs s ra rb ps ts) (.exit 2) (valR ll np ns gv fd i (np : Int)) (rowR w d h len ls xs sp cs s ra rb ps ts)
 | 0, k, hk => by
  obtain rfl : k = np := by omega
  refine .done ?_ (by simp)
  rw [wr_round1, decide_eq_false (show ¬ (k : Int) < (k : Int) by omega)]
  rfl
 | n + 1, k, hk => .more (wr_step1 hm hl g hn (by omega)) (wr_loop1 hm hl g hn n (k + 1) (by omega))
structure GoodS (fd : Int) (ts : List Sh) : Prop where
 ok : ∀ k, k < ts.length → 1 ≤ (shK ts (k : Int)).fuse ∧ (shK ts (k : Int)).id ≤ fd
 ids : ∀ k, k + 1 < ts.length → (shK ts (k : Int)).id < (shK ts ((k + 1 : Nat) : Int)).id
 few : ts.length ≤ 1000
theorem wr_step2 (g : GoodS fd ts) (hn : ns = ts.length) {k : Nat} (hk : k < ns) :
    rdR2 (valR ll np ns gv fd i k) (rowR w d h len ls xs sp cs s ra rb ps ts) = some (.tuple [.nilp, .tuple (valR ll np ns gv fd i ((k + 1 : Nat) : Int))], rowR w d h len ls xs sp cs s ra rb ps ts) := by
 have hk2 : k < ts.length := by omega
 have hfew := g.few
 have hin : ∀ K : Option Res2, inL ns ts.length (k : Int) K = K := fun K => inL_true hk hk2
 obtain ⟨p1, p2⟩ := g.ok k hk2
 rw [wr_round2, decide_eq_true (show (k : Int) < (ns : Int) by omega), hin, decide_eq_false (show ¬ (shK ts (k : Int)).fuse < 1 by omega)]
 simp only [cond_true, cond_false, hin, orR_no (decide_eq_false (show ¬ (shK ts (k : Int)).id > fd by omega))]
 have hnx : nextR w d h len ls ll np ns xs sp cs s ra rb gv fd i (k : Int) ps ts = some (.tuple [.nilp, .tuple (valR ll np ns gv fd i ((k + 1 : Nat) : Int))], rowR w d h len ls xs sp cs s ra rb ps ts) := by
  unfold nextR
  rw [IntWalk.i64_in ((k : Int) + 1) (by omega)]
  rfl
 rw [hnx]
 cases hk0 : decide ((k : Int) > 0) with
 | false => rfl
 | true =>
  have hk0 := of_decide_eq_true hk0
  obtain ⟨j, rfl⟩ : ∃ j, k = j + 1 := ⟨k - 1, by omega⟩
  have hw : IntKind.i64.wrap (((j + 1 : Nat) : Int) - 1) = (j : Int) := by rw [IntWalk.i64_in _ (by omega)]; omega
  have hid := g.ids j (by omega)
  rw [hw, inL_true (by omega) (by omega), orR_no (decide_eq_false (by omega))]
  rfl
theorem wr_loop2 (g : GoodS fd ts) (hn : ns = ts.length) : ∀ (n k : Nat), k + n = ns →
    LoopTo rdR2 (valR ll np ns gv fd i k) (rowR w d h len ls xs sp cs s ra rb ps ts) (.exit 4) (valR ll np ns gv fd i (ns : Int)) (rowR w d h len ls xs sp cs s ra rb ps ts)
 | 0, k, hk => by
  obtain rfl : k = ns := by omega
  refine .done ?_ (by simp)
  rw [wr_round2, decide_eq_false (show ¬ (k : Int) < (k : Int) by omega)]
  rfl
 | n + 1, k, hk => .more (wr_step2 g hn (by omega)) (wr_loop2 g hn n (k + 1) (by omega))
end
open Classical in
noncomputable def goodPB (w d h : Int) (len : Nat) (xs : List Bool) (s : WS) (gv : Int) (np : Nat) (ps : List Pl) : Bool := decide (mapOk w d h len = true ∧ len ≤ xs.length ∧ GoodP (mpOf w d h len fun j => xs.getD (0 + j) false).free s gv ps ∧ np = ps.length)
open Classical in
noncomputable def goodSB (fd : Int) (ns : Nat) (ts : List Sh) : Bool := decide (GoodS fd ts ∧ ns = ts.length)
open Classical in
theorem goodPB_iff {w d h : Int} {len : Nat} {xs : List Bool} {s : WS} {gv : Int} {np : Nat} {ps : List Pl} : goodPB w d h len xs s gv np ps = true ↔ mapOk w d h len = true ∧ len ≤ xs.length ∧ GoodP (mpOf w d h len fun j => xs.getD (0 + j) false).free s gv ps ∧ np = ps.length := by unfold goodPB; exact decide_eq_true_iff
open Classical in
theorem goodSB_iff {fd : Int} {ns : Nat} {ts : List Sh} : goodSB fd ns ts = true ↔ GoodS fd ts ∧ ns = ts.length := by unfold goodSB; exact decide_eq_true_iff
noncomputable def outR1 (v : List SV) (R : List Row) (k : Ex → List SV → List Row → Option Res2) : Option Res2 := match v, R with
 | [.slice 2 12 0 ll none, .ptr 3 0 0 0, .bool false, .bool true, .ptr 4 0 0 0, .int .i64 gv, .int .i64 fd, .int .i64 i, .ptr 5 0 0 0, .slice 6 15 0 np none, .slice 7 11 0 ns none, .int .i64 j],
  [.vec true .bool xs, .vec true .vec sp, .vec true .wop cs, .own [.int .i64 w, .int .i64 d, .int .i64 h, .slice 0 1 0 len none, .slice 1 3 0 ls none], .obj s, .own [.int .i64 ra, .int .i64 rb], .vec true .pl ps, .vec true .sh ts] =>
   bif decide (j = 0) && goodPB w d h len xs s gv np ps then k (.exit 2) (valR ll np ns gv fd i (np : Int)) (rowR w d h len ls xs sp cs s ra rb ps ts) else none
 | _, _ => none
noncomputable def outR2 (v : List SV) (R : List Row) (k : Ex → List SV → List Row → Option Res2) : Option Res2 := match v, R with
 | [.slice 2 12 0 ll none, .ptr 3 0 0 0, .bool false, .bool true, .ptr 4 0 0 0, .int .i64 gv, .int .i64 fd, .int .i64 i, .ptr 5 0 0 0, .slice 6 15 0 np none, .slice 7 11 0 ns none, .int .i64 j],
  [.vec true .bool xs, .vec true .vec sp, .vec true .wop cs, .own [.int .i64 w, .int .i64 d, .int .i64 h, .slice 0 1 0 len none, .slice 1 3 0 ls none], .obj s, .own [.int .i64 ra, .int .i64 rb], .vec true .pl ps, .vec true .sh ts] =>
   bif decide (j = 0) && goodSB fd ns ts then k (.exit 4) (valR ll np ns gv fd i (ns : Int)) (rowR w d h len ls xs sp cs s ra rb ps ts) else none
 | _, _ => none
theorem lpoR1_ok : LpOk 9 [0, 1, 0, 1, 1, 1, 1, 1, 1, 0, 0, 1, 0, 0, 1, 0, 1, 1, 1, 1, 1, 1, 1] (loopF 294 [1, 2, 4, 5, 6, 8, 9, 10, 11, 12, 13, 14] outR1) := by
 intro b hat s K r h
 refine loopFQ_ok (fuel := 100) x16r_ok lok_none hat (fun v R k r hr => ?_) h
 have hbody := at_body Try.func9 hat
 subst hbody
 unfold outR1 at hr
 split at hr
 · obtain ⟨hb, hr2⟩ := cond_some hr
   rw [Bool.and_eq_true, decide_eq_true_eq] at hb
   obtain ⟨rfl, hb⟩ := hb
   obtain ⟨h1, h2, h3, h4⟩ := goodPB_iff.1 hb
   exact ⟨_, _, _, hr2, wr_loop1 h1 h2 h3 h4 _ 0 (Nat.zero_add _)⟩
 · cases hr
noncomputable def lpoR1 : Lpo := ⟨_, _, _, lpoR1_ok⟩
theorem lpoR2_ok : LpOk 9 [0, 1, 1, 1, 1, 1, 1, 1, 1, 0, 0, 1, 0, 0, 1, 0, 1, 1, 1, 1, 1, 1, 1] (loopF 294 [1, 2, 4, 5, 6, 8, 9, 10, 11, 12, 13, 15] outR2) := by
 intro b hat s K r h
 refine loopFQ_ok (fuel := 100) x16r_ok lok_none hat (fun v R k r hr => ?_) h
 have hbody := at_body Try.func9 hat
 subst hbody
 unfold outR2 at hr
 split at hr
 · obtain ⟨hb, hr2⟩ := cond_some hr
   rw [Bool.and_eq_true, decide_eq_true_eq] at hb
   obtain ⟨rfl, hb⟩ := hb
   obtain ⟨h3, h4⟩ := goodSB_iff.1 hb
   exact ⟨_, _, _, hr2, wr_loop2 h3 h4 _ 0 (Nat.zero_add _)⟩
 · cases hr
noncomputable def lpoR2 : Lpo := ⟨_, _, _, lpoR2_ok⟩

def valO (ll : Nat) (gv fd i : Int) : List SV := [.slice 2 12 0 ll none, .ptr 3 0 0 0, .bool false, .bool true, .ptr 4 0 0 0, .int .i64 gv, .int .i64 fd, .int .i64 i]
def rowO (w d h : Int) (len ls : Nat) (xs : List Bool) (sp : List V3) (cs : List WOp) (s : WS) : List Row := [.vec true .bool xs, .vec true .vec sp, .vec true .wop cs, .own [.int .i64 w, .int .i64 d, .int .i64 h, .slice 0 1 0 len none, .slice 1 3 0 ls none], .obj s]
noncomputable def rdO : List SV → List Row → Option Res2 := roundQ x16r (loopOf [lpoR1, lpoR2]) 100 9 [0, 1, 0, 1, 1, 1, 1, 1, 1, 1] (bodyAt Try.f9 [0, 1, 0, 1, 1, 1, 1, 1, 1, 1]) 294 5 [1, 2, 4, 5, 6, 8, 9, 10]

section
variable (w d h : Int) (len ls ll : Nat) (xs : List Bool) (sp : List V3) (cs : List WOp) (gv fd i : Int)
noncomputable def endO (y : WS) : Option Res2 :=
 bif decide (y.shots.length ≤ 1000) then bif (bif decide (((y.ps.map PL.p : List Pl).length : Int) > 8) == false then (bif false then true else decide ((y.shots.length : Int) > 64)) else true) then retR else
 bif decide ((0 : Int) = 0) && goodPB w d h len xs y gv (y.ps.map PL.p : List Pl).length (y.ps.map PL.p) then bif decide ((0 : Int) = 0) && goodSB fd y.shots.length y.shots then
 some (.tuple [.nilp, .tuple (valO ll gv fd (IntKind.i64.wrap (i + 1)))], rowO w d h len ls xs sp cs y) else none else none else none
def btO (o : WOp) : Bool := (((true && (true && ((decide (0 ≤ i) && decide (i < (ll : Int))) && (true && (decide (0 + i.toNat < cs.length) && (true && true)))))) && true || ((o.kind == 2) != false)) && (!false || ((o.kind == 2) == false))) && true
noncomputable def fireO (o : WOp) (y : WS × Int × Int) : Option Res2 := inL ll cs.length i (bif btO ll cs i o then
 bif (bif (bif (o.kind == 2) == false then (bif false then true else o.kind == 3) else true) == true then (bif true then y.2.2 == 0 else false) else false) then (bif y.2.1 != IntKind.i64.wrap (fd + 1) then retR else endO w d h len ls ll xs sp cs gv y.2.1 i y.1)
 else endO w d h len ls ll xs sp cs gv fd i y.1 else none)
noncomputable def joinO (o : WOp) (y : WS × Int × Int) : Option Res2 := bif (bif (o.kind == 7) == true then (bif true then y.2.2 == 0 else false) else false) then (bif y.2.1 != IntKind.i64.wrap (gv + 1) then retR else fireO w d h len ls ll xs sp cs y.2.1 fd i o y) else fireO w d h len ls ll xs sp cs gv fd i o y
end
theorem wr_round (w d h : Int) (len ls ll : Nat) (xs : List Bool) (sp : List V3) (cs : List WOp) (s : WS) (gv fd i : Int) : rdO (valO ll gv fd i) (rowO w d h len ls xs sp cs s) =
 bif bif decide (i < (ll : Int)) == true then (bif true then decide (i < 80) else false) else false then
 inL ll cs.length i (bif opOk s (opN cs i) then inL ll cs.length i (joinO w d h len ls ll xs sp cs gv fd i (opN cs i) (opS s (opN cs i))) else none)
 else some (.tuple [.ptr 0 0 0 0, .tuple (valO ll gv fd i)], rowO w d h len ls xs sp cs s) := by kernel_rfl

end Go.Proofs.Ytimkhidniolpeaa
