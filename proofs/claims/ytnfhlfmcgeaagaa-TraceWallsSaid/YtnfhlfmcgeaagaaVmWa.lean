/- TraceWalls: the law's loop and call. -/
import Derived.Test.YtnfhlfmcgeaagaaVmWp
import Derived.Test.YtnfhlfmcgeaagaaVmG10
namespace Go.Proofs.Ytnfhlfmcgeaagaa
set_option linter.unusedSimpArgs false
set_option linter.unusedVariables false
open Go.RowKit

noncomputable def x10w : Ctx := ctxOf [11] [orcShown10, orcFree, orcSlide, orcSight]
theorem x10w_ok : COk Try.prog x10w := ctxOf_ok (by kernel_rfl)
def valWa (ll : Nat) (ax : Int) (i : Int) : List SV := [.slice 1 1 0 ll none, .int .i64 ax, .ptr 2 0 0 0, .ptr 3 0 0 0, .bool false, .bool true, .int .i64 i]
def rowWa (w d h : Int) (L : Nat) (xs : List Bool) (l : List Int) (p : V3) : List Row := [.vec true .bool xs, .vec true .i64 l, .own [.int .i64 w, .int .i64 d, .int .i64 h, .slice 0 1 0 L none, .unk], .own p.sv]
noncomputable def rdWa : List SV → List Row → Option Res2 := roundS x10w (fun _ _ => none) 100 9 [0, 1, 0, 1, 1, 1, 1] (bodyAt Try.f9 [0, 1, 0, 1, 1, 1, 1]) 69 4 [2, 3, 4, 5, 8, 9, 10]

set_option maxRecDepth 100000 in
set_option maxHeartbeats 0 in
theorem wa_round (w d h : Int) (L ll : Nat) (xs : List Bool) (l : List Int) (p : V3) (ax i : Int) : rdWa (valWa ll ax i) (rowWa w d h L xs l p) =
  bif bif decide (i < (↑ll : Int)) == true then decide (i < 30) else false then
  bif (IntKind.i64.wrap (↑(BitVec.ofInt IntKind.i64.bits ax &&& BitVec.ofInt IntKind.i64.bits 255).toNat : Int)).tmod 3 == 0 then
  bif decide (0 ≤ i) && decide (i < (↑ll : Int)) then
  bif decide (0 + i.toNat < l.length) then
  bif mapOk w d h L && (fitsB p && decide (0 + L ≤ xs.length)) then
  bif mapOk w d h L && (fitsB p && (fitsB ((mpOf w d h L fun j => xs.getD (0 + j) false).slide p (V3.mk (l.getD (0 + i.toNat) Knd.i64.dflt) 0 0)).fst && decide (0 + L ≤ xs.length))) then
  bif !(mpOf w d h L fun j => xs.getD (0 + j) false).sight p ((mpOf w d h L fun j => xs.getD (0 + j) false).slide p (V3.mk (l.getD (0 + i.toNat) Knd.i64.dflt) 0 0)).fst then
  some
  (SV.tuple [SV.nils, SV.tuple [SV.slice 1 1 0 ll none, SV.int IntKind.i64 ax, SV.ptr 2 0 0 0, SV.ptr 3 0 0 0, SV.bool false, SV.bool true, SV.int IntKind.i64 i]],
  [Row.vec true Knd.bool xs, Row.vec true Knd.i64 l, Row.own [SV.int IntKind.i64 w, SV.int IntKind.i64 d, SV.int IntKind.i64 h, SV.slice 0 1 0 L none, SV.unk],
  Row.own [SV.int IntKind.i64 p.x, SV.int IntKind.i64 p.y, SV.int IntKind.i64 p.z]])
  else
  some
  (SV.tuple
  [SV.nilp, SV.tuple [SV.slice 1 1 0 ll none, SV.int IntKind.i64 ax, SV.ptr 2 0 0 0, SV.ptr 3 0 0 0, SV.bool false, SV.bool true, SV.int IntKind.i64 (IntKind.i64.wrap (i + 1))]],
  [Row.vec true Knd.bool xs, Row.vec true Knd.i64 l, Row.own [SV.int IntKind.i64 w, SV.int IntKind.i64 d, SV.int IntKind.i64 h, SV.slice 0 1 0 L none, SV.unk],
  Row.own
  [SV.int IntKind.i64 ((mpOf w d h L fun j => xs.getD (0 + j) false).slide p (V3.mk (l.getD (0 + i.toNat) Knd.i64.dflt) 0 0)).fst.x,
  SV.int IntKind.i64 ((mpOf w d h L fun j => xs.getD (0 + j) false).slide p (V3.mk (l.getD (0 + i.toNat) Knd.i64.dflt) 0 0)).fst.y,
  SV.int IntKind.i64 ((mpOf w d h L fun j => xs.getD (0 + j) false).slide p (V3.mk (l.getD (0 + i.toNat) Knd.i64.dflt) 0 0)).fst.z]])
  else none
  else none
  else none
  else none
  else
  bif (IntKind.i64.wrap (↑(BitVec.ofInt IntKind.i64.bits ax &&& BitVec.ofInt IntKind.i64.bits 255).toNat : Int)).tmod 3 == 1 then
  bif decide (0 ≤ i) && decide (i < (↑ll : Int)) then
  bif decide (0 + i.toNat < l.length) then
  bif mapOk w d h L && (fitsB p && decide (0 + L ≤ xs.length)) then
  bif mapOk w d h L && (fitsB p && (fitsB ((mpOf w d h L fun j => xs.getD (0 + j) false).slide p (V3.mk 0 (l.getD (0 + i.toNat) Knd.i64.dflt) 0)).fst && decide (0 + L ≤ xs.length))) then
  bif !(mpOf w d h L fun j => xs.getD (0 + j) false).sight p ((mpOf w d h L fun j => xs.getD (0 + j) false).slide p (V3.mk 0 (l.getD (0 + i.toNat) Knd.i64.dflt) 0)).fst then
  some
  (SV.tuple [SV.nils, SV.tuple [SV.slice 1 1 0 ll none, SV.int IntKind.i64 ax, SV.ptr 2 0 0 0, SV.ptr 3 0 0 0, SV.bool false, SV.bool true, SV.int IntKind.i64 i]],
  [Row.vec true Knd.bool xs, Row.vec true Knd.i64 l, Row.own [SV.int IntKind.i64 w, SV.int IntKind.i64 d, SV.int IntKind.i64 h, SV.slice 0 1 0 L none, SV.unk],
  Row.own [SV.int IntKind.i64 p.x, SV.int IntKind.i64 p.y, SV.int IntKind.i64 p.z]])
  else
  some
  (SV.tuple
  [SV.nilp, SV.tuple [SV.slice 1 1 0 ll none, SV.int IntKind.i64 ax, SV.ptr 2 0 0 0, SV.ptr 3 0 0 0, SV.bool false, SV.bool true, SV.int IntKind.i64 (IntKind.i64.wrap (i + 1))]],
  [Row.vec true Knd.bool xs, Row.vec true Knd.i64 l, Row.own [SV.int IntKind.i64 w, SV.int IntKind.i64 d, SV.int IntKind.i64 h, SV.slice 0 1 0 L none, SV.unk],
  Row.own
  [SV.int IntKind.i64 ((mpOf w d h L fun j => xs.getD (0 + j) false).slide p (V3.mk 0 (l.getD (0 + i.toNat) Knd.i64.dflt) 0)).fst.x,
  SV.int IntKind.i64 ((mpOf w d h L fun j => xs.getD (0 + j) false).slide p (V3.mk 0 (l.getD (0 + i.toNat) Knd.i64.dflt) 0)).fst.y,
  SV.int IntKind.i64 ((mpOf w d h L fun j => xs.getD (0 + j) false).slide p (V3.mk 0 (l.getD (0 + i.toNat) Knd.i64.dflt) 0)).fst.z]])
  else none
  else none
  else none
  else none
  else
  bif decide (0 ≤ i) && decide (i < (↑ll : Int)) then
  bif decide (0 + i.toNat < l.length) then
  bif mapOk w d h L && (fitsB p && decide (0 + L ≤ xs.length)) then
  bif mapOk w d h L && (fitsB p && (fitsB ((mpOf w d h L fun j => xs.getD (0 + j) false).slide p (V3.mk 0 0 (l.getD (0 + i.toNat) Knd.i64.dflt))).fst && decide (0 + L ≤ xs.length))) then
  bif !(mpOf w d h L fun j => xs.getD (0 + j) false).sight p ((mpOf w d h L fun j => xs.getD (0 + j) false).slide p (V3.mk 0 0 (l.getD (0 + i.toNat) Knd.i64.dflt))).fst then
  some
  (SV.tuple [SV.nils, SV.tuple [SV.slice 1 1 0 ll none, SV.int IntKind.i64 ax, SV.ptr 2 0 0 0, SV.ptr 3 0 0 0, SV.bool false, SV.bool true, SV.int IntKind.i64 i]],
  [Row.vec true Knd.bool xs, Row.vec true Knd.i64 l, Row.own [SV.int IntKind.i64 w, SV.int IntKind.i64 d, SV.int IntKind.i64 h, SV.slice 0 1 0 L none, SV.unk],
  Row.own [SV.int IntKind.i64 p.x, SV.int IntKind.i64 p.y, SV.int IntKind.i64 p.z]])
  else
  some
  (SV.tuple
  [SV.nilp, SV.tuple [SV.slice 1 1 0 ll none, SV.int IntKind.i64 ax, SV.ptr 2 0 0 0, SV.ptr 3 0 0 0, SV.bool false, SV.bool true, SV.int IntKind.i64 (IntKind.i64.wrap (i + 1))]],
  [Row.vec true Knd.bool xs, Row.vec true Knd.i64 l, Row.own [SV.int IntKind.i64 w, SV.int IntKind.i64 d, SV.int IntKind.i64 h, SV.slice 0 1 0 L none, SV.unk],
  Row.own
  [SV.int IntKind.i64 ((mpOf w d h L fun j => xs.getD (0 + j) false).slide p (V3.mk 0 0 (l.getD (0 + i.toNat) Knd.i64.dflt))).fst.x,
  SV.int IntKind.i64 ((mpOf w d h L fun j => xs.getD (0 + j) false).slide p (V3.mk 0 0 (l.getD (0 + i.toNat) Knd.i64.dflt))).fst.y,
  SV.int IntKind.i64 ((mpOf w d h L fun j => xs.getD (0 + j) false).slide p (V3.mk 0 0 (l.getD (0 + i.toNat) Knd.i64.dflt))).fst.z]])
  else none
  else none
  else none
  else none
  else
  some
  (SV.tuple [SV.ptr 0 0 0 0, SV.tuple [SV.slice 1 1 0 ll none, SV.int IntKind.i64 ax, SV.ptr 2 0 0 0, SV.ptr 3 0 0 0, SV.bool false, SV.bool true, SV.int IntKind.i64 i]],
  [Row.vec true Knd.bool xs, Row.vec true Knd.i64 l, Row.own [SV.int IntKind.i64 w, SV.int IntKind.i64 d, SV.int IntKind.i64 h, SV.slice 0 1 0 L none, SV.unk],
  Row.own [SV.int IntKind.i64 p.x, SV.int IntKind.i64 p.y, SV.int IntKind.i64 p.z]]) := by kernel_rfl

def axW (ax : Int) : Int := (IntKind.i64.wrap ((BitVec.ofInt IntKind.i64.bits ax &&& BitVec.ofInt IntKind.i64.bits 255).toNat : Int)).tmod 3
def byW (t v : Int) : V3 := bif t == 0 then ⟨v, 0, 0⟩ else bif t == 1 then ⟨0, v, 0⟩ else ⟨0, 0, v⟩
theorem byW_one (t v : Int) : ((byW t v).y = 0 ∧ (byW t v).z = 0) ∨ ((byW t v).x = 0 ∧ (byW t v).z = 0) ∨ ((byW t v).x = 0 ∧ (byW t v).y = 0) := by
  unfold byW
  cases t == 0
  · cases t == 1
    · exact .inr (.inr ⟨rfl, rfl⟩)
    · exact .inr (.inl ⟨rfl, rfl⟩)
  · exact .inl ⟨rfl, rfl⟩
/-- Moves along one axis, one behind the other. -/
def wallL (S : V3 → V3 → V3 × Bool × Bool × Bool) (l : List Int) (t : Int) : Nat → Nat → V3 → V3
  | 0, _, p => p
  | k + 1, i, p => wallL S l t k (i + 1) (S p (byW t (l.getD (0 + i) Knd.i64.dflt))).1

section
variable {w d h : Int} {L ll : Nat} {xs : List Bool} {l : List Int} {ax : Int}
set_option maxHeartbeats 0 in
theorem wa_loop (hm : mapOk w d h L = true) (hl : decide (0 + L ≤ xs.length) = true) (hc : ll ≤ l.length) : ∀ (k i : Nat) (p : V3), p.fits → (mpOf w d h L fun j => xs.getD (0 + j) false).free p = true → i + k = min ll 30 →
    LoopTo rdWa (valWa ll ax i) (rowWa w d h L xs l p) (.exit 0) (valWa ll ax ((min ll 30 : Nat) : Int)) (rowWa w d h L xs l (wallL (mpOf w d h L fun j => xs.getD (0 + j) false).slide l (axW ax) k i p))
  | 0, i, p, hp, hr, hi => by
    obtain rfl : i = min ll 30 := by omega
    refine .done ?_ (by simp)
    rw [wa_round, and_form, show (decide ((((min ll 30 : Nat)) : Int) < (ll : Int)) && decide ((((min ll 30 : Nat)) : Int) < 30)) = false by rw [Bool.and_eq_false_iff, decide_eq_false_iff_not, decide_eq_false_iff_not]; omega, cond_false]
    rfl
  | k + 1, i, p, hp, hr, hi => by
    have hro := wa_round w d h L ll xs l p ax i
    have e1 : ((i : Int)).toNat = i := by omega
    rw [e1, and_form, decide_eq_true (show (i : Int) < (ll : Int) by omega), decide_eq_true (show (i : Int) < 30 by omega), decide_eq_true (show (0 : Int) ≤ (i : Int) by omega), decide_eq_true (show 0 + i < l.length by omega), hm, hl, fitsB_iff.2 hp, IntWalk.i64_in ((i : Int) + 1) (by omega)] at hro
    rw [show (IntKind.i64.wrap ((BitVec.ofInt IntKind.i64.bits ax &&& BitVec.ofInt IntKind.i64.bits 255).toNat : Int)).tmod 3 = axW ax from rfl] at hro
    have hw := wall_slide (m := mpOf w d h L fun j => xs.getD (0 + j) false) (fun x y z hs => mp_solid_in x y z hs) hp hr (byW_one (axW ax) (l.getD (0 + i) Knd.i64.dflt))
    unfold wallL
    cases h0 : axW ax == 0 with
    | true =>
      have eb : byW (axW ax) (l.getD (0 + i) Knd.i64.dflt) = ⟨l.getD (0 + i) Knd.i64.dflt, 0, 0⟩ := by unfold byW; rw [h0]; rfl
      rw [eb] at hw ⊢
      obtain ⟨q1, q2, q3⟩ := hw
      rw [h0, fitsB_iff.2 q1, q3] at hro
      simp only [Bool.and_true, cond_true, Bool.not_true, cond_false] at hro
      exact .more hro (wa_loop hm hl hc k (i + 1) _ q1 q2 (by omega))
    | false =>
      cases h1 : axW ax == 1 with
      | true =>
        have eb : byW (axW ax) (l.getD (0 + i) Knd.i64.dflt) = ⟨0, l.getD (0 + i) Knd.i64.dflt, 0⟩ := by unfold byW; rw [h0, h1]; rfl
        rw [eb] at hw ⊢
        obtain ⟨q1, q2, q3⟩ := hw
        rw [h0, h1, fitsB_iff.2 q1, q3] at hro
        simp only [Bool.and_true, cond_true, Bool.not_true, cond_false] at hro
        exact .more hro (wa_loop hm hl hc k (i + 1) _ q1 q2 (by omega))
      | false =>
        have eb : byW (axW ax) (l.getD (0 + i) Knd.i64.dflt) = ⟨0, 0, l.getD (0 + i) Knd.i64.dflt⟩ := by unfold byW; rw [h0, h1]; rfl
        rw [eb] at hw ⊢
        obtain ⟨q1, q2, q3⟩ := hw
        rw [h0, h1, fitsB_iff.2 q1, q3] at hro
        simp only [Bool.and_true, cond_true, Bool.not_true, cond_false] at hro
        exact .more hro (wa_loop hm hl hc k (i + 1) _ q1 q2 (by omega))
end

set_option maxHeartbeats 0 in
noncomputable def outWa (v : List SV) (R : List Row) (k : Ex → List SV → List Row → Option Res2) : Option Res2 := match v, R with
  | [.slice 1 1 0 ll none, .int .i64 ax, .ptr 2 0 0 0, .ptr 3 0 0 0, .bool false, .bool true, .int .i64 i],
    [.vec true .bool xs, .vec true .i64 l, .own [.int .i64 w, .int .i64 d, .int .i64 h, .slice 0 1 0 L none, .unk], .own [.int .i64 px, .int .i64 py, .int .i64 pz]] =>
      bif decide (i = 0) && (mapOk w d h L && (decide (0 + L ≤ xs.length) && (decide (ll ≤ l.length) && (fitsB ⟨px, py, pz⟩ && (mpOf w d h L fun j => xs.getD (0 + j) false).free ⟨px, py, pz⟩)))) then
        k (.exit 0) (valWa ll ax ((min ll 30 : Nat) : Int)) (rowWa w d h L xs l (wallL (mpOf w d h L fun j => xs.getD (0 + j) false).slide l (axW ax) (min ll 30) 0 ⟨px, py, pz⟩)) else none
  | _, _ => none
set_option maxHeartbeats 0 in
theorem lpoWa_ok : LpOk 9 [0, 1, 0, 1, 1, 1, 1] (loopF 69 [2, 3, 4, 5, 8, 9, 10] outWa) := by
  intro b hat s K r h
  refine loopF_ok (fuel := 100) x10w_ok lok_none hat (fun v R k r hr => ?_) h
  have hbody := at_body Try.func9 hat
  subst hbody
  unfold outWa at hr
  split at hr
  · rename_i ll ax i xs l w d h L px py pz
    obtain ⟨hb, hr2⟩ := cond_some hr
    simp only [Bool.and_eq_true, decide_eq_true_eq, fitsB_iff] at hb
    obtain ⟨h1, h2, h3, h4, h5, h6⟩ := hb
    subst h1
    exact ⟨_, _, _, hr2, wa_loop h2 (decide_eq_true h3) h4 (min ll 30) 0 ⟨px, py, pz⟩ h5 h6 (by omega)⟩
  · cases hr
noncomputable def lpoWa : Lpo := ⟨_, _, _, lpoWa_ok⟩

set_option maxRecDepth 100000 in
set_option maxHeartbeats 0 in
theorem wa_tree (w d h : Int) (len ll : Nat) (xs : List Bool) (l : List Int) (p : V3) (ax : Int) : runK x10w (loopOf [lpoWa]) 300 9 Try.f9 0 [mapS w d h (.slice 0 1 0 len none) .unk, .agg p.sv, .slice 1 1 0 ll none, .int .i64 ax] [.vec true .bool xs, .vec true .i64 l] =
  bif decide (0 ≤ min (↑len : Int) 32768) && decide (min (↑len : Int) 32768 ≤ (↑(capOr none len) : Int)) then
  bif mapOk w d h (min (↑len : Int) 32768).toNat && (fitsB p && decide (0 + (min (↑len : Int) 32768).toNat ≤ xs.length)) then
  bif !(mpOf w d h (min (↑len : Int) 32768).toNat fun j => xs.getD (0 + j) false).free p then some (SV.bool true, [])
  else
  bif
  mapOk w d h (min (↑len : Int) 32768).toNat &&
  (decide (0 + (min (↑len : Int) 32768).toNat ≤ xs.length) && (decide (ll ≤ l.length) && (fitsB p && (mpOf w d h (min (↑len : Int) 32768).toNat fun j => xs.getD (0 + j) false).free p))) then
  some (SV.bool true, [])
  else none
  else none
  else none := by kernel_rfl

set_option maxHeartbeats 0 in
theorem wa_law {w d h : Int} {len ll : Nat} {xs : List Bool} {l : List Int} {p : V3} {ax : Int} (hw : In64 w) (hd : In64 d) (hh : In64 h) (hl : len ≤ 9223372036854775807) (hx : xs.length = len) (hll : l.length = ll) (hp : p.fits) :
    runK x10w (loopOf [lpoWa]) 300 9 Try.f9 0 [mapS w d h (.slice 0 1 0 len none) .unk, .agg p.sv, .slice 1 1 0 ll none, .int .i64 ax] [.vec true .bool xs, .vec true .i64 l] = some (.bool true, []) := by
  rw [wa_tree]
  have c1 : (decide (0 ≤ min (len : Int) 32768) && decide (min (len : Int) 32768 ≤ ((capOr none len : Nat) : Int))) = true := by
    simp only [show capOr none len = len from rfl, Bool.and_eq_true, decide_eq_true_eq]; omega
  rw [c1]
  have hL1 : (min (len : Int) 32768).toNat ≤ len := by omega
  generalize (min (len : Int) 32768).toNat = L at hL1 ⊢
  have c2 : mapOk w d h L = true := by
    unfold mapOk
    simp only [Bool.and_eq_true, in64B_iff, decide_eq_true_eq]
    exact ⟨hw, hd, hh, by omega⟩
  have c3 : decide (0 + L ≤ xs.length) = true := by rw [decide_eq_true_eq]; omega
  have c5 : decide (ll ≤ l.length) = true := by rw [decide_eq_true_eq]; omega
  simp only [c2, c3, c5, fitsB_iff.2 hp, decide_true, Bool.true_and, Bool.and_true, cond_true]
  cases (mpOf w d h L fun j => xs.getD (0 + j) false).free p <;> rfl

end Go.Proofs.Ytnfhlfmcgeaagaa
