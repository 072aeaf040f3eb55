/- The reference's Burst, as a contract: its first loop. The reference's Burst, as a contract: the same as blast's. -/
import Derived.Test.YtboljdeeodeeeaaVmBu
import Derived.Test.YtboljdeeodeeeaaVmBt
namespace Go.Proofs.Ytboljdeeodeeeaa
set_option linter.unusedSimpArgs false
set_option linter.unusedVariables false
set_option maxRecDepth 100000
open Go.RowKit

noncomputable def xRb : Ctx := ctxOf [] [orcRHurt, orcRTake]
theorem xRb_ok : COk Try.prog xRb := ctxOf_ok (by kernel_rfl)
def valRb0 (owner s : Int) (ll : Nat) (i : Int) : List SV := [.int .i64 owner, .slice 1 15 0 ll none, .ptr 2 0 0 0, .ptr 3 0 0 0, .nils, .slice 4 15 0 0 (some 0), .int .i64 s, .int .i64 i]
def valRb1 (owner s : Int) (ll k : Nat) (i : Int) : List SV := [.int .i64 owner, .slice 1 15 0 ll none, .ptr 2 0 0 0, .ptr 3 0 0 0, .nils, .slice 5 15 0 k none, .int .i64 s, .int .i64 i]
def rowRb0 (w d h : Int) (off len : Nat) (xs : List Bool) (at' : V3) (ps : List Pl) : List Row := [.vec true .bool xs, .vec true .pl ps, .own [.int .i64 w, .int .i64 d, .int .i64 h, .slice 0 1 off len none, .unk], .own at'.sv, .vec false .pl []]
def rowRb1 (w d h : Int) (off len : Nat) (xs : List Bool) (at' : V3) (ps ys : List Pl) : List Row := [.vec true .bool xs, .vec true .pl ps, .own [.int .i64 w, .int .i64 d, .int .i64 h, .slice 0 1 off len none, .unk], .own at'.sv, .gone, .vec false .pl ys]
noncomputable def rdRb : List SV → List Row → Option Res2 := roundS xRb (fun _ _ => none) 100 18 [0, 1, 0, 1, 1, 1] (bodyAt Try.f18 [0, 1, 0, 1, 1, 1]) 100 5 [2, 3, 4, 5, 8, 9, 10, 11]

set_option maxRecDepth 100000 in
set_option maxHeartbeats 0 in
theorem rb_round0 (w d h : Int) (off len : Nat) (xs : List Bool) (at' : V3) (ps : List Pl) (owner s : Int) (ll : Nat) (i : Int) : rdRb (valRb0 owner s ll i) (rowRb0 w d h off len xs at' ps) =
  bif decide (i < (ll : Int)) then
  bif decide (0 ≤ i) && decide (i < (ll : Int)) then
  bif decide (0 + i.toNat < ps.length) then
  bif decide (0 ≤ i) && decide (i < (ll : Int)) then
  bif decide (0 + i.toNat < ps.length) then
  bif mapOk w d h len && (fitsB at' && (fitsB (ps.getD (0 + i.toNat) Knd.pl.dflt).pos && decide (off + len ≤ xs.length))) then
  bif (decide (0 ≤ i) && decide (i < (ll : Int)) && (decide (0 + i.toNat < ps.length) && true) && true || decide (((mpOf w d h len fun j => xs.getD (off + j) false).brQ at' (ps.getD (0 + i.toNat) Knd.pl.dflt)).dead > 0) != true) && (true || decide (((mpOf w d h len fun j => xs.getD (off + j) false).brQ at' (ps.getD (0 + i.toNat) Knd.pl.dflt)).dead > 0) == true) && true then
  bif bif (bif decide (((mpOf w d h len fun j => xs.getD (off + j) false).brQ at' (ps.getD (0 + i.toNat) Knd.pl.dflt)).dead > 0) == true then decide ((ps.getD (0 + i.toNat) Knd.pl.dflt).dead ≤ 0) else false) == true then ((mpOf w d h len fun j => xs.getD (off + j) false).brQ at' (ps.getD (0 + i.toNat) Knd.pl.dflt)).id != owner else false then
  bif (decide (0 ≤ i) && decide (i < (ll : Int)) && (decide (0 + i.toNat < ps.length) && true) && true || decide (((mpOf w d h len fun j => xs.getD (off + j) false).brQ at' (ps.getD (0 + i.toNat) Knd.pl.dflt)).dead > 0) != true) && (true || decide (((mpOf w d h len fun j => xs.getD (off + j) false).brQ at' (ps.getD (0 + i.toNat) Knd.pl.dflt)).dead > 0) == true) && true then
  bif bif (bif decide (((mpOf w d h len fun j => xs.getD (off + j) false).brQ at' (ps.getD (0 + i.toNat) Knd.pl.dflt)).dead > 0) == true then decide ((ps.getD (0 + i.toNat) Knd.pl.dflt).dead ≤ 0) else false) == true then ((mpOf w d h len fun j => xs.getD (off + j) false).brQ at' (ps.getD (0 + i.toNat) Knd.pl.dflt)).id == owner else false then some (.tuple [.nilp, .tuple (valRb1 owner (IntKind.i64.wrap (IntKind.i64.wrap (s + 1) - 1)) ll 1 (IntKind.i64.wrap (i + 1)))], rowRb1 w d h off len xs at' ps [((mpOf w d h len fun j => xs.getD (off + j) false).brQ at' (ps.getD (0 + i.toNat) Knd.pl.dflt))])
  else some (.tuple [.nilp, .tuple (valRb1 owner (IntKind.i64.wrap (s + 1)) ll 1 (IntKind.i64.wrap (i + 1)))], rowRb1 w d h off len xs at' ps [((mpOf w d h len fun j => xs.getD (off + j) false).brQ at' (ps.getD (0 + i.toNat) Knd.pl.dflt))])
  else none
  else
  bif (decide (0 ≤ i) && decide (i < (ll : Int)) && (decide (0 + i.toNat < ps.length) && true) && true || decide (((mpOf w d h len fun j => xs.getD (off + j) false).brQ at' (ps.getD (0 + i.toNat) Knd.pl.dflt)).dead > 0) != true) && (true || decide (((mpOf w d h len fun j => xs.getD (off + j) false).brQ at' (ps.getD (0 + i.toNat) Knd.pl.dflt)).dead > 0) == true) && true then
  bif bif (bif decide (((mpOf w d h len fun j => xs.getD (off + j) false).brQ at' (ps.getD (0 + i.toNat) Knd.pl.dflt)).dead > 0) == true then decide ((ps.getD (0 + i.toNat) Knd.pl.dflt).dead ≤ 0) else false) == true then ((mpOf w d h len fun j => xs.getD (off + j) false).brQ at' (ps.getD (0 + i.toNat) Knd.pl.dflt)).id == owner else false then some (.tuple [.nilp, .tuple (valRb1 owner (IntKind.i64.wrap (s - 1)) ll 1 (IntKind.i64.wrap (i + 1)))], rowRb1 w d h off len xs at' ps [((mpOf w d h len fun j => xs.getD (off + j) false).brQ at' (ps.getD (0 + i.toNat) Knd.pl.dflt))])
  else some (.tuple [.nilp, .tuple (valRb1 owner s ll 1 (IntKind.i64.wrap (i + 1)))], rowRb1 w d h off len xs at' ps [((mpOf w d h len fun j => xs.getD (off + j) false).brQ at' (ps.getD (0 + i.toNat) Knd.pl.dflt))])
  else none
  else none
  else none
  else none
  else none
  else none
  else none
  else some (.tuple [.ptr 0 0 0 0, .tuple (valRb0 owner s ll i)], rowRb0 w d h off len xs at' ps) := by kernel_rfl
set_option maxRecDepth 100000 in
set_option maxHeartbeats 0 in
theorem rb_round1 (w d h : Int) (off len : Nat) (xs : List Bool) (at' : V3) (ps ys : List Pl) (owner s : Int) (ll k : Nat) (i : Int) : rdRb (valRb1 owner s ll k i) (rowRb1 w d h off len xs at' ps ys) =
  bif decide (i < (ll : Int)) then
  bif decide (0 ≤ i) && decide (i < (ll : Int)) then
  bif decide (0 + i.toNat < ps.length) then
  bif decide (0 ≤ i) && decide (i < (ll : Int)) then
  bif decide (0 + i.toNat < ps.length) then
  bif mapOk w d h len && (fitsB at' && (fitsB (ps.getD (0 + i.toNat) Knd.pl.dflt).pos && decide (off + len ≤ xs.length))) then
  bif (decide (0 ≤ i) && decide (i < (ll : Int)) && (decide (0 + i.toNat < ps.length) && true) && true || decide (((mpOf w d h len fun j => xs.getD (off + j) false).brQ at' (ps.getD (0 + i.toNat) Knd.pl.dflt)).dead > 0) != true) && (true || decide (((mpOf w d h len fun j => xs.getD (off + j) false).brQ at' (ps.getD (0 + i.toNat) Knd.pl.dflt)).dead > 0) == true) && true then
  bif bif (bif decide (((mpOf w d h len fun j => xs.getD (off + j) false).brQ at' (ps.getD (0 + i.toNat) Knd.pl.dflt)).dead > 0) == true then decide ((ps.getD (0 + i.toNat) Knd.pl.dflt).dead ≤ 0) else false) == true then ((mpOf w d h len fun j => xs.getD (off + j) false).brQ at' (ps.getD (0 + i.toNat) Knd.pl.dflt)).id != owner else false then
  bif (decide (0 ≤ i) && decide (i < (ll : Int)) && (decide (0 + i.toNat < ps.length) && true) && true || decide (((mpOf w d h len fun j => xs.getD (off + j) false).brQ at' (ps.getD (0 + i.toNat) Knd.pl.dflt)).dead > 0) != true) && (true || decide (((mpOf w d h len fun j => xs.getD (off + j) false).brQ at' (ps.getD (0 + i.toNat) Knd.pl.dflt)).dead > 0) == true) && true then
  bif bif (bif decide (((mpOf w d h len fun j => xs.getD (off + j) false).brQ at' (ps.getD (0 + i.toNat) Knd.pl.dflt)).dead > 0) == true then decide ((ps.getD (0 + i.toNat) Knd.pl.dflt).dead ≤ 0) else false) == true then ((mpOf w d h len fun j => xs.getD (off + j) false).brQ at' (ps.getD (0 + i.toNat) Knd.pl.dflt)).id == owner else false then (bif growsPl k ys ((mpOf w d h len fun j => xs.getD (off + j) false).brQ at' (ps.getD (0 + i.toNat) Knd.pl.dflt)) then some (.tuple [.nilp, .tuple (valRb1 owner (IntKind.i64.wrap (IntKind.i64.wrap (s + 1) - 1)) ll (k + 1) (IntKind.i64.wrap (i + 1)))], rowRb1 w d h off len xs at' ps (ys.take k ++ [((mpOf w d h len fun j => xs.getD (off + j) false).brQ at' (ps.getD (0 + i.toNat) Knd.pl.dflt))])) else none)
  else (bif growsPl k ys ((mpOf w d h len fun j => xs.getD (off + j) false).brQ at' (ps.getD (0 + i.toNat) Knd.pl.dflt)) then some (.tuple [.nilp, .tuple (valRb1 owner (IntKind.i64.wrap (s + 1)) ll (k + 1) (IntKind.i64.wrap (i + 1)))], rowRb1 w d h off len xs at' ps (ys.take k ++ [((mpOf w d h len fun j => xs.getD (off + j) false).brQ at' (ps.getD (0 + i.toNat) Knd.pl.dflt))])) else none)
  else none
  else
  bif (decide (0 ≤ i) && decide (i < (ll : Int)) && (decide (0 + i.toNat < ps.length) && true) && true || decide (((mpOf w d h len fun j => xs.getD (off + j) false).brQ at' (ps.getD (0 + i.toNat) Knd.pl.dflt)).dead > 0) != true) && (true || decide (((mpOf w d h len fun j => xs.getD (off + j) false).brQ at' (ps.getD (0 + i.toNat) Knd.pl.dflt)).dead > 0) == true) && true then
  bif bif (bif decide (((mpOf w d h len fun j => xs.getD (off + j) false).brQ at' (ps.getD (0 + i.toNat) Knd.pl.dflt)).dead > 0) == true then decide ((ps.getD (0 + i.toNat) Knd.pl.dflt).dead ≤ 0) else false) == true then ((mpOf w d h len fun j => xs.getD (off + j) false).brQ at' (ps.getD (0 + i.toNat) Knd.pl.dflt)).id == owner else false then (bif growsPl k ys ((mpOf w d h len fun j => xs.getD (off + j) false).brQ at' (ps.getD (0 + i.toNat) Knd.pl.dflt)) then some (.tuple [.nilp, .tuple (valRb1 owner (IntKind.i64.wrap (s - 1)) ll (k + 1) (IntKind.i64.wrap (i + 1)))], rowRb1 w d h off len xs at' ps (ys.take k ++ [((mpOf w d h len fun j => xs.getD (off + j) false).brQ at' (ps.getD (0 + i.toNat) Knd.pl.dflt))])) else none)
  else (bif growsPl k ys ((mpOf w d h len fun j => xs.getD (off + j) false).brQ at' (ps.getD (0 + i.toNat) Knd.pl.dflt)) then some (.tuple [.nilp, .tuple (valRb1 owner s ll (k + 1) (IntKind.i64.wrap (i + 1)))], rowRb1 w d h off len xs at' ps (ys.take k ++ [((mpOf w d h len fun j => xs.getD (off + j) false).brQ at' (ps.getD (0 + i.toNat) Knd.pl.dflt))])) else none)
  else none
  else none
  else none
  else none
  else none
  else none
  else none
  else some (.tuple [.ptr 0 0 0 0, .tuple (valRb1 owner s ll k i)], rowRb1 w d h off len xs at' ps ys) := by kernel_rfl

theorem takeP_id (p : Pl) (n : Int) : (takeP p n).id = p.id := by
  unfold takeP
  cases (decide (p.dead > 0) || decide (n < 1))
  · cases decide (takeH p n ≤ 0) <;> rfl
  · rfl
theorem wrap_two (s : Int) : IntKind.i64.wrap (IntKind.i64.wrap (s - 2) + 1) = IntKind.i64.wrap (s - 1) := by
  rw [IntKind.wrap_i64, IntKind.wrap_i64, IntKind.wrap_i64]
  omega
section
variable {w d h : Int} {off len : Nat} {xs : List Bool} {a : V3} {ps : List Pl}
theorem rb_loop1 (hm : mapOk w d h len = true) (ha : fitsB a = true) (hl : decide (off + len ≤ xs.length) = true) (hp : ps.all (fun p => fitsB p.pos) = true) (hL : ps.length ≤ 1000) {owner : Int} : ∀ (n i : Nat) (s : Int) (ys : List Pl), i + n = ps.length → ys.length = i → 0 < i →
    LoopTo rdRb (valRb1 owner s ps.length i i) (rowRb1 w d h off len xs a ps ys) (.exit 0) (valRb1 owner (brSc ((mpOf w d h len fun j => xs.getD (off + j) false).brQ a) owner (ps.drop i) s) ps.length ps.length ps.length) (rowRb1 w d h off len xs a ps (ys ++ (ps.drop i).map ((mpOf w d h len fun j => xs.getD (off + j) false).brQ a)))
  | 0, i, s, ys, h1, h2, h3 => by
    obtain rfl : i = ps.length := by omega
    refine .done ?_ (by simp)
    rw [rb_round1, decide_eq_false (by omega), cond_false, List.drop_length]
    simp only [List.map_nil, List.append_nil]
    rfl
  | n + 1, i, s, ys, h1, h2, h3 => by
    have hi : i < ps.length := by omega
    have hro := rb_round1 w d h off len xs a ps ys owner s ps.length i i
    have e0 : ps.getD (0 + ((i : Int)).toNat) Knd.pl.dflt = ps[i] := by
      rw [show 0 + ((i : Int)).toNat = i by omega]
      exact getD_any _ hi
    have ef : fitsB (ps[i]).pos = true := List.all_eq_true.1 hp _ (List.getElem_mem hi)
    have eg : growsPl i ys ((mpOf w d h len fun j => xs.getD (off + j) false).brQ a ps[i]) = true := by
      unfold growsPl
      rw [decide_eq_true (show 0 + 1 ≤ [(mpOf w d h len fun j => xs.getD (off + j) false).brQ a ps[i]].length by simp), decide_eq_true h3, decide_eq_true (show i ≤ ys.length by omega), decide_eq_true (show i + 1 ≤ 9223372036854775807 by omega), decide_eq_true (show (i + 1) * 120 ≤ 140737488355328 by omega)]
      rfl
    have eq : ((mpOf w d h len fun j => xs.getD (off + j) false).brQ a ps[i]).id = (ps[i]).id := takeP_id _ _
    rw [e0, eq, decide_eq_true (show (i : Int) < (ps.length : Int) by omega), decide_eq_true (show (0 : Int) ≤ (i : Int) by omega), decide_eq_true (show 0 + ((i : Int)).toNat < ps.length by omega), hm, ha, ef, hl, eg, IntWalk.i64_in ((i : Int) + 1) (by omega)] at hro
    simp only [Bool.and_self, Bool.true_or, Bool.and_true, cond_true, and_form] at hro
    have et : ys.take i = ys := by rw [← h2]; exact List.take_length
    rw [et] at hro
    have ih := rb_loop1 hm ha hl hp hL (owner := owner) n (i + 1) (brS owner ps[i] ((mpOf w d h len fun j => xs.getD (off + j) false).brQ a ps[i]) s) (ys ++ [(mpOf w d h len fun j => xs.getD (off + j) false).brQ a ps[i]]) (by omega) (by simp [h2]) (by omega)
    rw [List.append_assoc, List.singleton_append] at ih
    rw [List.drop_eq_getElem_cons hi, List.map_cons]
    refine .more ?_ ih
    rw [hro]
    unfold brS diedB bne
    rw [wrap_two]
    cases decide (((mpOf w d h len fun j => xs.getD (off + j) false).brQ a ps[i]).dead > 0) && decide ((ps[i]).dead ≤ 0)
    · rfl
    · cases (ps[i]).id == owner <;> rfl
theorem rb_loop0 (hm : mapOk w d h len = true) (ha : fitsB a = true) (hl : decide (off + len ≤ xs.length) = true) (hp : ps.all (fun p => fitsB p.pos) = true) (hL : ps.length ≤ 1000) (h0 : 0 < ps.length) {owner : Int} :
    LoopTo rdRb (valRb0 owner 0 ps.length 0) (rowRb0 w d h off len xs a ps) (.exit 0) (valRb1 owner (brSc ((mpOf w d h len fun j => xs.getD (off + j) false).brQ a) owner ps 0) ps.length ps.length ps.length) (rowRb1 w d h off len xs a ps (ps.map ((mpOf w d h len fun j => xs.getD (off + j) false).brQ a))) := by
  have hro := rb_round0 w d h off len xs a ps owner 0 ps.length 0
  have e0 : ps.getD (0 + (0 : Int).toNat) Knd.pl.dflt = ps[0] := by
    rw [show 0 + (0 : Int).toNat = 0 from rfl]
    exact getD_any _ h0
  have ef : fitsB (ps[0]).pos = true := List.all_eq_true.1 hp _ (List.getElem_mem h0)
  have eq : ((mpOf w d h len fun j => xs.getD (off + j) false).brQ a ps[0]).id = (ps[0]).id := takeP_id _ _
  rw [e0, eq, decide_eq_true (show (0 : Int) < (ps.length : Int) by omega), decide_eq_true (show (0 : Int) ≤ 0 by omega), decide_eq_true (show 0 + (0 : Int).toNat < ps.length by have : (0 : Int).toNat = 0 := rfl; omega), hm, ha, ef, hl] at hro
  simp only [Bool.and_self, Bool.true_or, Bool.and_true, cond_true, and_form] at hro
  have ih := rb_loop1 hm ha hl hp hL (owner := owner) (ps.length - 1) 1 (brS owner ps[0] ((mpOf w d h len fun j => xs.getD (off + j) false).brQ a ps[0]) 0) [(mpOf w d h len fun j => xs.getD (off + j) false).brQ a ps[0]] (by omega) rfl (by omega)
  have ed : ps = ps[0] :: ps.drop 1 := by
    have := List.drop_eq_getElem_cons h0
    rw [List.drop_zero] at this
    exact this
  have em : ps.map ((mpOf w d h len fun j => xs.getD (off + j) false).brQ a) = [(mpOf w d h len fun j => xs.getD (off + j) false).brQ a ps[0]] ++ (ps.drop 1).map ((mpOf w d h len fun j => xs.getD (off + j) false).brQ a) := by
    rw [List.singleton_append, ← List.map_cons, ← ed]
  have es : brSc ((mpOf w d h len fun j => xs.getD (off + j) false).brQ a) owner ps 0 = brSc ((mpOf w d h len fun j => xs.getD (off + j) false).brQ a) owner (ps.drop 1) (brS owner ps[0] ((mpOf w d h len fun j => xs.getD (off + j) false).brQ a ps[0]) 0) := by
    have : brSc ((mpOf w d h len fun j => xs.getD (off + j) false).brQ a) owner (ps[0] :: ps.drop 1) 0 = brSc ((mpOf w d h len fun j => xs.getD (off + j) false).brQ a) owner (ps.drop 1) (brS owner ps[0] ((mpOf w d h len fun j => xs.getD (off + j) false).brQ a ps[0]) 0) := rfl
    rwa [← ed] at this
  rw [em, es]
  refine .more ?_ ih
  rw [hro]
  unfold brS diedB bne
  rw [wrap_two]
  cases decide (((mpOf w d h len fun j => xs.getD (off + j) false).brQ a ps[0]).dead > 0) && decide ((ps[0]).dead ≤ 0)
  · rfl
  · cases (ps[0]).id == owner <;> rfl
end
set_option maxHeartbeats 0 in
noncomputable def outRb (v : List SV) (R : List Row) (k : Ex → List SV → List Row → Option Res2) : Option Res2 := match v, R with
  | [.int .i64 owner, .slice 1 15 0 ll none, .ptr 2 0 0 0, .ptr 3 0 0 0, .nils, .slice 4 15 0 0 (some 0), .int .i64 s, .int .i64 i], [.vec true .bool xs, .vec true .pl ps, .own [.int .i64 w, .int .i64 d, .int .i64 h, .slice 0 1 off len none, .unk], .own [.int .i64 ax, .int .i64 ay, .int .i64 az], .vec false .pl []] =>
      bif (decide (s = 0) && decide (i = 0)) && buOk w d h off len xs ⟨ax, ay, az⟩ ps ll then
        (bif Nat.beq ll 0 then k (.exit 0) (valRb0 owner 0 ll 0) (rowRb0 w d h off len xs ⟨ax, ay, az⟩ ps)
        else k (.exit 0) (valRb1 owner (brSc ((mpOf w d h len fun j => xs.getD (off + j) false).brQ ⟨ax, ay, az⟩) owner ps 0) ll ll ll) (rowRb1 w d h off len xs ⟨ax, ay, az⟩ ps (ps.map ((mpOf w d h len fun j => xs.getD (off + j) false).brQ ⟨ax, ay, az⟩)))) else none
  | _, _ => none
set_option maxHeartbeats 0 in
theorem lpoRb_ok : LpOk 18 [0, 1, 0, 1, 1, 1] (loopF 100 [2, 3, 4, 5, 8, 9, 10, 11] outRb) := by
  intro b hat s K r h
  refine loopF_ok (fuel := 100) xRb_ok lok_none hat (fun v R k r hr => ?_) h
  have hbody := at_body Try.func18 hat
  subst hbody
  unfold outRb at hr
  split at hr
  · rename_i owner ll s i xs ps w d h off len ax ay az
    obtain ⟨hb, hr2⟩ := cond_some hr
    unfold buOk at hb
    simp only [Bool.and_eq_true, decide_eq_true_eq] at hb
    obtain ⟨⟨rfl, rfl⟩, ⟨⟨h1, h2⟩, h3⟩, h4, h5, h6⟩ := hb
    have e1 : ll = List.length (α := Pl) ps := h5
    subst e1
    cases h0 : Nat.beq (List.length (α := Pl) ps) 0 with
    | true =>
      rw [h0, cond_true] at hr2
      have hz := Nat.eq_of_beq_eq_true h0
      refine ⟨_, _, _, hr2, .done ?_ (by simp)⟩
      have hro := rb_round0 w d h off len xs ⟨ax, ay, az⟩ ps owner 0 (List.length (α := Pl) ps) 0
      rw [decide_eq_false (by omega)] at hro
      exact hro
    | false =>
      rw [h0, cond_false] at hr2
      have hz := Nat.ne_of_beq_eq_false h0
      exact ⟨_, _, _, hr2, rb_loop0 h1 h2 (decide_eq_true h3) h4 h6 (by omega)⟩
  · cases hr
noncomputable def lpoRb : Lpo := ⟨_, _, _, lpoRb_ok⟩

end Go.Proofs.Ytboljdeeodeeeaa

namespace Go.Proofs.Ytboljdeeodeeeaa
set_option linter.unusedSimpArgs false
set_option linter.unusedVariables false
set_option maxRecDepth 100000
open Go.RowKit

/-! The second loop: the owner's score. -/
def valRq (owner s : Int) (k : Nat) (i : Int) : List SV := [.int .i64 owner, .nils, .slice 5 15 0 k none, .int .i64 s, .int .i64 i]
def valRqz (owner s : Int) (i : Int) : List SV := [.int .i64 owner, .nils, .slice 4 15 0 0 (some 0), .int .i64 s, .int .i64 i]
noncomputable def rdRq (n0 : Nat) : List SV → List Row → Option Res2 := roundS xRb (fun _ _ => none) 100 18 [0, 1, 0, 1, 1, 1, 1] (bodyAt Try.f18 [0, 1, 0, 1, 1, 1, 1]) 100 n0 [2, 8, 9, 10, 13]
set_option maxRecDepth 100000 in
set_option maxHeartbeats 0 in
theorem rq_round (w d h : Int) (off len : Nat) (xs : List Bool) (at' : V3) (ps ys : List Pl) (owner s : Int) (k : Nat) (i : Int) : rdRq 6 (valRq owner s k i) (rowRb1 w d h off len xs at' ps ys) =
  bif decide (i < (k : Int)) then
  bif decide (0 ≤ i) && decide (i < (k : Int)) then
  bif decide (0 + i.toNat < ys.length) then
  bif (ys.getD (0 + i.toNat) Knd.pl.dflt).id == owner then
  bif decide (0 ≤ i) && decide (i < (k : Int)) then
  bif decide (0 + i.toNat < ys.length) then
  bif decide (0 ≤ i) && decide (i < (k : Int)) then
  bif decide (0 + i.toNat < ys.length) then
  some (.tuple [.nilp, .tuple (valRq owner s k (IntKind.i64.wrap (i + 1)))], rowRb1 w d h off len xs at' ps (ys.set (0 + i.toNat) (Pl.scored (ys.getD (0 + i.toNat) Knd.pl.dflt) s)))
  else none
  else none
  else none
  else none
  else some (.tuple [.nilp, .tuple (valRq owner s k (IntKind.i64.wrap (i + 1)))], rowRb1 w d h off len xs at' ps ys)
  else none
  else none
  else some (.tuple [.ptr 2 0 0 0, .tuple (valRq owner s k i)], rowRb1 w d h off len xs at' ps ys) := by kernel_rfl
set_option maxRecDepth 100000 in
theorem rqz_round (w d h : Int) (off len : Nat) (xs : List Bool) (at' : V3) (ps : List Pl) (owner s : Int) : rdRq 5 (valRqz owner s 0) (rowRb0 w d h off len xs at' ps) = some (.tuple [.ptr 2 0 0 0, .tuple (valRqz owner s 0)], rowRb0 w d h off len xs at' ps) := by kernel_rfl
section
variable {w d h : Int} {off len : Nat} {xs : List Bool} {a : V3} {ps : List Pl}
theorem rq_loop {owner s : Int} : ∀ (n i : Nat) (ys : List Pl), i + n = ys.length → ys.length ≤ 1000 →
    LoopTo (rdRq 6) (valRq owner s ys.length i) (rowRb1 w d h off len xs a ps ys) (.exit 2) (valRq owner s ys.length ys.length) (rowRb1 w d h off len xs a ps (ys.take i ++ (ys.drop i).map (bumpP owner s)))
  | 0, i, ys, h1, h2 => by
    obtain rfl : i = ys.length := by omega
    refine .done ?_ (by simp)
    rw [rq_round, decide_eq_false (by omega), cond_false, List.drop_length, List.take_length]
    simp only [List.map_nil, List.append_nil]
    rfl
  | n + 1, i, ys, h1, h2 => by
    have hi : i < ys.length := by omega
    have hro := rq_round w d h off len xs a ps ys owner s ys.length i
    have e0 : ys.getD (0 + ((i : Int)).toNat) Knd.pl.dflt = ys[i] := by
      rw [show 0 + ((i : Int)).toNat = i by omega]
      exact getD_any _ hi
    rw [e0, decide_eq_true (show (i : Int) < (ys.length : Int) by omega), decide_eq_true (show (0 : Int) ≤ (i : Int) by omega), decide_eq_true (show 0 + ((i : Int)).toNat < ys.length by omega), IntWalk.i64_in ((i : Int) + 1) (by omega), show 0 + ((i : Int)).toNat = i by omega] at hro
    simp only [Bool.and_self, cond_true] at hro
    cases hc : (ys[i]).id == owner with
    | false =>
      rw [hc, cond_false] at hro
      have ih := rq_loop (owner := owner) (s := s) n (i + 1) ys (by omega) h2
      have e : ys.take (i + 1) ++ (ys.drop (i + 1)).map (bumpP owner s) = ys.take i ++ (ys.drop i).map (bumpP owner s) := by
        rw [List.drop_eq_getElem_cons hi, List.map_cons, List.take_add_one, List.getElem?_eq_getElem hi, show bumpP owner s ys[i] = ys[i] by unfold bumpP; rw [hc]; rfl]
        simp only [Option.toList_some, List.append_assoc, List.singleton_append, List.cons_append, List.nil_append]
      rw [e] at ih
      exact .more hro ih
    | true =>
      rw [hc, cond_true] at hro
      have hl : (ys.set i (Pl.scored ys[i] s)).length = ys.length := List.length_set ..
      have ih := rq_loop (owner := owner) (s := s) n (i + 1) (ys.set i (Pl.scored ys[i] s)) (by omega) (by omega)
      rw [hl] at ih
      have e : (ys.set i (Pl.scored ys[i] s)).take (i + 1) ++ ((ys.set i (Pl.scored ys[i] s)).drop (i + 1)).map (bumpP owner s) = ys.take i ++ (ys.drop i).map (bumpP owner s) := by
        rw [List.drop_eq_getElem_cons hi, List.map_cons, List.take_add_one, List.getElem?_set_self hi, List.take_set_of_le (by omega), List.drop_set_of_lt (by omega), show bumpP owner s ys[i] = Pl.scored ys[i] s by unfold bumpP; rw [hc]; rfl]
        simp only [Option.toList_some, List.append_assoc, List.singleton_append, List.cons_append, List.nil_append]
      rw [e] at ih
      exact .more hro ih
theorem rq_loop0 {owner s : Int} {ys : List Pl} (h2 : ys.length ≤ 1000) :
    LoopTo (rdRq 6) (valRq owner s ys.length 0) (rowRb1 w d h off len xs a ps ys) (.exit 2) (valRq owner s ys.length ys.length) (rowRb1 w d h off len xs a ps (ys.map (bumpP owner s))) := by
  have key := rq_loop (w := w) (d := d) (h := h) (off := off) (len := len) (xs := xs) (a := a) (ps := ps) (owner := owner) (s := s) ys.length 0 ys (by omega) h2
  rw [List.take_zero, List.nil_append, List.drop_zero] at key
  exact key
end

set_option maxHeartbeats 0 in
noncomputable def outRq (v : List SV) (R : List Row) (k : Ex → List SV → List Row → Option Res2) : Option Res2 := match v, R with
  | [.int .i64 owner, .nils, .slice 5 15 0 kk none, .int .i64 s, .int .i64 i], [.vec true .bool xs, .vec true .pl ps, .own [.int .i64 w, .int .i64 d, .int .i64 h, .slice 0 1 off len none, .unk], .own [.int .i64 ax, .int .i64 ay, .int .i64 az], .gone, .vec false .pl ys] =>
      bif decide (i = 0) && (decide (kk = ys.length) && decide (kk ≤ 1000)) then
        k (.exit 2) (valRq owner s kk kk) (rowRb1 w d h off len xs ⟨ax, ay, az⟩ ps (ys.map (bumpP owner s))) else none
  | [.int .i64 owner, .nils, .slice 4 15 0 0 (some 0), .int .i64 s, .int .i64 i], [.vec true .bool xs, .vec true .pl ps, .own [.int .i64 w, .int .i64 d, .int .i64 h, .slice 0 1 off len none, .unk], .own [.int .i64 ax, .int .i64 ay, .int .i64 az], .vec false .pl []] =>
      bif decide (i = 0) then k (.exit 2) (valRqz owner s 0) (rowRb0 w d h off len xs ⟨ax, ay, az⟩ ps) else none
  | _, _ => none
set_option maxHeartbeats 0 in
theorem lpoRq_ok : LpOk 18 [0, 1, 0, 1, 1, 1, 1] (loopF 100 [2, 8, 9, 10, 13] outRq) := by
  intro b hat s K r h
  refine loopF_ok (fuel := 100) xRb_ok lok_none hat (fun v R k r hr => ?_) h
  have hbody := at_body Try.func18 hat
  subst hbody
  unfold outRq at hr
  split at hr
  · rename_i owner kk s i xs ps w d h off len ax ay az ys
    obtain ⟨hb, hr2⟩ := cond_some hr
    simp only [Bool.and_eq_true, decide_eq_true_eq] at hb
    obtain ⟨rfl, h1, h2⟩ := hb
    have e1 : kk = List.length (α := Pl) ys := h1
    subst e1
    exact ⟨_, _, _, hr2, rq_loop0 (w := w) (d := d) (h := h) (off := off) (len := len) (xs := xs) (a := ⟨ax, ay, az⟩) (ps := ps) (owner := owner) (s := s) (ys := ys) h2⟩
  · rename_i owner s i xs ps w d h off len ax ay az
    obtain ⟨hb, hr2⟩ := cond_some hr
    simp only [Bool.and_eq_true, decide_eq_true_eq] at hb
    obtain rfl := hb
    exact ⟨_, _, _, hr2, .done (rqz_round w d h off len xs ⟨ax, ay, az⟩ ps owner s) (by simp)⟩
  · cases hr
noncomputable def lpoRq : Lpo := ⟨_, _, _, lpoRq_ok⟩

set_option maxRecDepth 100000 in
set_option maxHeartbeats 0 in
theorem rburst_tree (w d h : Int) (off len : Nat) (xs : List Bool) (a : V3) (ps : List Pl) (owner : Int) (ll : Nat) : runK xRb (loopOf [lpoRb, lpoRq]) 300 18 Try.f18 9 [mapS w d h (.slice 0 1 off len none) .unk, .agg a.sv, .int .i64 owner, .slice 1 15 0 ll none] [.vec true .bool xs, .vec true .pl ps] =
  bif buOk w d h off len xs a ps ll then
  bif Nat.beq ll 0 then some (.slice 4 15 0 0 (some 0), rowRb0 w d h off len xs a ps)
  else bif decide (ll = (ps.map ((mpOf w d h len fun j => xs.getD (off + j) false).brQ a)).length) && decide (ll ≤ 1000) then some (.slice 5 15 0 ll none, rowRb1 w d h off len xs a ps (burstL ((mpOf w d h len fun j => xs.getD (off + j) false).brQ a) owner ps)) else none
  else none := by kernel_rfl
theorem rb_get {rows' : List Row} {w d h : Int} {off len : Nat} {xs : List Bool} {a : V3} {ps ys : List Pl} (ht : rows'.take 9 = rowRb1 w d h off len xs a ps ys) : rows'[5]? = some (.vec false .pl ys) := by
  have : (rows'.take 9)[5]? = some (.vec false .pl ys) := by rw [ht]; rfl
  rw [List.getElem?_take] at this
  exact this
theorem rb_get0 {rows' : List Row} {w d h : Int} {off len : Nat} {xs : List Bool} {a : V3} {ps : List Pl} (ht : rows'.take 9 = rowRb0 w d h off len xs a ps) : rows'[4]? = some (.vec false .pl ([] : List Pl)) := by
  have : (rows'.take 9)[4]? = some (.vec false .pl ([] : List Pl)) := by rw [ht]; rfl
  rw [List.getElem?_take] at this
  exact this
theorem rburst_main {w d h : Int} {off len : Nat} {xs : List Bool} {a : V3} {ps : List Pl} {owner : Int} {rows : List Row} {id ip : Nat} {ra rb ok : Bool} (h1 : rows[id]? = some (.vec ra .bool xs)) (h2 : rows[ip]? = some (.vec rb .pl ps)) (hok : buOk w d h off len xs a ps ps.length = true) :
    FnOk Try.prog 18 [mapS w d h (.slice id 1 off len none) .unk, .agg a.sv, .int .i64 owner, .slice ip 15 0 ps.length none] (rows[·]?) rows.length { ok := ok, val := .slice rows.length 15 0 (burstL ((mpOf w d h len fun j => xs.getD (off + j) false).brQ a) owner ps).length none, rd := [id, ip], nw := [.vec true .pl (burstL ((mpOf w d h len fun j => xs.getD (off + j) false).brQ a) owner ps)] } := by
  have hv := rburst_tree w d h off len xs a ps owner ps.length
  rw [hok, cond_true] at hv
  have hm : ∀ (i : Nat) (row : Row), ([.vec true .bool xs, .vec true .pl ps] : List Row)[i]? = some row → ∃ (k : Knd) (zs : List k.T) (ro : Bool), row = .vec true k zs ∧ (rows[·]?) (atR [id, ip] rows.length i) = some (.vec ro k zs) := by
    intro i row hr
    match i with
    | 0 => simp at hr; subst hr; exact ⟨.bool, xs, ra, rfl, h1⟩
    | 1 => simp at hr; subst hr; exact ⟨.pl, ps, rb, rfl, h2⟩
    | i + 2 => simp at hr
  have ha : ∀ i ∈ SV.idsL [mapS w d h (.slice 0 1 off len none) .unk, .agg a.sv, .int .i64 owner, .slice 1 15 0 ps.length none], i < ([.vec true .bool xs, .vec true .pl ps] : List Row).length := by
    intro i hi
    simp [mapS, SV.idsL, SV.ids, V3.sv] at hi
    simp
    omega
  cases h0 : Nat.beq ps.length 0 with
  | true =>
    rw [h0, cond_true] at hv
    have hz := Nat.eq_of_beq_eq_true h0
    obtain ⟨rows', hc, ht⟩ := runK_ok xRb_ok loopOf_ok Try.func18 hv
    have hb : burstL ((mpOf w d h len fun j => xs.getD (off + j) false).brQ a) owner ps = [] := by
      rw [List.length_eq_zero_iff.1 hz]
      rfl
    rw [hb]
    exact fnOk_freshK (k := .pl) (ds := ([] : List Pl)) hc (σ := [id, ip]) rfl ha hm (.inr ⟨4, some 0, false, ([] : List Pl), rfl, by simp, rb_get0 ht, fun i hi => rfl⟩)
  | false =>
    have hL : ps.length ≤ 1000 := by
      unfold buOk at hok
      simp only [Bool.and_eq_true, decide_eq_true_eq] at hok
      exact hok.2.2.2
    rw [h0, cond_false, List.length_map, decide_eq_true rfl, decide_eq_true hL] at hv
    simp only [Bool.and_self, cond_true] at hv
    obtain ⟨rows', hc, ht⟩ := runK_ok xRb_ok loopOf_ok Try.func18 hv
    exact fnOk_freshK (k := .pl) (ds := burstL ((mpOf w d h len fun j => xs.getD (off + j) false).brQ a) owner ps) hc (σ := [id, ip]) rfl ha hm (.inr ⟨5, none, false, burstL ((mpOf w d h len fun j => xs.getD (off + j) false).brQ a) owner ps, congrArg (fun q => SV.slice 5 15 0 q none) (burst_len _ _ _).symm, by simp, rb_get ht, fun i hi => rfl⟩)
theorem oRBurst_ok {args : List SV} {rows : List Row} {e : Eff} (h : oBurst args rows = some e) (hok : e.ok = true) : FnOk Try.prog 18 args (rows[·]?) rows.length e := by
  unfold oBurst at h
  split at h
  · rename_i w d hh id st off len cap sp x y z owner ip ll cp
    split at h
    · rename_i ra xs rb ps h1 h2
      obtain ⟨hb, h⟩ := cond_some h
      cases h
      rw [Bool.and_eq_true] at hb
      have hst := Nat.eq_of_beq_eq_true hb.1
      subst hst
      have hok : buOk w d hh off len xs ⟨x, y, z⟩ ps ll = true := hok
      have e1 : ll = List.length (α := Pl) ps := by
        have := hok
        unfold buOk at this
        simp only [Bool.and_eq_true, decide_eq_true_eq] at this
        exact this.2.2.1
      subst e1
      refine fnOk_weaken (args := [mapS w d hh (.slice id 1 off len none) .unk, .agg [.int .i64 x, .int .i64 y, .int .i64 z], .int .i64 owner, .slice ip 15 0 (List.length (α := Pl) ps) none]) (rburst_main (a := ⟨x, y, z⟩) (xs := xs) (ps := ps) h1 h2 hok) fun ρ vs hr => ?_
      rw [RelL] at hr ⊢
      obtain ⟨u, us, rfl, k1, k2⟩ := hr
      refine ⟨u, us, rfl, rel_map hb.2 k1, ?_⟩
      rw [RelL] at k2 ⊢
      obtain ⟨u, us, rfl, k1, k2⟩ := k2
      refine ⟨u, us, rfl, k1, ?_⟩
      rw [RelL] at k2 ⊢
      obtain ⟨u, us, rfl, k1, k2⟩ := k2
      refine ⟨u, us, rfl, k1, ?_⟩
      rw [RelL] at k2 ⊢
      obtain ⟨u, us, rfl, k1, k2⟩ := k2
      exact ⟨u, us, rfl, rel_nocap k1, k2⟩
    · cases h
  · cases h
noncomputable def orcRBurst : Orc := ⟨18, oBurst, fun _ _ _ h hok => oRBurst_ok h hok, bodied Try.func18 (by kernel_rfl)⟩

end Go.Proofs.Ytboljdeeodeeeaa
