/- The reference's Take and Hurt, as contracts: the same as blast's. -/
import Derived.Test.YtboljdeeodeeeaaVmTp
import Derived.Test.YtboljdeeodeeeaaVmHt
import Derived.Test.YtboljdeeodeeeaaVmTv
import Derived.Test.YtboljdeeodeeeaaVmCr
namespace Go.Proofs.Ytboljdeeodeeeaa
set_option linter.unusedSimpArgs false
set_option linter.unusedVariables false
set_option maxRecDepth 100000
open Go.RowKit

set_option maxRecDepth 100000 in
set_option maxHeartbeats 0 in
theorem rtake_tree (p : Pl) (n : Int) : runK xTp (fun _ _ => none) 200 15 Try.f15 0 [.agg p.sv, .int .i64 n] [] =
  bif bif decide (p.dead > 0) == false then decide (n < 1) else true then
  some
  (SV.agg
  [SV.int IntKind.i64 p.id, SV.int IntKind.i64 p.pos.x, SV.int IntKind.i64 p.pos.y, SV.int IntKind.i64 p.pos.z, SV.int IntKind.i64 p.vel.x, SV.int IntKind.i64 p.vel.y,
  SV.int IntKind.i64 p.vel.z, SV.bool p.ground, SV.int IntKind.i64 p.health, SV.int IntKind.i64 p.armour, SV.int IntKind.i64 p.score, SV.int IntKind.i64 p.a0, SV.int IntKind.i64 p.a1,
  SV.int IntKind.i64 p.wait, SV.int IntKind.i64 p.dead],
  [])
  else
  bif decide (IntKind.i64.wrap (p.health - IntKind.i64.wrap (n - min (IntKind.i64.wrap (n.tdiv 2)) p.armour)) ≤ 0) then
  some
  (SV.agg
  [SV.int IntKind.i64 p.id, SV.int IntKind.i64 p.pos.x, SV.int IntKind.i64 p.pos.y, SV.int IntKind.i64 p.pos.z, SV.int IntKind.i64 p.vel.x, SV.int IntKind.i64 p.vel.y,
  SV.int IntKind.i64 p.vel.z, SV.bool p.ground, SV.int IntKind.i64 0, SV.int IntKind.i64 (IntKind.i64.wrap (p.armour - min (IntKind.i64.wrap (n.tdiv 2)) p.armour)),
  SV.int IntKind.i64 p.score, SV.int IntKind.i64 p.a0, SV.int IntKind.i64 p.a1, SV.int IntKind.i64 p.wait, SV.int IntKind.i64 30],
  [])
  else
  some
  (SV.agg
  [SV.int IntKind.i64 p.id, SV.int IntKind.i64 p.pos.x, SV.int IntKind.i64 p.pos.y, SV.int IntKind.i64 p.pos.z, SV.int IntKind.i64 p.vel.x, SV.int IntKind.i64 p.vel.y,
  SV.int IntKind.i64 p.vel.z, SV.bool p.ground, SV.int IntKind.i64 (IntKind.i64.wrap (p.health - IntKind.i64.wrap (n - min (IntKind.i64.wrap (n.tdiv 2)) p.armour))),
  SV.int IntKind.i64 (IntKind.i64.wrap (p.armour - min (IntKind.i64.wrap (n.tdiv 2)) p.armour)), SV.int IntKind.i64 p.score, SV.int IntKind.i64 p.a0, SV.int IntKind.i64 p.a1,
  SV.int IntKind.i64 p.wait, SV.int IntKind.i64 p.dead],
  []) := by kernel_rfl

theorem rtake_val (p : Pl) (n : Int) : runK xTp (fun _ _ => none) 200 15 Try.f15 0 [.agg p.sv, .int .i64 n] [] = some (.agg (takeP p n).sv, []) := by
  rw [rtake_tree]
  simp only [or_form]
  unfold takeP
  rw [show IntKind.i64.wrap (p.health - IntKind.i64.wrap (n - min (IntKind.i64.wrap (n.tdiv 2)) p.armour)) = takeH p n from rfl]
  cases (decide (p.dead > 0) || decide (n < 1))
  · cases decide (takeH p n ≤ 0) <;> rfl
  · rfl
set_option maxHeartbeats 0 in
theorem oRTake_ok {m : Nat → Option Row} {n : Nat} {args : List SV} {e : Eff} (h : oTake args = some e) : FnOk Try.prog 15 args m n e := by
  unfold oTake at h
  split at h
  · rename_i a0 a1 a2 a3 a4 a5 a6 a7 a8 a9 a10 a11 a12 a13 a14 nn
    cases h
    obtain ⟨rows', hc, _⟩ := runK_ok xTp_ok lok_none Try.func15 (rtake_val ⟨a0, ⟨a1, a2, a3⟩, ⟨a4, a5, a6⟩, a7, a8, a9, a10, a11, a12, a13, a14⟩ nn)
    exact fnOk_pure hc rfl rfl
  · cases h
noncomputable def orcRTake : Orc := ⟨15, fun args _ => oTake args, fun _ _ _ h _ => oRTake_ok h, bodied Try.func15 (by kernel_rfl)⟩

noncomputable def xRu : Ctx := ctxOf [] [orcLongD, orcVecMinus, orcRSight]
theorem xRu_ok : COk Try.prog xRu := ctxOf_ok (by kernel_rfl)

set_option maxRecDepth 100000 in
set_option maxHeartbeats 0 in
theorem rhurt_tree (w d h : Int) (len off : Nat) (xs : List Bool) (a : V3) (p : Pl) : runK xRu (fun _ _ => none) 200 14 Try.f14 0 [mapS w d h (.slice 0 1 off len none) .unk, .agg a.sv, .agg p.sv] [.vec true .bool xs] =
  bif fitsB p.pos && fitsB a then
  bif fitsB (p.pos.minus a) then
  bif bif decide (p.dead > 0) == false then decide ((p.pos.minus a).long ≥ 196608) else true then some (SV.int IntKind.i64 0, [])
  else
  bif fitsB a && fitsB p.pos && decide (off + len ≤ xs.length) then
  bif !(mpOf w d h len fun j => xs.getD (off + j) false).sight a p.pos then some (SV.int IntKind.i64 0, [])
  else some (SV.int IntKind.i64 (IntKind.i64.wrap ((IntKind.i64.wrap (100 * IntKind.i64.wrap (196608 - (p.pos.minus a).long))).tdiv 196608)), [])
  else none
  else none
  else none := by kernel_rfl

theorem long_nat (a : V3) : 0 ≤ a.long ∧ a.long ≤ 9223372036854775807 := by
  unfold V3.long signedN
  rw [if_neg (by simp)]
  omega
theorem rhurt_val {w d h : Int} {len off : Nat} {xs : List Bool} {a : V3} {p : Pl} (hl : decide (off + len ≤ xs.length) = true) (ha : a.fits) (hp : p.pos.fits) :
    runK xRu (fun _ _ => none) 200 14 Try.f14 0 [mapS w d h (.slice 0 1 off len none) .unk, .agg a.sv, .agg p.sv] [.vec true .bool xs] = some (.int .i64 ((mpOf w d h len fun j => xs.getD (off + j) false).hurt a p), []) := by
  rw [rhurt_tree]
  simp only [hl, fitsB_iff.2 ha, fitsB_iff.2 hp, fitsB_iff.2 (minus_fits' p.pos a), Bool.and_self, cond_true, or_form]
  have hL := long_nat (p.pos.minus a)
  have e : decide (nearN a p ≤ 0) = decide ((p.pos.minus a).long ≥ 196608) := by
    unfold nearN
    rw [IntWalk.i64_in (196608 - (p.pos.minus a).long) (by omega)]
    exact decide_eq_decide.2 (by omega)
  unfold Mp.hurt
  rw [e]
  unfold nearN
  cases decide (p.dead > 0) || decide ((p.pos.minus a).long ≥ 196608)
  · cases (mpOf w d h len fun j => xs.getD (off + j) false).sight a p.pos <;> rfl
  · rfl
theorem oRHurt_ok {args : List SV} {rows : List Row} {n : Nat} {e : Eff} (h : oHurt args rows = some e) (hok : e.ok = true) : FnOk Try.prog 14 args (rows[·]?) n e := by
  unfold oHurt at h
  split at h
  · rename_i wd dd hd id st off len cap sp x y z a0 a1 a2 a3 a4 a5 a6 a7 a8 a9 a10 a11 a12 a13 a14
    split at h
    · rename_i ro xs hrow
      obtain ⟨hb, h⟩ := cond_some h
      cases h
      rw [Bool.and_eq_true] at hb
      have hst := Nat.eq_of_beq_eq_true hb.1
      subst hst
      simp only [Bool.and_eq_true, fitsB_iff] at hok
      obtain ⟨h1, h2, h3, h4⟩ := hok
      obtain ⟨rows', hc, _⟩ := runK_ok xRu_ok lok_none Try.func14 (rhurt_val (w := wd) (d := dd) (h := hd) (a := ⟨x, y, z⟩) (p := ⟨a0, ⟨a1, a2, a3⟩, ⟨a4, a5, a6⟩, a7, a8, a9, a10, a11, a12, a13, a14⟩) h4 h2 h3)
      exact fnOk_map hb.2 hc rfl rfl hrow
    · cases h
  · cases h
noncomputable def orcRHurt : Orc := ⟨14, oHurt, fun _ _ _ h hok => oRHurt_ok h hok, bodied Try.func14 (by kernel_rfl)⟩

end Go.Proofs.Ytboljdeeodeeeaa
