/- blast's Hurt, as a contract. -/
import Derived.Test.YtboljdeeodeeeaaVmLg
import Derived.Test.YtboljdeeodeeeaaVmSg
import Derived.Test.YtboljdeeodeeeaaVmOrb
import Derived.Test.YtboljdeeodeeeaaVmR
namespace Go.Proofs.Ytboljdeeodeeeaa
set_option linter.unusedSimpArgs false
set_option linter.unusedVariables false
set_option maxRecDepth 100000
open Go.RowKit

noncomputable def xHt : Ctx := ctxOf [] [orcLong, orcMinus, orcSight]
theorem xHt_ok : COk Try.prog xHt := ctxOf_ok (by kernel_rfl)

set_option maxRecDepth 100000 in
set_option maxHeartbeats 0 in
theorem hurt_tree (w d h : Int) (len off : Nat) (xs : List Bool) (a : V3) (p : Pl) : runK xHt (fun _ _ => none) 200 13 Try.f13 0 [mapS w d h (.slice 0 1 off len none) .unk, .agg a.sv, .agg p.sv] [.vec true .bool xs] =
  bif fitsB p.pos && fitsB a then
    bif fitsB (p.pos.minus a) then
      bif
          (mapOk w d h len && (fitsB a && (fitsB p.pos && decide (off + len ≤ xs.length))) && true && true ||
                (bif decide (p.dead > 0) == false then decide (IntKind.i64.wrap (196608 - (p.pos.minus a).long) ≤ 0) else true) != false) &&
              (true || (bif decide (p.dead > 0) == false then decide (IntKind.i64.wrap (196608 - (p.pos.minus a).long) ≤ 0) else true) == false) &&
            true then
        bif
            bif (bif decide (p.dead > 0) == false then decide (IntKind.i64.wrap (196608 - (p.pos.minus a).long) ≤ 0) else true) == false then
              !(mpOf w d h len fun j => xs.getD (off + j) false).sight a p.pos
            else true then
          some (SV.int IntKind.i64 0, [])
        else some (SV.int IntKind.i64 (IntKind.i64.wrap ((IntKind.i64.wrap (100 * IntKind.i64.wrap (196608 - (p.pos.minus a).long))).tdiv 196608)), [])
      else none
    else none
  else none := by kernel_rfl

/-- How much a burst hurts a player. -/
def nearN (a : V3) (p : Pl) : Int := IntKind.i64.wrap (196608 - (p.pos.minus a).long)
noncomputable def Mp.hurt (m : Mp) (a : V3) (p : Pl) : Int := bif (decide (p.dead > 0) || decide (nearN a p ≤ 0)) || !m.sight a p.pos then 0 else IntKind.i64.wrap ((IntKind.i64.wrap (100 * nearN a p)).tdiv 196608)
theorem minus_fits' (a b : V3) : (a.minus b).fits := ⟨cut64_fits _, cut64_fits _, cut64_fits _⟩
theorem hurt_val {w d h : Int} {len off : Nat} {xs : List Bool} {a : V3} {p : Pl} (hm : mapOk w d h len = true) (hl : decide (off + len ≤ xs.length) = true) (ha : a.fits) (hp : p.pos.fits) :
    runK xHt (fun _ _ => none) 200 13 Try.f13 0 [mapS w d h (.slice 0 1 off len none) .unk, .agg a.sv, .agg p.sv] [.vec true .bool xs] = some (.int .i64 ((mpOf w d h len fun j => xs.getD (off + j) false).hurt a p), []) := by
  rw [hurt_tree]
  simp only [hm, hl, fitsB_iff.2 ha, fitsB_iff.2 hp, fitsB_iff.2 (minus_fits' p.pos a), Bool.and_true, Bool.true_or, cond_true, or_form]
  unfold Mp.hurt nearN
  cases decide (p.dead > 0) || decide (IntKind.i64.wrap (196608 - (p.pos.minus a).long) ≤ 0)
  · cases (mpOf w d h len fun j => xs.getD (off + j) false).sight a p.pos <;> rfl
  · rfl
noncomputable def oHurt (args : List SV) (rows : List Row) : Option Eff :=
  match args with
  | [.agg [.int .i64 w, .int .i64 d, .int .i64 h, .slice id st off len _, sp], .agg [.int .i64 x, .int .i64 y, .int .i64 z], .agg [.int .i64 a0, .int .i64 a1, .int .i64 a2, .int .i64 a3, .int .i64 a4, .int .i64 a5, .int .i64 a6, .bool a7, .int .i64 a8, .int .i64 a9, .int .i64 a10, .int .i64 a11, .int .i64 a12, .int .i64 a13, .int .i64 a14]] => match rows[id]? with
    | some (.vec _ .bool xs) => bif Nat.beq st 1 && sp.one then some { ok := mapOk w d h len && (fitsB ⟨x, y, z⟩ && (fitsB ⟨a1, a2, a3⟩ && decide (off + len ≤ xs.length))), val := .int .i64 ((mpOf w d h len fun j => xs.getD (off + j) false).hurt ⟨x, y, z⟩ ⟨a0, ⟨a1, a2, a3⟩, ⟨a4, a5, a6⟩, a7, a8, a9, a10, a11, a12, a13, a14⟩), rd := [id] } else none
    | _ => none
  | _ => none
set_option maxHeartbeats 0 in
theorem oHurt_ok {args : List SV} {rows : List Row} {n : Nat} {e : Eff} (h : oHurt args rows = some e) (hok : e.ok = true) : FnOk Try.prog 13 args (rows[·]?) n e := by
  unfold oHurt at h
  split at h
  · rename_i wd dd hd id st off len cap sp x y z a0 a1 a2 a3 a4 a5 a6 a7 a8 a9 a10 a11 a12 a13 a14
    split at h
    · rename_i ro xs hrow
      cases hb : Nat.beq st 1 && sp.one with
      | false => simp [hb] at h
      | true =>
        simp only [hb, cond_true, Option.some.injEq] at h
        subst h
        rw [Bool.and_eq_true] at hb
        have hst := Nat.eq_of_beq_eq_true hb.1
        subst hst
        simp only [Bool.and_eq_true, fitsB_iff] at hok
        obtain ⟨h1, h2, h3, h4⟩ := hok
        obtain ⟨rows', hc, _⟩ := runK_ok xHt_ok lok_none Try.func13 (hurt_val (a := ⟨x, y, z⟩) (p := ⟨a0, ⟨a1, a2, a3⟩, ⟨a4, a5, a6⟩, a7, a8, a9, a10, a11, a12, a13, a14⟩) h1 h4 h2 h3)
        exact fnOk_map hb.2 hc rfl rfl hrow
    · cases h
  · cases h
noncomputable def orcHurt : Orc := ⟨13, oHurt, fun _ _ _ h hok => oHurt_ok h hok, bodied Try.func13 (by kernel_rfl)⟩

end Go.Proofs.Ytboljdeeodeeeaa
