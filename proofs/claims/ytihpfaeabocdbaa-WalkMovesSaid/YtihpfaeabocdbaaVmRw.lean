/- walk's Right, as a contract. -/
import Derived.Test.YtihpfaeabocdbaaVmSc
import Derived.Test.YtihpfaeabocdbaaVmR
namespace Go.Proofs.Ytihpfaeabocdbaa
set_option linter.unusedSimpArgs false
set_option linter.unusedVariables false
set_option maxRecDepth 100000
open Go.RowKit

noncomputable def xRw : Ctx := ctxOf [21, 22] [orcFree]
theorem xRw_ok : COk Try.prog xRw := ctxOf_ok (by kernel_rfl)

set_option maxRecDepth 100000 in
set_option maxHeartbeats 0 in
theorem rw_tree (w d h : Int) (len off : Nat) (xs : List Bool) (p : Pl) : runK xRw (fun _ _ => none) 400 11 Try.f11 0 [mapS w d h (.slice 0 1 off len none) .unk, .agg p.sv] [.vec true .bool xs] =
  bif p.vel.x != min (max p.vel.x (-32768)) 32768 then some (SV.bool false, [])
  else
    bif p.vel.y != min (max p.vel.y (-32768)) 32768 then some (SV.bool false, [])
    else
      bif p.vel.z != min (max p.vel.z (-32768)) 32768 then some (SV.bool false, [])
      else bif mapOk w d h len && (fitsB p.pos && decide (off + len ≤ xs.length)) then some (SV.bool ((mpOf w d h len fun j => xs.getD (off + j) false).free p.pos), []) else none := by kernel_rfl

/-- Whether a player may be. -/
def wRight (F : V3 → Bool) (p : Pl) : Bool := (p.vel.x == min (max p.vel.x (-32768)) 32768) && ((p.vel.y == min (max p.vel.y (-32768)) 32768) && ((p.vel.z == min (max p.vel.z (-32768)) 32768) && F p.pos))
theorem wRight_iff {F : V3 → Bool} {p : Pl} : wRight F p = true ↔ (-32768 ≤ p.vel.x ∧ p.vel.x ≤ 32768) ∧ (-32768 ≤ p.vel.y ∧ p.vel.y ≤ 32768) ∧ (-32768 ≤ p.vel.z ∧ p.vel.z ≤ 32768) ∧ F p.pos = true := by
  unfold wRight
  simp only [Bool.and_eq_true, beq_iff_eq]
  constructor
  · rintro ⟨h1, h2, h3, h4⟩; exact ⟨by omega, by omega, by omega, h4⟩
  · rintro ⟨h1, h2, h3, h4⟩; exact ⟨by omega, by omega, by omega, h4⟩
theorem rw_val {w d h : Int} {len off : Nat} {xs : List Bool} {p : Pl} (hm : mapOk w d h len = true) (hl : decide (off + len ≤ xs.length) = true) (hp : p.pos.fits) :
    runK xRw (fun _ _ => none) 400 11 Try.f11 0 [mapS w d h (.slice 0 1 off len none) .unk, .agg p.sv] [.vec true .bool xs] = some (.bool (wRight (mpOf w d h len fun j => xs.getD (off + j) false).free p), []) := by
  rw [rw_tree]
  simp only [hm, hl, fitsB_iff.2 hp, Bool.and_true, cond_true]
  unfold wRight
  simp only [bne]
  cases (p.vel.x == min (max p.vel.x (-32768)) 32768) <;> cases (p.vel.y == min (max p.vel.y (-32768)) 32768) <;> cases (p.vel.z == min (max p.vel.z (-32768)) 32768) <;> rfl
noncomputable def oRw (args : List SV) (rows : List Row) : Option Eff :=
  match args with
  | [.agg [.int .i64 w, .int .i64 d, .int .i64 h, .slice id st off len _, sp], .agg [.int .i64 a0, .int .i64 a1, .int .i64 a2, .int .i64 a3, .int .i64 a4, .int .i64 a5, .int .i64 a6, .bool a7, .int .i64 a8, .int .i64 a9, .int .i64 a10, .int .i64 a11, .int .i64 a12, .int .i64 a13, .int .i64 a14]] => match rows[id]? with
    | some (.vec _ .bool xs) => bif Nat.beq st 1 && sp.one then some { ok := mapOk w d h len && (fitsB ⟨a1, a2, a3⟩ && decide (off + len ≤ xs.length)), val := .bool (wRight (mpOf w d h len fun j => xs.getD (off + j) false).free ⟨a0, ⟨a1, a2, a3⟩, ⟨a4, a5, a6⟩, a7, a8, a9, a10, a11, a12, a13, a14⟩), rd := [id] } else none
    | _ => none
  | _ => none
set_option maxHeartbeats 0 in
theorem oRw_ok {args : List SV} {rows : List Row} {n : Nat} {e : Eff} (h : oRw args rows = some e) (hok : e.ok = true) : FnOk Try.prog 11 args (rows[·]?) n e := by
  unfold oRw at h
  split at h
  · rename_i wd dd hd id st off len cap sp a0 a1 a2 a3 a4 a5 a6 a7 a8 a9 a10 a11 a12 a13 a14
    split at h
    · rename_i ro xs hrow
      cases hb : Nat.beq st 1 && sp.one with
      | false => simp [hb] at h
      | true =>
        simp only [hb, cond_true, Option.some.injEq] at h
        subst h
        rw [Bool.and_eq_true] at hb
        have hst := Nat.eq_of_beq_eq_true hb.1
        subst hst
        simp only [Bool.and_eq_true, fitsB_iff] at hok
        obtain ⟨h1, h2, h3⟩ := hok
        obtain ⟨rows', hc, _⟩ := runK_ok xRw_ok lok_none Try.func11 (rw_val (p := ⟨a0, ⟨a1, a2, a3⟩, ⟨a4, a5, a6⟩, a7, a8, a9, a10, a11, a12, a13, a14⟩) h1 h3 h2)
        exact fnOk_map hb.2 hc rfl rfl hrow
    · cases h
  · cases h
noncomputable def orcRw : Orc := ⟨11, oRw, fun _ _ _ h hok => oRw_ok h hok, bodied Try.func11 (by kernel_rfl)⟩

end Go.Proofs.Ytihpfaeabocdbaa
