/- The small machine in package trace: Free, and what Slide takes of its callees. -/
import Derived.Test.YtihpfaeabocdbaaVmMp
namespace Go.Proofs.Ytihpfaeabocdbaa
set_option linter.unusedSimpArgs false
set_option linter.unusedVariables false
set_option maxRecDepth 100000
open Go.RowKit

noncomputable def xTr : Ctx := ctxOf [] [orcClear, orcPlus, orcMinus]
theorem xTr_ok : COk Try.prog xTr := ctxOf_ok (by kernel_rfl)

set_option maxRecDepth 100000 in
set_option maxHeartbeats 0 in
theorem free_tree (w d h : Int) (len off : Nat) (xs : List Bool) (p : V3) : runK xTr (fun _ _ => none) 300 23 Try.f23 0 [mapS w d h (.slice 0 1 off len none) .unk, .agg p.sv] [.vec true .bool xs] =
  bif fitsB p && fitsB (V3.mk 26214 26214 58982) then
  bif fitsB p && fitsB (V3.mk 26214 26214 58982) then
  bif mapOk w d h len && (fitsB (p.minus (V3.mk 26214 26214 58982)) && (fitsB (p.plus (V3.mk 26214 26214 58982)) && decide (off + len ≤ xs.length))) then
  some (SV.bool ((mpOf w d h len fun j => xs.getD (off + j) false).clear (p.minus (V3.mk 26214 26214 58982)) (p.plus (V3.mk 26214 26214 58982))), [])
  else none
  else none
  else none := by kernel_rfl

theorem free_val {w d h : Int} {len off : Nat} {xs : List Bool} {p : V3} (hm : mapOk w d h len = true) (f1 : p.fits) (hl : off + len ≤ xs.length) : runK xTr (fun _ _ => none) 300 23 Try.f23 0 [mapS w d h (.slice 0 1 off len none) .unk, .agg p.sv] [.vec true .bool xs] = some (.bool ((mpOf w d h len fun j => xs.getD (off + j) false).free p), []) := by
  rw [free_tree]
  simp only [fitsB_iff.2 f1, show fitsB (V3.mk 26214 26214 58982) = true from rfl, fitsB_iff.2 (minus_fits _ _), fitsB_iff.2 (plus_fits _ _), decide_eq_true hl, hm, Bool.and_self, cond_true]
  rfl
noncomputable def oFree (args : List SV) (rows : List Row) : Option Eff :=
  match args with
  | [.agg [.int .i64 w, .int .i64 d, .int .i64 h, .slice id st off len _, sp], .agg [.int .i64 x, .int .i64 y, .int .i64 z]] => match rows[id]? with
    | some (.vec _ .bool xs) => bif Nat.beq st 1 && sp.one then some { ok := mapOk w d h len && (fitsB ⟨x, y, z⟩ && decide (off + len ≤ xs.length)), val := .bool ((mpOf w d h len fun j => xs.getD (off + j) false).free ⟨x, y, z⟩), rd := [id] } else none
    | _ => none
  | _ => none
theorem oFree_ok {args : List SV} {rows : List Row} {n : Nat} {e : Eff} (h : oFree args rows = some e) (hok : e.ok = true) : FnOk Try.prog 23 args (rows[·]?) n e := by
  unfold oFree at h
  split at h
  · rename_i wd dd hd id st off len cap sp x y z
    split at h
    · rename_i ro xs hrow
      obtain ⟨hb, h⟩ := cond_some h
      cases h
      simp only [Bool.and_eq_true, decide_eq_true_eq, fitsB_iff] at hok
      exact fnOk_grid xTr_ok lok_none Try.func23 hb hrow rfl rfl (free_val (p := ⟨x, y, z⟩) hok.1 hok.2.1 hok.2.2)
    · cases h
  · cases h

section
/-- The callees of Slide. -/
noncomputable def callSlide (f : Nat) (args : List SV) (rows : List Row) : Option Eff :=
  bif Nat.beq f 40 then oAdd args else bif Nat.beq f 39 then oClamp args else bif Nat.beq f 23 then oFree args rows else none
noncomputable def xSlide : Ctx := ⟨vmT, fun _ => none, callSlide⟩

theorem xSlide_ok : COk Try.prog xSlide where
  mixed := by kernel_rfl
  T := vmT_ok
  fn := fun _ _ h => by cases h
  call := fun f args rows e h hok => by
    simp only [xSlide, callSlide] at h
    cases h1 : Nat.beq f 40 with
    | true =>
      simp only [h1, cond_true] at h
      have := Nat.eq_of_beq_eq_true h1
      subst this
      exact ⟨oAdd_ok h hok, bodied Try.func40 (by kernel_rfl)⟩
    | false =>
      simp only [h1, cond_false] at h
      cases h2 : Nat.beq f 39 with
      | true =>
        simp only [h2, cond_true] at h
        have := Nat.eq_of_beq_eq_true h2
        subst this
        exact ⟨oClamp_ok h hok, bodied Try.func39 (by kernel_rfl)⟩
      | false =>
        simp only [h2, cond_false] at h
        cases h3 : Nat.beq f 23 with
        | true =>
          simp only [h3, cond_true] at h
          have := Nat.eq_of_beq_eq_true h3
          subst this
          exact ⟨oFree_ok h hok, bodied Try.func23 (by kernel_rfl)⟩
        | false => simp [h3] at h
end
end Go.Proofs.Ytihpfaeabocdbaa
