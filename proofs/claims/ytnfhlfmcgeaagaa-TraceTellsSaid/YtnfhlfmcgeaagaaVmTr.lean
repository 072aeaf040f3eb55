/- The small machine in package trace: what it takes of its callees. -/
import Derived.Test.YtnfhlfmcgeaagaaVmMp
import Derived.Test.YtnfhlfmcgeaagaaTraceA
namespace Go.Proofs.Ytnfhlfmcgeaagaa
set_option linter.unusedSimpArgs false
set_option linter.unusedVariables false
open Go.RowKit

noncomputable def oFree (args : List SV) (rows : List Row) : Option Eff :=
  match args with
  | [.agg [.int .i64 w, .int .i64 d, .int .i64 h, .slice id st off len _, sp], .agg [.int .i64 x, .int .i64 y, .int .i64 z]] => match rows[id]? with
    | some (.vec _ .bool xs) => bif Nat.beq st 1 && sp.one then some { ok := mapOk w d h len && (fitsB ⟨x, y, z⟩ && decide (off + len ≤ xs.length)), val := .bool ((mpOf w d h len fun j => xs.getD (off + j) false).free ⟨x, y, z⟩), rd := [id] } else none
    | _ => none
  | [.agg [.int .i64 w, .int .i64 d, .int .i64 h, .nils, sp], .agg [.int .i64 x, .int .i64 y, .int .i64 z]] => bif sp.one then some { ok := mapOk w d h 0 && fitsB ⟨x, y, z⟩, val := .bool ((mpOf w d h 0 fun _ => false).free ⟨x, y, z⟩) } else none
  | _ => none

section
variable {m : Nat → Option Row} {n : Nat}

theorem free_same (m : Mp) (p : V3) : m.free p = (mpOf m.w m.d m.h m.len m.s).free p := rfl

theorem oFree_ok {args : List SV} {rows : List Row} {e : Eff} (h : oFree args rows = some e) (hok : e.ok = true) : FnOk Try.prog 14 args (rows[·]?) n e := by
  unfold oFree at h
  split at h
  · rename_i wd dd hd id st off len cap sp x y z
    split at h
    · rename_i ro xs hrow
      cases hb : Nat.beq st 1 && sp.one with
      | false => simp [hb] at h
      | true =>
        simp only [hb, cond_true, Option.some.injEq] at h
        subst h
        rw [Bool.and_eq_true] at hb
        have hst := Nat.eq_of_beq_eq_true hb.1
        subst hst
        simp only [Bool.and_eq_true, decide_eq_true_eq, mapOk, in64B_iff, fitsB_iff] at hok
        obtain ⟨⟨h1, h2, h3, h4⟩, h5, h6⟩ := hok
        refine fnOk_quiet fun ρ us w hargs hg hrd => ?_
        rw [RelL] at hargs
        obtain ⟨v, us, rfl, k1, k2⟩ := hargs
        rw [relL_one] at k2
        obtain ⟨u, rfl, k2⟩ := k2
        rw [rel_vec.1 k2]
        obtain ⟨mp, rfl, g1, rfl, rfl, rfl, rfl, g6, g7, g8⟩ := mp_arg k1 hb.2 (hrd id (by simp) _ hrow) hg h6
        refine ⟨_, ?_, free_any mp ⟨x, y, z⟩ w ⟨h1, h2, h3, h4, g7, g8⟩ g1 h5⟩
        simp only [Rel]
        rw [free_same, g6]
        rfl
    · cases h
  · rename_i wd dd hd sp x y z
    cases hb : sp.one with
    | false => simp [hb] at h
    | true =>
      simp only [hb, cond_true, Option.some.injEq] at h
      subst h
      simp only [Bool.and_eq_true, decide_eq_true_eq, mapOk, in64B_iff, fitsB_iff] at hok
      obtain ⟨⟨h1, h2, h3, h4⟩, h5⟩ := hok
      refine fnOk_quiet fun ρ us w hargs hg hrd => ?_
      rw [RelL] at hargs
      obtain ⟨v, us, rfl, k1, k2⟩ := hargs
      rw [relL_one] at k2
      obtain ⟨u, rfl, k2⟩ := k2
      rw [rel_vec.1 k2]
      simp only [Rel, RelL] at k1
      obtain ⟨vs, rfl, _, _, rfl, rfl, _, _, rfl, rfl, _, _, rfl, rfl, _, _, rfl, rfl, spv, _, rfl, k5, rfl⟩ := k1
      refine ⟨_, ?_, free_any ⟨wd, dd, hd, none, 0, 0, spv, fun _ => false⟩ ⟨x, y, z⟩ w ⟨h1, h2, h3, by simp, ?_, SV.one_rel k5 hb⟩ (fun hl => by simp at hl) h5⟩
      · simp only [Rel]
        rfl
      · show spv.cells.size = 1
        rw [(one_unk k5 hb).2]
        rfl
  · cases h

/-- The callees of Slide. -/
noncomputable def callSlide (f : Nat) (args : List SV) (rows : List Row) : Option Eff :=
  bif Nat.beq f 19 then oAdd args else bif Nat.beq f 18 then oClamp args else bif Nat.beq f 14 then oFree args rows else none
noncomputable def xSlide : Ctx := ⟨vmT, fun _ => none, callSlide⟩

theorem xSlide_ok : COk Try.prog xSlide where
  mixed := by kernel_rfl
  T := vmT_ok
  fn := fun _ _ h => by cases h
  call := fun f args rows e h hok => by
    simp only [xSlide, callSlide] at h
    cases h1 : Nat.beq f 19 with
    | true =>
      simp only [h1, cond_true] at h
      have := Nat.eq_of_beq_eq_true h1
      subst this
      exact ⟨oAdd_ok h hok, bodied Try.func19 (by kernel_rfl)⟩
    | false =>
      simp only [h1, cond_false] at h
      cases h2 : Nat.beq f 18 with
      | true =>
        simp only [h2, cond_true] at h
        have := Nat.eq_of_beq_eq_true h2
        subst this
        exact ⟨oClamp_ok h hok, bodied Try.func18 (by kernel_rfl)⟩
      | false =>
        simp only [h2, cond_false] at h
        cases h3 : Nat.beq f 14 with
        | true =>
          simp only [h3, cond_true] at h
          have := Nat.eq_of_beq_eq_true h3
          subst this
          exact ⟨oFree_ok h hok, bodied Try.func14 (by kernel_rfl)⟩
        | false => simp [h3] at h
end
end Go.Proofs.Ytnfhlfmcgeaagaa
