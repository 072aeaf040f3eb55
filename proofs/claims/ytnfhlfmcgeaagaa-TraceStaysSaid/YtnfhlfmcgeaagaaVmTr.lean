/- The small machine in package trace: what it takes of its callees. -/
import Derived.Test.YtnfhlfmcgeaagaaVmK
import Derived.Test.YtnfhlfmcgeaagaaVmT
import Derived.Test.YtnfhlfmcgeaagaaTraceA
namespace Go.Proofs.Ytnfhlfmcgeaagaa
set_option linter.unusedSimpArgs false
set_option linter.unusedVariables false
open Go.RowKit

def in64B (n : Int) : Bool := decide (-9223372036854775808 ≤ n) && decide (n ≤ 9223372036854775807)
theorem in64B_iff {n : Int} : in64B n = true ↔ In64 n := by unfold in64B In64; simp
def fitsB (a : V3) : Bool := in64B a.x && (in64B a.y && in64B a.z)
theorem fitsB_iff {a : V3} : fitsB a = true ↔ a.fits := by unfold fitsB V3.fits; simp [in64B_iff]

/-- A map, read off its arguments. -/
def mpOf (w d h : Int) (len : Nat) (s : Nat → Bool) : Mp := ⟨w, d, h, none, len, 0, undef, s⟩
def mapOk (w d h : Int) (len : Nat) : Bool := in64B w && (in64B d && (in64B h && decide (len ≤ 9223372036854775807)))

def oAdd : List SV → Option Eff
  | [.int .i64 a, .int .i64 b] => some { ok := in64B a && in64B b, val := .int .i64 (cut64 (a + b)) }
  | _ => none
def oClamp : List SV → Option Eff
  | [.agg [.int .i64 x, .int .i64 y, .int .i64 z], .int .i64 n] => some { ok := in64B n, val := .agg (V3.sv ((⟨x, y, z⟩ : V3).clamp n)) }
  | _ => none
noncomputable def oFree (args : List SV) (rows : List Row) : Option Eff :=
  match args with
  | [.agg [.int .i64 w, .int .i64 d, .int .i64 h, .slice id st off len _, sp], .agg [.int .i64 x, .int .i64 y, .int .i64 z]] => match rows[id]? with
    | some (.vec _ .bool xs) => bif Nat.beq st 1 && sp.one then some { ok := mapOk w d h len && (fitsB ⟨x, y, z⟩ && decide (off + len ≤ xs.length)), val := .bool ((mpOf w d h len fun j => xs.getD (off + j) false).free ⟨x, y, z⟩), rd := [id] } else none
    | _ => none
  | [.agg [.int .i64 w, .int .i64 d, .int .i64 h, .nils, sp], .agg [.int .i64 x, .int .i64 y, .int .i64 z]] => bif sp.one then some { ok := mapOk w d h 0 && fitsB ⟨x, y, z⟩, val := .bool ((mpOf w d h 0 fun _ => false).free ⟨x, y, z⟩) } else none
  | _ => none

section
variable {m : Nat → Option Row} {n : Nat}

theorem relL_one {ρ : Rho} {a : SV} {us : List Value} : RelL ρ [a] us ↔ ∃ u, us = [u] ∧ Rel ρ a u := by
  simp only [RelL]
  constructor
  · rintro ⟨v, _, rfl, h, rfl⟩; exact ⟨v, rfl, h⟩
  · rintro ⟨v, rfl, h⟩; exact ⟨v, [], rfl, h, rfl⟩

theorem rel_vec {ρ : Rho} {x y z : Int} {u : Value} : Rel ρ (.agg [.int .i64 x, .int .i64 y, .int .i64 z]) u ↔ u = (⟨x, y, z⟩ : V3).v := by
  simp only [Rel, RelL]
  constructor
  · rintro ⟨vs, rfl, _, _, rfl, rfl, _, _, rfl, rfl, _, _, rfl, rfl, rfl⟩; rfl
  · rintro rfl
    exact ⟨[I x, I y, I z], rfl, _, _, rfl, rfl, _, _, rfl, rfl, _, _, rfl, rfl, rfl⟩

theorem oAdd_ok {args : List SV} {e : Eff} (h : oAdd args = some e) (hok : e.ok = true) : FnOk Try.prog 19 args m n e := by
  unfold oAdd at h
  split at h
  · rename_i a b
    cases h
    simp only [Bool.and_eq_true, in64B_iff] at hok
    refine fnOk_data (vargs := [I a, I b]) (fun ρ us h => ?_) (fun ρ => by simp only [Rel]) (fun w => add_any a b w hok.1 hok.2)
    simp only [RelL, Rel] at h
    obtain ⟨_, _, rfl, rfl, _, _, rfl, rfl, rfl⟩ := h
    rfl
  · cases h

theorem oClamp_ok {args : List SV} {e : Eff} (h : oClamp args = some e) (hok : e.ok = true) : FnOk Try.prog 18 args m n e := by
  unfold oClamp at h
  split at h
  · rename_i x y z k
    cases h
    simp only [in64B_iff] at hok
    refine fnOk_data (vargs := [(⟨x, y, z⟩ : V3).v, I k]) (fun ρ us h => ?_) (fun ρ => rel_vec.2 rfl) (fun w => clamp_any ⟨x, y, z⟩ k w hok)
    rw [RelL] at h
    obtain ⟨v, us, rfl, h1, h2⟩ := h
    rw [relL_one] at h2
    obtain ⟨u, rfl, h2⟩ := h2
    rw [rel_vec.1 h1]
    simp only [Rel] at h2
    rw [h2]
  · cases h

theorem mp_arg {ρ : Rho} {wd dd hd : Int} {id off len : Nat} {cap : Option Nat} {sp : SV} {u : Value} {w : World} {ro : Bool} {xs : List Bool} (h : Rel ρ (.agg [.int .i64 wd, .int .i64 dd, .int .i64 hd, .slice id 1 off len cap, sp]) u) (hsp : sp.one = true)
    (hr : RowAt ρ id (.vec ro .bool xs) w) (hg : Good ρ w) (hlen : off + len ≤ xs.length) : ∃ (m : Mp), u = m.v ∧ m.reads w ∧ m.w = wd ∧ m.d = dd ∧ m.h = hd ∧ m.len = len ∧ m.s = (fun j => xs.getD (off + j) false) ∧ m.sp.cells.size = 1 ∧ m.sp.oneCell' = true := by
  simp only [Rel, RelL] at h
  obtain ⟨vs, rfl, _, _, rfl, rfl, _, _, rfl, rfl, _, _, rfl, rfl, _, _, rfl, h4, spv, _, rfl, h5, rfl⟩ := h
  have hone : spv.cells.size = 1 := by rw [(one_unk h5 hsp).2]; rfl
  rcases h4 with ⟨p, o, c, hp, rfl, _, ho, _, _⟩ | ⟨h0, _, oa, oc, rfl⟩
  · rcases hr with ⟨_, he⟩ | ⟨q, hq, _, _, hcells⟩
    · subst he
      refine ⟨⟨wd, dd, hd, some ⟨p.b, o, none⟩, len, c, spv, fun j => ([] : List Bool).getD (off + j) false⟩, rfl, fun hl => absurd hl ?_, rfl, rfl, rfl, rfl, rfl, hone, SV.one_rel h5 hsp⟩
      have h0 : off + len ≤ 0 := hlen
      show ¬ 0 < len
      omega
    · rw [hp] at hq
      cases hq
      refine ⟨⟨wd, dd, hd, some ⟨p.b, o, none⟩, len, c, spv, fun j => xs.getD (off + j) false⟩, rfl, ?_, rfl, rfl, rfl, rfl, rfl, hone, SV.one_rel h5 hsp⟩
      intro hl
      refine ⟨p.b, o, rfl, hg id p hp, fun j hj => ?_⟩
      have hoo : o = p.base + off := by
        rcases ho with ho | ⟨ho, _⟩
        · omega
        · simp only at hl; omega
      have hlt : off + j < xs.length := by simp only at hj; omega
      have := hcells (off + j) _ (List.getElem?_eq_getElem hlt) 0 (.bool xs[off + j]) rfl
      simp only [Knd.st, Nat.mul_one, Nat.add_zero, dval] at this
      rw [hoo, Nat.add_assoc, this]
      simp [List.getD, List.getElem?_eq_getElem hlt]
  · subst h0
    exact ⟨⟨wd, dd, hd, oa, 0, oc, spv, fun j => xs.getD (off + j) false⟩, rfl, fun hl => absurd hl (by simp), rfl, rfl, rfl, rfl, rfl, hone, SV.one_rel h5 hsp⟩

theorem free_same (m : Mp) (p : V3) : m.free p = (mpOf m.w m.d m.h m.len m.s).free p := rfl

theorem oFree_ok {args : List SV} {rows : List Row} {e : Eff} (h : oFree args rows = some e) (hok : e.ok = true) : FnOk Try.prog 14 args (rows[·]?) n e := by
  unfold oFree at h
  split at h
  · rename_i wd dd hd id st off len cap sp x y z
    split at h
    · rename_i ro xs hrow
      cases hb : Nat.beq st 1 && sp.one with
      | false => simp [hb] at h
      | true =>
        simp only [hb, cond_true, Option.some.injEq] at h
        subst h
        rw [Bool.and_eq_true] at hb
        have hst := Nat.eq_of_beq_eq_true hb.1
        subst hst
        simp only [Bool.and_eq_true, decide_eq_true_eq, mapOk, in64B_iff, fitsB_iff] at hok
        obtain ⟨⟨h1, h2, h3, h4⟩, h5, h6⟩ := hok
        refine fnOk_quiet fun ρ us w hargs hg hrd => ?_
        rw [RelL] at hargs
        obtain ⟨v, us, rfl, k1, k2⟩ := hargs
        rw [relL_one] at k2
        obtain ⟨u, rfl, k2⟩ := k2
        rw [rel_vec.1 k2]
        obtain ⟨mp, rfl, g1, rfl, rfl, rfl, rfl, g6, g7, g8⟩ := mp_arg k1 hb.2 (hrd id (by simp) _ hrow) hg h6
        refine ⟨_, ?_, free_any mp ⟨x, y, z⟩ w ⟨h1, h2, h3, h4, g7, g8⟩ g1 h5⟩
        simp only [Rel]
        rw [free_same, g6]
        rfl
    · cases h
  · rename_i wd dd hd sp x y z
    cases hb : sp.one with
    | false => simp [hb] at h
    | true =>
      simp only [hb, cond_true, Option.some.injEq] at h
      subst h
      simp only [Bool.and_eq_true, decide_eq_true_eq, mapOk, in64B_iff, fitsB_iff] at hok
      obtain ⟨⟨h1, h2, h3, h4⟩, h5⟩ := hok
      refine fnOk_quiet fun ρ us w hargs hg hrd => ?_
      rw [RelL] at hargs
      obtain ⟨v, us, rfl, k1, k2⟩ := hargs
      rw [relL_one] at k2
      obtain ⟨u, rfl, k2⟩ := k2
      rw [rel_vec.1 k2]
      simp only [Rel, RelL] at k1
      obtain ⟨vs, rfl, _, _, rfl, rfl, _, _, rfl, rfl, _, _, rfl, rfl, _, _, rfl, rfl, spv, _, rfl, k5, rfl⟩ := k1
      refine ⟨_, ?_, free_any ⟨wd, dd, hd, none, 0, 0, spv, fun _ => false⟩ ⟨x, y, z⟩ w ⟨h1, h2, h3, by simp, ?_, SV.one_rel k5 hb⟩ (fun hl => by simp at hl) h5⟩
      · simp only [Rel]
        rfl
      · show spv.cells.size = 1
        rw [(one_unk k5 hb).2]
        rfl
  · cases h

/-- The callees of Slide. -/
noncomputable def callSlide (f : Nat) (args : List SV) (rows : List Row) : Option Eff :=
  bif Nat.beq f 19 then oAdd args else bif Nat.beq f 18 then oClamp args else bif Nat.beq f 14 then oFree args rows else none
noncomputable def fnsOf (l : List Nat) (f : Nat) : Option Func := bif memN f l then Try.prog.funcs[f]? else none
noncomputable def xSlide : Ctx := ⟨vmT, fun _ => none, callSlide⟩

theorem bodied {f : Nat} {fn : Func} (h : Try.prog.funcs[f]? = some fn) (hok : (fn.name == "runtime.NumGoroutine" || fn.body.isNone) = false) : ∃ fn, Try.prog.funcs[f]? = some fn ∧ (fn.name == "runtime.NumGoroutine" || fn.body.isNone) = false := ⟨fn, h, hok⟩

theorem xSlide_ok : COk Try.prog xSlide where
  mixed := by kernel_rfl
  T := vmT_ok
  fn := fun _ _ h => by cases h
  call := fun f args rows e h hok => by
    simp only [xSlide, callSlide] at h
    cases h1 : Nat.beq f 19 with
    | true =>
      simp only [h1, cond_true] at h
      have := Nat.eq_of_beq_eq_true h1
      subst this
      exact ⟨oAdd_ok h hok, bodied Try.func19 (by kernel_rfl)⟩
    | false =>
      simp only [h1, cond_false] at h
      cases h2 : Nat.beq f 18 with
      | true =>
        simp only [h2, cond_true] at h
        have := Nat.eq_of_beq_eq_true h2
        subst this
        exact ⟨oClamp_ok h hok, bodied Try.func18 (by kernel_rfl)⟩
      | false =>
        simp only [h2, cond_false] at h
        cases h3 : Nat.beq f 14 with
        | true =>
          simp only [h3, cond_true] at h
          have := Nat.eq_of_beq_eq_true h3
          subst this
          exact ⟨oFree_ok h hok, bodied Try.func14 (by kernel_rfl)⟩
        | false => simp [h3] at h
end
end Go.Proofs.Ytnfhlfmcgeaagaa
