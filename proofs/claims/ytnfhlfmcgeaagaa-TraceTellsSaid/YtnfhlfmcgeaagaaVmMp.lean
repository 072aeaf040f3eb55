/- The small machine: maps as arguments; grid's Solid and Clear by their contracts. -/
import Derived.Test.YtnfhlfmcgeaagaaVmO
import Derived.Test.YtnfhlfmcgeaagaaGridD
namespace Go.Proofs.Ytnfhlfmcgeaagaa
set_option linter.unusedSimpArgs false
set_option linter.unusedVariables false
open Go.RowKit

/-- A map, read off its arguments. -/
def mpOf (w d h : Int) (len : Nat) (s : Nat → Bool) : Mp := ⟨w, d, h, none, len, 0, undef, s⟩
def mapOk (w d h : Int) (len : Nat) : Bool := in64B w && (in64B d && (in64B h && decide (len ≤ 9223372036854775807)))

theorem mp_arg {ρ : Rho} {wd dd hd : Int} {id off len : Nat} {cap : Option Nat} {sp : SV} {u : Value} {w : World} {ro : Bool} {xs : List Bool} (h : Rel ρ (.agg [.int .i64 wd, .int .i64 dd, .int .i64 hd, .slice id 1 off len cap, sp]) u) (hsp : sp.one = true)
    (hr : RowAt ρ id (.vec ro .bool xs) w) (hg : Good ρ w) (hlen : off + len ≤ xs.length) : ∃ (m : Mp), u = m.v ∧ m.reads w ∧ m.w = wd ∧ m.d = dd ∧ m.h = hd ∧ m.len = len ∧ m.s = (fun j => xs.getD (off + j) false) ∧ m.sp.cells.size = 1 ∧ m.sp.oneCell' = true := by
  simp only [Rel, RelL] at h
  obtain ⟨vs, rfl, _, _, rfl, rfl, _, _, rfl, rfl, _, _, rfl, rfl, _, _, rfl, h4, spv, _, rfl, h5, rfl⟩ := h
  have hone : spv.cells.size = 1 := by rw [(one_unk h5 hsp).2]; rfl
  rcases h4 with ⟨p, o, c, hp, rfl, _, ho, _, _⟩ | ⟨h0, _, oa, oc, rfl⟩
  · rcases hr with ⟨_, he⟩ | ⟨q, hq, _, _, hcells⟩
    · subst he
      refine ⟨⟨wd, dd, hd, some ⟨p.b, o, none⟩, len, c, spv, fun j => ([] : List Bool).getD (off + j) false⟩, rfl, fun hl => absurd hl ?_, rfl, rfl, rfl, rfl, rfl, hone, SV.one_rel h5 hsp⟩
      have h0 : off + len ≤ 0 := hlen
      show ¬ 0 < len
      omega
    · rw [hp] at hq
      cases hq
      refine ⟨⟨wd, dd, hd, some ⟨p.b, o, none⟩, len, c, spv, fun j => xs.getD (off + j) false⟩, rfl, ?_, rfl, rfl, rfl, rfl, rfl, hone, SV.one_rel h5 hsp⟩
      intro hl
      refine ⟨p.b, o, rfl, hg id p hp, fun j hj => ?_⟩
      have hoo : o = p.base + off := by
        rcases ho with ho | ⟨ho, _⟩
        · omega
        · simp only at hl; omega
      have hlt : off + j < xs.length := by simp only at hj; omega
      have := hcells (off + j) _ (List.getElem?_eq_getElem hlt) 0 (.bool xs[off + j]) rfl
      simp only [Knd.st, Nat.mul_one, Nat.add_zero, dval] at this
      rw [hoo, Nat.add_assoc, this]
      simp [List.getD, List.getElem?_eq_getElem hlt]
  · subst h0
    exact ⟨⟨wd, dd, hd, oa, 0, oc, spv, fun j => xs.getD (off + j) false⟩, rfl, fun hl => absurd hl (by simp), rfl, rfl, rfl, rfl, rfl, hone, SV.one_rel h5 hsp⟩

noncomputable def oSolid (args : List SV) (rows : List Row) : Option Eff :=
  match args with
  | [.agg [.int .i64 w, .int .i64 d, .int .i64 h, .slice id st off len _, sp], .int .i64 x, .int .i64 y, .int .i64 z] => match rows[id]? with
    | some (.vec _ .bool xs) => bif Nat.beq st 1 && sp.one then some { ok := mapOk w d h len && (in64B x && (in64B y && (in64B z && decide (off + len ≤ xs.length)))), val := .bool ((mpOf w d h len fun j => xs.getD (off + j) false).solid x y z), rd := [id] } else none
    | _ => none
  | _ => none
noncomputable def oClear (args : List SV) (rows : List Row) : Option Eff :=
  match args with
  | [.agg [.int .i64 w, .int .i64 d, .int .i64 h, .slice id st off len _, sp], .agg [.int .i64 x, .int .i64 y, .int .i64 z], .agg [.int .i64 p, .int .i64 q, .int .i64 r]] => match rows[id]? with
    | some (.vec _ .bool xs) => bif Nat.beq st 1 && sp.one then some { ok := mapOk w d h len && (fitsB ⟨x, y, z⟩ && (fitsB ⟨p, q, r⟩ && decide (off + len ≤ xs.length))), val := .bool ((mpOf w d h len fun j => xs.getD (off + j) false).clear ⟨x, y, z⟩ ⟨p, q, r⟩), rd := [id] } else none
    | _ => none
  | _ => none

theorem solid_same (m : Mp) (x y z : Int) : m.solid x y z = (mpOf m.w m.d m.h m.len m.s).solid x y z := rfl
theorem clear_same (m : Mp) (a b : V3) : m.clear a b = (mpOf m.w m.d m.h m.len m.s).clear a b := rfl

theorem oSolid_ok {args : List SV} {rows : List Row} {n : Nat} {e : Eff} (h : oSolid args rows = some e) (hok : e.ok = true) : FnOk Try.prog 30 args (rows[·]?) n e := by
  unfold oSolid at h
  split at h
  · rename_i wd dd hd id st off len cap sp x y z
    split at h
    · rename_i ro xs hrow
      cases hb : Nat.beq st 1 && sp.one with
      | false => simp [hb] at h
      | true =>
        simp only [hb, cond_true, Option.some.injEq] at h
        subst h
        rw [Bool.and_eq_true] at hb
        have hst := Nat.eq_of_beq_eq_true hb.1
        subst hst
        simp only [Bool.and_eq_true, decide_eq_true_eq, mapOk, in64B_iff] at hok
        obtain ⟨⟨h1, h2, h3, h4⟩, h5, h6, h7, h8⟩ := hok
        refine fnOk_quiet fun ρ us w hargs hg hrd => ?_
        rw [RelL] at hargs
        obtain ⟨v, us, rfl, k1, k2⟩ := hargs
        simp only [RelL, Rel] at k2
        obtain ⟨_, _, rfl, rfl, _, _, rfl, rfl, _, _, rfl, rfl, rfl⟩ := k2
        obtain ⟨mp, rfl, g1, rfl, rfl, rfl, rfl, g6, g7, g8⟩ := mp_arg k1 hb.2 (hrd id (by simp) _ hrow) hg h8
        refine ⟨_, ?_, solid_any mp x y z w ⟨h1, h2, h3, h4, g7, g8⟩ g1⟩
        simp only [Rel]
        rw [solid_same, g6]
        rfl
    · cases h
  · cases h

theorem oClear_ok {args : List SV} {rows : List Row} {n : Nat} {e : Eff} (h : oClear args rows = some e) (hok : e.ok = true) : FnOk Try.prog 22 args (rows[·]?) n e := by
  unfold oClear at h
  split at h
  · rename_i wd dd hd id st off len cap sp x y z p q r
    split at h
    · rename_i ro xs hrow
      cases hb : Nat.beq st 1 && sp.one with
      | false => simp [hb] at h
      | true =>
        simp only [hb, cond_true, Option.some.injEq] at h
        subst h
        rw [Bool.and_eq_true] at hb
        have hst := Nat.eq_of_beq_eq_true hb.1
        subst hst
        simp only [Bool.and_eq_true, decide_eq_true_eq, mapOk, in64B_iff, fitsB_iff] at hok
        obtain ⟨⟨h1, h2, h3, h4⟩, h5, h6, h7⟩ := hok
        refine fnOk_quiet fun ρ us w hargs hg hrd => ?_
        rw [RelL] at hargs
        obtain ⟨v, us, rfl, k1, k2⟩ := hargs
        rw [RelL] at k2
        obtain ⟨u1, us, rfl, k2, k3⟩ := k2
        rw [relL_one] at k3
        obtain ⟨u2, rfl, k3⟩ := k3
        rw [rel_vec.1 k2, rel_vec.1 k3]
        obtain ⟨mp, rfl, g1, rfl, rfl, rfl, rfl, g6, g7, g8⟩ := mp_arg k1 hb.2 (hrd id (by simp) _ hrow) hg h7
        refine ⟨_, ?_, clear_any mp ⟨x, y, z⟩ ⟨p, q, r⟩ w ⟨h1, h2, h3, h4, g7, g8⟩ g1 h5 h6⟩
        simp only [Rel]
        rw [clear_same, g6]
        rfl
    · cases h
  · cases h

end Go.Proofs.Ytnfhlfmcgeaagaa
