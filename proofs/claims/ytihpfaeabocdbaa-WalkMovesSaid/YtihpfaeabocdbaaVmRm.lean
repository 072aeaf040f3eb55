/- The reference's trace: Free and Slide. -/
import Derived.Test.YtihpfaeabocdbaaVmRg
import Derived.Test.YtihpfaeabocdbaaVmSc
namespace Go.Proofs.Ytihpfaeabocdbaa
set_option linter.unusedSimpArgs false
set_option linter.unusedVariables false
set_option maxRecDepth 100000
open Go.RowKit

noncomputable def xRf : Ctx := ctxOf [] [orcRClear, orcVecPlus, orcVecMinus]
theorem xRf_ok : COk Try.prog xRf := ctxOf_ok (by kernel_rfl)

set_option maxRecDepth 100000 in
set_option maxHeartbeats 0 in
theorem rfree_tree (w d h : Int) (len off : Nat) (xs : List Bool) (p : V3) : runK xRf (fun _ _ => none) 300 24 Try.f24 0 [mapS w d h (.slice 0 1 off len none) .unk, .agg p.sv] [.vec true .bool xs] =
  bif fitsB p && fitsB (V3.mk 26214 26214 58982) then
  bif fitsB p && fitsB (V3.mk 26214 26214 58982) then
  bif fitsB (p.minus (V3.mk 26214 26214 58982)) && fitsB (p.plus (V3.mk 26214 26214 58982)) && decide (off + len ≤ xs.length) then
  some (SV.bool ((mpOf w d h len fun j => xs.getD (off + j) false).clear (p.minus (V3.mk 26214 26214 58982)) (p.plus (V3.mk 26214 26214 58982))), [])
  else none
  else none
  else none := by kernel_rfl

noncomputable def oRFree (args : List SV) (rows : List Row) : Option Eff :=
  match args with
  | [.agg [.int .i64 w, .int .i64 d, .int .i64 h, .slice id st off len _, sp], .agg [.int .i64 a, .int .i64 b, .int .i64 c]] => match rows[id]? with
    | some (.vec _ .bool xs) => bif Nat.beq st 1 && sp.one then some { ok := fitsB ⟨a, b, c⟩ && decide (off + len ≤ xs.length), val := .bool ((mpOf w d h len fun j => xs.getD (off + j) false).free ⟨a, b, c⟩), rd := [id] } else none
    | _ => none
  | _ => none
theorem rfree_val {w d h : Int} {len off : Nat} {xs : List Bool} {p : V3} (f1 : p.fits) (hl : off + len ≤ xs.length) : runK xRf (fun _ _ => none) 300 24 Try.f24 0 [mapS w d h (.slice 0 1 off len none) .unk, .agg p.sv] [.vec true .bool xs] = some (.bool ((mpOf w d h len fun j => xs.getD (off + j) false).free p), []) := by
  rw [rfree_tree, fitsB_iff.2 f1, show fitsB (V3.mk 26214 26214 58982) = true from rfl, fitsB_iff.2 (minus_fits _ _), fitsB_iff.2 (plus_fits _ _), decide_eq_true hl]
  rfl
theorem oRFree_ok {args : List SV} {rows : List Row} {n : Nat} {e : Eff} (h : oRFree args rows = some e) (hok : e.ok = true) : FnOk Try.prog 24 args (rows[·]?) n e := by
  unfold oRFree at h
  split at h
  · rename_i w d hh id st off len cap sp a b c
    split at h
    · rename_i ro xs hrow
      cases hb : Nat.beq st 1 && sp.one with
      | false => simp [hb] at h
      | true =>
        simp only [hb, cond_true, Option.some.injEq] at h
        subst h
        rw [Bool.and_eq_true] at hb
        have hst := Nat.eq_of_beq_eq_true hb.1
        subst hst
        simp only [Bool.and_eq_true, decide_eq_true_eq, fitsB_iff] at hok
        obtain ⟨rows', hc, _⟩ := runK_ok xRf_ok lok_none Try.func24 (rfree_val (w := w) (d := d) (h := hh) hok.1 hok.2)
        exact fnOk_map hb.2 hc rfl rfl hrow
    · cases h
  · cases h
noncomputable def orcRFree : Orc := ⟨24, oRFree, fun _ _ _ h hok => oRFree_ok h hok, bodied Try.func24 (by kernel_rfl)⟩
noncomputable def xRs : Ctx := ctxOf [] [orcRFree, orcClampD, orcAddD]
theorem xRs_ok : COk Try.prog xRs := ctxOf_ok (by kernel_rfl)

set_option maxRecDepth 100000 in
set_option maxHeartbeats 0 in
theorem rslide_tree (w d h : Int) (len off : Nat) (xs : List Bool) (p b : V3) : runK xRs (fun _ _ => none) 300 29 Try.f29 0 [mapS w d h (.slice 0 1 off len none) .unk, .agg p.sv, .agg b.sv] [.vec true .bool xs] =
  bif in64B p.x && in64B (b.clamp 32768).x then
  bif fitsB (V3.mk (cut64 (p.x + (b.clamp 32768).x)) p.y p.z) && decide (off + len ≤ xs.length) then
  bif (mpOf w d h len fun j => xs.getD (off + j) false).free (V3.mk (cut64 (p.x + (b.clamp 32768).x)) p.y p.z) then
  bif in64B p.y && in64B (b.clamp 32768).y then
  bif fitsB (V3.mk (cut64 (p.x + (b.clamp 32768).x)) (cut64 (p.y + (b.clamp 32768).y)) p.z) && decide (off + len ≤ xs.length) then
  bif (mpOf w d h len fun j => xs.getD (off + j) false).free (V3.mk (cut64 (p.x + (b.clamp 32768).x)) (cut64 (p.y + (b.clamp 32768).y)) p.z) then
  bif in64B p.z && in64B (b.clamp 32768).z then
  bif fitsB (V3.mk (cut64 (p.x + (b.clamp 32768).x)) (cut64 (p.y + (b.clamp 32768).y)) (cut64 (p.z + (b.clamp 32768).z))) && decide (off + len ≤ xs.length) then
  bif (mpOf w d h len fun j => xs.getD (off + j) false).free (V3.mk (cut64 (p.x + (b.clamp 32768).x)) (cut64 (p.y + (b.clamp 32768).y)) (cut64 (p.z + (b.clamp 32768).z))) then
  some
  (SV.tuple
  [SV.agg [SV.int IntKind.i64 (cut64 (p.x + (b.clamp 32768).x)), SV.int IntKind.i64 (cut64 (p.y + (b.clamp 32768).y)), SV.int IntKind.i64 (cut64 (p.z + (b.clamp 32768).z))],
  SV.agg
  [SV.bool (bif (!(mpOf w d h len fun j => xs.getD (off + j) false).free (V3.mk (cut64 (p.x + (b.clamp 32768).x)) p.y p.z)) == true then (b.clamp 32768).x != 0 else false),
  SV.bool
  (bif (!(mpOf w d h len fun j => xs.getD (off + j) false).free (V3.mk (cut64 (p.x + (b.clamp 32768).x)) (cut64 (p.y + (b.clamp 32768).y)) p.z)) == true then
  (b.clamp 32768).y != 0
  else false),
  SV.bool
  (bif
  (!(mpOf w d h len fun j => xs.getD (off + j) false).free
  (V3.mk (cut64 (p.x + (b.clamp 32768).x)) (cut64 (p.y + (b.clamp 32768).y)) (cut64 (p.z + (b.clamp 32768).z)))) ==
  true then
  (b.clamp 32768).z != 0
  else false)]],
  [])
  else
  some
  (SV.tuple
  [SV.agg [SV.int IntKind.i64 (cut64 (p.x + (b.clamp 32768).x)), SV.int IntKind.i64 (cut64 (p.y + (b.clamp 32768).y)), SV.int IntKind.i64 p.z],
  SV.agg
  [SV.bool (bif (!(mpOf w d h len fun j => xs.getD (off + j) false).free (V3.mk (cut64 (p.x + (b.clamp 32768).x)) p.y p.z)) == true then (b.clamp 32768).x != 0 else false),
  SV.bool
  (bif (!(mpOf w d h len fun j => xs.getD (off + j) false).free (V3.mk (cut64 (p.x + (b.clamp 32768).x)) (cut64 (p.y + (b.clamp 32768).y)) p.z)) == true then
  (b.clamp 32768).y != 0
  else false),
  SV.bool
  (bif
  (!(mpOf w d h len fun j => xs.getD (off + j) false).free
  (V3.mk (cut64 (p.x + (b.clamp 32768).x)) (cut64 (p.y + (b.clamp 32768).y)) (cut64 (p.z + (b.clamp 32768).z)))) ==
  true then
  (b.clamp 32768).z != 0
  else false)]],
  [])
  else none
  else none
  else
  bif in64B p.z && in64B (b.clamp 32768).z then
  bif fitsB (V3.mk (cut64 (p.x + (b.clamp 32768).x)) p.y (cut64 (p.z + (b.clamp 32768).z))) && decide (off + len ≤ xs.length) then
  bif (mpOf w d h len fun j => xs.getD (off + j) false).free (V3.mk (cut64 (p.x + (b.clamp 32768).x)) p.y (cut64 (p.z + (b.clamp 32768).z))) then
  some
  (SV.tuple
  [SV.agg [SV.int IntKind.i64 (cut64 (p.x + (b.clamp 32768).x)), SV.int IntKind.i64 p.y, SV.int IntKind.i64 (cut64 (p.z + (b.clamp 32768).z))],
  SV.agg
  [SV.bool (bif (!(mpOf w d h len fun j => xs.getD (off + j) false).free (V3.mk (cut64 (p.x + (b.clamp 32768).x)) p.y p.z)) == true then (b.clamp 32768).x != 0 else false),
  SV.bool
  (bif (!(mpOf w d h len fun j => xs.getD (off + j) false).free (V3.mk (cut64 (p.x + (b.clamp 32768).x)) (cut64 (p.y + (b.clamp 32768).y)) p.z)) == true then
  (b.clamp 32768).y != 0
  else false),
  SV.bool
  (bif (!(mpOf w d h len fun j => xs.getD (off + j) false).free (V3.mk (cut64 (p.x + (b.clamp 32768).x)) p.y (cut64 (p.z + (b.clamp 32768).z)))) == true then
  (b.clamp 32768).z != 0
  else false)]],
  [])
  else
  some
  (SV.tuple
  [SV.agg [SV.int IntKind.i64 (cut64 (p.x + (b.clamp 32768).x)), SV.int IntKind.i64 p.y, SV.int IntKind.i64 p.z],
  SV.agg
  [SV.bool (bif (!(mpOf w d h len fun j => xs.getD (off + j) false).free (V3.mk (cut64 (p.x + (b.clamp 32768).x)) p.y p.z)) == true then (b.clamp 32768).x != 0 else false),
  SV.bool
  (bif (!(mpOf w d h len fun j => xs.getD (off + j) false).free (V3.mk (cut64 (p.x + (b.clamp 32768).x)) (cut64 (p.y + (b.clamp 32768).y)) p.z)) == true then
  (b.clamp 32768).y != 0
  else false),
  SV.bool
  (bif (!(mpOf w d h len fun j => xs.getD (off + j) false).free (V3.mk (cut64 (p.x + (b.clamp 32768).x)) p.y (cut64 (p.z + (b.clamp 32768).z)))) == true then
  (b.clamp 32768).z != 0
  else false)]],
  [])
  else none
  else none
  else none
  else none
  else
  bif in64B p.y && in64B (b.clamp 32768).y then
  bif fitsB (V3.mk p.x (cut64 (p.y + (b.clamp 32768).y)) p.z) && decide (off + len ≤ xs.length) then
  bif (mpOf w d h len fun j => xs.getD (off + j) false).free (V3.mk p.x (cut64 (p.y + (b.clamp 32768).y)) p.z) then
  bif in64B p.z && in64B (b.clamp 32768).z then
  bif fitsB (V3.mk p.x (cut64 (p.y + (b.clamp 32768).y)) (cut64 (p.z + (b.clamp 32768).z))) && decide (off + len ≤ xs.length) then
  bif (mpOf w d h len fun j => xs.getD (off + j) false).free (V3.mk p.x (cut64 (p.y + (b.clamp 32768).y)) (cut64 (p.z + (b.clamp 32768).z))) then
  some
  (SV.tuple
  [SV.agg [SV.int IntKind.i64 p.x, SV.int IntKind.i64 (cut64 (p.y + (b.clamp 32768).y)), SV.int IntKind.i64 (cut64 (p.z + (b.clamp 32768).z))],
  SV.agg
  [SV.bool (bif (!(mpOf w d h len fun j => xs.getD (off + j) false).free (V3.mk (cut64 (p.x + (b.clamp 32768).x)) p.y p.z)) == true then (b.clamp 32768).x != 0 else false),
  SV.bool (bif (!(mpOf w d h len fun j => xs.getD (off + j) false).free (V3.mk p.x (cut64 (p.y + (b.clamp 32768).y)) p.z)) == true then (b.clamp 32768).y != 0 else false),
  SV.bool
  (bif (!(mpOf w d h len fun j => xs.getD (off + j) false).free (V3.mk p.x (cut64 (p.y + (b.clamp 32768).y)) (cut64 (p.z + (b.clamp 32768).z)))) == true then
  (b.clamp 32768).z != 0
  else false)]],
  [])
  else
  some
  (SV.tuple
  [SV.agg [SV.int IntKind.i64 p.x, SV.int IntKind.i64 (cut64 (p.y + (b.clamp 32768).y)), SV.int IntKind.i64 p.z],
  SV.agg
  [SV.bool (bif (!(mpOf w d h len fun j => xs.getD (off + j) false).free (V3.mk (cut64 (p.x + (b.clamp 32768).x)) p.y p.z)) == true then (b.clamp 32768).x != 0 else false),
  SV.bool (bif (!(mpOf w d h len fun j => xs.getD (off + j) false).free (V3.mk p.x (cut64 (p.y + (b.clamp 32768).y)) p.z)) == true then (b.clamp 32768).y != 0 else false),
  SV.bool
  (bif (!(mpOf w d h len fun j => xs.getD (off + j) false).free (V3.mk p.x (cut64 (p.y + (b.clamp 32768).y)) (cut64 (p.z + (b.clamp 32768).z)))) == true then
  (b.clamp 32768).z != 0
  else false)]],
  [])
  else none
  else none
  else
  bif in64B p.z && in64B (b.clamp 32768).z then
  bif fitsB (V3.mk p.x p.y (cut64 (p.z + (b.clamp 32768).z))) && decide (off + len ≤ xs.length) then
  bif (mpOf w d h len fun j => xs.getD (off + j) false).free (V3.mk p.x p.y (cut64 (p.z + (b.clamp 32768).z))) then
  some
  (SV.tuple
  [SV.agg [SV.int IntKind.i64 p.x, SV.int IntKind.i64 p.y, SV.int IntKind.i64 (cut64 (p.z + (b.clamp 32768).z))],
  SV.agg
  [SV.bool (bif (!(mpOf w d h len fun j => xs.getD (off + j) false).free (V3.mk (cut64 (p.x + (b.clamp 32768).x)) p.y p.z)) == true then (b.clamp 32768).x != 0 else false),
  SV.bool (bif (!(mpOf w d h len fun j => xs.getD (off + j) false).free (V3.mk p.x (cut64 (p.y + (b.clamp 32768).y)) p.z)) == true then (b.clamp 32768).y != 0 else false),
  SV.bool
  (bif (!(mpOf w d h len fun j => xs.getD (off + j) false).free (V3.mk p.x p.y (cut64 (p.z + (b.clamp 32768).z)))) == true then (b.clamp 32768).z != 0 else false)]],
  [])
  else
  some
  (SV.tuple
  [SV.agg [SV.int IntKind.i64 p.x, SV.int IntKind.i64 p.y, SV.int IntKind.i64 p.z],
  SV.agg
  [SV.bool (bif (!(mpOf w d h len fun j => xs.getD (off + j) false).free (V3.mk (cut64 (p.x + (b.clamp 32768).x)) p.y p.z)) == true then (b.clamp 32768).x != 0 else false),
  SV.bool (bif (!(mpOf w d h len fun j => xs.getD (off + j) false).free (V3.mk p.x (cut64 (p.y + (b.clamp 32768).y)) p.z)) == true then (b.clamp 32768).y != 0 else false),
  SV.bool
  (bif (!(mpOf w d h len fun j => xs.getD (off + j) false).free (V3.mk p.x p.y (cut64 (p.z + (b.clamp 32768).z)))) == true then (b.clamp 32768).z != 0 else false)]],
  [])
  else none
  else none
  else none
  else none
  else none
  else none := by kernel_rfl

theorem rslide_val {w d h : Int} {len off : Nat} {xs : List Bool} {p b : V3} (hp : p.fits) (hl : off + len ≤ xs.length) :
    runK xRs (fun _ _ => none) 300 29 Try.f29 0 [mapS w d h (.slice 0 1 off len none) .unk, .agg p.sv, .agg b.sv] [.vec true .bool xs] =
    some (slideV ((mpOf w d h len fun j => xs.getD (off + j) false).slide p b), []) := by
  rw [rslide_tree]
  have c1 : in64B (b.clamp 32768).x = true := in64B_clamp b.x
  have c2 : in64B (b.clamp 32768).y = true := in64B_clamp b.y
  have c3 : in64B (b.clamp 32768).z = true := in64B_clamp b.z
  simp only [decide_eq_true hl, in64B_iff.2 hp.1, in64B_iff.2 hp.2.1, in64B_iff.2 hp.2.2, c1, c2, c3, fitsB, in64B_cut, Bool.and_true, cond_true, and_form]
  unfold slideV Mp.slide Mp.stepB
  dsimp only
  rw [show (b.clamp 32768).x = clampN 32768 b.x from rfl, show (b.clamp 32768).y = clampN 32768 b.y from rfl, show (b.clamp 32768).z = clampN 32768 b.z from rfl]
  generalize (mpOf w d h len fun j => xs.getD (off + j) false).free = F
  cases h1 : F ⟨cut64 (p.x + clampN 32768 b.x), p.y, p.z⟩
  · simp only [cond_false]
    cases h2 : F ⟨p.x, cut64 (p.y + clampN 32768 b.y), p.z⟩
    · simp only [cond_false]
      cases h3 : F ⟨p.x, p.y, cut64 (p.z + clampN 32768 b.z)⟩ <;> rfl
    · simp only [cond_true]
      cases h3 : F ⟨p.x, cut64 (p.y + clampN 32768 b.y), cut64 (p.z + clampN 32768 b.z)⟩ <;> rfl
  · simp only [cond_true]
    cases h2 : F ⟨cut64 (p.x + clampN 32768 b.x), cut64 (p.y + clampN 32768 b.y), p.z⟩
    · simp only [cond_false]
      cases h3 : F ⟨cut64 (p.x + clampN 32768 b.x), p.y, cut64 (p.z + clampN 32768 b.z)⟩ <;> rfl
    · simp only [cond_true]
      cases h3 : F ⟨cut64 (p.x + clampN 32768 b.x), cut64 (p.y + clampN 32768 b.y), cut64 (p.z + clampN 32768 b.z)⟩ <;> rfl

noncomputable def oRSlide (args : List SV) (rows : List Row) : Option Eff :=
  match args with
  | [.agg [.int .i64 w, .int .i64 d, .int .i64 h, .slice id st off len _, sp], .agg [.int .i64 x, .int .i64 y, .int .i64 z], .agg [.int .i64 p, .int .i64 q, .int .i64 r]] => match rows[id]? with
    | some (.vec _ .bool xs) => bif Nat.beq st 1 && sp.one then some { ok := fitsB ⟨x, y, z⟩ && decide (off + len ≤ xs.length), val := slideV ((mpOf w d h len fun j => xs.getD (off + j) false).slide ⟨x, y, z⟩ ⟨p, q, r⟩), rd := [id] } else none
    | _ => none
  | _ => none
theorem oRSlide_ok {args : List SV} {rows : List Row} {n : Nat} {e : Eff} (h : oRSlide args rows = some e) (hok : e.ok = true) : FnOk Try.prog 29 args (rows[·]?) n e := by
  unfold oRSlide at h
  split at h
  · rename_i w d hh id st off len cap sp x y z p q r
    split at h
    · rename_i ro xs hrow
      cases hb : Nat.beq st 1 && sp.one with
      | false => simp [hb] at h
      | true =>
        simp only [hb, cond_true, Option.some.injEq] at h
        subst h
        rw [Bool.and_eq_true] at hb
        have hst := Nat.eq_of_beq_eq_true hb.1
        subst hst
        simp only [Bool.and_eq_true, decide_eq_true_eq, fitsB_iff] at hok
        obtain ⟨rows', hc, _⟩ := runK_ok xRs_ok lok_none Try.func29 (rslide_val (w := w) (d := d) (h := hh) (b := ⟨p, q, r⟩) hok.1 hok.2)
        exact fnOk_map hb.2 hc rfl rfl hrow
    · cases h
  · cases h
noncomputable def orcRSlide : Orc := ⟨29, oRSlide, fun _ _ _ h hok => oRSlide_ok h hok, bodied Try.func29 (by kernel_rfl)⟩

end Go.Proofs.Ytihpfaeabocdbaa
