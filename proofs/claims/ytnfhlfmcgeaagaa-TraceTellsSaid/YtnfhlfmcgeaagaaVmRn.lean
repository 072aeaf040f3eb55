/- The reference's trace: Slide as a contract; TraceTells' call. -/
import Derived.Test.YtnfhlfmcgeaagaaVmRm
import Derived.Test.YtnfhlfmcgeaagaaVmG10
namespace Go.Proofs.Ytnfhlfmcgeaagaa
set_option linter.unusedSimpArgs false
set_option linter.unusedVariables false
open Go.RowKit

theorem rslide_val {w d h : Int} {len off : Nat} {xs : List Bool} {p b : V3} (hp : p.fits) (hl : off + len ≤ xs.length) :
    runK xRs (fun _ _ => none) 300 13 Try.f13 0 [mapS w d h (.slice 0 1 off len none) .unk, .agg p.sv, .agg b.sv] [.vec true .bool xs] =
    some (slideV ((mpOf w d h len fun j => xs.getD (off + j) false).slide p b), []) := by
  rw [rslide_tree]
  have c1 : in64B (b.clamp 32768).x = true := in64B_clamp b.x
  have c2 : in64B (b.clamp 32768).y = true := in64B_clamp b.y
  have c3 : in64B (b.clamp 32768).z = true := in64B_clamp b.z
  simp only [decide_eq_true hl, in64B_iff.2 hp.1, in64B_iff.2 hp.2.1, in64B_iff.2 hp.2.2, c1, c2, c3, fitsB, in64B_cut, Bool.and_true, cond_true, and_form]
  unfold slideV Mp.slide Mp.stepB
  dsimp only
  rw [show (b.clamp 32768).x = clampN 32768 b.x from rfl, show (b.clamp 32768).y = clampN 32768 b.y from rfl, show (b.clamp 32768).z = clampN 32768 b.z from rfl]
  generalize (mpOf w d h len fun j => xs.getD (off + j) false).free = F
  cases h1 : F ⟨cut64 (p.x + clampN 32768 b.x), p.y, p.z⟩
  · simp only [cond_false]
    cases h2 : F ⟨p.x, cut64 (p.y + clampN 32768 b.y), p.z⟩
    · simp only [cond_false]
      cases h3 : F ⟨p.x, p.y, cut64 (p.z + clampN 32768 b.z)⟩ <;> rfl
    · simp only [cond_true]
      cases h3 : F ⟨p.x, cut64 (p.y + clampN 32768 b.y), cut64 (p.z + clampN 32768 b.z)⟩ <;> rfl
  · simp only [cond_true]
    cases h2 : F ⟨cut64 (p.x + clampN 32768 b.x), cut64 (p.y + clampN 32768 b.y), p.z⟩
    · simp only [cond_false]
      cases h3 : F ⟨cut64 (p.x + clampN 32768 b.x), p.y, cut64 (p.z + clampN 32768 b.z)⟩ <;> rfl
    · simp only [cond_true]
      cases h3 : F ⟨cut64 (p.x + clampN 32768 b.x), cut64 (p.y + clampN 32768 b.y), cut64 (p.z + clampN 32768 b.z)⟩ <;> rfl

noncomputable def oRSlide (args : List SV) (rows : List Row) : Option Eff :=
  match args with
  | [.agg [.int .i64 w, .int .i64 d, .int .i64 h, .slice id st off len _, sp], .agg [.int .i64 x, .int .i64 y, .int .i64 z], .agg [.int .i64 p, .int .i64 q, .int .i64 r]] => match rows[id]? with
    | some (.vec _ .bool xs) => bif Nat.beq st 1 && sp.one then some { ok := fitsB ⟨x, y, z⟩ && decide (off + len ≤ xs.length), val := slideV ((mpOf w d h len fun j => xs.getD (off + j) false).slide ⟨x, y, z⟩ ⟨p, q, r⟩), rd := [id] } else none
    | _ => none
  | _ => none
theorem oRSlide_ok {args : List SV} {rows : List Row} {n : Nat} {e : Eff} (h : oRSlide args rows = some e) (hok : e.ok = true) : FnOk Try.prog 13 args (rows[·]?) n e := by
  unfold oRSlide at h
  split at h
  · rename_i w d hh id st off len cap sp x y z p q r
    split at h
    · rename_i ro xs hrow
      cases hb : Nat.beq st 1 && sp.one with
      | false => simp [hb] at h
      | true =>
        simp only [hb, cond_true, Option.some.injEq] at h
        subst h
        rw [Bool.and_eq_true] at hb
        have hst := Nat.eq_of_beq_eq_true hb.1
        subst hst
        simp only [Bool.and_eq_true, decide_eq_true_eq, fitsB_iff] at hok
        obtain ⟨rows', hc, _⟩ := runK_ok xRs_ok lok_none Try.func13 (rslide_val (w := w) (d := d) (h := hh) (b := ⟨p, q, r⟩) hok.1 hok.2)
        exact fnOk_map hb.2 hc rfl rfl hrow
    · cases h
  · cases h
noncomputable def orcRSlide : Orc := ⟨13, oRSlide, fun _ _ _ h hok => oRSlide_ok h hok, bodied Try.func13 (by kernel_rfl)⟩

noncomputable def x10t : Ctx := ctxOf [11] [orcShown10, orcFree, orcSlide, orcRFree, orcRSlide]
theorem x10t_ok : COk Try.prog x10t := ctxOf_ok (by kernel_rfl)

set_option maxRecDepth 100000 in
set_option maxHeartbeats 0 in
theorem tt_tree (w d h : Int) (len : Nat) (xs : List Bool) (p b : V3) : runK x10t (fun _ _ => none) 200 3 Try.f3 0 [mapS w d h (.slice 0 1 0 len none) .unk, .agg p.sv, .agg b.sv] [.vec true .bool xs] =
  bif decide (0 ≤ min (↑len : Int) 32768) && decide (min (↑len : Int) 32768 ≤ (↑(capOr none len) : Int)) then
  bif mapOk w d h (min (↑len : Int) 32768).toNat && (fitsB p && decide (0 + (min (↑len : Int) 32768).toNat ≤ xs.length)) then
  bif fitsB p && decide (0 + (min (↑len : Int) 32768).toNat ≤ xs.length) then
  bif mapOk w d h (min (↑len : Int) 32768).toNat && (fitsB p && decide (0 + (min (↑len : Int) 32768).toNat ≤ xs.length)) then
  bif fitsB p && decide (0 + (min (↑len : Int) 32768).toNat ≤ xs.length) then
  bif (mpOf w d h (min (↑len : Int) 32768).toNat fun j => xs.getD (0 + j) false).free p == (mpOf w d h (min (↑len : Int) 32768).toNat fun j => xs.getD (0 + j) false).free p then
  bif
  ((mpOf w d h (min (↑len : Int) 32768).toNat fun j => xs.getD (0 + j) false).slide p b).fst.x ==
  ((mpOf w d h (min (↑len : Int) 32768).toNat fun j => xs.getD (0 + j) false).slide p b).fst.x &&
  (((mpOf w d h (min (↑len : Int) 32768).toNat fun j => xs.getD (0 + j) false).slide p b).fst.y ==
  ((mpOf w d h (min (↑len : Int) 32768).toNat fun j => xs.getD (0 + j) false).slide p b).fst.y &&
  (((mpOf w d h (min (↑len : Int) 32768).toNat fun j => xs.getD (0 + j) false).slide p b).fst.z ==
  ((mpOf w d h (min (↑len : Int) 32768).toNat fun j => xs.getD (0 + j) false).slide p b).fst.z &&
  true)) then
  some
  (SV.bool
  (((mpOf w d h (min (↑len : Int) 32768).toNat fun j => xs.getD (0 + j) false).slide p b).snd.fst ==
  ((mpOf w d h (min (↑len : Int) 32768).toNat fun j => xs.getD (0 + j) false).slide p b).snd.fst &&
  (((mpOf w d h (min (↑len : Int) 32768).toNat fun j => xs.getD (0 + j) false).slide p b).snd.snd.fst ==
  ((mpOf w d h (min (↑len : Int) 32768).toNat fun j => xs.getD (0 + j) false).slide p b).snd.snd.fst &&
  (((mpOf w d h (min (↑len : Int) 32768).toNat fun j => xs.getD (0 + j) false).slide p b).snd.snd.snd ==
  ((mpOf w d h (min (↑len : Int) 32768).toNat fun j => xs.getD (0 + j) false).slide p b).snd.snd.snd &&
  true))),
  [])
  else some (SV.bool false, [])
  else some (SV.bool false, [])
  else none
  else none
  else none
  else none
  else none := by kernel_rfl

set_option maxHeartbeats 0 in
theorem tt_law {w d h : Int} {len : Nat} {xs : List Bool} {p b : V3} (hw : In64 w) (hd : In64 d) (hh : In64 h) (hl : len ≤ 9223372036854775807) (hx : xs.length = len) (hp : p.fits) :
    runK x10t (fun _ _ => none) 200 3 Try.f3 0 [mapS w d h (.slice 0 1 0 len none) .unk, .agg p.sv, .agg b.sv] [.vec true .bool xs] = some (.bool true, []) := by
  rw [tt_tree]
  have c1 : (decide (0 ≤ min (len : Int) 32768) && decide (min (len : Int) 32768 ≤ ((capOr none len : Nat) : Int))) = true := by
    simp only [show capOr none len = len from rfl, Bool.and_eq_true, decide_eq_true_eq]; omega
  rw [c1]
  have hL1 : (min (len : Int) 32768).toNat ≤ len := by omega
  generalize (min (len : Int) 32768).toNat = L at hL1 ⊢
  have c2 : mapOk w d h L = true := by
    unfold mapOk
    simp only [Bool.and_eq_true, in64B_iff, decide_eq_true_eq]
    exact ⟨hw, hd, hh, by omega⟩
  have c3 : decide (0 + L ≤ xs.length) = true := by rw [decide_eq_true_eq]; omega
  simp only [c2, c3, fitsB_iff.2 hp, beq_self_eq_true, Bool.and_true, cond_true]

end Go.Proofs.Ytnfhlfmcgeaagaa
