/- The small machine in package trace: Slide. -/
import Derived.Test.YtihpfaeabocdbaaVmTr
namespace Go.Proofs.Ytihpfaeabocdbaa
set_option linter.unusedSimpArgs false
set_option linter.unusedVariables false
set_option maxRecDepth 100000
open Go.RowKit

set_option maxRecDepth 100000 in
set_option maxHeartbeats 0 in
theorem slide_tree (w d h : Int) (len off : Nat) (xs : List Bool) (px py pz bx b_y bz : Int) : runK xSlide (fun _ _ => none) 200 27 Try.f27 0 [mapS w d h (.slice 0 1 off len none) .unk, .agg [.int .i64 px, .int .i64 py, .int .i64 pz], .agg [.int .i64 bx, .int .i64 b_y, .int .i64 bz]] [.vec true .bool xs] =
  bif in64B px && in64B (clampN 32768 bx) then
    bif mapOk w d h len && (fitsB { x := cut64 (px + clampN 32768 bx), y := py, z := pz } && decide (off + len ≤ xs.length)) then
      bif (mpOf w d h len fun j => xs.getD (off + j) false).free { x := cut64 (px + clampN 32768 bx), y := py, z := pz } then
        bif in64B py && in64B (clampN 32768 b_y) then
          bif mapOk w d h len && (fitsB { x := cut64 (px + clampN 32768 bx), y := cut64 (py + clampN 32768 b_y), z := pz } && decide (off + len ≤ xs.length)) then
            bif (mpOf w d h len fun j => xs.getD (off + j) false).free { x := cut64 (px + clampN 32768 bx), y := cut64 (py + clampN 32768 b_y), z := pz } then
              bif in64B pz && in64B (clampN 32768 bz) then
                bif mapOk w d h len && (fitsB { x := cut64 (px + clampN 32768 bx), y := cut64 (py + clampN 32768 b_y), z := cut64 (pz + clampN 32768 bz) } && decide (off + len ≤ xs.length)) then
                  bif (mpOf w d h len fun j => xs.getD (off + j) false).free { x := cut64 (px + clampN 32768 bx), y := cut64 (py + clampN 32768 b_y), z := cut64 (pz + clampN 32768 bz) } then
                    some
                      (SV.tuple
                          [SV.agg [SV.int IntKind.i64 (cut64 (px + clampN 32768 bx)), SV.int IntKind.i64 (cut64 (py + clampN 32768 b_y)), SV.int IntKind.i64 (cut64 (pz + clampN 32768 bz))],
                            SV.agg [SV.bool false, SV.bool false, SV.bool false]],
                        [])
                  else
                    some
                      (SV.tuple
                          [SV.agg [SV.int IntKind.i64 (cut64 (px + clampN 32768 bx)), SV.int IntKind.i64 (cut64 (py + clampN 32768 b_y)), SV.int IntKind.i64 pz],
                            SV.agg [SV.bool false, SV.bool false, SV.bool (clampN 32768 bz != 0)]],
                        [])
                else none
              else none
            else
              bif in64B pz && in64B (clampN 32768 bz) then
                bif mapOk w d h len && (fitsB { x := cut64 (px + clampN 32768 bx), y := py, z := cut64 (pz + clampN 32768 bz) } && decide (off + len ≤ xs.length)) then
                  bif (mpOf w d h len fun j => xs.getD (off + j) false).free { x := cut64 (px + clampN 32768 bx), y := py, z := cut64 (pz + clampN 32768 bz) } then
                    some
                      (SV.tuple
                          [SV.agg [SV.int IntKind.i64 (cut64 (px + clampN 32768 bx)), SV.int IntKind.i64 py, SV.int IntKind.i64 (cut64 (pz + clampN 32768 bz))],
                            SV.agg [SV.bool false, SV.bool (clampN 32768 b_y != 0), SV.bool false]],
                        [])
                  else
                    some
                      (SV.tuple
                          [SV.agg [SV.int IntKind.i64 (cut64 (px + clampN 32768 bx)), SV.int IntKind.i64 py, SV.int IntKind.i64 pz],
                            SV.agg [SV.bool false, SV.bool (clampN 32768 b_y != 0), SV.bool (clampN 32768 bz != 0)]],
                        [])
                else none
              else none
          else none
        else none
      else
        bif in64B py && in64B (clampN 32768 b_y) then
          bif mapOk w d h len && (fitsB { x := px, y := cut64 (py + clampN 32768 b_y), z := pz } && decide (off + len ≤ xs.length)) then
            bif (mpOf w d h len fun j => xs.getD (off + j) false).free { x := px, y := cut64 (py + clampN 32768 b_y), z := pz } then
              bif in64B pz && in64B (clampN 32768 bz) then
                bif mapOk w d h len && (fitsB { x := px, y := cut64 (py + clampN 32768 b_y), z := cut64 (pz + clampN 32768 bz) } && decide (off + len ≤ xs.length)) then
                  bif (mpOf w d h len fun j => xs.getD (off + j) false).free { x := px, y := cut64 (py + clampN 32768 b_y), z := cut64 (pz + clampN 32768 bz) } then
                    some
                      (SV.tuple
                          [SV.agg [SV.int IntKind.i64 px, SV.int IntKind.i64 (cut64 (py + clampN 32768 b_y)), SV.int IntKind.i64 (cut64 (pz + clampN 32768 bz))],
                            SV.agg [SV.bool (clampN 32768 bx != 0), SV.bool false, SV.bool false]],
                        [])
                  else
                    some
                      (SV.tuple
                          [SV.agg [SV.int IntKind.i64 px, SV.int IntKind.i64 (cut64 (py + clampN 32768 b_y)), SV.int IntKind.i64 pz],
                            SV.agg [SV.bool (clampN 32768 bx != 0), SV.bool false, SV.bool (clampN 32768 bz != 0)]],
                        [])
                else none
              else none
            else
              bif in64B pz && in64B (clampN 32768 bz) then
                bif mapOk w d h len && (fitsB { x := px, y := py, z := cut64 (pz + clampN 32768 bz) } && decide (off + len ≤ xs.length)) then
                  bif (mpOf w d h len fun j => xs.getD (off + j) false).free { x := px, y := py, z := cut64 (pz + clampN 32768 bz) } then
                    some
                      (SV.tuple
                          [SV.agg [SV.int IntKind.i64 px, SV.int IntKind.i64 py, SV.int IntKind.i64 (cut64 (pz + clampN 32768 bz))],
                            SV.agg [SV.bool (clampN 32768 bx != 0), SV.bool (clampN 32768 b_y != 0), SV.bool false]],
                        [])
                  else
                    some
                      (SV.tuple
                          [SV.agg [SV.int IntKind.i64 px, SV.int IntKind.i64 py, SV.int IntKind.i64 pz],
                            SV.agg [SV.bool (clampN 32768 bx != 0), SV.bool (clampN 32768 b_y != 0), SV.bool (clampN 32768 bz != 0)]],
                        [])
                else none
              else none
          else none
        else none
    else none
  else none := by kernel_rfl


noncomputable def Mp.stepB (m : Mp) (p q : V3) (d : Int) : V3 × Bool := bif m.free q then (q, false) else (p, d != 0)
/-- Where a player comes to, and which axes are blocked. -/
noncomputable def Mp.slide (m : Mp) (p b : V3) : V3 × Bool × Bool × Bool :=
  let r1 := m.stepB p ⟨cut64 (p.x + clampN 32768 b.x), p.y, p.z⟩ (clampN 32768 b.x)
  let r2 := m.stepB r1.1 ⟨r1.1.x, cut64 (r1.1.y + clampN 32768 b.y), r1.1.z⟩ (clampN 32768 b.y)
  let r3 := m.stepB r2.1 ⟨r2.1.x, r2.1.y, cut64 (r2.1.z + clampN 32768 b.z)⟩ (clampN 32768 b.z)
  (r3.1, r1.2, r2.2, r3.2)
def slideV (r : V3 × Bool × Bool × Bool) : SV := .tuple [.agg [.int .i64 r.1.x, .int .i64 r.1.y, .int .i64 r.1.z], .agg [.bool r.2.1, .bool r.2.2.1, .bool r.2.2.2]]

theorem in64B_cut (z : Int) : in64B (cut64 z) = true := in64B_iff.2 (cut64_fits z)
theorem in64B_clamp (a : Int) : in64B (clampN 32768 a) = true := by rw [in64B_iff]; unfold In64 clampN; omega

theorem slide_val {w d h : Int} {len off : Nat} {xs : List Bool} {px py pz bx b_y bz : Int} (hm : mapOk w d h len = true) (hl : decide (off + len ≤ xs.length) = true) (h1 : in64B px = true) (h2 : in64B py = true) (h3 : in64B pz = true) :
    runK xSlide (fun _ _ => none) 200 27 Try.f27 0 [mapS w d h (.slice 0 1 off len none) .unk, .agg [.int .i64 px, .int .i64 py, .int .i64 pz], .agg [.int .i64 bx, .int .i64 b_y, .int .i64 bz]] [.vec true .bool xs] =
    some (slideV ((mpOf w d h len fun j => xs.getD (off + j) false).slide ⟨px, py, pz⟩ ⟨bx, b_y, bz⟩), []) := by
  rw [slide_tree]
  simp only [hm, hl, h1, h2, h3, fitsB, in64B_cut, in64B_clamp, Bool.and_true, cond_true]
  unfold slideV Mp.slide Mp.stepB
  dsimp only
  generalize (mpOf w d h len fun j => xs.getD (off + j) false).free = F
  cases h1 : F ⟨cut64 (px + clampN 32768 bx), py, pz⟩
  · simp only [cond_false]
    cases h2 : F ⟨px, cut64 (py + clampN 32768 b_y), pz⟩
    · simp only [cond_false]
      cases h3 : F ⟨px, py, cut64 (pz + clampN 32768 bz)⟩ <;> rfl
    · simp only [cond_true]
      cases h3 : F ⟨px, cut64 (py + clampN 32768 b_y), cut64 (pz + clampN 32768 bz)⟩ <;> rfl
  · simp only [cond_true]
    cases h2 : F ⟨cut64 (px + clampN 32768 bx), cut64 (py + clampN 32768 b_y), pz⟩
    · simp only [cond_false]
      cases h3 : F ⟨cut64 (px + clampN 32768 bx), py, cut64 (pz + clampN 32768 bz)⟩ <;> rfl
    · simp only [cond_true]
      cases h3 : F ⟨cut64 (px + clampN 32768 bx), cut64 (py + clampN 32768 b_y), cut64 (pz + clampN 32768 bz)⟩ <;> rfl

noncomputable def oSlide (args : List SV) (rows : List Row) : Option Eff :=
  match args with
  | [.agg [.int .i64 w, .int .i64 d, .int .i64 h, .slice id st off len _, sp], .agg [.int .i64 x, .int .i64 y, .int .i64 z], .agg [.int .i64 p, .int .i64 q, .int .i64 r]] => match rows[id]? with
    | some (.vec _ .bool xs) => bif Nat.beq st 1 && sp.one then some { ok := mapOk w d h len && (fitsB ⟨x, y, z⟩ && decide (off + len ≤ xs.length)), val := slideV ((mpOf w d h len fun j => xs.getD (off + j) false).slide ⟨x, y, z⟩ ⟨p, q, r⟩), rd := [id] } else none
    | _ => none
  | _ => none

theorem oSlide_ok {args : List SV} {rows : List Row} {n : Nat} {e : Eff} (h : oSlide args rows = some e) (hok : e.ok = true) : FnOk Try.prog 27 args (rows[·]?) n e := by
  unfold oSlide at h
  split at h
  · rename_i wd dd hd id st off len cap sp x y z p q r
    split at h
    · rename_i ro xs hrow
      cases hb : Nat.beq st 1 && sp.one with
      | false => simp [hb] at h
      | true =>
        simp only [hb, cond_true, Option.some.injEq] at h
        subst h
        rw [Bool.and_eq_true] at hb
        have hst := Nat.eq_of_beq_eq_true hb.1
        subst hst
        simp only [Bool.and_eq_true, fitsB] at hok
        obtain ⟨h1, ⟨h2, h3, h4⟩, h5⟩ := hok
        obtain ⟨rows', hc, _⟩ := runK_ok xSlide_ok lok_none Try.func27 (slide_val (bx := p) (b_y := q) (bz := r) h1 h5 h2 h3 h4)
        exact fnOk_map hb.2 hc rfl rfl hrow
    · cases h
  · cases h

end Go.Proofs.Ytihpfaeabocdbaa
