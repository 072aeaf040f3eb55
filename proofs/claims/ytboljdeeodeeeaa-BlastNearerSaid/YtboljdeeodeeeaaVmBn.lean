/- BlastNearer: the law's call. -/
import Derived.Test.YtboljdeeodeeeaaVmHf
import Derived.Test.YtboljdeeodeeeaaVmRt
import Derived.Test.YtboljdeeodeeeaaVmG13
namespace Go.Proofs.Ytboljdeeodeeeaa
set_option linter.unusedSimpArgs false
set_option linter.unusedVariables false
set_option maxRecDepth 100000
open Go.RowKit

noncomputable def x13n : Ctx := ctxOf [11, 12] [orcShown13, orcRight, orcHurt, orcSight]
theorem x13n_ok : COk Try.prog x13n := ctxOf_ok (by kernel_rfl)

set_option maxRecDepth 100000 in
set_option maxHeartbeats 0 in
theorem nearer_tree (w d h : Int) (len ls : Nat) (xs : List Bool) (sp : List V3) (a : V3) (p : Pl) (n : Int) : runK x13n (fun _ _ => none) 200 7 Try.f7 0 [mapS w d h (.slice 0 1 0 len none) (.slice 1 3 0 ls none), .agg a.sv, .agg p.sv, .int .i64 n] [.vec true .bool xs, .vec true .vec sp] =
  bif
  (mapOk w d h len && (decide (0 + len ≤ xs.length) && (decide (0 + ls ≤ sp.length) && (decide (ls ≤ 9223372036854775807) && sp.all fitsB))) && true && true ||
  (bif (bif decide (w ≤ 10) == true then decide (d ≤ 10) else false) == true then decide (h ≤ 10) else false) != true) &&
  (true || (bif (bif decide (w ≤ 10) == true then decide (d ≤ 10) else false) == true then decide (h ≤ 10) else false) == true) &&
  true then
  bif
  !bif (bif (bif decide (w ≤ 10) == true then decide (d ≤ 10) else false) == true then decide (h ≤ 10) else false) == true then
  rightE ((mpOf w d h len fun j => xs.getD (0 + j) false).right (spAt sp 0) ls) == 0
  else false then
  some (SV.bool true, [])
  else
  bif bif false == false then !bif decide (max (max a.x a.y) a.z ≤ 6553600) == true then decide (min (min a.x a.y) a.z ≥ -6553600) else false else true then some (SV.bool true, [])
  else
  bif bif false == false then !bif decide (max (max p.pos.x p.pos.y) p.pos.z ≤ 6553600) == true then decide (min (min p.pos.x p.pos.y) p.pos.z ≥ -6553600) else false else true then
  some (SV.bool true, [])
  else
  bif mapOk w d h len && (fitsB a && (fitsB p.pos && decide (0 + len ≤ xs.length))) then
  bif
  (mapOk w d h len &&
  (fitsB a &&
  (fitsB
  (V3.mk
  (IntKind.i64.wrap
  (a.x +
  IntKind.i64.wrap
  ((IntKind.i64.wrap
  (IntKind.i64.wrap (p.pos.x - a.x) * IntKind.i64.wrap (↑(BitVec.ofInt IntKind.i64.bits n &&& BitVec.ofInt IntKind.i64.bits 255).toNat : Int))).tdiv
  256)))
  (IntKind.i64.wrap
  (a.y +
  IntKind.i64.wrap
  ((IntKind.i64.wrap
  (IntKind.i64.wrap (p.pos.y - a.y) * IntKind.i64.wrap (↑(BitVec.ofInt IntKind.i64.bits n &&& BitVec.ofInt IntKind.i64.bits 255).toNat : Int))).tdiv
  256)))
  (IntKind.i64.wrap
  (a.z +
  IntKind.i64.wrap
  ((IntKind.i64.wrap
  (IntKind.i64.wrap (p.pos.z - a.z) * IntKind.i64.wrap (↑(BitVec.ofInt IntKind.i64.bits n &&& BitVec.ofInt IntKind.i64.bits 255).toNat : Int))).tdiv
  256)))) &&
  decide (0 + len ≤ xs.length))) &&
  true &&
  true ||
  (!(mpOf w d h len fun j => xs.getD (0 + j) false).sight a p.pos) != false) &&
  (true || (!(mpOf w d h len fun j => xs.getD (0 + j) false).sight a p.pos) == false) &&
  true then
  bif
  bif (!(mpOf w d h len fun j => xs.getD (0 + j) false).sight a p.pos) == false then
  !(mpOf w d h len fun j => xs.getD (0 + j) false).sight a
  (V3.mk
  (IntKind.i64.wrap
  (a.x +
  IntKind.i64.wrap
  ((IntKind.i64.wrap (IntKind.i64.wrap (p.pos.x - a.x) * IntKind.i64.wrap (↑(BitVec.ofInt IntKind.i64.bits n &&& BitVec.ofInt IntKind.i64.bits 255).toNat : Int))).tdiv
  256)))
  (IntKind.i64.wrap
  (a.y +
  IntKind.i64.wrap
  ((IntKind.i64.wrap (IntKind.i64.wrap (p.pos.y - a.y) * IntKind.i64.wrap (↑(BitVec.ofInt IntKind.i64.bits n &&& BitVec.ofInt IntKind.i64.bits 255).toNat : Int))).tdiv
  256)))
  (IntKind.i64.wrap
  (a.z +
  IntKind.i64.wrap
  ((IntKind.i64.wrap (IntKind.i64.wrap (p.pos.z - a.z) * IntKind.i64.wrap (↑(BitVec.ofInt IntKind.i64.bits n &&& BitVec.ofInt IntKind.i64.bits 255).toNat : Int))).tdiv
  256))))
  else true then
  some (SV.bool true, [])
  else
  bif
  mapOk w d h len &&
  (fitsB a &&
  (fitsB
  (V3.mk
  (IntKind.i64.wrap
  (a.x +
  IntKind.i64.wrap
  ((IntKind.i64.wrap (IntKind.i64.wrap (p.pos.x - a.x) * IntKind.i64.wrap (↑(BitVec.ofInt IntKind.i64.bits n &&& BitVec.ofInt IntKind.i64.bits 255).toNat : Int))).tdiv
  256)))
  (IntKind.i64.wrap
  (a.y +
  IntKind.i64.wrap
  ((IntKind.i64.wrap (IntKind.i64.wrap (p.pos.y - a.y) * IntKind.i64.wrap (↑(BitVec.ofInt IntKind.i64.bits n &&& BitVec.ofInt IntKind.i64.bits 255).toNat : Int))).tdiv
  256)))
  (IntKind.i64.wrap
  (a.z +
  IntKind.i64.wrap
  ((IntKind.i64.wrap (IntKind.i64.wrap (p.pos.z - a.z) * IntKind.i64.wrap (↑(BitVec.ofInt IntKind.i64.bits n &&& BitVec.ofInt IntKind.i64.bits 255).toNat : Int))).tdiv
  256)))) &&
  decide (0 + len ≤ xs.length))) then
  bif mapOk w d h len && (fitsB a && (fitsB p.pos && decide (0 + len ≤ xs.length))) then
  some
  (SV.bool
  (decide
  ((mpOf w d h len fun j => xs.getD (0 + j) false).hurt a
  (Pl.mk p.id
  (V3.mk
  (IntKind.i64.wrap
  (a.x +
  IntKind.i64.wrap
  ((IntKind.i64.wrap
  (IntKind.i64.wrap (p.pos.x - a.x) * IntKind.i64.wrap (↑(BitVec.ofInt IntKind.i64.bits n &&& BitVec.ofInt IntKind.i64.bits 255).toNat : Int))).tdiv
  256)))
  (IntKind.i64.wrap
  (a.y +
  IntKind.i64.wrap
  ((IntKind.i64.wrap
  (IntKind.i64.wrap (p.pos.y - a.y) * IntKind.i64.wrap (↑(BitVec.ofInt IntKind.i64.bits n &&& BitVec.ofInt IntKind.i64.bits 255).toNat : Int))).tdiv
  256)))
  (IntKind.i64.wrap
  (a.z +
  IntKind.i64.wrap
  ((IntKind.i64.wrap
  (IntKind.i64.wrap (p.pos.z - a.z) * IntKind.i64.wrap (↑(BitVec.ofInt IntKind.i64.bits n &&& BitVec.ofInt IntKind.i64.bits 255).toNat : Int))).tdiv
  256))))
  p.vel p.ground p.health p.armour p.score p.a0 p.a1 p.wait p.dead) ≥
  (mpOf w d h len fun j => xs.getD (0 + j) false).hurt a p)),
  [])
  else none
  else none
  else none
  else none
  else none := by kernel_rfl

theorem in64_wrapn (x : Int) : in64B (IntKind.i64.wrap x) = true := by
  rw [in64B_iff, IntKind.wrap_i64]
  unfold In64
  omega
set_option maxHeartbeats 0 in
theorem nearer_law {w d h : Int} {len ls : Nat} {xs : List Bool} {sp : List V3} {a : V3} {p : Pl} {n : Int} (hw : In64 w) (hd : In64 d) (hh : In64 h) (hl : len ≤ 9223372036854775807) (hx : xs.length = len) (hs : ls ≤ 9223372036854775807) (hy : sp.length = ls) (hf : ∀ p ∈ sp, p.fits) (ha : a.fits) (hp : p.pos.fits) :
    runK x13n (fun _ _ => none) 200 7 Try.f7 0 [mapS w d h (.slice 0 1 0 len none) (.slice 1 3 0 ls none), .agg a.sv, .agg p.sv, .int .i64 n] [.vec true .bool xs, .vec true .vec sp] = some (.bool true, []) := by
  rw [nearer_tree]
  obtain ⟨c1, c2, c3⟩ := right_facts hw hd hh hl hx hs hy hf
  rw [c1]
  have hN := mask_in (a := n) (c := 255) 255 rfl (by omega)
  generalize IntKind.i64.wrap ((BitVec.ofInt IntKind.i64.bits n &&& BitVec.ofInt IntKind.i64.bits 255).toNat : Int) = N at hN ⊢
  generalize (mpOf w d h len fun j => xs.getD (0 + j) false).right (spAt sp 0) ls = R
  generalize (mpOf w d h len fun j => xs.getD (0 + j) false) = m
  have fw : ∀ x y z : Int, fitsB (V3.mk (IntKind.i64.wrap x) (IntKind.i64.wrap y) (IntKind.i64.wrap z)) = true := fun x y z => fitsB_iff.2 ⟨in64B_iff.1 (in64_wrapn x), in64B_iff.1 (in64_wrapn y), in64B_iff.1 (in64_wrapn z)⟩
  simp only [c2, c3, fw, fitsB_iff.2 ha, fitsB_iff.2 hp, Bool.and_true, Bool.true_or, Bool.or_true, Bool.true_and, Bool.false_or, cond_true, and_form, or_form]
  refine bif_law (fun _ => rfl) (fun _ => ?_)
  refine bif_law (fun _ => rfl) (fun h1 => ?_)
  refine bif_law (fun _ => rfl) (fun h2 => ?_)
  simp only [Bool.not_eq_false', Bool.and_eq_true, decide_eq_true_eq] at h1 h2
  have wa : a.within 6553600 := by unfold V3.within; omega
  have wp : p.pos.within 6553600 := by unfold V3.within; omega
  obtain ⟨tx, ex, sx, bx, bx'⟩ := share_axis (x := a.x) (y := p.pos.x) (N := N) wa.1 wp.1 hN
  obtain ⟨ty, ey, sy, by0, by1⟩ := share_axis (x := a.y) (y := p.pos.y) (N := N) wa.2.1 wp.2.1 hN
  obtain ⟨tz, ez, sz, bz, bz'⟩ := share_axis (x := a.z) (y := p.pos.z) (N := N) wa.2.2 wp.2.2 hN
  rw [ex, ey, ez]
  refine bif_law (fun _ => rfl) (fun h3 => ?_)
  simp only [Bool.or_eq_false_iff, Bool.not_eq_false'] at h3
  have wq : V3.within ⟨a.x + tx, a.y + ty, a.z + tz⟩ 6553600 := by unfold V3.within at wa wp ⊢; simp only; omega
  rw [decide_eq_true]
  refine hurt_nearer wa wp wq rfl ?_ h3.2
  rw [(minus_near wa wq).1, (minus_near wa wp).1]
  unfold V3.sq
  simp only
  rw [show a.x + tx - a.x = tx by omega, show a.y + ty - a.y = ty by omega, show a.z + tz - a.z = tz by omega]
  omega

end Go.Proofs.Ytboljdeeodeeeaa
