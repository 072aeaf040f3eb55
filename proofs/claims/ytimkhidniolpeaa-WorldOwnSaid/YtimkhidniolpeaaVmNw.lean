/- shot's New, as a contract. -/
import Derived.Test.YtimkhidniolpeaaVmLg
import Derived.Test.YtimkhidniolpeaaVmOra
namespace Go.Proofs.Ytimkhidniolpeaa
set_option linter.unusedSimpArgs false
set_option linter.unusedVariables false
set_option maxRecDepth 100000
set_option maxHeartbeats 0
open Go.RowKit

noncomputable def xNw : Ctx := ctxOf [51] [orcLong]
theorem xNw_ok : COk Try.prog xNw := ctxOf_ok (by kernel_rfl)

theorem new_tree (id ow k : Int) (p d : V3) : runK xNw (fun _ _ => none) 200 32 Try.f32 0 [.int .i64 id, .int .i64 ow, .int .i64 k, .agg p.sv, .agg d.sv] [] =
 bif k == 0 then
  bif bif decide (d.x < -65536) == false then decide (d.x > 65536) else true then
   bif bif decide (d.y < -65536) == false then decide (d.y > 65536) else true then
    bif bif decide (d.z < -65536) == false then decide (d.z > 65536) else true then
     some
      (SV.tuple
          [SV.agg
              [.int .i64 0, .int .i64 0, .int .i64 0, .int .i64 0, .int .i64 0, .int .i64 0, .int .i64 0, .int .i64 0,
               .int .i64 0, .int .i64 0, SV.bool false],
           .int .i64 1],
       [])
    else
     some
      (SV.tuple
          [SV.agg
              [.int .i64 0, .int .i64 0, .int .i64 0, .int .i64 0, .int .i64 0, .int .i64 0, .int .i64 0, .int .i64 0,
               .int .i64 0, .int .i64 0, SV.bool false],
           .int .i64 1],
       [])
   else
    bif bif decide (d.z < -65536) == false then decide (d.z > 65536) else true then
     some
      (SV.tuple
          [SV.agg
              [.int .i64 0, .int .i64 0, .int .i64 0, .int .i64 0, .int .i64 0, .int .i64 0, .int .i64 0, .int .i64 0,
               .int .i64 0, .int .i64 0, SV.bool false],
           .int .i64 1],
       [])
    else
     some
      (SV.tuple
          [SV.agg
              [.int .i64 0, .int .i64 0, .int .i64 0, .int .i64 0, .int .i64 0, .int .i64 0, .int .i64 0, .int .i64 0,
               .int .i64 0, .int .i64 0, SV.bool false],
           .int .i64 1],
       [])
  else
   bif bif decide (d.y < -65536) == false then decide (d.y > 65536) else true then
    bif bif decide (d.z < -65536) == false then decide (d.z > 65536) else true then
     some
      (SV.tuple
          [SV.agg
              [.int .i64 0, .int .i64 0, .int .i64 0, .int .i64 0, .int .i64 0, .int .i64 0, .int .i64 0, .int .i64 0,
               .int .i64 0, .int .i64 0, SV.bool false],
           .int .i64 1],
       [])
    else
     some
      (SV.tuple
          [SV.agg
              [.int .i64 0, .int .i64 0, .int .i64 0, .int .i64 0, .int .i64 0, .int .i64 0, .int .i64 0, .int .i64 0,
               .int .i64 0, .int .i64 0, SV.bool false],
           .int .i64 1],
       [])
   else
    bif bif decide (d.z < -65536) == false then decide (d.z > 65536) else true then
     some
      (SV.tuple
          [SV.agg
              [.int .i64 0, .int .i64 0, .int .i64 0, .int .i64 0, .int .i64 0, .int .i64 0, .int .i64 0, .int .i64 0,
               .int .i64 0, .int .i64 0, SV.bool false],
           .int .i64 1],
       [])
    else
     bif bif (26214 == 0) == false then d.x == 0 && (d.y == 0 && (d.z == 0 && true)) else true then
      some
       (SV.tuple
           [SV.agg
               [.int .i64 0, .int .i64 0, .int .i64 0, .int .i64 0, .int .i64 0, .int .i64 0, .int .i64 0, .int .i64 0,
                .int .i64 0, .int .i64 0, SV.bool false],
            .int .i64 1],
        [])
     else
      bif fitsB d then
       bif !decide (d.long = 0) then
        bif !decide (d.long = 0) then
         bif !decide (d.long = 0) then
          some
           (SV.tuple
               [SV.agg
                   [.int .i64 id, .int .i64 ow, .int .i64 k, .int .i64 p.x, .int .i64 p.y, .int .i64 p.z,
                    .int .i64 (IntKind.i64.wrap ((IntKind.i64.wrap (d.x * 26214)).tdiv d.long)),
                    .int .i64 (IntKind.i64.wrap ((IntKind.i64.wrap (d.y * 26214)).tdiv d.long)),
                    .int .i64 (IntKind.i64.wrap ((IntKind.i64.wrap (d.z * 26214)).tdiv d.long)), .int .i64 200, SV.bool false],
                .int .i64 0],
            [])
         else none
        else none
       else none
      else none
 else
  bif k == 1 then
   bif bif decide (d.x < -65536) == false then decide (d.x > 65536) else true then
    bif bif decide (d.y < -65536) == false then decide (d.y > 65536) else true then
     bif bif decide (d.z < -65536) == false then decide (d.z > 65536) else true then
      some
       (SV.tuple
           [SV.agg
               [.int .i64 0, .int .i64 0, .int .i64 0, .int .i64 0, .int .i64 0, .int .i64 0, .int .i64 0, .int .i64 0,
                .int .i64 0, .int .i64 0, SV.bool false],
            .int .i64 1],
        [])
     else
      some
       (SV.tuple
           [SV.agg
               [.int .i64 0, .int .i64 0, .int .i64 0, .int .i64 0, .int .i64 0, .int .i64 0, .int .i64 0, .int .i64 0,
                .int .i64 0, .int .i64 0, SV.bool false],
            .int .i64 1],
        [])
    else
     bif bif decide (d.z < -65536) == false then decide (d.z > 65536) else true then
      some
       (SV.tuple
           [SV.agg
               [.int .i64 0, .int .i64 0, .int .i64 0, .int .i64 0, .int .i64 0, .int .i64 0, .int .i64 0, .int .i64 0,
                .int .i64 0, .int .i64 0, SV.bool false],
            .int .i64 1],
        [])
     else
      some
       (SV.tuple
           [SV.agg
               [.int .i64 0, .int .i64 0, .int .i64 0, .int .i64 0, .int .i64 0, .int .i64 0, .int .i64 0, .int .i64 0,
                .int .i64 0, .int .i64 0, SV.bool false],
            .int .i64 1],
        [])
   else
    bif bif decide (d.y < -65536) == false then decide (d.y > 65536) else true then
     bif bif decide (d.z < -65536) == false then decide (d.z > 65536) else true then
      some
       (SV.tuple
           [SV.agg
               [.int .i64 0, .int .i64 0, .int .i64 0, .int .i64 0, .int .i64 0, .int .i64 0, .int .i64 0, .int .i64 0,
                .int .i64 0, .int .i64 0, SV.bool false],
            .int .i64 1],
        [])
     else
      some
       (SV.tuple
           [SV.agg
               [.int .i64 0, .int .i64 0, .int .i64 0, .int .i64 0, .int .i64 0, .int .i64 0, .int .i64 0, .int .i64 0,
                .int .i64 0, .int .i64 0, SV.bool false],
            .int .i64 1],
        [])
    else
     bif bif decide (d.z < -65536) == false then decide (d.z > 65536) else true then
      some
       (SV.tuple
           [SV.agg
               [.int .i64 0, .int .i64 0, .int .i64 0, .int .i64 0, .int .i64 0, .int .i64 0, .int .i64 0, .int .i64 0,
                .int .i64 0, .int .i64 0, SV.bool false],
            .int .i64 1],
        [])
     else
      bif bif (16384 == 0) == false then d.x == 0 && (d.y == 0 && (d.z == 0 && true)) else true then
       some
        (SV.tuple
            [SV.agg
                [.int .i64 0, .int .i64 0, .int .i64 0, .int .i64 0, .int .i64 0, .int .i64 0, .int .i64 0, .int .i64 0,
                 .int .i64 0, .int .i64 0, SV.bool false],
             .int .i64 1],
         [])
      else
       bif fitsB d then
        bif !decide (d.long = 0) then
         bif !decide (d.long = 0) then
          bif !decide (d.long = 0) then
           some
            (SV.tuple
                [SV.agg
                    [.int .i64 id, .int .i64 ow, .int .i64 k, .int .i64 p.x, .int .i64 p.y, .int .i64 p.z,
                     .int .i64 (IntKind.i64.wrap ((IntKind.i64.wrap (d.x * 16384)).tdiv d.long)),
                     .int .i64 (IntKind.i64.wrap ((IntKind.i64.wrap (d.y * 16384)).tdiv d.long)),
                     .int .i64 (IntKind.i64.wrap ((IntKind.i64.wrap (d.z * 16384)).tdiv d.long)), .int .i64 60, SV.bool false],
                 .int .i64 0],
             [])
          else none
         else none
        else none
       else none
  else
   bif bif decide (d.x < -65536) == false then decide (d.x > 65536) else true then
    bif bif decide (d.y < -65536) == false then decide (d.y > 65536) else true then
     bif bif decide (d.z < -65536) == false then decide (d.z > 65536) else true then
      some
       (SV.tuple
           [SV.agg
               [.int .i64 0, .int .i64 0, .int .i64 0, .int .i64 0, .int .i64 0, .int .i64 0, .int .i64 0, .int .i64 0,
                .int .i64 0, .int .i64 0, SV.bool false],
            .int .i64 1],
        [])
     else
      some
       (SV.tuple
           [SV.agg
               [.int .i64 0, .int .i64 0, .int .i64 0, .int .i64 0, .int .i64 0, .int .i64 0, .int .i64 0, .int .i64 0,
                .int .i64 0, .int .i64 0, SV.bool false],
            .int .i64 1],
        [])
    else
     bif bif decide (d.z < -65536) == false then decide (d.z > 65536) else true then
      some
       (SV.tuple
           [SV.agg
               [.int .i64 0, .int .i64 0, .int .i64 0, .int .i64 0, .int .i64 0, .int .i64 0, .int .i64 0, .int .i64 0,
                .int .i64 0, .int .i64 0, SV.bool false],
            .int .i64 1],
        [])
     else
      some
       (SV.tuple
           [SV.agg
               [.int .i64 0, .int .i64 0, .int .i64 0, .int .i64 0, .int .i64 0, .int .i64 0, .int .i64 0, .int .i64 0,
                .int .i64 0, .int .i64 0, SV.bool false],
            .int .i64 1],
        [])
   else
    bif bif decide (d.y < -65536) == false then decide (d.y > 65536) else true then
     bif bif decide (d.z < -65536) == false then decide (d.z > 65536) else true then
      some
       (SV.tuple
           [SV.agg
               [.int .i64 0, .int .i64 0, .int .i64 0, .int .i64 0, .int .i64 0, .int .i64 0, .int .i64 0, .int .i64 0,
                .int .i64 0, .int .i64 0, SV.bool false],
            .int .i64 1],
        [])
     else
      some
       (SV.tuple
           [SV.agg
               [.int .i64 0, .int .i64 0, .int .i64 0, .int .i64 0, .int .i64 0, .int .i64 0, .int .i64 0, .int .i64 0,
                .int .i64 0, .int .i64 0, SV.bool false],
            .int .i64 1],
        [])
    else
     bif bif decide (d.z < -65536) == false then decide (d.z > 65536) else true then
      some
       (SV.tuple
           [SV.agg
               [.int .i64 0, .int .i64 0, .int .i64 0, .int .i64 0, .int .i64 0, .int .i64 0, .int .i64 0, .int .i64 0,
                .int .i64 0, .int .i64 0, SV.bool false],
            .int .i64 1],
        [])
     else
      some
       (SV.tuple
           [SV.agg
               [.int .i64 0, .int .i64 0, .int .i64 0, .int .i64 0, .int .i64 0, .int .i64 0, .int .i64 0, .int .i64 0,
                .int .i64 0, .int .i64 0, SV.bool false],
            .int .i64 1],
        []) := by kernel_rfl

def outA (n : Int) : Bool := decide (n < -65536) || decide (n > 65536)
def spN (k : Int) : Int := bif k == 0 then 26214 else 16384
def fuN (k : Int) : Int := bif k == 0 then 200 else 60
def newBad (k : Int) (d : V3) : Bool := !(k == 0 || k == 1) || (outA d.x || (outA d.y || (outA d.z || (d.x == 0 && (d.y == 0 && d.z == 0)))))
def velN (s : Int) (d : V3) : V3 := ⟨(d.x * s).tdiv d.long, (d.y * s).tdiv d.long, (d.z * s).tdiv d.long⟩
def newS (id ow k : Int) (p d : V3) : Sh := bif newBad k d then ⟨0, 0, 0, ⟨0, 0, 0⟩, ⟨0, 0, 0⟩, 0, false⟩ else ⟨id, ow, k, p, velN (spN k) d, fuN k, false⟩
def newE (k : Int) (d : V3) : Int := bif newBad k d then 1 else 0

theorem tdiv_in {a b s : Int} (ha : -65536 ≤ a ∧ a ≤ 65536) (hs : 0 ≤ s ∧ s ≤ 26214) (hb : 0 < b) : IntKind.i64.wrap ((IntKind.i64.wrap (a * s)).tdiv b) = (a * s).tdiv b := by
 have h1 : -1717960704 ≤ a * s ∧ a * s ≤ 1717960704 := by
  have h2 := Int.mul_le_mul_of_nonneg_right ha.1 hs.1
  have h3 := Int.mul_le_mul_of_nonneg_right ha.2 hs.1
  omega
 rw [IntWalk.i64_in (a * s) (by omega)]
 generalize a * s = m at h1
 have h4 : -1717960704 ≤ m.tdiv b ∧ m.tdiv b ≤ 1717960704 := by
  have := Int.natAbs_tdiv_le_natAbs m b
  omega
 rw [IntWalk.i64_in (m.tdiv b) (by omega)]

theorem new_val (id ow k : Int) (p d : V3) : runK xNw (fun _ _ => none) 200 32 Try.f32 0 [.int .i64 id, .int .i64 ow, .int .i64 k, .agg p.sv, .agg d.sv] [] = some (.tuple [.agg (newS id ow k p d).sv, .int .i64 (newE k d)], []) := by
 rw [new_tree]
 simp only [or_form]
 rw [show (decide (d.x < -65536) || decide (d.x > 65536)) = outA d.x from rfl, show (decide (d.y < -65536) || decide (d.y > 65536)) = outA d.y from rfl, show (decide (d.z < -65536) || decide (d.z > 65536)) = outA d.z from rfl]
 have main : outA d.x = false → outA d.y = false → outA d.z = false → (d.x == 0 && (d.y == 0 && d.z == 0)) = false → fitsB d = true ∧ (!decide (d.long = 0)) = true ∧ (∀ s : Int, 0 ≤ s ∧ s ≤ 26214 →
     IntKind.i64.wrap ((IntKind.i64.wrap (d.x * s)).tdiv d.long) = (d.x * s).tdiv d.long ∧ IntKind.i64.wrap ((IntKind.i64.wrap (d.y * s)).tdiv d.long) = (d.y * s).tdiv d.long ∧ IntKind.i64.wrap ((IntKind.i64.wrap (d.z * s)).tdiv d.long) = (d.z * s).tdiv d.long) := by
  intro h1 h2 h3 h4
  unfold outA at h1 h2 h3
  simp only [Bool.or_eq_false_iff, decide_eq_false_iff_not] at h1 h2 h3
  have hw : d.within 2147483648 := by unfold V3.within; omega
  have hl : 0 < d.long := long_pos hw (by rintro ⟨a, b, c⟩; rw [a, b, c] at h4; exact absurd h4 (by decide))
  refine ⟨fitsB_iff.2 (within_fits hw), ?_, fun s hs => ⟨tdiv_in (by omega) hs hl, tdiv_in (by omega) hs hl, tdiv_in (by omega) hs hl⟩⟩
  rw [Bool.not_eq_true', decide_eq_false_iff_not]
  omega
 unfold newS newE newBad spN fuN velN
 cases h1 : outA d.x
 · cases h2 : outA d.y
   · cases h3 : outA d.z
     · cases h4 : (d.x == 0 && (d.y == 0 && d.z == 0))
       · obtain ⟨m1, m2, m3⟩ := main h1 h2 h3 h4
         obtain ⟨a1, a2, a3⟩ := m3 26214 (by omega)
         obtain ⟨b1, b2, b3⟩ := m3 16384 (by omega)
         simp only [Bool.and_true, h4, m1, m2, a1, a2, a3, b1, b2, b3]
         cases hk : k == 0
         · cases hk' : k == 1 <;> rfl
         · rfl
       · simp only [Bool.and_true, h4]
         cases hk : k == 0
         · cases hk' : k == 1 <;> rfl
         · rfl
     · cases hk : k == 0 <;> first | rfl | (cases hk' : k == 1 <;> rfl)
   · cases h3 : outA d.z <;> cases hk : k == 0 <;> first | rfl | (cases hk' : k == 1 <;> rfl)
 · cases h2 : outA d.y <;> cases h3 : outA d.z <;> cases hk : k == 0 <;> first | rfl | (cases hk' : k == 1 <;> rfl)

theorem newBad_false {k : Int} {d : V3} (h : newBad k d = false) : (k = 0 ∨ k = 1) ∧ d.within 65536 ∧ d.within 2147483648 ∧ 0 < d.long := by
 unfold newBad outA at h
 simp only [Bool.or_eq_false_iff, Bool.not_eq_false', Bool.or_eq_true, decide_eq_false_iff_not, beq_iff_eq, Bool.and_eq_false_iff, beq_eq_false_iff_ne] at h
 obtain ⟨hk, h1, h2, h3, h4⟩ := h
 have hw : d.within 2147483648 := by unfold V3.within; omega
 refine ⟨hk, by unfold V3.within; omega, hw, long_pos hw (by omega)⟩

theorem vel_axis {x s l : Int} (hl : 0 < l) (hx : x ≤ l ∧ -x ≤ l) (hs : 0 ≤ s) : ((x * s).tdiv l = 0 ∨ (0 < x ∧ 0 < (x * s).tdiv l ∧ (x * s).tdiv l ≤ s)) ∨ (x < 0 ∧ (x * s).tdiv l < 0 ∧ -s ≤ (x * s).tdiv l) := by
 have key : ∀ y : Int, 0 ≤ y → y ≤ l → 0 ≤ (y * s).tdiv l ∧ (y * s).tdiv l ≤ s := by
  intro y h0 h1
  rw [Int.tdiv_eq_ediv_of_nonneg (Int.mul_nonneg h0 hs)]
  refine ⟨Int.ediv_nonneg (Int.mul_nonneg h0 hs) (Int.le_of_lt hl), ?_⟩
  have h2 := Int.mul_le_mul_of_nonneg_right h1 hs
  have h3 : (y * s) / l < s + 1 := by
   rw [Int.ediv_lt_iff_lt_mul hl]
   grind
  omega
 by_cases h0 : 0 ≤ x
 · have := key x h0 hx.1
   by_cases hx0 : x = 0
   · subst hx0; left; left; rw [Int.zero_mul, Int.zero_tdiv]
   · omega
 · have := key (-x) (by omega) hx.2
   rw [Int.neg_mul, Int.neg_tdiv] at this
   omega

def oNew : List SV → Option Eff
 | [.int .i64 id, .int .i64 ow, .int .i64 k, .agg [.int .i64 px, .int .i64 py, .int .i64 pz], .agg [.int .i64 dx, .int .i64 dy, .int .i64 dz]] => some { val := .tuple [.agg (newS id ow k ⟨px, py, pz⟩ ⟨dx, dy, dz⟩).sv, .int .i64 (newE k ⟨dx, dy, dz⟩)] }
 | _ => none
theorem oNew_ok {m : Nat → Option Row} {n : Nat} {args : List SV} {e : Eff} (h : oNew args = some e) : FnOk Try.prog 32 args m n e := by
 unfold oNew at h
 split at h
 · rename_i id ow k px py pz dx dy dz
   cases h
   obtain ⟨rows', hc, _⟩ := runK_ok xNw_ok lok_none Try.func32 (new_val id ow k ⟨px, py, pz⟩ ⟨dx, dy, dz⟩)
   exact fnOk_pure hc rfl rfl
 · cases h
noncomputable def orcNew : Orc := ⟨32, fun args _ => oNew args, fun _ _ _ h _ => oNew_ok h, bodied Try.func32 (by kernel_rfl)⟩

end Go.Proofs.Ytimkhidniolpeaa
