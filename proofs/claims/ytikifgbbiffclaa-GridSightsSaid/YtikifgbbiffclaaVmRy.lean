/- The reference's Sight as a contract. -/
import Derived.Test.YtikifgbbiffclaaVmRz
import Derived.Test.YtikifgbbiffclaaVmSg
namespace Go.Proofs.Ytikifgbbiffclaa
set_option linter.unusedSimpArgs false
set_option linter.unusedVariables false
open Go.RowKit

theorem crOk_ok {a b : Int} {l : List Pt} (ha : 0 ≤ a ∧ a < 2097152) (hb : 0 ≤ b ∧ b < 2097152) (h : Gd l) (hl : l.length ≤ 800) : crOk a b l.length l = true := by
  unfold crOk hdB
  rw [inR_iff.2 ha, inR_iff.2 hb, decide_eq_true rfl, decide_eq_true hl]
  have := h.hd
  unfold Hd at this
  rw [decide_eq_true this]
  rfl
theorem rsight_val {w d h : Int} {off ln : Nat} {xs : List Bool} {a b : V3} (ha : a.fits) (hb : b.fits) (hl : off + ln ≤ xs.length) :
    runK xRv (loopOf [lpoRv]) 300 24 Try.f24 0 [mapS w d h (.slice 0 1 off ln none) .unk, .agg a.sv, .agg b.sv] [.vec true .bool xs] = some (.bool ((mpOf w d h ln fun j => xs.getD (off + j) false).sight a b), []) := by
  rw [rsight_tree, in64B_iff.2 ha.1, in64B_iff.2 ha.2.1, in64B_iff.2 ha.2.2, in64B_iff.2 hb.1, in64B_iff.2 hb.2.1, in64B_iff.2 hb.2.2, decide_eq_true hl]
  simp only [cond_true, or_form]
  have hF : ∀ x y z, (mpOf w d h ln fun j => xs.getD (off + j) false).solid x y z = false → (0 ≤ x ∧ x < 32) ∧ (0 ≤ y ∧ y < 32) ∧ (0 ≤ z ∧ z < 32) := fun x y z hs => mp_solid_in x y z hs
  unfold Mp.sight
  generalize (mpOf w d h ln fun j => xs.getD (off + j) false).solid = F at hF ⊢
  have hi := sight_iff hF a b
  cases s1 : F (a.x / 65536) (a.y / 65536) (a.z / 65536) with
  | true => unfold sightF; rw [s1]; rfl
  | false =>
    cases s2 : F (b.x / 65536) (b.y / 65536) (b.z / 65536) with
    | true => unfold sightF; rw [s1, s2]; rfl
    | false =>
      have r1 := hF _ _ _ s1
      have r2 := hF _ _ _ s2
      have na : Near a := ⟨by omega, by omega, by omega⟩
      have nb : Near b := ⟨by omega, by omega, by omega⟩
      obtain ⟨x1, x2, x3, x4⟩ := cross_gd na.1 nb.1 gd_two
      obtain ⟨y1, y2, y3, y4⟩ := cross_gd na.2.1 nb.2.1 x1
      have e2 : ([⟨0, 1⟩, ⟨1, 1⟩] : List Pt).length = 2 := rfl
      have k1 := crOk_ok na.1 nb.1 gd_two (by omega)
      have k2 := crOk_ok na.2.1 nb.2.1 x1 (by omega)
      have k3 := crOk_ok na.2.2 nb.2.2 y1 (by omega)
      rw [e2] at k1
      obtain ⟨hg, hlen, _⟩ := parts_gd na nb
      have hp := parts_all (F := F) na nb
      rw [show crossT a.z b.z (crossT a.y b.y (crossT a.x b.x [⟨0, 1⟩, ⟨1, 1⟩])) = partsT a b from rfl]
      have k4 : rvOk off ln xs a b (partsT a b) (partsT a b).length = true := by
        unfold rvOk
        rw [inR_iff.2 na.1, inR_iff.2 na.2.1, inR_iff.2 na.2.2, inR_iff.2 nb.1, inR_iff.2 nb.2.1, inR_iff.2 nb.2.2, List.all_eq_true.2 hg.ok, decide_eq_true hl, decide_eq_true rfl, decide_eq_true (show (partsT a b).length ≤ 900 by omega)]
        rfl
      rw [k1, k2, k3, k4]
      simp only [Bool.or_self, cond_true, cond_false]
      cases hq : anyB (fun i => hitT F a b (partsT a b) i.toNat) (partsT a b).length 0 with
      | false =>
        rw [hi.2 (hp.1 hq)]
        rfl
      | true =>
        have : sightF F a b = false := by
          rw [← Bool.not_eq_true]
          intro hs
          rw [hp.2 (hi.1 hs)] at hq
          cases hq
        rw [this]
        rfl
noncomputable def oRSight (args : List SV) (rows : List Row) : Option Eff :=
  match args with
  | [.agg [.int .i64 w, .int .i64 d, .int .i64 h, .slice id st off len _, sp], .agg [.int .i64 x, .int .i64 y, .int .i64 z], .agg [.int .i64 p, .int .i64 q, .int .i64 r]] => match rows[id]? with
    | some (.vec _ .bool xs) => bif Nat.beq st 1 && sp.one then some { ok := (fitsB ⟨x, y, z⟩ && fitsB ⟨p, q, r⟩) && decide (off + len ≤ xs.length), val := .bool ((mpOf w d h len fun j => xs.getD (off + j) false).sight ⟨x, y, z⟩ ⟨p, q, r⟩), rd := [id] } else none
    | _ => none
  | _ => none
theorem oRSight_ok {args : List SV} {rows : List Row} {n : Nat} {e : Eff} (h : oRSight args rows = some e) (hok : e.ok = true) : FnOk Try.prog 24 args (rows[·]?) n e := by
  unfold oRSight at h
  split at h
  · rename_i wd dd hd id st off len cap sp x y z p q r
    split at h
    · rename_i ro xs hrow
      obtain ⟨hb, h⟩ := cond_some h
      cases h
      simp only [Bool.and_eq_true, decide_eq_true_eq, fitsB_iff] at hok
      exact fnOk_grid xRv_ok loopOf_ok Try.func24 hb hrow rfl rfl (rsight_val (a := ⟨x, y, z⟩) (b := ⟨p, q, r⟩) hok.1.1 hok.1.2 hok.2)
    · cases h
  · cases h
noncomputable def orcRSight : Orc := ⟨24, oRSight, fun _ _ _ h hok => oRSight_ok h hok, bodied Try.func24 (by kernel_rfl)⟩

end Go.Proofs.Ytikifgbbiffclaa
