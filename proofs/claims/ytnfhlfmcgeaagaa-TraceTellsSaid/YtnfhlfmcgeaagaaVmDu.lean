/- The reference's digits: sum as a contract. -/
import Derived.Test.YtnfhlfmcgeaagaaVmDs
namespace Go.Proofs.Ytnfhlfmcgeaagaa
set_option linter.unusedSimpArgs false
set_option linter.unusedVariables false
open Go.RowKit

set_option maxHeartbeats 0 in
noncomputable def outSu (v : List SV) (R : List Row) (k : Ex → List SV → List Row → Option Res2) : Option Res2 := match v, R with
  | [.slice 0 1 oa la none, .slice 1 1 ob lb none, .nils, .slice 2 1 0 0 (some 0), .int .u64 c, .int .i64 i], [.vec true .u64 xs, .vec true .u64 ys, .vec false .u64 zs] =>
      bif (decide (c = 0) && (decide (i = 0) && zs.isEmpty)) && ((digsB xs && digsB ys) && ((decide (oa + la ≤ xs.length) && decide (ob + lb ≤ ys.length)) && decide (max la lb + 1 ≤ 1000))) then
        k (.exit 0) (valSu oa la ob lb (max la lb + 1) (sumC (atF xs oa la) (atF ys ob lb) (max la lb + 1) 0 0) (max la lb + 1 : Nat)) (rowSu xs ys (sumGo (atF xs oa la) (atF ys ob lb) (max la lb + 1) 0 0)) else none
  | _, _ => none
set_option maxHeartbeats 0 in
theorem lpoSu_ok : LpOk 54 [0, 1, 0, 1, 1, 1] (loopF 38 [0, 1, 4, 5, 6, 7] outSu) := by
  intro b hat s K r h
  refine loopF_ok (fuel := 100) xDs_ok lok_none hat (fun v R k r hr => ?_) h
  have hbody := at_body Try.func54 hat
  subst hbody
  unfold outSu at hr
  split at hr
  · rename_i oa la ob lb c i xs ys zs
    obtain ⟨hb, hr2⟩ := cond_some hr
    simp only [Bool.and_eq_true, decide_eq_true_eq] at hb
    obtain ⟨⟨h1, h2, h3⟩, ⟨h4, h5⟩, ⟨h6, h7⟩, h8⟩ := hb
    subst h1 h2
    rcases zs with _ | ⟨z, zs⟩
    · exact ⟨_, _, _, hr2, su_loop0 (digsB_iff.1 h4) (digsB_iff.1 h5) h6 h7 rfl h8⟩
    · cases h3
  · cases hr
noncomputable def lpoSu : Lpo := ⟨_, _, _, lpoSu_ok⟩

def sumD (xs ys : List Int) (oa la ob lb : Nat) : List Int := sumGo (atF xs oa la) (atF ys ob lb) (max la lb + 1) 0 0
set_option maxRecDepth 100000 in
set_option maxHeartbeats 0 in
theorem su_tree (xs ys : List Int) (oa la ob lb : Nat) : runK xDs (loopOf [lpoSu]) 300 54 Try.f54 9 [.slice 0 1 oa la none, .slice 1 1 ob lb none] [.vec true .u64 xs, .vec true .u64 ys] =
  bif (digsB xs && digsB ys) && ((decide (oa + la ≤ xs.length) && decide (ob + lb ≤ ys.length)) && decide (max la lb + 1 ≤ 1000)) then
    bif decide (max la lb + 1 ≤ (sumD xs ys oa la ob lb).length) && decide (max la lb + 1 ≤ 9223372036854775807) then
      some (.slice 3 1 0 (cutN (sumD xs ys oa la ob lb) (max la lb + 1)) none, [.vec true .u64 xs, .vec true .u64 ys, .gone, .vec false .u64 (sumD xs ys oa la ob lb)])
    else none
  else none := by kernel_rfl
theorem sumGo_len (f g : Nat → Int) : ∀ (k i : Nat) (c : Int), (sumGo f g k i c).length = k
  | 0, _, _ => rfl
  | k + 1, i, c => by unfold sumGo; rw [List.length_cons, sumGo_len]
/-- The digits of a sum, without noughts at the end. -/
def sumL (xs ys : List Int) (oa la ob lb : Nat) : List Int := (sumD xs ys oa la ob lb).take (cutN (sumD xs ys oa la ob lb) (max la lb + 1))
theorem sumL_len (xs ys : List Int) (oa la ob lb : Nat) : (sumL xs ys oa la ob lb).length = cutN (sumD xs ys oa la ob lb) (max la lb + 1) := by
  unfold sumL
  rw [List.length_take, show (sumD xs ys oa la ob lb).length = max la lb + 1 from sumGo_len _ _ _ _ _]
  have := cutN_le (sumD xs ys oa la ob lb) (max la lb + 1)
  omega
theorem sumL_get (xs ys : List Int) (oa la ob lb : Nat) {i : Nat} (hi : i < (sumL xs ys oa la ob lb).length) : (sumD xs ys oa la ob lb)[0 + i]? = (sumL xs ys oa la ob lb)[i]? := by
  rw [Nat.zero_add]
  rw [sumL_len] at hi
  unfold sumL
  rw [List.getElem?_take, if_pos hi]
theorem su_val {xs ys : List Int} {oa la ob lb : Nat} (hx : digsB xs = true) (hy : digsB ys = true) (ha : oa + la ≤ xs.length) (hb : ob + lb ≤ ys.length) (hM : max la lb + 1 ≤ 1000) :
    runK xDs (loopOf [lpoSu]) 300 54 Try.f54 9 [.slice 0 1 oa la none, .slice 1 1 ob lb none] [.vec true .u64 xs, .vec true .u64 ys] =
      some (.slice 3 1 0 (sumL xs ys oa la ob lb).length none, [.vec true .u64 xs, .vec true .u64 ys, .gone, .vec false .u64 (sumD xs ys oa la ob lb)]) := by
  rw [su_tree, hx, hy, decide_eq_true ha, decide_eq_true hb, decide_eq_true hM, sumL_len, show (sumD xs ys oa la ob lb).length = max la lb + 1 from sumGo_len _ _ _ _ _, decide_eq_true (Nat.le_refl _), decide_eq_true (show max la lb + 1 ≤ 9223372036854775807 by omega)]
  rfl
def oSumD (args : List SV) (rows : List Row) : Option Eff :=
  match args with
  | [.slice ia 1 oa la none, .slice ib 1 ob lb none] => match rows[ia]?, rows[ib]? with
    | some (.vec _ .u64 xs), some (.vec _ .u64 ys) => some { ok := (digsB xs && digsB ys) && ((decide (oa + la ≤ xs.length) && decide (ob + lb ≤ ys.length)) && decide (max la lb + 1 ≤ 1000)), val := .slice rows.length 1 0 (sumL xs ys oa la ob lb).length none, rd := [ia, ib], nw := [.vec true .u64 (sumL xs ys oa la ob lb)] }
    | _, _ => none
  | _ => none
theorem oSumD_ok {args : List SV} {rows : List Row} {e : Eff} (h : oSumD args rows = some e) (hok : e.ok = true) : FnOk Try.prog 54 args (rows[·]?) rows.length e := by
  unfold oSumD at h
  split at h
  · rename_i ia oa la ib ob lb
    split at h
    · rename_i ra xs rb ys hxr hyr
      cases h
      simp only [Bool.and_eq_true, decide_eq_true_eq] at hok
      obtain ⟨⟨h1, h2⟩, ⟨h3, h4⟩, h5⟩ := hok
      obtain ⟨rows', hc, ht⟩ := runK_ok xDs_ok loopOf_ok Try.func54 (su_val (xs := xs) (ys := ys) h1 h2 h3 h4 h5)
      refine fnOk_fresh (C := fun s => s) (s0 := .slice 3 1 0 (sumL xs ys oa la ob lb).length none) (ds := sumL xs ys oa la ob lb) hc round_id (σ := [ia, ib]) rfl (fun i hi => by simp [SV.idsL, SV.ids] at hi; rcases hi with rfl | rfl <;> simp) (fun i row hr => ?_) (.inr ⟨3, 0, none, false, sumD xs ys oa la ob lb, rfl, by simp, by rw [take_get ht (by omega)]; rfl, fun i hi => ?_⟩)
      · match i with
        | 0 => simp at hr; subst hr; exact ⟨.u64, xs, ra, rfl, hxr⟩
        | 1 => simp at hr; subst hr; exact ⟨.u64, ys, rb, rfl, hyr⟩
        | i + 2 => simp at hr
      · exact sumL_get xs ys oa la ob lb hi
    · cases h
  · cases h
noncomputable def orcSumD : Orc := ⟨54, oSumD, fun _ _ _ h hok => oSumD_ok h hok, bodied Try.func54 (by kernel_rfl)⟩

end Go.Proofs.Ytnfhlfmcgeaagaa
