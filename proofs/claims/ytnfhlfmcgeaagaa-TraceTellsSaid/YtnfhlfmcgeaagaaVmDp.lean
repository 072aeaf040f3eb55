/- The reference's digits: Plus, Add, Sub. -/
import Derived.Test.YtnfhlfmcgeaagaaVmDm
namespace Go.Proofs.Ytnfhlfmcgeaagaa
set_option linter.unusedSimpArgs false
set_option linter.unusedVariables false
open Go.RowKit

/-- A sum of two numbers of digits with signs. -/
def plusS (p q : Bool) (xs ys : List Int) (oa la ob lb : Nat) : Bool × List Int := bif p == q then (p, sumL xs ys oa la ob lb) else bif moreV ys xs ob lb oa la then (q, lessL ys xs ob lb oa la) else (p, lessL xs ys oa la ob lb)
def resP (p q : Bool) (xs ys : List Int) (oa la ob lb : Nat) (b : Bool) (l : List Int) : Res2 := (.agg [.bool b, .slice 5 1 0 l.length none], [.vec true .u64 xs, .vec true .u64 ys, .own [.bool p, .slice 0 1 oa la none], .own [.bool q, .slice 1 1 ob lb none], .own [.bool b, .slice 5 1 0 l.length none], .vec true .u64 l])
set_option maxRecDepth 100000 in
set_option maxHeartbeats 0 in
theorem pl_tree2 (xs ys : List Int) (p q : Bool) (oa la ob lb : Nat) : runK xDp (fun _ _ => none) 300 43 Try.f43 9 [.agg [.bool p, .slice 0 1 oa la none], .agg [.bool q, .slice 1 1 ob lb none]] [.vec true .u64 xs, .vec true .u64 ys] =
  bif p == q then
    bif (digsB xs && digsB ys) && ((decide (oa + la ≤ xs.length) && decide (ob + lb ≤ ys.length)) && decide (max la lb + 1 ≤ 1000)) then some (resP p q xs ys oa la ob lb p (sumL xs ys oa la ob lb)) else none
  else
    bif (decide (ob + lb ≤ ys.length) && decide (oa + la ≤ xs.length)) && decide (lb ≤ 9223372036854775807) then
      bif moreV ys xs ob lb oa la then
        bif (digsB ys && digsB xs) && ((decide (ob + lb ≤ ys.length) && decide (oa + la ≤ xs.length)) && decide (lb ≤ 1000)) then some (resP p q xs ys oa la ob lb q (lessL ys xs ob lb oa la)) else none
      else
        bif (digsB xs && digsB ys) && ((decide (oa + la ≤ xs.length) && decide (ob + lb ≤ ys.length)) && decide (la ≤ 1000)) then some (resP p q xs ys oa la ob lb p (lessL xs ys oa la ob lb)) else none
    else none := by kernel_rfl
theorem pl_val {xs ys : List Int} {p q : Bool} {oa la ob lb : Nat} (hx : digsB xs = true) (hy : digsB ys = true) (ha : oa + la ≤ xs.length) (hb : ob + lb ≤ ys.length) (hM : max la lb + 1 ≤ 1000) :
    runK xDp (fun _ _ => none) 300 43 Try.f43 9 [.agg [.bool p, .slice 0 1 oa la none], .agg [.bool q, .slice 1 1 ob lb none]] [.vec true .u64 xs, .vec true .u64 ys] =
      some (resP p q xs ys oa la ob lb (plusS p q xs ys oa la ob lb).1 (plusS p q xs ys oa la ob lb).2) := by
  rw [pl_tree2, hx, hy, decide_eq_true ha, decide_eq_true hb, decide_eq_true hM, decide_eq_true (show lb ≤ 9223372036854775807 by omega), decide_eq_true (show lb ≤ 1000 by omega), decide_eq_true (show la ≤ 1000 by omega)]
  unfold plusS
  simp only [Bool.and_true, cond_true]
  cases p == q with
  | true => rfl
  | false =>
    simp only [cond_false]
    cases moreV ys xs ob lb oa la with
    | true => rfl
    | false => rfl
def oPlusD (args : List SV) (rows : List Row) : Option Eff :=
  match args with
  | [.agg [.bool p, .slice ia 1 oa la none], .agg [.bool q, .slice ib 1 ob lb none]] => match rows[ia]?, rows[ib]? with
    | some (.vec _ .u64 xs), some (.vec _ .u64 ys) => some { ok := (digsB xs && digsB ys) && ((decide (oa + la ≤ xs.length) && decide (ob + lb ≤ ys.length)) && decide (max la lb + 1 ≤ 1000)), val := .agg [.bool (plusS p q xs ys oa la ob lb).1, .slice rows.length 1 0 (plusS p q xs ys oa la ob lb).2.length none], rd := [ia, ib], nw := [.vec true .u64 (plusS p q xs ys oa la ob lb).2] }
    | _, _ => none
  | _ => none
theorem oPlusD_ok {args : List SV} {rows : List Row} {e : Eff} (h : oPlusD args rows = some e) (hok : e.ok = true) : FnOk Try.prog 43 args (rows[·]?) rows.length e := by
  unfold oPlusD at h
  split at h
  · rename_i p ia oa la q ib ob lb
    split at h
    · rename_i ra xs rb ys hxr hyr
      cases h
      simp only [Bool.and_eq_true, decide_eq_true_eq] at hok
      obtain ⟨⟨h1, h2⟩, ⟨h3, h4⟩, h5⟩ := hok
      obtain ⟨rows', hc, ht⟩ := runK_ok xDp_ok lok_none Try.func43 (pl_val (p := p) (q := q) (xs := xs) (ys := ys) h1 h2 h3 h4 h5)
      refine fnOk_fresh (C := fun s => .agg [.bool (plusS p q xs ys oa la ob lb).1, s]) (s0 := .slice 5 1 0 (plusS p q xs ys oa la ob lb).2.length none) (ds := (plusS p q xs ys oa la ob lb).2) hc (round_big _) (σ := [ia, ib]) rfl (fun i hi => by simp [SV.idsL, SV.ids] at hi; rcases hi with rfl | rfl <;> simp) (fun i row hr => ?_) (.inr ⟨5, 0, none, true, (plusS p q xs ys oa la ob lb).2, rfl, by simp, by rw [take_get ht (by omega)]; rfl, fun i hi => by rw [Nat.zero_add]⟩)
      match i with
      | 0 => simp at hr; subst hr; exact ⟨.u64, xs, ra, rfl, hxr⟩
      | 1 => simp at hr; subst hr; exact ⟨.u64, ys, rb, rfl, hyr⟩
      | i + 2 => simp at hr
    · cases h
  · cases h
noncomputable def orcPlusD : Orc := ⟨43, oPlusD, fun _ _ _ h hok => oPlusD_ok h hok, bodied Try.func43 (by kernel_rfl)⟩

noncomputable def xDa : Ctx := ctxOf [] [orcOf, orcPlusD, orcIntD]
theorem xDa_ok : COk Try.prog xDa := ctxOf_ok (by kernel_rfl)

end Go.Proofs.Ytnfhlfmcgeaagaa
