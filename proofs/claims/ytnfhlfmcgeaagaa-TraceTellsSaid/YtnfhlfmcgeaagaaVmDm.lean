/- The reference's digits: more. -/
import Derived.Test.YtnfhlfmcgeaagaaVmDl
namespace Go.Proofs.Ytnfhlfmcgeaagaa
set_option linter.unusedSimpArgs false
set_option linter.unusedVariables false
open Go.RowKit

noncomputable def rdMo : List SV → List Row → Option Res2 := roundS xDg (fun _ _ => none) 100 55 [0, 1, 0, 1, 1] (bodyAt Try.f55 [0, 1, 0, 1, 1]) 41 2 [0, 1, 4, 5]
def valMo (oa la ob lb : Nat) (b : Bool) (i : Int) : List SV := [.slice 0 1 oa la none, .slice 1 1 ob lb none, .bool b, .int .i64 i]
def rowMo (xs ys : List Int) : List Row := [.vec true .u64 xs, .vec true .u64 ys]

set_option maxRecDepth 100000 in
set_option maxHeartbeats 0 in
theorem mo_round (xs ys : List Int) (oa la ob lb : Nat) (i : Int) : rdMo (valMo oa la ob lb false i) (rowMo xs ys) =
  bif decide (i ≥ 0) then
  bif decide (0 ≤ i) && decide (i < (↑la : Int)) then
  bif decide (oa + i.toNat < xs.length) then
  bif decide (0 ≤ i) && decide (i < (↑lb : Int)) then
  bif decide (ob + i.toNat < ys.length) then
  bif xs.getD (oa + i.toNat) Knd.u64.dflt != ys.getD (ob + i.toNat) Knd.u64.dflt then
  bif decide (0 ≤ i) && decide (i < (↑la : Int)) then
  bif decide (oa + i.toNat < xs.length) then
  bif decide (0 ≤ i) && decide (i < (↑lb : Int)) then
  bif decide (ob + i.toNat < ys.length) then
  some
  (SV.tuple
  [SV.nils,
  SV.tuple
  [SV.slice 0 1 oa la none, SV.slice 1 1 ob lb none, SV.bool (decide (xs.getD (oa + i.toNat) Knd.u64.dflt > ys.getD (ob + i.toNat) Knd.u64.dflt)), SV.int IntKind.i64 i]],
  [Row.vec true Knd.u64 xs, Row.vec true Knd.u64 ys])
  else none
  else none
  else none
  else none
  else
  some
  (SV.tuple [SV.nilp, SV.tuple [SV.slice 0 1 oa la none, SV.slice 1 1 ob lb none, SV.bool false, SV.int IntKind.i64 (IntKind.i64.wrap (i - 1))]],
  [Row.vec true Knd.u64 xs, Row.vec true Knd.u64 ys])
  else none
  else none
  else none
  else none
  else some (SV.tuple [SV.ptr 0 0 0 0, SV.tuple [SV.slice 0 1 oa la none, SV.slice 1 1 ob lb none, SV.bool false, SV.int IntKind.i64 i]], [Row.vec true Knd.u64 xs, Row.vec true Knd.u64 ys]) := by kernel_rfl

/-- Which of two rows of digits is greater, from the last digit on: whether it was told, what, and where. -/
def moreGo (xs ys : List Int) (oa ob : Nat) : Nat → Bool × Bool × Int
  | 0 => (false, false, -1)
  | k + 1 => bif xs.getD (oa + k) Knd.u64.dflt != ys.getD (ob + k) Knd.u64.dflt then (true, decide (xs.getD (oa + k) Knd.u64.dflt > ys.getD (ob + k) Knd.u64.dflt), k) else moreGo xs ys oa ob k
theorem mo_loop {xs ys : List Int} {oa la ob lb : Nat} (ha : oa + la ≤ xs.length) (hb : ob + lb ≤ ys.length) (h64 : la ≤ 9223372036854775807) (he : la = lb) : ∀ (k : Nat), k ≤ la →
    ((moreGo xs ys oa ob k).1 = true → LoopTo rdMo (valMo oa la ob lb false ((k : Int) - 1)) (rowMo xs ys) .ret (valMo oa la ob lb (moreGo xs ys oa ob k).2.1 (moreGo xs ys oa ob k).2.2) (rowMo xs ys)) ∧
    ((moreGo xs ys oa ob k).1 = false → LoopTo rdMo (valMo oa la ob lb false ((k : Int) - 1)) (rowMo xs ys) (.exit 0) (valMo oa la ob lb false (-1)) (rowMo xs ys))
  | 0, hk => by
    refine ⟨fun h => by simp [moreGo] at h, fun _ => .done ?_ (by simp)⟩
    rw [mo_round, decide_eq_false (by omega), cond_false]
    rfl
  | k + 1, hk => by
    have hro := mo_round xs ys oa la ob lb (((k + 1 : Nat) : Int) - 1)
    have e1 : (((k + 1 : Nat) : Int) - 1) = (k : Int) := by omega
    rw [e1] at hro ⊢
    have e2 : ((k : Int)).toNat = k := by omega
    rw [decide_eq_true (show (k : Int) ≥ 0 by omega), cond_true, e2, decide_eq_true (show (k : Int) < (la : Int) by omega), decide_eq_true (show (k : Int) < (lb : Int) by omega), decide_eq_true (show oa + k < xs.length by omega), decide_eq_true (show ob + k < ys.length by omega), IntWalk.i64_in ((k : Int) - 1) (by omega)] at hro
    simp only [Bool.and_true, cond_true] at hro
    unfold moreGo
    cases hc : xs.getD (oa + k) Knd.u64.dflt != ys.getD (ob + k) Knd.u64.dflt with
    | true =>
      rw [hc, cond_true] at hro
      simp only [cond_true]
      exact ⟨fun _ => .done hro (by simp), fun h => by simp at h⟩
    | false =>
      rw [hc, cond_false] at hro
      simp only [cond_false]
      have ih := mo_loop ha hb h64 he k (by omega)
      exact ⟨fun h => .more hro (ih.1 h), fun h => .more hro (ih.2 h)⟩
set_option maxHeartbeats 0 in
noncomputable def outMo (v : List SV) (R : List Row) (k : Ex → List SV → List Row → Option Res2) : Option Res2 := match v, R with
  | [.slice 0 1 oa la none, .slice 1 1 ob lb none, .bool false, .int .i64 i], [.vec true .u64 xs, .vec true .u64 ys] =>
      bif decide (i = (la : Int) - 1) && ((decide (oa + la ≤ xs.length) && decide (ob + lb ≤ ys.length)) && (decide (la ≤ 9223372036854775807) && decide (la = lb))) then
        (bif (moreGo xs ys oa ob la).1 then k .ret (valMo oa la ob lb (moreGo xs ys oa ob la).2.1 (moreGo xs ys oa ob la).2.2) (rowMo xs ys)
        else k (.exit 0) (valMo oa la ob lb false (-1)) (rowMo xs ys)) else none
  | _, _ => none
set_option maxHeartbeats 0 in
theorem lpoMo_ok : LpOk 55 [0, 1, 0, 1, 1] (loopF 41 [0, 1, 4, 5] outMo) := by
  intro b hat s K r h
  refine loopF_ok (fuel := 100) xDg_ok lok_none hat (fun v R k r hr => ?_) h
  have hbody := at_body Try.func55 hat
  subst hbody
  unfold outMo at hr
  split at hr
  · rename_i oa la ob lb i xs ys
    obtain ⟨hb, hr2⟩ := cond_some hr
    simp only [Bool.and_eq_true, decide_eq_true_eq] at hb
    obtain ⟨h1, ⟨h2, h3⟩, h4, h5⟩ := hb
    subst h1
    have hl := mo_loop h2 h3 h4 h5 la (Nat.le_refl _)
    cases hq : (moreGo xs ys oa ob la).1 with
    | true =>
      rw [hq, cond_true] at hr2
      exact ⟨_, _, _, hr2, hl.1 hq⟩
    | false =>
      rw [hq, cond_false] at hr2
      exact ⟨_, _, _, hr2, hl.2 hq⟩
  · cases hr
noncomputable def lpoMo : Lpo := ⟨_, _, _, lpoMo_ok⟩

set_option maxRecDepth 100000 in
set_option maxHeartbeats 0 in
theorem mo_tree (xs ys : List Int) (oa la ob lb : Nat) : runK xDg (loopOf [lpoMo]) 300 55 Try.f55 0 [.slice 0 1 oa la none, .slice 1 1 ob lb none] [.vec true .u64 xs, .vec true .u64 ys] =
  bif (↑la : Int) != (↑lb : Int) then some (SV.bool (decide ((↑la : Int) > (↑lb : Int))), [])
  else
  bif decide (IntKind.i64.wrap ((↑la : Int) - 1) = (↑la : Int) - 1) && (decide (oa + la ≤ xs.length) && decide (ob + lb ≤ ys.length) && (decide (la ≤ 9223372036854775807) && decide (la = lb))) then
  bif (moreGo xs ys oa ob la).fst then some (SV.bool (moreGo xs ys oa ob la).snd.fst, []) else some (SV.bool false, [])
  else none := by kernel_rfl

def moreV (xs ys : List Int) (oa la ob lb : Nat) : Bool := bif (la : Int) != (lb : Int) then decide ((la : Int) > (lb : Int)) else bif (moreGo xs ys oa ob la).1 then (moreGo xs ys oa ob la).2.1 else false
theorem mo_val {xs ys : List Int} {oa la ob lb : Nat} (ha : oa + la ≤ xs.length) (hb : ob + lb ≤ ys.length) (h64 : la ≤ 9223372036854775807) :
    runK xDg (loopOf [lpoMo]) 300 55 Try.f55 0 [.slice 0 1 oa la none, .slice 1 1 ob lb none] [.vec true .u64 xs, .vec true .u64 ys] = some (.bool (moreV xs ys oa la ob lb), []) := by
  rw [mo_tree]
  unfold moreV
  cases hc : (la : Int) != (lb : Int) with
  | true => rfl
  | false =>
    have he : (la : Int) = (lb : Int) := by simpa using hc
    rw [IntWalk.i64_in ((la : Int) - 1) (by omega), decide_eq_true (show (la : Int) - 1 = (la : Int) - 1 from rfl), decide_eq_true ha, decide_eq_true hb, decide_eq_true h64, decide_eq_true (show la = lb by omega)]
    simp only [Bool.and_true, cond_true, cond_false]
    cases (moreGo xs ys oa ob la).1 <;> rfl
def oMoreD (args : List SV) (rows : List Row) : Option Eff :=
  match args with
  | [.slice ia 1 oa la none, .slice ib 1 ob lb none] => match rows[ia]?, rows[ib]? with
    | some (.vec _ .u64 xs), some (.vec _ .u64 ys) => some { ok := (decide (oa + la ≤ xs.length) && decide (ob + lb ≤ ys.length)) && decide (la ≤ 9223372036854775807), val := .bool (moreV xs ys oa la ob lb), rd := [ia, ib] }
    | _, _ => none
  | _ => none
theorem oMoreD_ok {args : List SV} {rows : List Row} {n : Nat} {e : Eff} (h : oMoreD args rows = some e) (hok : e.ok = true) : FnOk Try.prog 55 args (rows[·]?) n e := by
  unfold oMoreD at h
  split at h
  · rename_i ia oa la ib ob lb
    split at h
    · rename_i ra xs rb ys hxr hyr
      cases h
      simp only [Bool.and_eq_true, decide_eq_true_eq] at hok
      obtain ⟨⟨h3, h4⟩, h5⟩ := hok
      obtain ⟨rows', hc, ht⟩ := runK_ok xDg_ok loopOf_ok Try.func55 (mo_val (xs := xs) (ys := ys) h3 h4 h5)
      refine fnOk_reads hc rfl (σ := [ia, ib]) rfl (fun i hi => by simp [SV.idsL, SV.ids] at hi; rcases hi with rfl | rfl <;> simp) (fun i row hr => ?_)
      match i with
      | 0 => simp at hr; subst hr; exact ⟨.u64, xs, ra, rfl, hxr⟩
      | 1 => simp at hr; subst hr; exact ⟨.u64, ys, rb, rfl, hyr⟩
      | i + 2 => simp at hr
    · cases h
  · cases h
noncomputable def orcMoreD : Orc := ⟨55, oMoreD, fun _ _ _ h hok => oMoreD_ok h hok, bodied Try.func55 (by kernel_rfl)⟩

noncomputable def xDp : Ctx := ctxOf [] [orcSumD, orcLessD, orcMoreD]
theorem xDp_ok : COk Try.prog xDp := ctxOf_ok (by kernel_rfl)

set_option maxRecDepth 100000 in
set_option maxHeartbeats 0 in
theorem pl_tree (xs ys : List Int) (p q : Bool) (oa la ob lb : Nat) : runK xDp (fun _ _ => none) 300 43 Try.f43 9 [.agg [.bool p, .slice 0 1 oa la none], .agg [.bool q, .slice 1 1 ob lb none]] [.vec true .u64 xs, .vec true .u64 ys] =
  bif p == q then
  bif digsB xs && digsB ys && (decide (oa + la ≤ xs.length) && decide (ob + lb ≤ ys.length) && decide (max la lb + 1 ≤ 1000)) then
  some
  (SV.agg
  [SV.bool p,
  SV.slice
  [Row.vec true Knd.u64 xs, Row.vec true Knd.u64 ys, Row.own [SV.bool p, SV.slice 0 1 oa la none], Row.own [SV.bool q, SV.slice 1 1 ob lb none], Row.own [SV.bool false, SV.nils]].length 1
  0 (sumL xs ys oa la ob lb).length none],
  [Row.vec true Knd.u64 xs, Row.vec true Knd.u64 ys, Row.own [SV.bool p, SV.slice 0 1 oa la none], Row.own [SV.bool q, SV.slice 1 1 ob lb none],
  Row.own
  [SV.bool p,
  SV.slice
  [Row.vec true Knd.u64 xs, Row.vec true Knd.u64 ys, Row.own [SV.bool p, SV.slice 0 1 oa la none], Row.own [SV.bool q, SV.slice 1 1 ob lb none], Row.own [SV.bool false, SV.nils]].length
  1 0 (sumL xs ys oa la ob lb).length none],
  Row.vec true Knd.u64 ((Nat.brecOn.go (motive := fun x => List Int → List Int) (cutN (sumD xs ys oa la ob lb) (max la lb + 1)) List.take._f).1 (sumD xs ys oa la ob lb))])
  else none
  else
  bif decide (ob + lb ≤ ys.length) && decide (oa + la ≤ xs.length) && decide (lb ≤ 9223372036854775807) then
  bif moreV ys xs ob lb oa la then
  bif digsB ys && digsB xs && (decide (ob + lb ≤ ys.length) && decide (oa + la ≤ xs.length) && decide (lb ≤ 1000)) then
  some
  (SV.agg
  [SV.bool q,
  SV.slice
  [Row.vec true Knd.u64 xs, Row.vec true Knd.u64 ys, Row.own [SV.bool p, SV.slice 0 1 oa la none], Row.own [SV.bool q, SV.slice 1 1 ob lb none],
  Row.own [SV.bool false, SV.nils]].length
  1 0 (lessL ys xs ob lb oa la).length none],
  [Row.vec true Knd.u64 xs, Row.vec true Knd.u64 ys, Row.own [SV.bool p, SV.slice 0 1 oa la none], Row.own [SV.bool q, SV.slice 1 1 ob lb none],
  Row.own
  [SV.bool q,
  SV.slice
  [Row.vec true Knd.u64 xs, Row.vec true Knd.u64 ys, Row.own [SV.bool p, SV.slice 0 1 oa la none], Row.own [SV.bool q, SV.slice 1 1 ob lb none],
  Row.own [SV.bool false, SV.nils]].length
  1 0 (lessL ys xs ob lb oa la).length none],
  Row.vec true Knd.u64 ((Nat.brecOn.go (motive := fun x => List Int → List Int) (cutN (lessD ys xs ob lb oa la) lb) List.take._f).1 (lessD ys xs ob lb oa la))])
  else none
  else
  bif digsB xs && digsB ys && (decide (oa + la ≤ xs.length) && decide (ob + lb ≤ ys.length) && decide (la ≤ 1000)) then
  some
  (SV.agg
  [SV.bool p,
  SV.slice
  [Row.vec true Knd.u64 xs, Row.vec true Knd.u64 ys, Row.own [SV.bool p, SV.slice 0 1 oa la none], Row.own [SV.bool q, SV.slice 1 1 ob lb none],
  Row.own [SV.bool false, SV.nils]].length
  1 0 (lessL xs ys oa la ob lb).length none],
  [Row.vec true Knd.u64 xs, Row.vec true Knd.u64 ys, Row.own [SV.bool p, SV.slice 0 1 oa la none], Row.own [SV.bool q, SV.slice 1 1 ob lb none],
  Row.own
  [SV.bool p,
  SV.slice
  [Row.vec true Knd.u64 xs, Row.vec true Knd.u64 ys, Row.own [SV.bool p, SV.slice 0 1 oa la none], Row.own [SV.bool q, SV.slice 1 1 ob lb none],
  Row.own [SV.bool false, SV.nils]].length
  1 0 (lessL xs ys oa la ob lb).length none],
  Row.vec true Knd.u64 ((Nat.brecOn.go (motive := fun x => List Int → List Int) (cutN (lessD xs ys oa la ob lb) la) List.take._f).1 (lessD xs ys oa la ob lb))])
  else none
  else none := by kernel_rfl

end Go.Proofs.Ytnfhlfmcgeaagaa
