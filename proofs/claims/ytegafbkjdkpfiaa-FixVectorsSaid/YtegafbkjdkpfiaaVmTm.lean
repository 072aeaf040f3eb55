/- The reference's digits: cut of a row with its own room; times, walked. -/
import Derived.Test.YtegafbkjdkpfiaaVmTv
import Derived.Test.YtegafbkjdkpfiaaVmDg
namespace Go.Proofs.Ytegafbkjdkpfiaa
set_option linter.unusedSimpArgs false
set_option linter.unusedVariables false
open Go.RowKit

/-! cut, of a row whose room is its length. -/
noncomputable def rdCv : List SV → List Row → Option Res2 := roundS xDg (fun _ _ => none) 100 69 [0, 0, 1, 1] (bodyAt Try.f69 [0, 0, 1, 1]) 21 1 [0, 2, 3]
def valCv (la : Nat) (n : Int) : List SV := [.slice 0 1 0 la (some la), .nils, .int .i64 n]

set_option maxRecDepth 100000 in
set_option maxHeartbeats 0 in
theorem cv_round (xs : List Int) (la : Nat) (n : Int) : rdCv (valCv la n) (rowCu xs) =
  bif
  (decide (0 ≤ IntKind.i64.wrap (n - 1)) && decide (IntKind.i64.wrap (n - 1) < (↑la : Int)) && (decide (0 + (IntKind.i64.wrap (n - 1)).toNat < xs.length) && true) && true ||
  decide (n > 0) != true) &&
  (true || decide (n > 0) == true) &&
  true then
  bif bif decide (n > 0) == true then xs.getD (0 + (IntKind.i64.wrap (n - 1)).toNat) Knd.u64.dflt == 0 else false then
  some (SV.tuple [SV.nilp, SV.tuple [SV.slice 0 1 0 la (some la), SV.nils, SV.int IntKind.i64 (IntKind.i64.wrap (n - 1))]], [Row.vec false Knd.u64 xs])
  else some (SV.tuple [SV.ptr 0 0 0 0, SV.tuple [SV.slice 0 1 0 la (some la), SV.nils, SV.int IntKind.i64 n]], [Row.vec false Knd.u64 xs])
  else none := by kernel_rfl

theorem cv_loop {xs : List Int} {la : Nat} (hl : la ≤ xs.length) (h64 : la ≤ 9223372036854775807) : ∀ (k : Nat), k ≤ la → LoopTo rdCv (valCv la k) (rowCu xs) (.exit 0) (valCv la (cutN xs k : Nat)) (rowCu xs)
  | 0, hk => by
    refine .done ?_ (by simp)
    rw [cv_round]
    rfl
  | k + 1, hk => by
    have hro := cv_round xs la ((k + 1 : Nat) : Int)
    have e1 : (((k + 1 : Nat) : Int) - 1) = (k : Int) := by omega
    have e2 : ((k : Int)).toNat = k := by omega
    rw [e1, IntWalk.i64_in (k : Int) (by omega), e2, decide_eq_true (show (0 : Int) ≤ (k : Int) by omega), decide_eq_true (show (k : Int) < (la : Int) by omega), decide_eq_true (show 0 + k < xs.length by omega), decide_eq_true (show ((k + 1 : Nat) : Int) > 0 by omega)] at hro
    simp only [Bool.and_true, Bool.true_or, cond_true, beq_self_eq_true] at hro
    unfold cutN
    cases hc : xs.getD (0 + k) Knd.u64.dflt == 0 with
    | true =>
      rw [hc, cond_true] at hro
      simp only [cond_true]
      exact .more hro (cv_loop hl h64 k (by omega))
    | false =>
      rw [hc, cond_false] at hro
      simp only [cond_false]
      exact .done hro (by simp)
set_option maxHeartbeats 0 in
noncomputable def outCv (v : List SV) (R : List Row) (k : Ex → List SV → List Row → Option Res2) : Option Res2 := match v, R with
  | [.slice 0 1 0 la (some c), .nils, .int .i64 n], [.vec false .u64 xs] =>
      bif (decide (c = la) && decide (n = (la : Int))) && (decide (la ≤ xs.length) && decide (la ≤ 9223372036854775807)) then k (.exit 0) (valCv la (cutN xs la : Nat)) (rowCu xs) else none
  | _, _ => none
set_option maxHeartbeats 0 in
theorem lpoCv_ok : LpOk 69 [0, 0, 1, 1] (loopF 21 [0, 2, 3] outCv) := by
  intro b hat s K r h
  refine loopF_ok (fuel := 100) xDg_ok lok_none hat (fun v R k r hr => ?_) h
  have hbody := at_body Try.func69 hat
  subst hbody
  unfold outCv at hr
  split at hr
  · rename_i la c n xs
    obtain ⟨hb, hr2⟩ := cond_some hr
    simp only [Bool.and_eq_true, decide_eq_true_eq] at hb
    obtain ⟨⟨rfl, rfl⟩, h3, h4⟩ := hb
    exact ⟨_, _, _, hr2, cv_loop h3 h4 c (Nat.le_refl _)⟩
  · cases hr
noncomputable def lpoCv : Lpo := ⟨_, _, _, lpoCv_ok⟩

set_option maxRecDepth 100000 in
set_option maxHeartbeats 0 in
theorem cv_tree (xs : List Int) (la : Nat) : runK xDg (loopOf [lpoCv]) 300 69 Try.f69 9 [.slice 0 1 0 la (some la)] [.vec false .u64 xs] =
  bif decide (la = la) && decide ((↑la : Int) = (↑la : Int)) && (decide (la ≤ xs.length) && decide (la ≤ 9223372036854775807)) then
  bif decide (0 ≤ (↑(cutN xs la) : Int)) && decide ((↑(cutN xs la) : Int) ≤ (↑(capOr (some la) la) : Int)) then some (SV.slice 0 1 0 (↑(cutN xs la) : Int).toNat (some la), [Row.vec false Knd.u64 xs])
  else none
  else none := by kernel_rfl

/-! times: rounds. -/
noncomputable def xTm : Ctx := ctxOf [] []
theorem xTm_ok : COk Try.prog xTm := ctxOf_ok (by kernel_rfl)
def valTi (oa la ob lb n : Nat) (i c k : Int) : List SV := [.slice 0 1 oa la none, .slice 1 1 ob lb none, .nils, .slice 2 1 0 n (some n), .int .i64 i, .int .u64 c, .int .i64 k]
def valTo (oa la ob lb n : Nat) (i : Int) : List SV := [.slice 0 1 oa la none, .slice 1 1 ob lb none, .nils, .slice 2 1 0 n (some n), .int .i64 i]
def rowTm (xs ys O : List Int) : List Row := [.vec true .u64 xs, .vec true .u64 ys, .vec false .u64 O]
noncomputable def rdTi : List SV → List Row → Option Res2 := roundS xTm (fun _ _ => none) 100 68 [0, 1, 0, 1, 0, 0, 1, 0, 0, 1, 0, 1, 1] (bodyAt Try.f68 [0, 1, 0, 1, 0, 0, 1, 0, 0, 1, 0, 1, 1]) 65 3 [0, 1, 4, 5, 6, 7, 8]

/-- One digit of a product, as the code reckons it. -/
def tiN (xs ys O : List Int) (oa ob : Nat) (i c k : Int) : Int := IntKind.u64.wrap (IntKind.u64.wrap (O.getD (0 + (IntKind.i64.wrap (i + k)).toNat) Knd.u64.dflt + IntKind.u64.wrap (xs.getD (oa + i.toNat) Knd.u64.dflt * ys.getD (ob + k.toNat) Knd.u64.dflt)) + c)
set_option maxRecDepth 100000 in
set_option maxHeartbeats 0 in
theorem ti_round (xs ys O : List Int) (oa la ob lb n : Nat) (i c k : Int) : rdTi (valTi oa la ob lb n i c k) (rowTm xs ys O) =
  bif decide (k < (lb : Int)) then
  bif decide (0 ≤ IntKind.i64.wrap (i + k)) && decide (IntKind.i64.wrap (i + k) < (n : Int)) then
  bif decide (0 + (IntKind.i64.wrap (i + k)).toNat < O.length) then
  bif decide (0 ≤ i) && decide (i < (la : Int)) then
  bif decide (oa + i.toNat < xs.length) then
  bif decide (0 ≤ k) && decide (k < (lb : Int)) then
  bif decide (ob + k.toNat < ys.length) then
  bif decide (0 ≤ IntKind.i64.wrap (i + k)) && decide (IntKind.i64.wrap (i + k) < (n : Int)) then
  bif decide (0 + (IntKind.i64.wrap (i + k)).toNat < O.length) then
  some (.tuple [.nilp, .tuple (valTi oa la ob lb n i (IntKind.u64.wrap ((tiN xs ys O oa ob i c k).tdiv 65536)) (IntKind.i64.wrap (k + 1)))], rowTm xs ys (O.set (0 + (IntKind.i64.wrap (i + k)).toNat) ((tiN xs ys O oa ob i c k).tmod 65536)))
  else none
  else none
  else none
  else none
  else none
  else none
  else none
  else none
  else some (.tuple [.ptr 2 0 0 0, .tuple (valTi oa la ob lb n i c k)], rowTm xs ys O) := by kernel_rfl

section
variable {xs ys : List Int} {oa la ob lb n : Nat}
theorem ti_step (hx : Digs xs) (hy : Digs ys) {O : List Int} (hO : Digs O) {i k : Nat} {c : Int} (hc : 0 ≤ c ∧ c < 65536) (hi : i + k ≤ 100000) :
    (tiN xs ys O oa ob i c k).tmod 65536 = (O.getD (i + k) 0 + dig xs oa i * dig ys ob k + c) % 65536 ∧ IntKind.u64.wrap ((tiN xs ys O oa ob i c k).tdiv 65536) = (O.getD (i + k) 0 + dig xs oa i * dig ys ob k + c) / 65536 ∧ (IntKind.i64.wrap ((i : Int) + (k : Int))).toNat = i + k ∧ IntKind.i64.wrap ((i : Int) + (k : Int)) = ((i + k : Nat) : Int) := by
  have ho := getD_in hO (i + k)
  have ha := dig_in hx oa i
  have hb := dig_in hy ob k
  obtain ⟨t1, t2, t3, t4⟩ := tm_step ho ha hb hc
  have hp := dig_prod ha hb
  have e1 : IntKind.i64.wrap ((i : Int) + (k : Int)) = ((i + k : Nat) : Int) := by rw [IntWalk.i64_in _ (by omega)]; omega
  have e : tiN xs ys O oa ob i c k = O.getD (i + k) 0 + dig xs oa i * dig ys ob k + c := by
    unfold tiN
    rw [e1, show (((i + k : Nat) : Int)).toNat = i + k by omega, show ((i : Int)).toNat = i by omega, show ((k : Int)).toNat = k by omega, Nat.zero_add]
    rw [show O.getD (i + k) Knd.u64.dflt = O.getD (i + k) (0 : Int) from rfl, show xs.getD (oa + i) Knd.u64.dflt = dig xs oa i from rfl, show ys.getD (ob + k) Knd.u64.dflt = dig ys ob k from rfl]
    rw [u64_in (a := dig xs oa i * dig ys ob k) (by omega) (by omega), u64_in (a := O.getD (i + k) (0 : Int) + dig xs oa i * dig ys ob k) (by omega) (by omega), u64_in (by omega) (by omega)]
  rw [e, Int.tmod_eq_emod_of_nonneg t1, Int.tdiv_eq_ediv_of_nonneg t1, u64_in t4.1 (by omega), e1]
  exact ⟨rfl, rfl, by omega, rfl⟩
theorem ti_loop (hx : Digs xs) (hy : Digs ys) (ha : oa + la ≤ xs.length) (hb : ob + lb ≤ ys.length) (hn : n = la + lb + 1) (hn2 : n ≤ 2000) {i : Nat} (hi : i < la) : ∀ (m k : Nat) (O : List Int) (c : Int), Digs O → O.length = n → 0 ≤ c ∧ c < 65536 → k + m = lb →
    LoopTo rdTi (valTi oa la ob lb n i c k) (rowTm xs ys O) (.exit 2) (valTi oa la ob lb n i (tmIn (dig xs oa i) (dig ys ob) i m k O c).2 lb) (rowTm xs ys (tmIn (dig xs oa i) (dig ys ob) i m k O c).1)
  | 0, k, O, c, h1, h2, h3, h4 => by
    obtain rfl : k = lb := by omega
    refine .done ?_ (by simp)
    rw [ti_round, decide_eq_false (by omega), cond_false]
    rfl
  | m + 1, k, O, c, h1, h2, h3, h4 => by
    obtain ⟨e1, e2, e3, e4⟩ := ti_step (oa := oa) (ob := ob) (i := i) (k := k) hx hy h1 h3 (by omega)
    obtain ⟨_, _, t3, t4⟩ := tm_step (getD_in h1 (i + k)) (dig_in hx oa i) (dig_in hy ob k) h3
    have hro := ti_round xs ys O oa la ob lb n i c k
    rw [e1, e2, e3, e4, decide_eq_true (show (k : Int) < (lb : Int) by omega), decide_eq_true (show (0 : Int) ≤ ((i + k : Nat) : Int) by omega), decide_eq_true (show ((i + k : Nat) : Int) < (n : Int) by omega), decide_eq_true (show 0 + (i + k) < O.length by omega), decide_eq_true (show (0 : Int) ≤ (i : Int) by omega), decide_eq_true (show (i : Int) < (la : Int) by omega), show ((i : Int)).toNat = i by omega, decide_eq_true (show oa + i < xs.length by omega), decide_eq_true (show (0 : Int) ≤ (k : Int) by omega), show ((k : Int)).toNat = k by omega, decide_eq_true (show ob + k < ys.length by omega), IntWalk.i64_in ((k : Int) + 1) (by omega), Nat.zero_add] at hro
    simp only [Bool.and_self, cond_true] at hro
    exact .more hro (ti_loop hx hy ha hb hn hn2 hi m (k + 1) _ _ (set_digs h1 _ t3) (by rw [List.length_set]; exact h2) t4 (by omega))
end
def tmOk (xs ys O : List Int) (oa la ob lb n : Nat) : Bool := (digsB xs && (digsB ys && digsB O)) && ((decide (oa + la ≤ xs.length) && decide (ob + lb ≤ ys.length)) && (decide (n = la + lb + 1) && (decide (n ≤ 2000) && decide (O.length = n))))
theorem tmOk_iff {xs ys O : List Int} {oa la ob lb n : Nat} : tmOk xs ys O oa la ob lb n = true ↔ (Digs xs ∧ Digs ys ∧ Digs O) ∧ (oa + la ≤ xs.length ∧ ob + lb ≤ ys.length) ∧ n = la + lb + 1 ∧ n ≤ 2000 ∧ O.length = n := by
  unfold tmOk
  simp only [Bool.and_eq_true, decide_eq_true_eq, digsB_iff]
set_option maxHeartbeats 0 in
noncomputable def outTi (v : List SV) (R : List Row) (k : Ex → List SV → List Row → Option Res2) : Option Res2 := match v, R with
  | [.slice 0 1 oa la none, .slice 1 1 ob lb none, .nils, .slice 2 1 0 n (some n'), .int .i64 i, .int .u64 c, .int .i64 j], [.vec true .u64 xs, .vec true .u64 ys, .vec false .u64 O] =>
      bif ((decide (c = 0) && decide (j = 0)) && (decide (n' = n) && (decide (0 ≤ i) && decide (i < (la : Int))))) && tmOk xs ys O oa la ob lb n then
        k (.exit 2) (valTi oa la ob lb n i (tmIn (dig xs oa i.toNat) (dig ys ob) i.toNat lb 0 O 0).2 lb) (rowTm xs ys (tmIn (dig xs oa i.toNat) (dig ys ob) i.toNat lb 0 O 0).1) else none
  | _, _ => none
set_option maxHeartbeats 0 in
theorem lpoTi_ok : LpOk 68 [0, 1, 0, 1, 0, 0, 1, 0, 0, 1, 0, 1, 1] (loopF 65 [0, 1, 4, 5, 6, 7, 8] outTi) := by
  intro b hat s K r h
  refine loopF_ok (fuel := 100) xTm_ok lok_none hat (fun v R k r hr => ?_) h
  have hbody := at_body Try.func68 hat
  subst hbody
  unfold outTi at hr
  split at hr
  · rename_i oa la ob lb n n' i c j xs ys O
    obtain ⟨hb, hr2⟩ := cond_some hr
    simp only [Bool.and_eq_true, decide_eq_true_eq] at hb
    obtain ⟨⟨⟨rfl, rfl⟩, rfl, h3, h4⟩, h5⟩ := hb
    obtain ⟨⟨k1, k2, k3⟩, ⟨k4, k5⟩, k6, k7, k8⟩ := tmOk_iff.1 h5
    obtain ⟨i, rfl⟩ : ∃ m : Nat, i = m := ⟨i.toNat, by omega⟩
    rw [show ((i : Int)).toNat = i by omega] at hr2
    exact ⟨_, _, _, hr2, ti_loop k1 k2 k4 k5 k6 k7 (by omega) lb 0 O 0 k3 k8 (by omega) (by omega)⟩
  · cases hr
noncomputable def lpoTi : Lpo := ⟨_, _, _, lpoTi_ok⟩

noncomputable def rdTo : List SV → List Row → Option Res2 := roundS xTm (loopOf [lpoTi]) 100 68 [0, 1, 0, 1, 1] (bodyAt Try.f68 [0, 1, 0, 1, 1]) 65 3 [0, 1, 4, 5, 6]

set_option maxRecDepth 100000 in
set_option maxHeartbeats 0 in
theorem to_round (xs ys O : List Int) (oa la ob lb n : Nat) (i : Int) : rdTo (valTo oa la ob lb n i) (rowTm xs ys O) =
  bif decide (i < (la : Int)) then
  bif (decide (n = n) && (decide (0 ≤ i) && decide (i < (la : Int)))) && tmOk xs ys O oa la ob lb n then
  bif decide (0 ≤ IntKind.i64.wrap (i + (lb : Int))) && decide (IntKind.i64.wrap (i + (lb : Int)) < (n : Int)) then
  bif decide (0 + (IntKind.i64.wrap (i + (lb : Int))).toNat < (tmIn (dig xs oa i.toNat) (dig ys ob) i.toNat lb 0 O 0).1.length) then
  some (.tuple [.nilp, .tuple (valTo oa la ob lb n (IntKind.i64.wrap (i + 1)))], rowTm xs ys ((tmIn (dig xs oa i.toNat) (dig ys ob) i.toNat lb 0 O 0).1.set (0 + (IntKind.i64.wrap (i + (lb : Int))).toNat) (tmIn (dig xs oa i.toNat) (dig ys ob) i.toNat lb 0 O 0).2))
  else none
  else none
  else none
  else some (.tuple [.ptr 0 0 0 0, .tuple (valTo oa la ob lb n i)], rowTm xs ys O) := by kernel_rfl
section
variable {xs ys : List Int} {oa la ob lb n : Nat}
theorem to_loop (hx : Digs xs) (hy : Digs ys) (ha : oa + la ≤ xs.length) (hb : ob + lb ≤ ys.length) (hn : n = la + lb + 1) (hn2 : n ≤ 2000) : ∀ (m i : Nat) (O : List Int), Digs O → O.length = n → i + m = la →
    LoopTo rdTo (valTo oa la ob lb n i) (rowTm xs ys O) (.exit 0) (valTo oa la ob lb n la) (rowTm xs ys (tmOut (dig xs oa) (dig ys ob) lb m i O))
  | 0, i, O, h1, h2, h3 => by
    obtain rfl : i = la := by omega
    refine .done ?_ (by simp)
    rw [to_round, decide_eq_false (by omega), cond_false]
    rfl
  | m + 1, i, O, h1, h2, h3 => by
    obtain ⟨d1, d2⟩ := tmIn_in (i := i) (dig_in hx oa i) (dig_in hy ob) lb 0 O 0 h1 (by omega)
    have hl := tmIn_len (dig xs oa i) (dig ys ob) i lb 0 O 0
    have hro := to_round xs ys O oa la ob lb n i
    have e4 : IntKind.i64.wrap ((i : Int) + (lb : Int)) = ((i + lb : Nat) : Int) := by rw [IntWalk.i64_in _ (by omega)]; omega
    rw [show ((i : Int)).toNat = i by omega, e4, tmOk_iff.2 ⟨⟨hx, hy, h1⟩, ⟨ha, hb⟩, hn, hn2, h2⟩, decide_eq_true (show (i : Int) < (la : Int) by omega), decide_eq_true (show (0 : Int) ≤ (i : Int) by omega), decide_eq_true (show (0 : Int) ≤ ((i + lb : Nat) : Int) by omega), decide_eq_true (show ((i + lb : Nat) : Int) < (n : Int) by omega), show (((i + lb : Nat) : Int)).toNat = i + lb by omega, decide_eq_true (show 0 + (i + lb) < (tmIn (dig xs oa i) (dig ys ob) i lb 0 O 0).1.length by omega), IntWalk.i64_in ((i : Int) + 1) (by omega), Nat.zero_add] at hro
    simp only [decide_true, Bool.and_self, cond_true] at hro
    exact .more hro (to_loop hx hy ha hb hn hn2 m (i + 1) _ (set_digs d1 _ d2) (by rw [List.length_set]; omega) (by omega))
end
set_option maxHeartbeats 0 in
noncomputable def outTo (v : List SV) (R : List Row) (k : Ex → List SV → List Row → Option Res2) : Option Res2 := match v, R with
  | [.slice 0 1 oa la none, .slice 1 1 ob lb none, .nils, .slice 2 1 0 n (some n'), .int .i64 i], [.vec true .u64 xs, .vec true .u64 ys, .vec false .u64 O] =>
      bif (decide (i = 0) && decide (n' = n)) && tmOk xs ys O oa la ob lb n then
        k (.exit 0) (valTo oa la ob lb n la) (rowTm xs ys (tmOut (dig xs oa) (dig ys ob) lb la 0 O)) else none
  | _, _ => none
set_option maxHeartbeats 0 in
theorem lpoTo_ok : LpOk 68 [0, 1, 0, 1, 1] (loopF 65 [0, 1, 4, 5, 6] outTo) := by
  intro b hat s K r h
  refine loopF_ok (fuel := 100) xTm_ok (loopOf_ok (l := [lpoTi])) hat (fun v R k r hr => ?_) h
  have hbody := at_body Try.func68 hat
  subst hbody
  unfold outTo at hr
  split at hr
  · rename_i oa la ob lb n n' i xs ys O
    obtain ⟨hb, hr2⟩ := cond_some hr
    simp only [Bool.and_eq_true, decide_eq_true_eq] at hb
    obtain ⟨⟨rfl, rfl⟩, h5⟩ := hb
    obtain ⟨⟨k1, k2, k3⟩, ⟨k4, k5⟩, k6, k7, k8⟩ := tmOk_iff.1 h5
    exact ⟨_, _, _, hr2, to_loop k1 k2 k4 k5 k6 k7 la 0 O k3 k8 (by omega)⟩
  · cases hr
noncomputable def lpoTo : Lpo := ⟨_, _, _, lpoTo_ok⟩

/-! cut of such a row, as a contract; times. -/
theorem cv_val {xs : List Int} {la : Nat} (h1 : la ≤ xs.length) (h2 : la ≤ 9223372036854775807) : runK xDg (loopOf [lpoCv]) 300 69 Try.f69 9 [.slice 0 1 0 la (some la)] [.vec false .u64 xs] = some (.slice 0 1 0 (cutN xs la) (some la), [.vec false .u64 xs]) := by
  have hn := cutN_le xs la
  rw [cv_tree, decide_eq_true (show (la : Int) = (la : Int) from rfl), decide_eq_true (show la = la from rfl), decide_eq_true h1, decide_eq_true h2, show capOr (some la) la = la from rfl, decide_eq_true (show (0 : Int) ≤ ((cutN xs la : Nat) : Int) by omega), decide_eq_true (show ((cutN xs la : Nat) : Int) ≤ ((la : Nat) : Int) by omega)]
  rfl
def oCutC (args : List SV) (rows : List Row) : Option Eff :=
  match args with
  | [.slice id 1 0 la (some c)] => match rows[id]? with
    | some (.vec false .u64 xs) => some { ok := decide (c = la) && (decide (la ≤ xs.length) && decide (la ≤ 9223372036854775807)), val := .slice id 1 0 (cutN xs la) (some c), rd := [id], wr := [(id, .vec false .u64 xs)] }
    | _ => none
  | _ => none
theorem oCutC_ok {args : List SV} {rows : List Row} {e : Eff} (h : oCutC args rows = some e) (hok : e.ok = true) : FnOk Try.prog 69 args (rows[·]?) rows.length e := by
  unfold oCutC at h
  split at h
  · rename_i id la c
    split at h
    · rename_i xs hrow
      cases h
      simp only [Bool.and_eq_true, decide_eq_true_eq] at hok
      obtain ⟨rfl, h1, h2⟩ := hok
      obtain ⟨rows', hc, ht⟩ := runK_ok xDg_ok loopOf_ok Try.func69 (cv_val (xs := xs) h1 h2)
      have hr' : rows' = [.vec false .u64 xs] := by
        have hl := congrArg List.length ht
        rw [List.length_take] at hl
        simp only [List.length_cons, List.length_nil] at hl
        rw [List.take_of_length_le (by omega)] at ht
        exact ht
      subst hr'
      have l1 := (List.getElem?_eq_some_iff.1 hrow).1
      refine fnOk_ren hc (σ := [id]) (n := rows.length) (W := [(id, .vec false .u64 xs)]) rfl ?_ ?_ ?_ ?_ ?_ ?_ ?_
      · simp
      · intro j hj
        simp at hj
        subst hj
        exact l1
      · intro i hi
        simp [SV.idsL, SV.ids] at hi
        subst hi
        simp
      · intro i row hr j hj
        match i, hr with
        | 0, hr => simp at hr; subst hr; simp [Row.idsR] at hj
        | i + 1, hr => simp at hr
      · intro i row hr
        match i, hr with
        | 0, hr => simp at hr; subst hr; exact ⟨_, hrow, fun h => h, fun _ _ h => h⟩
        | i + 1, hr => simp at hr
      · intro i row hr _
        match i, hr with
        | 0, hr => exact .inr ⟨_, rfl, List.mem_cons_self ..⟩
        | i + 1, hr => simp at hr
      · intro x hx
        simp only [List.mem_cons, List.not_mem_nil, or_false] at hx
        subst hx
        exact ⟨0, _, by simp, rfl, rfl⟩
    · cases h
  · cases h
noncomputable def orcCutC : Orc := ⟨69, oCutC, fun _ _ _ h hok => oCutC_ok h hok, bodied Try.func69 (by kernel_rfl)⟩
noncomputable def xTn : Ctx := ctxOf [] [orcCutC]
theorem xTn_ok : COk Try.prog xTn := ctxOf_ok (by kernel_rfl)

/-- How long the row of a product is, as the code reckons it. -/
def tmN (la lb : Nat) : Int := IntKind.i64.wrap (IntKind.i64.wrap ((la : Int) + (lb : Int)) + 1)
set_option maxRecDepth 100000 in
set_option maxHeartbeats 0 in
theorem tm_tree (xs ys : List Int) (oa la ob lb : Nat) : runK xTn (loopOf [lpoTo]) 300 68 Try.f68 9 [.slice 0 1 oa la none, .slice 1 1 ob lb none] [.vec true .u64 xs, .vec true .u64 ys] =
  bif decide (0 ≤ tmN la lb) && (decide (tmN la lb ≤ 9223372036854775807) && (decide (((8 : Nat) : Int) * tmN la lb ≤ 2 ^ 48) && decide (tmN la lb = tmN la lb))) then
  bif decide ((tmN la lb).toNat = (tmN la lb).toNat) && tmOk xs ys (List.replicate (tmN la lb).toNat 0) oa la ob lb (tmN la lb).toNat then
  bif decide ((tmN la lb).toNat = (tmN la lb).toNat) && (decide ((tmN la lb).toNat ≤ (tmOut (dig xs oa) (dig ys ob) lb la 0 (List.replicate (tmN la lb).toNat 0)).length) && decide ((tmN la lb).toNat ≤ 9223372036854775807)) then
  some (.slice 2 1 0 (cutN (tmOut (dig xs oa) (dig ys ob) lb la 0 (List.replicate (tmN la lb).toNat 0)) (tmN la lb).toNat) (some (tmN la lb).toNat), [.vec true .u64 xs, .vec true .u64 ys, .vec false .u64 (tmOut (dig xs oa) (dig ys ob) lb la 0 (List.replicate (tmN la lb).toNat 0))])
  else none
  else none
  else none := by kernel_rfl
theorem tm_val {xs ys : List Int} {oa la ob lb : Nat} (hx : Digs xs) (hy : Digs ys) (ha : oa + la ≤ xs.length) (hb : ob + lb ≤ ys.length) (hM : la + lb + 1 ≤ 2000) :
    runK xTn (loopOf [lpoTo]) 300 68 Try.f68 9 [.slice 0 1 oa la none, .slice 1 1 ob lb none] [.vec true .u64 xs, .vec true .u64 ys] =
      some (.slice 2 1 0 (timesL xs ys oa la ob lb).length (some (la + lb + 1)), [.vec true .u64 xs, .vec true .u64 ys, .vec false .u64 (timesD xs ys oa la ob lb)]) := by
  have eN : tmN la lb = ((la + lb + 1 : Nat) : Int) := by
    unfold tmN
    rw [IntWalk.i64_in ((la : Int) + (lb : Int)) (by omega), IntWalk.i64_in _ (by omega)]
    omega
  rw [tm_tree, eN, show (((la + lb + 1 : Nat) : Int)).toNat = la + lb + 1 by omega]
  rw [tmOk_iff.2 ⟨⟨hx, hy, zeros_digs _⟩, ⟨ha, hb⟩, rfl, hM, List.length_replicate⟩]
  rw [show tmOut (dig xs oa) (dig ys ob) lb la 0 (List.replicate (la + lb + 1) 0) = timesD xs ys oa la ob lb from rfl, timesD_len, timesL_len]
  rw [decide_eq_true (show (0 : Int) ≤ ((la + lb + 1 : Nat) : Int) by omega), decide_eq_true (show ((la + lb + 1 : Nat) : Int) ≤ 9223372036854775807 by omega), decide_eq_true (show ((8 : Nat) : Int) * ((la + lb + 1 : Nat) : Int) ≤ 2 ^ 48 by omega), decide_eq_true (show la + lb + 1 ≤ 9223372036854775807 by omega)]
  simp only [decide_true, Nat.le_refl, Bool.and_self, cond_true]

theorem fnOk_weaken {P : Program} {f : Nat} {args args' : List SV} {m : Nat → Option Row} {n : Nat} {e : Eff} (h : FnOk P f args m n e) (ha : ∀ ρ vs, RelL ρ args' vs → RelL ρ args vs) : FnOk P f args' m n e :=
  fun ρ pres vargs w hargs => h ρ pres vargs w (ha ρ vargs hargs)
theorem rel_nocap {ρ : Rho} {id st off len : Nat} {cap : Option Nat} {u : Value} (h : Rel ρ (.slice id st off len cap) u) : Rel ρ (.slice id st off len none) u := by
  simp only [Rel] at h ⊢
  rcases h with ⟨p, o, c, h1, h2, _, h4, h5, h6⟩ | ⟨h0, _, a, c, h⟩
  · refine .inl ⟨p, o, c, h1, h2, by simp, ?_, h5, h6⟩
    rcases h4 with h4 | h4
    · exact .inl h4
    · exact .inr ⟨h4.1, trivial⟩
  · exact .inr ⟨h0, trivial, a, c, h⟩
def oTimesD (args : List SV) (rows : List Row) : Option Eff :=
  match args with
  | [.slice ia 1 oa la ca, .slice ib 1 ob lb cb] => match rows[ia]?, rows[ib]? with
    | some (.vec _ .u64 xs), some (.vec _ .u64 ys) => some { ok := (digsB xs && digsB ys) && ((decide (oa + la ≤ xs.length) && decide (ob + lb ≤ ys.length)) && decide (la + lb + 1 ≤ 2000)), val := .slice rows.length 1 0 (timesL xs ys oa la ob lb).length none, rd := [ia, ib], nw := [.vec true .u64 (timesL xs ys oa la ob lb)] }
    | _, _ => none
  | _ => none
theorem oTimesD_ok {args : List SV} {rows : List Row} {e : Eff} (h : oTimesD args rows = some e) (hok : e.ok = true) : FnOk Try.prog 68 args (rows[·]?) rows.length e := by
  unfold oTimesD at h
  split at h
  · rename_i ia oa la ca ib ob lb cb
    split at h
    · rename_i ra xs rb ys hxr hyr
      cases h
      simp only [Bool.and_eq_true, decide_eq_true_eq] at hok
      obtain ⟨⟨h1, h2⟩, ⟨h3, h4⟩, h5⟩ := hok
      obtain ⟨rows', hc, ht⟩ := runK_ok xTn_ok loopOf_ok Try.func68 (tm_val (xs := xs) (ys := ys) (digsB_iff.1 h1) (digsB_iff.1 h2) h3 h4 h5)
      refine fnOk_weaken (args := [.slice ia 1 oa la none, .slice ib 1 ob lb none]) ?_ fun ρ vs hv => ?_
      · refine fnOk_fresh (C := fun s => s) (s0 := .slice 2 1 0 (timesL xs ys oa la ob lb).length (some (la + lb + 1))) (ds := timesL xs ys oa la ob lb) hc round_id (σ := [ia, ib]) rfl (fun i hi => by simp [SV.idsL, SV.ids] at hi; rcases hi with rfl | rfl <;> simp) (fun i row hr => ?_) (.inr ⟨2, 0, _, false, timesD xs ys oa la ob lb, rfl, by simp, by rw [take_get ht (by omega)]; rfl, fun i hi => ?_⟩)
        · match i with
          | 0 => simp at hr; subst hr; exact ⟨.u64, xs, ra, rfl, hxr⟩
          | 1 => simp at hr; subst hr; exact ⟨.u64, ys, rb, rfl, hyr⟩
          | i + 2 => simp at hr
        · exact timesL_get xs ys oa la ob lb hi
      · rw [RelL] at hv ⊢
        obtain ⟨u, us, rfl, h6, h7⟩ := hv
        refine ⟨u, us, rfl, rel_nocap h6, ?_⟩
        rw [RelL] at h7 ⊢
        obtain ⟨u, us, rfl, h6, h7⟩ := h7
        exact ⟨u, us, rfl, rel_nocap h6, h7⟩
    · cases h
  · cases h
noncomputable def orcTimesD : Orc := ⟨68, oTimesD, fun _ _ _ h hok => oTimesD_ok h hok, bodied Try.func68 (by kernel_rfl)⟩

end Go.Proofs.Ytegafbkjdkpfiaa
