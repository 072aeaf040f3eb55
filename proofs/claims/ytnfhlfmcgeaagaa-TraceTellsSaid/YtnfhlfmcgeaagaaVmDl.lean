/- The reference's digits: less. -/
import Derived.Test.YtnfhlfmcgeaagaaVmDu
namespace Go.Proofs.Ytnfhlfmcgeaagaa
set_option linter.unusedSimpArgs false
set_option linter.unusedVariables false
open Go.RowKit

theorem cut_empty : runK xDg (fun _ _ => none) 300 59 Try.f59 9 [.slice 0 1 0 0 (some 0)] [.vec false .u64 []] = some (.slice 0 1 0 0 (some 0), [.vec false .u64 []]) := by kernel_rfl
def oCutE (args : List SV) (rows : List Row) : Option Eff :=
  match args with
  | [.slice id 1 0 la (some c)] => bif Nat.beq la 0 && Nat.beq c 0 then (match rows[id]? with
    | some (.vec false .u64 []) => some { val := .slice id 1 0 0 (some 0), rd := [id], wr := [(id, .vec false .u64 [])] }
    | _ => none) else none
  | _ => oCutD args rows
theorem oCutE_ok {args : List SV} {rows : List Row} {e : Eff} (h : oCutE args rows = some e) (hok : e.ok = true) : FnOk Try.prog 59 args (rows[·]?) rows.length e := by
  unfold oCutE at h
  split at h
  · rename_i id la c
    obtain ⟨hb, h⟩ := cond_some h
    rw [Bool.and_eq_true] at hb
    have hb1 := Nat.eq_of_beq_eq_true hb.1
    have hb2 := Nat.eq_of_beq_eq_true hb.2
    subst hb1 hb2
    split at h
    · rename_i hrow
      cases h
      obtain ⟨rows', hc, ht⟩ := runK_ok xDg_ok lok_none Try.func59 cut_empty
      have hr' : rows' = [.vec false .u64 []] := by
        have hl := congrArg List.length ht
        rw [List.length_take] at hl
        simp only [List.length_cons, List.length_nil] at hl
        rw [List.take_of_length_le (by omega)] at ht
        exact ht
      subst hr'
      have l1 := (List.getElem?_eq_some_iff.1 hrow).1
      refine fnOk_ren hc (σ := [id]) (n := rows.length) (W := [(id, .vec false .u64 [])]) rfl ?_ ?_ ?_ ?_ ?_ ?_ ?_
      · simp
      · intro j hj
        simp at hj
        subst hj
        exact l1
      · intro i hi
        simp [SV.idsL, SV.ids] at hi
        subst hi
        simp
      · intro i row hr j hj
        match i, hr with
        | 0, hr => simp at hr; subst hr; simp [Row.idsR] at hj
        | i + 1, hr => simp at hr
      · intro i row hr
        match i, hr with
        | 0, hr => simp at hr; subst hr; exact ⟨_, hrow, fun h => h, fun _ _ h => h⟩
        | i + 1, hr => simp at hr
      · intro i row hr _
        match i, hr with
        | 0, hr => exact .inr ⟨_, rfl, List.mem_cons_self ..⟩
        | i + 1, hr => simp at hr
      · intro x hx
        simp only [List.mem_cons, List.not_mem_nil, or_false] at hx
        subst hx
        exact ⟨0, _, by simp, rfl, rfl⟩
    · cases h
  · exact oCutD_ok h hok
noncomputable def orcCutE : Orc := ⟨59, oCutE, fun _ _ _ h hok => oCutE_ok h hok, bodied Try.func59 (by kernel_rfl)⟩

noncomputable def xDl : Ctx := ctxOf [] [orcAtD, orcCutE]
theorem xDl_ok : COk Try.prog xDl := ctxOf_ok (by kernel_rfl)
noncomputable def rdLe : List SV → List Row → Option Res2 := roundS xDl (fun _ _ => none) 100 56 [0, 1, 0, 1, 1, 1] (bodyAt Try.f56 [0, 1, 0, 1, 1, 1]) 36 3 [0, 1, 4, 5, 6, 7]

set_option maxRecDepth 100000 in
set_option maxHeartbeats 0 in
theorem le_round0 (xs ys : List Int) (oa la ob lb : Nat) (c i : Int) : rdLe (valSu0 oa la ob lb c i) (rowSu0 xs ys) =
  bif decide (i < (↑la : Int)) then
  bif decide (0 ≤ i) && decide (oa + la ≤ xs.length) then
  bif decide (0 ≤ i) && decide (ob + lb ≤ ys.length) then
  some
  (SV.tuple
  [SV.nilp,
  SV.tuple
  [SV.slice 0 1 oa la none, SV.slice 1 1 ob lb none, SV.nils, SV.slice 3 Knd.u64.st 0 (0 + 1) none,
  SV.int IntKind.u64 (IntKind.u64.wrap (1 - IntKind.u64.wrap ((IntKind.u64.wrap (IntKind.u64.wrap (IntKind.u64.wrap (atD xs oa la i + 65536) - atD ys ob lb i) - c)).tdiv 65536))),
  SV.int IntKind.i64 (IntKind.i64.wrap (i + 1))]],
  [Row.vec true Knd.u64 xs, Row.vec true Knd.u64 ys, Row.gone,
  Row.vec false Knd.u64 [(IntKind.u64.wrap (IntKind.u64.wrap (IntKind.u64.wrap (atD xs oa la i + 65536) - atD ys ob lb i) - c)).tmod 65536]])
  else none
  else none
  else
  some
  (SV.tuple [SV.ptr 0 0 0 0, SV.tuple [SV.slice 0 1 oa la none, SV.slice 1 1 ob lb none, SV.nils, SV.slice 2 1 0 0 (some 0), SV.int IntKind.u64 c, SV.int IntKind.i64 i]],
  [Row.vec true Knd.u64 xs, Row.vec true Knd.u64 ys, Row.vec false Knd.u64 []]) := by kernel_rfl

set_option maxRecDepth 100000 in
set_option maxHeartbeats 0 in
theorem le_round1 (xs ys ds : List Int) (oa la ob lb k : Nat) (c i : Int) : rdLe (valSu oa la ob lb k c i) (rowSu xs ys ds) =
  bif decide (i < (la : Int)) then
    bif decide (0 ≤ i) && decide (oa + la ≤ xs.length) then
      bif decide (0 ≤ i) && decide (ob + lb ≤ ys.length) then
        bif growsU k ds ((IntKind.u64.wrap (IntKind.u64.wrap (IntKind.u64.wrap (atD xs oa la i + 65536) - atD ys ob lb i) - c)).tmod 65536) then
          some (.tuple [.nilp, .tuple (valSu oa la ob lb (k + 1) (IntKind.u64.wrap (1 - IntKind.u64.wrap ((IntKind.u64.wrap (IntKind.u64.wrap (IntKind.u64.wrap (atD xs oa la i + 65536) - atD ys ob lb i) - c)).tdiv 65536))) (IntKind.i64.wrap (i + 1)))],
            rowSu xs ys (ds.take k ++ [(IntKind.u64.wrap (IntKind.u64.wrap (IntKind.u64.wrap (atD xs oa la i + 65536) - atD ys ob lb i) - c)).tmod 65536]))
        else none
      else none
    else none
  else some (.tuple [.ptr 0 0 0 0, .tuple (valSu oa la ob lb k c i)], rowSu xs ys ds) := by kernel_rfl

/-- The digits of a difference, and what is borrowed. -/
def lessGo (f g : Nat → Int) : Nat → Nat → Int → List Int
  | 0, _, _ => []
  | k + 1, i, c => (f i + 65536 - g i - c) % 65536 :: lessGo f g k (i + 1) (1 - (f i + 65536 - g i - c) / 65536)
def lessC (f g : Nat → Int) : Nat → Nat → Int → Int
  | 0, _, c => c
  | k + 1, i, c => lessC f g k (i + 1) (1 - (f i + 65536 - g i - c) / 65536)
section
variable {xs ys : List Int} {oa la ob lb : Nat}
theorem le_step (hx : Digs xs) (hy : Digs ys) {i : Nat} {c : Int} (hc : 0 ≤ c ∧ c ≤ 1) :
    (IntKind.u64.wrap (IntKind.u64.wrap (IntKind.u64.wrap (atD xs oa la i + 65536) - atD ys ob lb i) - c)).tmod 65536 = (atF xs oa la i + 65536 - atF ys ob lb i - c) % 65536 ∧
    IntKind.u64.wrap (1 - IntKind.u64.wrap ((IntKind.u64.wrap (IntKind.u64.wrap (IntKind.u64.wrap (atD xs oa la i + 65536) - atD ys ob lb i) - c)).tdiv 65536)) = 1 - (atF xs oa la i + 65536 - atF ys ob lb i - c) / 65536 ∧ 0 ≤ 1 - (atF xs oa la i + 65536 - atF ys ob lb i - c) / 65536 ∧ 1 - (atF xs oa la i + 65536 - atF ys ob lb i - c) / 65536 ≤ 1 := by
  have h1 := atF_in hx oa la i
  have h2 := atF_in hy ob lb i
  rw [show atD xs oa la i = atF xs oa la i from rfl, show atD ys ob lb i = atF ys ob lb i from rfl]
  generalize atF xs oa la i = A at h1 ⊢
  generalize atF ys ob lb i = B at h2 ⊢
  rw [u64_in (a := A + 65536) (by omega) (by omega), u64_in (a := A + 65536 - B) (by omega) (by omega), u64_in (a := A + 65536 - B - c) (by omega) (by omega), Int.tmod_eq_emod_of_nonneg (by omega), Int.tdiv_eq_ediv_of_nonneg (by omega), u64_in (a := (A + 65536 - B - c) / 65536) (by omega) (by omega), u64_in (by omega) (by omega)]
  exact ⟨rfl, rfl, by omega, by omega⟩
theorem le_loop1 (hx : Digs xs) (hy : Digs ys) (ha : oa + la ≤ xs.length) (hb : ob + lb ≤ ys.length) (hM2 : la ≤ 1000) : ∀ (k i : Nat) (c : Int) (ds : List Int), ds.length = i → 0 < i → i + k = la → 0 ≤ c ∧ c ≤ 1 →
    LoopTo rdLe (valSu oa la ob lb i c i) (rowSu xs ys ds) (.exit 0) (valSu oa la ob lb la (lessC (atF xs oa la) (atF ys ob lb) k i c) la) (rowSu xs ys (ds ++ lessGo (atF xs oa la) (atF ys ob lb) k i c))
  | 0, i, c, ds, h1, h2, h3, h4 => by
    obtain rfl : i = la := by omega
    refine .done ?_ (by simp)
    rw [le_round1, decide_eq_false (by omega), cond_false]
    simp only [lessGo, List.append_nil]
    rfl
  | k + 1, i, c, ds, h1, h2, h3, h4 => by
    obtain ⟨e1, e2, e3, e4⟩ := le_step (oa := oa) (la := la) (ob := ob) (lb := lb) (i := i) hx hy h4
    have hro := le_round1 xs ys ds oa la ob lb i c i
    rw [decide_eq_true (show (i : Int) < (la : Int) by omega), decide_eq_true (show (0 : Int) ≤ (i : Int) by omega), decide_eq_true ha, decide_eq_true hb, growsU_ok h1.symm h2 (by omega), e1, e2, IntWalk.i64_in ((i : Int) + 1) (by omega)] at hro
    simp only [Bool.and_self, cond_true] at hro
    have et : ds.take i = ds := by rw [← h1]; exact List.take_length
    rw [et] at hro
    have ih := le_loop1 hx hy ha hb hM2 k (i + 1) (1 - (atF xs oa la i + 65536 - atF ys ob lb i - c) / 65536) (ds ++ [(atF xs oa la i + 65536 - atF ys ob lb i - c) % 65536]) (by simp [h1]) (by omega) (by omega) ⟨e3, e4⟩
    rw [List.append_assoc, List.singleton_append] at ih
    exact .more hro ih
theorem le_loop0 (hx : Digs xs) (hy : Digs ys) (ha : oa + la ≤ xs.length) (hb : ob + lb ≤ ys.length) (h0 : 0 < la) (hM2 : la ≤ 1000) :
    LoopTo rdLe (valSu0 oa la ob lb 0 0) (rowSu0 xs ys) (.exit 0) (valSu oa la ob lb la (lessC (atF xs oa la) (atF ys ob lb) la 0 0) la) (rowSu xs ys (lessGo (atF xs oa la) (atF ys ob lb) la 0 0)) := by
  obtain ⟨e1, e2, e3, e4⟩ := le_step (oa := oa) (la := la) (ob := ob) (lb := lb) (i := 0) (c := 0) hx hy (by omega)
  have hro := le_round0 xs ys oa la ob lb 0 0
  rw [decide_eq_true (show (0 : Int) < (la : Int) by omega), decide_eq_true (show (0 : Int) ≤ 0 by omega), decide_eq_true ha, decide_eq_true hb] at hro
  simp only [Bool.and_self, cond_true] at hro
  rw [show ((0 : Nat) : Int) = 0 from rfl] at e1 e2
  rw [e1, e2] at hro
  have key : ∀ k, la = k + 1 → LoopTo rdLe (valSu oa la ob lb 1 (1 - (atF xs oa la 0 + 65536 - atF ys ob lb 0 - 0) / 65536) 1) (rowSu xs ys [(atF xs oa la 0 + 65536 - atF ys ob lb 0 - 0) % 65536]) (.exit 0) (valSu oa la ob lb la (lessC (atF xs oa la) (atF ys ob lb) (k + 1) 0 0) la) (rowSu xs ys (lessGo (atF xs oa la) (atF ys ob lb) (k + 1) 0 0)) := by
    intro k hk
    have ih := le_loop1 hx hy ha hb hM2 k 1 (1 - (atF xs oa la 0 + 65536 - atF ys ob lb 0 - 0) / 65536) [(atF xs oa la 0 + 65536 - atF ys ob lb 0 - 0) % 65536] rfl (by omega) (by omega) ⟨e3, e4⟩
    rw [List.singleton_append] at ih
    exact ih
  have h := key (la - 1) (by omega)
  rw [show la - 1 + 1 = la by omega] at h
  exact .more hro h
theorem le_loopN : LoopTo rdLe (valSu0 oa 0 ob lb 0 0) (rowSu0 xs ys) (.exit 0) (valSu0 oa 0 ob lb 0 0) (rowSu0 xs ys) := by
  refine .done ?_ (by simp)
  rw [le_round0, decide_eq_false (by omega), cond_false]
  rfl
end
set_option maxHeartbeats 0 in
noncomputable def outLe (v : List SV) (R : List Row) (k : Ex → List SV → List Row → Option Res2) : Option Res2 := match v, R with
  | [.slice 0 1 oa la none, .slice 1 1 ob lb none, .nils, .slice 2 1 0 0 (some 0), .int .u64 c, .int .i64 i], [.vec true .u64 xs, .vec true .u64 ys, .vec false .u64 zs] =>
      bif (decide (c = 0) && (decide (i = 0) && zs.isEmpty)) && ((digsB xs && digsB ys) && ((decide (oa + la ≤ xs.length) && decide (ob + lb ≤ ys.length)) && decide (la ≤ 1000))) then
        (bif Nat.beq la 0 then k (.exit 0) (valSu0 oa 0 ob lb 0 0) (rowSu0 xs ys)
        else k (.exit 0) (valSu oa la ob lb la (lessC (atF xs oa la) (atF ys ob lb) la 0 0) la) (rowSu xs ys (lessGo (atF xs oa la) (atF ys ob lb) la 0 0))) else none
  | _, _ => none
set_option maxHeartbeats 0 in
theorem lpoLe_ok : LpOk 56 [0, 1, 0, 1, 1, 1] (loopF 36 [0, 1, 4, 5, 6, 7] outLe) := by
  intro b hat s K r h
  refine loopF_ok (fuel := 100) xDl_ok lok_none hat (fun v R k r hr => ?_) h
  have hbody := at_body Try.func56 hat
  subst hbody
  unfold outLe at hr
  split at hr
  · rename_i oa la ob lb c i xs ys zs
    obtain ⟨hb, hr2⟩ := cond_some hr
    simp only [Bool.and_eq_true, decide_eq_true_eq] at hb
    obtain ⟨⟨h1, h2, h3⟩, ⟨h4, h5⟩, ⟨h6, h7⟩, h8⟩ := hb
    subst h1 h2
    rcases zs with _ | ⟨z, zs⟩
    · cases h0 : Nat.beq la 0 with
      | true =>
        rw [h0, cond_true] at hr2
        have hl := Nat.eq_of_beq_eq_true h0
        subst hl
        exact ⟨_, _, _, hr2, le_loopN⟩
      | false =>
        rw [h0, cond_false] at hr2
        have hl := Nat.ne_of_beq_eq_false h0
        exact ⟨_, _, _, hr2, le_loop0 (digsB_iff.1 h4) (digsB_iff.1 h5) h6 h7 (by omega) h8⟩
    · cases h3
  · cases hr
noncomputable def lpoLe : Lpo := ⟨_, _, _, lpoLe_ok⟩

def lessD (xs ys : List Int) (oa la ob lb : Nat) : List Int := lessGo (atF xs oa la) (atF ys ob lb) la 0 0
set_option maxRecDepth 100000 in
set_option maxHeartbeats 0 in
theorem le_tree (xs ys : List Int) (oa la ob lb : Nat) : runK xDl (loopOf [lpoLe]) 300 56 Try.f56 9 [.slice 0 1 oa la none, .slice 1 1 ob lb none] [.vec true .u64 xs, .vec true .u64 ys] =
  bif (digsB xs && digsB ys) && ((decide (oa + la ≤ xs.length) && decide (ob + lb ≤ ys.length)) && decide (la ≤ 1000)) then
    bif Nat.beq la 0 then some (.slice 2 1 0 0 (some 0), [.vec true .u64 xs, .vec true .u64 ys, .vec false .u64 []])
    else
      bif decide (la ≤ (lessD xs ys oa la ob lb).length) && decide (la ≤ 9223372036854775807) then
        some (.slice 3 1 0 (cutN (lessD xs ys oa la ob lb) la) none, [.vec true .u64 xs, .vec true .u64 ys, .gone, .vec false .u64 (lessD xs ys oa la ob lb)])
      else none
  else none := by kernel_rfl
theorem lessGo_len (f g : Nat → Int) : ∀ (k i : Nat) (c : Int), (lessGo f g k i c).length = k
  | 0, _, _ => rfl
  | k + 1, i, c => by unfold lessGo; rw [List.length_cons, lessGo_len]
/-- The digits of a difference, without noughts at the end. -/
def lessL (xs ys : List Int) (oa la ob lb : Nat) : List Int := (lessD xs ys oa la ob lb).take (cutN (lessD xs ys oa la ob lb) la)
theorem lessL_len (xs ys : List Int) (oa la ob lb : Nat) : (lessL xs ys oa la ob lb).length = cutN (lessD xs ys oa la ob lb) la := by
  unfold lessL
  rw [List.length_take, show (lessD xs ys oa la ob lb).length = la from lessGo_len _ _ _ _ _]
  have := cutN_le (lessD xs ys oa la ob lb) la
  omega
theorem lessL_get (xs ys : List Int) (oa la ob lb : Nat) {i : Nat} (hi : i < (lessL xs ys oa la ob lb).length) : (lessD xs ys oa la ob lb)[0 + i]? = (lessL xs ys oa la ob lb)[i]? := by
  rw [Nat.zero_add]
  rw [lessL_len] at hi
  unfold lessL
  rw [List.getElem?_take, if_pos hi]
theorem le_val {xs ys : List Int} {oa la ob lb : Nat} (hx : digsB xs = true) (hy : digsB ys = true) (ha : oa + la ≤ xs.length) (hb : ob + lb ≤ ys.length) (hM : la ≤ 1000) (h0 : Nat.beq la 0 = false) :
    runK xDl (loopOf [lpoLe]) 300 56 Try.f56 9 [.slice 0 1 oa la none, .slice 1 1 ob lb none] [.vec true .u64 xs, .vec true .u64 ys] =
      some (.slice 3 1 0 (lessL xs ys oa la ob lb).length none, [.vec true .u64 xs, .vec true .u64 ys, .gone, .vec false .u64 (lessD xs ys oa la ob lb)]) := by
  rw [le_tree, hx, hy, decide_eq_true ha, decide_eq_true hb, decide_eq_true hM, h0, lessL_len, show (lessD xs ys oa la ob lb).length = la from lessGo_len _ _ _ _ _, decide_eq_true (Nat.le_refl _), decide_eq_true (show la ≤ 9223372036854775807 by omega)]
  rfl
theorem le_valN {xs ys : List Int} {oa ob lb : Nat} (hx : digsB xs = true) (hy : digsB ys = true) (ha : oa + 0 ≤ xs.length) (hb : ob + lb ≤ ys.length) :
    runK xDl (loopOf [lpoLe]) 300 56 Try.f56 9 [.slice 0 1 oa 0 none, .slice 1 1 ob lb none] [.vec true .u64 xs, .vec true .u64 ys] =
      some (.slice 2 1 0 0 (some 0), [.vec true .u64 xs, .vec true .u64 ys, .vec false .u64 []]) := by
  rw [le_tree, hx, hy, decide_eq_true ha, decide_eq_true hb]
  rfl
def oLessD (args : List SV) (rows : List Row) : Option Eff :=
  match args with
  | [.slice ia 1 oa la none, .slice ib 1 ob lb none] => match rows[ia]?, rows[ib]? with
    | some (.vec _ .u64 xs), some (.vec _ .u64 ys) => some { ok := (digsB xs && digsB ys) && ((decide (oa + la ≤ xs.length) && decide (ob + lb ≤ ys.length)) && decide (la ≤ 1000)), val := .slice rows.length 1 0 (lessL xs ys oa la ob lb).length none, rd := [ia, ib], nw := [.vec true .u64 (lessL xs ys oa la ob lb)] }
    | _, _ => none
  | _ => none
theorem oLessD_ok {args : List SV} {rows : List Row} {e : Eff} (h : oLessD args rows = some e) (hok : e.ok = true) : FnOk Try.prog 56 args (rows[·]?) rows.length e := by
  unfold oLessD at h
  split at h
  · rename_i ia oa la ib ob lb
    split at h
    · rename_i ra xs rb ys hxr hyr
      cases h
      simp only [Bool.and_eq_true, decide_eq_true_eq] at hok
      obtain ⟨⟨h1, h2⟩, ⟨h3, h4⟩, h5⟩ := hok
      have hm : ∀ (i : Nat) (row : Row), ([.vec true .u64 xs, .vec true .u64 ys] : List Row)[i]? = some row → ∃ (k : Knd) (zs : List k.T) (ro : Bool), row = .vec true k zs ∧ rows[atR [ia, ib] rows.length i]? = some (.vec ro k zs) := by
        intro i row hr
        match i with
        | 0 => simp at hr; subst hr; exact ⟨.u64, xs, ra, rfl, hxr⟩
        | 1 => simp at hr; subst hr; exact ⟨.u64, ys, rb, rfl, hyr⟩
        | i + 2 => simp at hr
      cases h0 : Nat.beq la 0 with
      | true =>
        have hl := Nat.eq_of_beq_eq_true h0
        subst hl
        obtain ⟨rows', hc, ht⟩ := runK_ok xDl_ok loopOf_ok Try.func56 (le_valN (xs := xs) (ys := ys) h1 h2 h3 h4)
        exact fnOk_fresh (C := fun s => s) (s0 := .slice 2 1 0 0 (some 0)) (ds := []) hc round_id (σ := [ia, ib]) rfl (fun i hi => by simp [SV.idsL, SV.ids] at hi; rcases hi with rfl | rfl <;> simp) hm (.inr ⟨2, 0, some 0, false, [], rfl, by simp, by rw [take_get ht (by omega)]; rfl, fun i hi => by simp at hi⟩)
      | false =>
        obtain ⟨rows', hc, ht⟩ := runK_ok xDl_ok loopOf_ok Try.func56 (le_val (xs := xs) (ys := ys) h1 h2 h3 h4 h5 h0)
        exact fnOk_fresh (C := fun s => s) (s0 := .slice 3 1 0 (lessL xs ys oa la ob lb).length none) (ds := lessL xs ys oa la ob lb) hc round_id (σ := [ia, ib]) rfl (fun i hi => by simp [SV.idsL, SV.ids] at hi; rcases hi with rfl | rfl <;> simp) hm (.inr ⟨3, 0, none, false, lessD xs ys oa la ob lb, rfl, by simp, by rw [take_get ht (by omega)]; rfl, fun i hi => lessL_get xs ys oa la ob lb hi⟩)
    · cases h
  · cases h
noncomputable def orcLessD : Orc := ⟨56, oLessD, fun _ _ _ h hok => oLessD_ok h hok, bodied Try.func56 (by kernel_rfl)⟩

end Go.Proofs.Ytnfhlfmcgeaagaa
