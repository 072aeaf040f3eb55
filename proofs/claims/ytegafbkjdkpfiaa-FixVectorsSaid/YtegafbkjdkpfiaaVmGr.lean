/- The reference's digits: greatest. -/
import Derived.Test.YtegafbkjdkpfiaaVmTm
namespace Go.Proofs.Ytegafbkjdkpfiaa
set_option linter.unusedSimpArgs false
set_option linter.unusedVariables false
open Go.RowKit

noncomputable def xGr : Ctx := ctxOf [] [orcCutC, orcTimesD, orcMoreD]
theorem xGr_ok : COk Try.prog xGr := ctxOf_ok (by kernel_rfl)
def valGs (lo : Nat) (n i : Int) : List SV := [.nils, .bool true, .slice 0 1 0 lo none, .int .u64 0, .int .u64 n, .int .i64 i]
def rowGs (os : List Int) : List Row := [.vec true .u64 os]
def valGb (lb lo : Nat) (n i : Int) : List SV := [.slice 0 1 0 lb none, .bool false, .slice 1 1 0 lo none, .int .u64 0, .int .u64 n, .int .i64 i]
def rowGb (bs os : List Int) : List Row := [.vec true .u64 bs, .vec true .u64 os]
noncomputable def rdGr (n0 : Nat) : List SV → List Row → Option Res2 := roundS xGr (fun _ _ => none) 100 56 [0, 1, 0, 1, 1] (bodyAt Try.f56 [0, 1, 0, 1, 1]) 47 n0 [0, 1, 2, 6, 7, 8]
/-- The number that is tried, and its digits. -/
def grX (n i : Int) : Int := IntKind.u64.wrap ((BitVec.ofInt IntKind.u64.bits n ||| BitVec.ofInt IntKind.u64.bits (IntKind.u64.wrap (1 * 2 ^ min (IntKind.u64.wrap i).toNat IntKind.u64.bits))).toNat : Int)
def grD (x : Int) : List Int := [x.tmod 65536, (x.fdiv (2 ^ min (Int.toNat 16) IntKind.u64.bits)).tmod 65536, (x.fdiv (2 ^ min (Int.toNat 32) IntKind.u64.bits)).tmod 65536, x.fdiv (2 ^ min (Int.toNat 48) IntKind.u64.bits)]
def grC (x : Int) : Nat := cutN (grD x) 4
def grTs (x : Int) : List Int := timesL (grD x) (grD x) 0 (grC x) 0 (grC x)
def grTb (x : Int) (bs : List Int) (lb : Nat) : List Int := timesL (grD x) bs 0 (grC x) 0 lb
set_option maxRecDepth 100000 in
set_option maxHeartbeats 0 in
theorem gs_round (os : List Int) (lo : Nat) (n i : Int) : rdGr 1 (valGs lo n i) (rowGs os) =
  bif decide (i ≥ 0) then
  bif !decide (IntKind.u64.wrap i < 0) then
  bif (digsB (grD (grX n i)) && digsB (grD (grX n i))) && ((decide (0 + grC (grX n i) ≤ (grD (grX n i)).length) && decide (0 + grC (grX n i) ≤ (grD (grX n i)).length)) && decide (grC (grX n i) + grC (grX n i) + 1 ≤ 2000)) then
  bif (decide (0 + (grTs (grX n i)).length ≤ (grTs (grX n i)).length) && decide (0 + lo ≤ os.length)) && decide ((grTs (grX n i)).length ≤ 9223372036854775807) then
  bif !moreV (grTs (grX n i)) os 0 (grTs (grX n i)).length 0 lo then some (.tuple [.nilp, .tuple (valGs lo (grX n i) (IntKind.i64.wrap (i - 1)))], rowGs os)
  else some (.tuple [.nilp, .tuple (valGs lo n (IntKind.i64.wrap (i - 1)))], rowGs os)
  else none
  else none
  else none
  else some (.tuple [.ptr 0 0 0 0, .tuple (valGs lo n i)], rowGs os) := by kernel_rfl
set_option maxRecDepth 100000 in
set_option maxHeartbeats 0 in
theorem gb_round (bs os : List Int) (lb lo : Nat) (n i : Int) : rdGr 2 (valGb lb lo n i) (rowGb bs os) =
  bif decide (i ≥ 0) then
  bif !decide (IntKind.u64.wrap i < 0) then
  bif (digsB (grD (grX n i)) && digsB bs) && ((decide (0 + grC (grX n i) ≤ (grD (grX n i)).length) && decide (0 + lb ≤ bs.length)) && decide (grC (grX n i) + lb + 1 ≤ 2000)) then
  bif (decide (0 + (grTb (grX n i) bs lb).length ≤ (grTb (grX n i) bs lb).length) && decide (0 + lo ≤ os.length)) && decide ((grTb (grX n i) bs lb).length ≤ 9223372036854775807) then
  bif !moreV (grTb (grX n i) bs lb) os 0 (grTb (grX n i) bs lb).length 0 lo then some (.tuple [.nilp, .tuple (valGb lb lo (grX n i) (IntKind.i64.wrap (i - 1)))], rowGb bs os)
  else some (.tuple [.nilp, .tuple (valGb lb lo n (IntKind.i64.wrap (i - 1)))], rowGb bs os)
  else none
  else none
  else none
  else some (.tuple [.ptr 0 0 0 0, .tuple (valGb lb lo n i)], rowGb bs os) := by kernel_rfl

/-! What a round is worth. -/
theorem u64_id {a : Int} (h1 : 0 ≤ a) (h2 : a < 18446744073709551616) : IntKind.u64.wrap a = a := u64_in h1 h2
theorem ofInt_nat (m : Nat) (h : m < 18446744073709551616) : (BitVec.ofInt IntKind.u64.bits (m : Int)).toNat = m := by
  show (BitVec.ofInt 64 (m : Int)).toNat = m
  rw [BitVec.toNat_ofInt]
  show ((m : Int) % ((2 ^ 64 : Nat) : Int)).toNat = m
  omega
theorem grX_val {k a : Nat} (hk : k < 64) (h : 2 ^ (k + 1) * a + 2 ^ (k + 1) ≤ 18446744073709551616) : grX ((2 ^ (k + 1) * a : Nat) : Int) (k : Int) = ((2 ^ (k + 1) * a + 2 ^ k : Nat) : Int) := by
  have h1 : 2 ^ k < 2 ^ (k + 1) := Nat.pow_lt_pow_right (by omega) (by omega)
  have e1 : (IntKind.u64.wrap (k : Int)) = (k : Int) := u64_id (by omega) (by omega)
  have e2 : min ((k : Int)).toNat IntKind.u64.bits = k := by
    show min ((k : Int)).toNat 64 = k
    omega
  have e3 : IntKind.u64.wrap (1 * 2 ^ k) = ((2 ^ k : Nat) : Int) := by
    rw [Int.one_mul]
    have : ((2 : Int) ^ k) = ((2 ^ k : Nat) : Int) := by norm_cast
    rw [this]
    exact u64_id (by omega) (by omega)
  unfold grX
  rw [e1, e2, e3, BitVec.toNat_or, ofInt_nat _ (by omega), ofInt_nat _ (by omega), ← Nat.two_pow_add_eq_or_of_lt h1 a]
  exact u64_id (by omega) (by omega)
theorem grD_form {x : Int} (h1 : 0 ≤ x) (h2 : x < 18446744073709551616) : grD x = [x % 65536, x / 65536 % 65536, x / 4294967296 % 65536, x / 281474976710656] := by
  have p16 : (2 ^ min (Int.toNat 16) IntKind.u64.bits : Int) = 65536 := by decide
  have p32 : (2 ^ min (Int.toNat 32) IntKind.u64.bits : Int) = 4294967296 := by decide
  have p48 : (2 ^ min (Int.toNat 48) IntKind.u64.bits : Int) = 281474976710656 := by decide
  unfold grD
  rw [p16, p32, p48, Int.fdiv_eq_ediv_of_nonneg _ (by omega), Int.fdiv_eq_ediv_of_nonneg _ (by omega), Int.fdiv_eq_ediv_of_nonneg _ (by omega), Int.tmod_eq_emod_of_nonneg h1, Int.tmod_eq_emod_of_nonneg (show 0 ≤ x / 65536 by omega), Int.tmod_eq_emod_of_nonneg (show 0 ≤ x / 4294967296 by omega)]
theorem grD_digs {x : Int} (h1 : 0 ≤ x) (h2 : x < 18446744073709551616) : Digs (grD x) ∧ valL (grD x) = x := by
  rw [grD_form h1 h2]
  refine ⟨fun d hd => ?_, ?_⟩
  · simp only [List.mem_cons, List.not_mem_nil, or_false] at hd
    rcases hd with rfl | rfl | rfl | rfl <;> omega
  · simp only [valL]
    omega
theorem valF_take : ∀ (ds : List Int) (m i : Nat), m + i ≤ ds.length → valF (dig ds 0) m i = valL ((ds.drop i).take m)
  | ds, 0, i, h => rfl
  | ds, m + 1, i, h => by
    have hi : i < ds.length := by omega
    rw [List.drop_eq_getElem_cons hi, List.take_succ_cons]
    unfold valF valL
    rw [valF_take ds m (i + 1) (by omega)]
    congr 1
    unfold dig
    rw [Nat.zero_add, List.getD_eq_getElem?_getD, List.getElem?_eq_getElem hi]
    rfl
theorem grC_le (x : Int) : grC x ≤ 4 := cutN_le _ _
theorem grF_val {x : Int} (h1 : 0 ≤ x) (h2 : x < 18446744073709551616) : valF (dig (grD x) 0) (grC x) 0 = x := by
  have hl : (grD x).length = 4 := rfl
  have hc := grC_le x
  rw [valF_take _ _ _ (by omega), List.drop_zero]
  unfold grC
  rw [cutN_val 4 (by omega), List.take_of_length_le (by omega)]
  exact (grD_digs h1 h2).2
def trimB (l : List Int) : Bool := decide (l.length = 0) || !(l.getD (l.length - 1) 0 == 0)
theorem trimB_iff {l : List Int} : trimB l = true ↔ Trim l := by
  unfold trimB Trim
  simp only [Bool.or_eq_true, decide_eq_true_eq, Bool.not_eq_true', beq_eq_false_iff_ne]
  constructor
  · rintro (h | h) h0
    · omega
    · exact h
  · intro h
    by_cases h0 : l.length = 0
    · exact .inl h0
    · exact .inr (h (by omega))
theorem not_more {a b : Int} : (!decide (a > b)) = decide (a ≤ b) := by
  rw [Bool.eq_iff_iff, Bool.not_eq_true', decide_eq_false_iff_not, decide_eq_true_eq]
  omega
theorem gr_loop {rd : List SV → List Row → Option Res2} {val : Int → Int → List SV} {R : List Row} {P : Int → Bool}
    (hr : ∀ k a : Nat, k < 64 → 2 ^ (k + 1) * a + 2 ^ (k + 1) ≤ 18446744073709551616 → rd (val ((2 ^ (k + 1) * a : Nat) : Int) (k : Int)) R = some (.tuple [.nilp, .tuple (val (bif P ((2 ^ (k + 1) * a + 2 ^ k : Nat) : Int) then ((2 ^ (k + 1) * a + 2 ^ k : Nat) : Int) else ((2 ^ (k + 1) * a : Nat) : Int)) ((k : Int) - 1))], R))
    (he : ∀ n, rd (val n (-1)) R = some (.tuple [.ptr 0 0 0 0, .tuple (val n (-1))], R)) : ∀ (k a : Nat), k ≤ 64 → 2 ^ k * a + 2 ^ k ≤ 18446744073709551616 →
    LoopTo rd (val ((2 ^ k * a : Nat) : Int) ((k : Int) - 1)) R (.exit 0) (val (grGo P k ((2 ^ k * a : Nat) : Int)) (-1)) R
  | 0, a, h1, h2 => .done (he _) (by simp)
  | k + 1, a, h1, h2 => by
    have hro := hr k a (by omega) h2
    rw [show (((k + 1 : Nat) : Int) - 1) = (k : Int) by omega]
    have e1 : 2 ^ (k + 1) * a + 2 ^ k = 2 ^ k * (2 * a + 1) := by rw [Nat.pow_succ]; grind
    have e2 : 2 ^ (k + 1) * a = 2 ^ k * (2 * a) := by rw [Nat.pow_succ]; grind
    have e3 : (((2 ^ (k + 1) * a : Nat) : Int) + 2 ^ k) = ((2 ^ (k + 1) * a + 2 ^ k : Nat) : Int) := by push_cast; rfl
    have hp : 0 < 2 ^ k := Nat.pow_pos (by omega)
    have e4 : 2 ^ (k + 1) = 2 * 2 ^ k := by rw [Nat.pow_succ]; omega
    unfold grGo
    rw [e3]
    cases hc : P ((2 ^ (k + 1) * a + 2 ^ k : Nat) : Int) with
    | true =>
      rw [hc, cond_true] at hro
      simp only [cond_true]
      have ih := gr_loop hr he k (2 * a + 1) (by omega) (by rw [← e1]; omega)
      rw [← e1] at ih
      exact .more hro ih
    | false =>
      rw [hc, cond_false] at hro
      simp only [cond_false]
      have ih := gr_loop hr he k (2 * a) (by omega) (by rw [← e2]; omega)
      rw [← e2] at ih
      exact .more hro ih

theorem grX_fits {k a : Nat} (h : 2 ^ (k + 1) * a + 2 ^ (k + 1) ≤ 18446744073709551616) : (0 : Int) ≤ ((2 ^ (k + 1) * a + 2 ^ k : Nat) : Int) ∧ ((2 ^ (k + 1) * a + 2 ^ k : Nat) : Int) < 18446744073709551616 := by
  have h1 : 2 ^ k < 2 ^ (k + 1) := Nat.pow_lt_pow_right (by omega) (by omega)
  omega
theorem gs_loop {os : List Int} (ho : Digs os) (ht : Trim os) (hl : os.length ≤ 1900) : LoopTo (rdGr 1) (valGs os.length 0 63) (rowGs os) (.exit 0) (valGs os.length (grGo (fun x => decide (x * x ≤ valL os)) 64 0) (-1)) (rowGs os) := by
  have key := gr_loop (rd := rdGr 1) (val := valGs os.length) (R := rowGs os) (P := fun x => decide (x * x ≤ valL os)) (fun k a hk h => ?_) (fun n => ?_) 64 0 (by omega) (by omega)
  · exact key
  · obtain ⟨x0, x1⟩ := grX_fits h
    rw [gs_round, grX_val hk h]
    generalize ((2 ^ (k + 1) * a + 2 ^ k : Nat) : Int) = x at x0 x1 ⊢
    obtain ⟨d1, d2⟩ := grD_digs x0 x1
    have hc := grC_le x
    have hD : (grD x).length = 4 := rfl
    have hT := timesL_val d1 d1 0 (grC x) 0 (grC x)
    have hTl : (grTs x).length ≤ 9 := by
      unfold grTs
      rw [timesL_len]
      have := cutN_le (timesD (grD x) (grD x) 0 (grC x) 0 (grC x)) (grC x + grC x + 1)
      omega
    have hm := moreV_val (xs := grTs x) (ys := os) hT.2 ho (timesL_trim _ _ _ _ _ _) ht
    rw [show valL (grTs x) = x * x by unfold grTs; rw [hT.1, grF_val x0 x1]] at hm
    rw [decide_eq_true (show (k : Int) ≥ 0 by omega), show IntKind.u64.wrap (k : Int) = (k : Int) from u64_id (by omega) (by omega), decide_eq_false (show ¬ (k : Int) < 0 by omega), digsB_iff.2 d1, decide_eq_true (show 0 + grC x ≤ (grD x).length by omega), decide_eq_true (show grC x + grC x + 1 ≤ 2000 by omega), decide_eq_true (show 0 + (grTs x).length ≤ (grTs x).length by omega), decide_eq_true (show 0 + os.length ≤ os.length by omega), decide_eq_true (show (grTs x).length ≤ 9223372036854775807 by omega), hm, not_more, IntWalk.i64_in ((k : Int) - 1) (by omega)]
    simp only [Bool.not_false, Bool.and_self, cond_true]
    cases decide (x * x ≤ valL os) <;> rfl
  · rw [gs_round, decide_eq_false (by omega)]
    rfl
theorem gb_loop {bs os : List Int} (hb : Digs bs) (ho : Digs os) (ht : Trim os) (hl : os.length ≤ 1900) (hk2 : bs.length ≤ 1900) : LoopTo (rdGr 2) (valGb bs.length os.length 0 63) (rowGb bs os) (.exit 0) (valGb bs.length os.length (grGo (fun x => decide (x * valL bs ≤ valL os)) 64 0) (-1)) (rowGb bs os) := by
  have key := gr_loop (rd := rdGr 2) (val := valGb bs.length os.length) (R := rowGb bs os) (P := fun x => decide (x * valL bs ≤ valL os)) (fun k a hk h => ?_) (fun n => ?_) 64 0 (by omega) (by omega)
  · exact key
  · obtain ⟨x0, x1⟩ := grX_fits h
    rw [gb_round, grX_val hk h]
    generalize ((2 ^ (k + 1) * a + 2 ^ k : Nat) : Int) = x at x0 x1 ⊢
    obtain ⟨d1, d2⟩ := grD_digs x0 x1
    have hc := grC_le x
    have hD : (grD x).length = 4 := rfl
    have hT := timesL_val d1 hb 0 (grC x) 0 bs.length
    have hTl : (grTb x bs bs.length).length ≤ 1905 := by
      unfold grTb
      rw [timesL_len]
      have := cutN_le (timesD (grD x) bs 0 (grC x) 0 bs.length) (grC x + bs.length + 1)
      omega
    have hm := moreV_val (xs := grTb x bs bs.length) (ys := os) hT.2 ho (timesL_trim _ _ _ _ _ _) ht
    rw [show valL (grTb x bs bs.length) = x * valL bs by unfold grTb; rw [hT.1, grF_val x0 x1, valF_all]] at hm
    rw [decide_eq_true (show (k : Int) ≥ 0 by omega), show IntKind.u64.wrap (k : Int) = (k : Int) from u64_id (by omega) (by omega), decide_eq_false (show ¬ (k : Int) < 0 by omega), digsB_iff.2 d1, digsB_iff.2 hb, decide_eq_true (show 0 + grC x ≤ (grD x).length by omega), decide_eq_true (show 0 + bs.length ≤ bs.length by omega), decide_eq_true (show grC x + bs.length + 1 ≤ 2000 by omega), decide_eq_true (show 0 + (grTb x bs bs.length).length ≤ (grTb x bs bs.length).length by omega), decide_eq_true (show 0 + os.length ≤ os.length by omega), decide_eq_true (show (grTb x bs bs.length).length ≤ 9223372036854775807 by omega), hm, not_more, IntWalk.i64_in ((k : Int) - 1) (by omega)]
    simp only [Bool.not_false, Bool.and_self, cond_true]
    cases decide (x * valL bs ≤ valL os) <;> rfl
  · rw [gb_round, decide_eq_false (by omega)]
    rfl
def grOk (os : List Int) (lo : Nat) : Bool := (digsB os && trimB os) && (decide (lo = os.length) && decide (lo ≤ 1900))
theorem grOk_iff {os : List Int} {lo : Nat} : grOk os lo = true ↔ (Digs os ∧ Trim os) ∧ lo = os.length ∧ lo ≤ 1900 := by
  unfold grOk
  simp only [Bool.and_eq_true, decide_eq_true_eq, digsB_iff, trimB_iff]
def grVs (os : List Int) : Int := grGo (fun x => decide (x * x ≤ valL os)) 64 0
def grVb (bs os : List Int) : Int := grGo (fun x => decide (x * valL bs ≤ valL os)) 64 0
set_option maxHeartbeats 0 in
noncomputable def outGr (v : List SV) (R : List Row) (k : Ex → List SV → List Row → Option Res2) : Option Res2 := match v, R with
  | [.nils, .bool true, .slice 0 1 0 lo none, .int .u64 r, .int .u64 n, .int .i64 i], [.vec true .u64 os] =>
      bif ((decide (r = 0) && decide (n = 0)) && decide (i = 63)) && grOk os lo then k (.exit 0) (valGs lo (grVs os) (-1)) (rowGs os) else none
  | [.slice 0 1 0 lb none, .bool false, .slice 1 1 0 lo none, .int .u64 r, .int .u64 n, .int .i64 i], [.vec true .u64 bs, .vec true .u64 os] =>
      bif ((decide (r = 0) && decide (n = 0)) && decide (i = 63)) && (grOk os lo && (digsB bs && (decide (lb = bs.length) && decide (lb ≤ 1900)))) then k (.exit 0) (valGb lb lo (grVb bs os) (-1)) (rowGb bs os) else none
  | _, _ => none
set_option maxHeartbeats 0 in
theorem lpoGr_ok : LpOk 56 [0, 1, 0, 1, 1] (loopF 47 [0, 1, 2, 6, 7, 8] outGr) := by
  intro b hat s K r h
  refine loopF_ok (fuel := 100) xGr_ok lok_none hat (fun v R k r hr => ?_) h
  have hbody := at_body Try.func56 hat
  subst hbody
  unfold outGr at hr
  split at hr
  · rename_i lo r n i os
    obtain ⟨hb, hr2⟩ := cond_some hr
    simp only [Bool.and_eq_true, decide_eq_true_eq] at hb
    obtain ⟨⟨⟨rfl, rfl⟩, rfl⟩, hg⟩ := hb
    obtain ⟨⟨k1, k2⟩, rfl, k4⟩ := grOk_iff.1 hg
    exact ⟨_, _, _, hr2, gs_loop k1 k2 k4⟩
  · rename_i lb lo r n i bs os
    obtain ⟨hb, hr2⟩ := cond_some hr
    simp only [Bool.and_eq_true, decide_eq_true_eq] at hb
    obtain ⟨⟨⟨rfl, rfl⟩, rfl⟩, hg, k5, rfl, k7⟩ := hb
    obtain ⟨⟨k1, k2⟩, rfl, k4⟩ := grOk_iff.1 hg
    exact ⟨_, _, _, hr2, gb_loop (digsB_iff.1 k5) k1 k2 k4 k7⟩
  · cases hr
noncomputable def lpoGr : Lpo := ⟨_, _, _, lpoGr_ok⟩

set_option maxRecDepth 100000 in
set_option maxHeartbeats 0 in
theorem grs_tree (os : List Int) (lo : Nat) : runK xGr (loopOf [lpoGr]) 300 56 Try.f56 0 [.nils, .bool true, .slice 0 1 0 lo none] [.vec true .u64 os] =
  bif grOk os lo then some (SV.int IntKind.u64 (grVs os), []) else none := by kernel_rfl

set_option maxRecDepth 100000 in
set_option maxHeartbeats 0 in
theorem grb_tree (bs os : List Int) (lb lo : Nat) : runK xGr (loopOf [lpoGr]) 300 56 Try.f56 0 [.slice 0 1 0 lb none, .bool false, .slice 1 1 0 lo none] [.vec true .u64 bs, .vec true .u64 os] =
  bif grOk os lo && (digsB bs && (decide (lb = bs.length) && decide (lb ≤ 1900))) then some (SV.int IntKind.u64 (grVb bs os), []) else none := by kernel_rfl

def oGreat (args : List SV) (rows : List Row) : Option Eff :=
  match args with
  | [.nils, .bool true, .slice io 1 0 lo co] => match rows[io]? with
    | some (.vec _ .u64 os) => some { ok := grOk os lo, val := .int .u64 (grVs os), rd := [io] }
    | _ => none
  | [.slice ib 1 0 lb cb, .bool false, .slice io 1 0 lo co] => match rows[ib]?, rows[io]? with
    | some (.vec _ .u64 bs), some (.vec _ .u64 os) => some { ok := grOk os lo && (digsB bs && (decide (lb = bs.length) && decide (lb ≤ 1900))), val := .int .u64 (grVb bs os), rd := [ib, io] }
    | _, _ => none
  | _ => none
theorem oGreat_ok {args : List SV} {rows : List Row} {n : Nat} {e : Eff} (h : oGreat args rows = some e) (hok : e.ok = true) : FnOk Try.prog 56 args (rows[·]?) n e := by
  unfold oGreat at h
  split at h
  · rename_i io lo co
    split at h
    · rename_i ro os hrow
      cases h
      simp only at hok
      have hv := (grs_tree os lo).trans (bif_true hok rfl)
      obtain ⟨rows', hc, _⟩ := runK_ok xGr_ok loopOf_ok Try.func56 hv
      refine fnOk_weaken (args := [.nils, .bool true, .slice io 1 0 lo none]) ?_ fun ρ vs hv => ?_
      · refine fnOk_reads hc rfl (σ := [io]) rfl (fun i hi => by simp [SV.idsL, SV.ids] at hi; subst hi; simp) (fun i row hr => ?_)
        match i with
        | 0 => simp at hr; subst hr; exact ⟨.u64, os, ro, rfl, hrow⟩
        | i + 1 => simp at hr
      · rw [RelL] at hv ⊢
        obtain ⟨u, us, rfl, h6, h7⟩ := hv
        refine ⟨u, us, rfl, h6, ?_⟩
        rw [RelL] at h7 ⊢
        obtain ⟨u, us, rfl, h6, h7⟩ := h7
        refine ⟨u, us, rfl, h6, ?_⟩
        rw [RelL] at h7 ⊢
        obtain ⟨u, us, rfl, h6, h7⟩ := h7
        exact ⟨u, us, rfl, rel_nocap h6, h7⟩
    · cases h
  · rename_i ib lb cb io lo co
    split at h
    · rename_i rb bs ro os hbr hrow
      cases h
      simp only at hok
      have hv := (grb_tree bs os lb lo).trans (bif_true hok rfl)
      obtain ⟨rows', hc, _⟩ := runK_ok xGr_ok loopOf_ok Try.func56 hv
      refine fnOk_weaken (args := [.slice ib 1 0 lb none, .bool false, .slice io 1 0 lo none]) ?_ fun ρ vs hv => ?_
      · refine fnOk_reads hc rfl (σ := [ib, io]) rfl (fun i hi => by simp [SV.idsL, SV.ids] at hi; rcases hi with rfl | rfl <;> simp) (fun i row hr => ?_)
        match i with
        | 0 => simp at hr; subst hr; exact ⟨.u64, bs, rb, rfl, hbr⟩
        | 1 => simp at hr; subst hr; exact ⟨.u64, os, ro, rfl, hrow⟩
        | i + 2 => simp at hr
      · rw [RelL] at hv ⊢
        obtain ⟨u, us, rfl, h6, h7⟩ := hv
        refine ⟨u, us, rfl, rel_nocap h6, ?_⟩
        rw [RelL] at h7 ⊢
        obtain ⟨u, us, rfl, h6, h7⟩ := h7
        refine ⟨u, us, rfl, h6, ?_⟩
        rw [RelL] at h7 ⊢
        obtain ⟨u, us, rfl, h6, h7⟩ := h7
        exact ⟨u, us, rfl, rel_nocap h6, h7⟩
    · cases h
  · cases h
noncomputable def orcGreat : Orc := ⟨56, oGreat, fun _ _ _ h hok => oGreat_ok h hok, bodied Try.func56 (by kernel_rfl)⟩

end Go.Proofs.Ytegafbkjdkpfiaa
