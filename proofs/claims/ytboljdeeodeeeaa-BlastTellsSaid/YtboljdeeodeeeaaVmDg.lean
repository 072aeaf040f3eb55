/- The reference's digits: rounds of its loops. The reference's digits: Int as a contract, and what it says of the digits' value. The reference's digits: sum, less, more. The reference's digits: sum as a contract. The reference's digits: less. The reference's digits: more. The reference's digits: Plus, Add, Sub. The reference's digits: Add, Sub. The reference's digits: what sums and differences are worth. The reference's digits: what sums, differences and comparisons say. The reference's digits: Add and Sub are what they should be. The reference's numbers: Add, Sub as contracts; vectors. -/
import Derived.Test.YtboljdeeodeeeaaVmFh
import Derived.Test.YtboljdeeodeeeaaVmOra
namespace Go.Proofs.Ytboljdeeodeeeaa
set_option linter.unusedSimpArgs false
set_option linter.unusedVariables false
set_option maxRecDepth 100000
open Go.RowKit

noncomputable def xDg : Ctx := ctxOf [74, 75] []
theorem xDg_ok : COk Try.prog xDg := ctxOf_ok (by kernel_rfl)

def valIn (n i : Int) : List SV := [.ptr 1 0 0 0, .int .i64 0, .int .u64 n, .int .i64 i]
def rowIn (ds : List Int) (b : Bool) (off len : Nat) : List Row := [.vec true .u64 ds, .own [.bool b, .slice 0 1 off len none]]
noncomputable def rdIn : List SV → List Row → Option Res2 := roundS xDg (fun _ _ => none) 100 69 [0, 1, 0, 1, 1] (bodyAt Try.f69 [0, 1, 0, 1, 1]) 38 2 [1, 2, 3, 4]

set_option maxRecDepth 100000 in
set_option maxHeartbeats 0 in
theorem in_round (ds : List Int) (b : Bool) (off len : Nat) (n i : Int) : rdIn (valIn n i) (rowIn ds b off len) =
  bif decide (i ≥ 0) then
  bif decide (n ≥ 281474976710656) then
  bif b then
  some
  (SV.tuple [SV.nils, SV.tuple [SV.ptr 1 0 0 0, SV.int IntKind.i64 (-9223372036854775808), SV.int IntKind.u64 n, SV.int IntKind.i64 i]],
  [Row.vec true Knd.u64 ds, Row.own [SV.bool b, SV.slice 0 1 off len none]])
  else
  some
  (SV.tuple [SV.nils, SV.tuple [SV.ptr 1 0 0 0, SV.int IntKind.i64 9223372036854775807, SV.int IntKind.u64 n, SV.int IntKind.i64 i]],
  [Row.vec true Knd.u64 ds, Row.own [SV.bool b, SV.slice 0 1 off len none]])
  else
  bif decide (0 ≤ i) && decide (i < (↑len : Int)) then
  bif decide (off + i.toNat < ds.length) then
  some
  (SV.tuple
  [SV.nilp,
  SV.tuple
  [SV.ptr 1 0 0 0, SV.int IntKind.i64 0, SV.int IntKind.u64 (IntKind.u64.wrap (IntKind.u64.wrap (n * 65536) + ds.getD (off + i.toNat) Knd.u64.dflt)),
  SV.int IntKind.i64 (IntKind.i64.wrap (i - 1))]],
  [Row.vec true Knd.u64 ds, Row.own [SV.bool b, SV.slice 0 1 off len none]])
  else none
  else none
  else
  some
  (SV.tuple [SV.ptr 0 0 0 0, SV.tuple [SV.ptr 1 0 0 0, SV.int IntKind.i64 0, SV.int IntKind.u64 n, SV.int IntKind.i64 i]], [Row.vec true Knd.u64 ds, Row.own [SV.bool b, SV.slice 0 1 off len none]]) := by kernel_rfl

/-! Of: a number's digits. -/
noncomputable def rdOf : List SV → List Row → Option Res2 := roundS xDg (fun _ _ => none) 100 46 [0, 0, 1, 1] (bodyAt Try.f46 [0, 0, 1, 1]) 26 2 [0, 2, 3]
def valOf (n : Int) : List SV := [.int .i64 n, .ptr 0 0 0 0, .ptr 1 0 0 0]
def rowOf0 (b : Bool) : List Row := [.own [.bool false, .nils], .own [.bool b, .nils]]
def rowOf1 (b : Bool) (ds : List Int) (len : Nat) : List Row := [.own [.bool false, .nils], .own [.bool b, .slice 2 1 0 len none], .vec false .u64 ds]

set_option maxRecDepth 100000 in
set_option maxHeartbeats 0 in
theorem of_round0 (n : Int) (b : Bool) : rdOf (valOf n) (rowOf0 b) =
  bif n != 0 then
  bif decide (n.tmod 65536 < 0) then
  some
  (SV.tuple [SV.nilp, SV.tuple [SV.int IntKind.i64 (IntKind.i64.wrap (n.tdiv 65536)), SV.ptr 0 0 0 0, SV.ptr 1 0 0 0]],
  [Row.own [SV.bool false, SV.nils], Row.own [SV.bool b, SV.slice 2 Knd.u64.st 0 1 none], Row.vec false Knd.u64 [IntKind.u64.wrap (IntKind.i64.wrap (0 - n.tmod 65536))]])
  else
  some
  (SV.tuple [SV.nilp, SV.tuple [SV.int IntKind.i64 (IntKind.i64.wrap (n.tdiv 65536)), SV.ptr 0 0 0 0, SV.ptr 1 0 0 0]],
  [Row.own [SV.bool false, SV.nils], Row.own [SV.bool b, SV.slice 2 Knd.u64.st 0 1 none], Row.vec false Knd.u64 [IntKind.u64.wrap (n.tmod 65536)]])
  else some (SV.tuple [SV.ptr 0 0 0 0, SV.tuple [SV.int IntKind.i64 n, SV.ptr 0 0 0 0, SV.ptr 1 0 0 0]], [Row.own [SV.bool false, SV.nils], Row.own [SV.bool b, SV.nils]]) := by kernel_rfl

def grows (len : Nat) (ds : List Int) (d : Int) : Bool := decide (0 + 1 ≤ [d].length) && ((decide (0 < len) || (none : Option Nat).isSome) && (decide (len ≤ ds.length) && (decide (len + 1 ≤ 9223372036854775807) && decide ((len + 1) * 8 ≤ 140737488355328))))
set_option maxRecDepth 100000 in
set_option maxHeartbeats 0 in
theorem of_round1 (n : Int) (b : Bool) (ds : List Int) (len : Nat) : rdOf (valOf n) (rowOf1 b ds len) =
  bif n != 0 then
    bif decide (n.tmod 65536 < 0) then
      bif grows len ds (IntKind.u64.wrap (IntKind.i64.wrap (0 - n.tmod 65536))) then
        some (.tuple [.nilp, .tuple (valOf (IntKind.i64.wrap (n.tdiv 65536)))], rowOf1 b (ds.take len ++ [IntKind.u64.wrap (IntKind.i64.wrap (0 - n.tmod 65536))]) (len + 1))
      else none
    else
      bif grows len ds (IntKind.u64.wrap (n.tmod 65536)) then
        some (.tuple [.nilp, .tuple (valOf (IntKind.i64.wrap (n.tdiv 65536)))], rowOf1 b (ds.take len ++ [IntKind.u64.wrap (n.tmod 65536)]) (len + 1))
      else none
  else some (.tuple [.ptr 0 0 0 0, .tuple (valOf n)], rowOf1 b ds len) := by kernel_rfl

/-- The digits of a number, the lowest first (at most as many as the first argument). -/
def digs : Nat → Nat → List Int
  | 0, _ => []
  | k + 1, m => bif m != 0 then ((m % 65536 : Nat) : Int) :: digs k (m / 65536) else []
theorem u64_small {a : Int} (h1 : 0 ≤ a) (h2 : a < 65536) : IntKind.u64.wrap a = a := by
  unfold IntKind.wrap
  simp [IntKind.signed, IntKind.bits]
  omega
theorem digit_up {n : Int} (h : ¬ n.tmod 65536 < 0) : IntKind.u64.wrap (n.tmod 65536) = ((n.natAbs % 65536 : Nat) : Int) := by
  have h2 := Int.tmod_lt_of_pos n (show (0 : Int) < 65536 by omega)
  rw [u64_small (by omega) h2]
  have h3 : n.tmod 65536 = n.sign * ((n.natAbs % 65536 : Nat) : Int) := by
    rcases Int.le_total 0 n with hn | hn
    · rw [Int.tmod_eq_emod_of_nonneg hn]
      rcases Int.lt_or_eq_of_le hn with h4 | h4
      · rw [Int.sign_eq_one_of_pos h4]; omega
      · rw [← h4]; rfl
    · rcases Int.lt_or_eq_of_le hn with h4 | h4
      · rw [Int.sign_eq_neg_one_of_neg h4]
        have := Int.neg_tmod (-n) 65536
        rw [Int.neg_neg, Int.tmod_eq_emod_of_nonneg (a := -n) (b := 65536) (by omega)] at this
        rw [this]; omega
      · rw [h4]; rfl
  rcases Int.lt_trichotomy n 0 with h4 | h4 | h4
  · rw [Int.sign_eq_neg_one_of_neg h4] at h3; omega
  · subst h4; rfl
  · rw [Int.sign_eq_one_of_pos h4] at h3; omega
theorem digit_down {n : Int} (h : n.tmod 65536 < 0) : IntKind.u64.wrap (IntKind.i64.wrap (0 - n.tmod 65536)) = ((n.natAbs % 65536 : Nat) : Int) := by
  have h2 := Int.lt_tmod_of_pos n (show (0 : Int) < 65536 by omega)
  rw [IntWalk.i64_in (0 - n.tmod 65536) (by omega), u64_small (by omega) (by omega)]
  have hn : n < 0 := by
    rcases Int.lt_or_le n 0 with h4 | h4
    · exact h4
    · rw [Int.tmod_eq_emod_of_nonneg h4] at h; omega
  have := Int.neg_tmod (-n) 65536
  rw [Int.neg_neg, Int.tmod_eq_emod_of_nonneg (a := -n) (b := 65536) (by omega)] at this
  omega
theorem next_abs {n : Int} (h : In64 n) : IntKind.i64.wrap (n.tdiv 65536) = n.tdiv 65536 ∧ In64 (n.tdiv 65536) ∧ (n.tdiv 65536).natAbs = n.natAbs / 65536 := by
  unfold In64 at h ⊢
  rcases Int.le_total 0 n with hn | hn
  · rw [Int.tdiv_eq_ediv_of_nonneg hn]
    exact ⟨IntWalk.i64_in _ (by omega), by omega, by omega⟩
  · have := Int.neg_tdiv (-n) 65536
    rw [Int.neg_neg, Int.tdiv_eq_ediv_of_nonneg (a := -n) (b := 65536) (by omega)] at this
    rw [this]
    exact ⟨IntWalk.i64_in _ (by omega), by omega, by omega⟩
theorem grows_ok {len : Nat} {ds : List Int} {d : Int} (h : len = ds.length) (h1 : 0 < len) (h2 : len ≤ 1000) : grows len ds d = true := by
  unfold grows
  simp only [Bool.and_eq_true, Bool.or_eq_true, decide_eq_true_eq]
  exact ⟨by simp, .inl h1, by omega, by omega, by omega⟩
theorem of_loop1 {b : Bool} : ∀ (k : Nat) (n : Int) (ds : List Int) (len : Nat), len = ds.length → 0 < len → len + k ≤ 1000 → In64 n → n.natAbs < 65536 ^ k →
    LoopTo rdOf (valOf n) (rowOf1 b ds len) (.exit 0) (valOf 0) (rowOf1 b (ds ++ digs k n.natAbs) (ds ++ digs k n.natAbs).length)
  | 0, n, ds, len, h1, h2, h3, h4, h5 => by
    obtain rfl : n = 0 := by simp at h5; omega
    refine .done ?_ (by simp)
    rw [of_round1, h1]
    simp only [digs, List.append_nil]
    rfl
  | k + 1, n, ds, len, h1, h2, h3, h4, h5 => by
    by_cases h0 : n = 0
    · subst h0
      refine .done ?_ (by simp)
      rw [of_round1, h1]
      simp only [digs, Int.natAbs_zero, bne_self_eq_false, cond_false, List.append_nil]
      rfl
    · obtain ⟨e1, e2, e3⟩ := next_abs h4
      have hro := of_round1 n b ds len
      rw [show (n != 0) = true by simpa using h0, cond_true, e1] at hro
      have et : ds.take len = ds := by rw [h1]; exact List.take_length
      have hk : (n.tdiv 65536).natAbs < 65536 ^ k := by
        rw [e3]
        rw [Nat.pow_succ] at h5
        exact Nat.div_lt_of_lt_mul (by rw [Nat.mul_comm]; exact h5)
      have hd : digs (k + 1) n.natAbs = ((n.natAbs % 65536 : Nat) : Int) :: digs k (n.tdiv 65536).natAbs := by
        rw [e3]
        show (bif n.natAbs != 0 then _ else _) = _
        rw [show (n.natAbs != 0) = true by simpa using h0]
        rfl
      have ih := of_loop1 (b := b) k (n.tdiv 65536) (ds ++ [((n.natAbs % 65536 : Nat) : Int)]) (len + 1) (by simp [h1]) (by omega) (by omega) e2 hk
      rw [List.append_assoc, List.singleton_append, ← hd] at ih
      cases hs : decide (n.tmod 65536 < 0) with
      | true =>
        rw [hs, cond_true, grows_ok h1 h2 (by omega), cond_true, et, digit_down (of_decide_eq_true hs)] at hro
        exact .more hro ih
      | false =>
        rw [hs, cond_false, grows_ok h1 h2 (by omega), cond_true, et, digit_up (of_decide_eq_false hs)] at hro
        exact .more hro ih
theorem of_loop0 {b : Bool} {n : Int} (h : In64 n) (h0 : n ≠ 0) : LoopTo rdOf (valOf n) (rowOf0 b) (.exit 0) (valOf 0) (rowOf1 b (digs 5 n.natAbs) (digs 5 n.natAbs).length) := by
  obtain ⟨e1, e2, e3⟩ := next_abs h
  have hro := of_round0 n b
  rw [show (n != 0) = true by simpa using h0, cond_true, e1] at hro
  have hb : (n.tdiv 65536).natAbs < 65536 ^ 4 := by
    rw [e3]
    unfold In64 at h
    omega
  have hd : digs 5 n.natAbs = ((n.natAbs % 65536 : Nat) : Int) :: digs 4 (n.tdiv 65536).natAbs := by
    rw [e3]
    show (bif n.natAbs != 0 then _ else _) = _
    rw [show (n.natAbs != 0) = true by simpa using h0]
    rfl
  have ih := of_loop1 (b := b) 4 (n.tdiv 65536) [((n.natAbs % 65536 : Nat) : Int)] 1 rfl (by omega) (by omega) e2 hb
  rw [List.singleton_append, ← hd] at ih
  cases hs : decide (n.tmod 65536 < 0) with
  | true =>
    rw [hs, cond_true, digit_down (of_decide_eq_true hs)] at hro
    exact .more hro ih
  | false =>
    rw [hs, cond_false, digit_up (of_decide_eq_false hs)] at hro
    exact .more hro ih

set_option maxHeartbeats 0 in
noncomputable def outOf (v : List SV) (R : List Row) (k : Ex → List SV → List Row → Option Res2) : Option Res2 := match v, R with
  | [.int .i64 n, .ptr 0 0 0 0, .ptr 1 0 0 0], [.own [.bool false, .nils], .own [.bool b, .nils]] =>
      bif in64B n then (bif n == 0 then k (.exit 0) (valOf 0) (rowOf0 b) else k (.exit 0) (valOf 0) (rowOf1 b (digs 5 n.natAbs) (digs 5 n.natAbs).length)) else none
  | _, _ => none
set_option maxHeartbeats 0 in
theorem lpoOf_ok : LpOk 46 [0, 0, 1, 1] (loopF 26 [0, 2, 3] outOf) := by
  intro b hat s K r h
  refine loopF_ok (fuel := 100) xDg_ok lok_none hat (fun v R k r hr => ?_) h
  have hbody := at_body Try.func46 hat
  subst hbody
  unfold outOf at hr
  split at hr
  · rename_i n b
    obtain ⟨hb, hr2⟩ := cond_some hr
    rw [in64B_iff] at hb
    cases h0 : n == 0 with
    | true =>
      rw [h0, cond_true] at hr2
      have hn : n = 0 := by simpa using h0
      subst hn
      exact ⟨_, _, _, hr2, .done (by rw [show ([.own [.bool false, .nils], .own [.bool b, .nils]] : List Row) = rowOf0 b from rfl, show ([.int .i64 0, .ptr 0 0 0 0, .ptr 1 0 0 0] : List SV) = valOf 0 from rfl]; exact of_round0 0 b) (by simp)⟩
    | false =>
      rw [h0, cond_false] at hr2
      exact ⟨_, _, _, hr2, of_loop0 hb (by simpa using h0)⟩
  · cases hr
noncomputable def lpoOf : Lpo := ⟨_, _, _, lpoOf_ok⟩

set_option maxRecDepth 100000 in
set_option maxHeartbeats 0 in
theorem of_tree (n : Int) : runK xDg (loopOf [lpoOf]) 300 46 Try.f46 9 [.int .i64 n] [] =
  bif in64B n then
  bif n == 0 then some (SV.agg [SV.bool (decide (n < 0)), SV.nils], [Row.own [SV.bool (decide (n < 0)), SV.nils], Row.own [SV.bool (decide (n < 0)), SV.nils]])
  else
  some
  (SV.agg [SV.bool (decide (n < 0)), SV.slice 2 1 0 (digs 5 n.natAbs).length none],
  [Row.own [SV.bool (decide (n < 0)), SV.slice 2 1 0 (digs 5 n.natAbs).length none], Row.own [SV.bool (decide (n < 0)), SV.slice 2 1 0 (digs 5 n.natAbs).length none],
  Row.vec false Knd.u64
  (bif n.natAbs != 0 then
  (↑(n.natAbs % 65536) : Int) ::
  bif n.natAbs / 65536 != 0 then
  (↑(n.natAbs / 65536 % 65536) : Int) ::
  bif n.natAbs / 65536 / 65536 != 0 then
  (↑(n.natAbs / 65536 / 65536 % 65536) : Int) ::
  bif n.natAbs / 65536 / 65536 / 65536 != 0 then
  (↑(n.natAbs / 65536 / 65536 / 65536 % 65536) : Int) ::
  bif n.natAbs / 65536 / 65536 / 65536 / 65536 != 0 then [(↑(n.natAbs / 65536 / 65536 / 65536 / 65536 % 65536) : Int)] else []
  else []
  else []
  else []
  else [])])
  else none := by kernel_rfl

theorem of_val {n : Int} (h : in64B n = true) (h0 : (n == 0) = false) : runK xDg (loopOf [lpoOf]) 300 46 Try.f46 9 [.int .i64 n] [] =
    some (.agg [.bool (decide (n < 0)), .slice 2 1 0 (digs 5 n.natAbs).length none], [.own [.bool (decide (n < 0)), .slice 2 1 0 (digs 5 n.natAbs).length none], .own [.bool (decide (n < 0)), .slice 2 1 0 (digs 5 n.natAbs).length none], .vec false .u64 (digs 5 n.natAbs)]) := by
  rw [of_tree, h, h0]
  rfl
def oOf (args : List SV) (rows : List Row) : Option Eff :=
  match args with
  | [.int .i64 n] => some { ok := in64B n, val := .agg [.bool (decide (n < 0)), .slice rows.length 1 0 (digs 5 n.natAbs).length none], nw := [.vec true .u64 (digs 5 n.natAbs)] }
  | _ => none
theorem take_get {α : Type} {l : List α} {k i : Nat} {r : List α} (h : l.take k = r) (hi : i < k) : l[i]? = r[i]? := by
  rw [← h, List.getElem?_take, if_pos hi]
theorem oOf_ok {args : List SV} {rows : List Row} {e : Eff} (h : oOf args rows = some e) (hok : e.ok = true) : FnOk Try.prog 46 args (rows[·]?) rows.length e := by
  unfold oOf at h
  split at h
  · rename_i n
    cases h
    simp only at hok
    cases h0 : n == 0 with
    | true =>
      have hn : n = 0 := by simpa using h0
      subst hn
      obtain ⟨rows', hc, _⟩ := runK_ok xDg_ok loopOf_ok Try.func46 (of_tree 0)
      exact fnOk_fresh (C := fun s => .agg [.bool (decide ((0 : Int) < 0)), s]) (s0 := .nils) (ds := []) hc (round_big _) (σ := []) rfl (by simp [SV.idsL, SV.ids]) (fun i row h => by simp at h) (.inl ⟨rfl, rfl⟩)
    | false =>
      obtain ⟨rows', hc, ht⟩ := runK_ok xDg_ok loopOf_ok Try.func46 (of_val hok h0)
      exact fnOk_fresh (C := fun s => .agg [.bool (decide (n < 0)), s]) (s0 := .slice 2 1 0 (digs 5 n.natAbs).length none) (ds := digs 5 n.natAbs) hc (round_big _) (σ := []) rfl (by simp [SV.idsL, SV.ids]) (fun i row h => by simp at h) (.inr ⟨2, 0, none, false, digs 5 n.natAbs, rfl, by simp, by rw [take_get ht (by omega)]; rfl, fun i _ => by rw [Nat.zero_add]⟩)
  · cases h
noncomputable def orcOf : Orc := ⟨46, oOf, fun _ _ _ h hok => oOf_ok h hok, bodied Try.func46 (by kernel_rfl)⟩

/-! Int: a number of digits, saturated. -/
def intGo (ds : List Int) (off : Nat) : Nat → Int → Bool × Int × Int
  | 0, n => (false, n, -1)
  | k + 1, n => bif decide (n ≥ 281474976710656) then (true, n, k) else intGo ds off k (IntKind.u64.wrap (IntKind.u64.wrap (n * 65536) + ds.getD (off + k) Knd.u64.dflt))
theorem in_loop {ds : List Int} {b : Bool} {off len : Nat} (hl : off + len ≤ ds.length) (h64 : len ≤ 9223372036854775807) : ∀ (k : Nat) (n : Int), k ≤ len →
    ((intGo ds off k n).1 = true → LoopTo rdIn (valIn n ((k : Int) - 1)) (rowIn ds b off len) .ret [.ptr 1 0 0 0, .int .i64 (bif b then -9223372036854775808 else 9223372036854775807), .int .u64 (intGo ds off k n).2.1, .int .i64 (intGo ds off k n).2.2] (rowIn ds b off len)) ∧
    ((intGo ds off k n).1 = false → LoopTo rdIn (valIn n ((k : Int) - 1)) (rowIn ds b off len) (.exit 0) (valIn (intGo ds off k n).2.1 (-1)) (rowIn ds b off len))
  | 0, n, hk => by
    refine ⟨fun h => by simp [intGo] at h, fun _ => .done ?_ (by simp)⟩
    rw [in_round, decide_eq_false (by omega), cond_false]
    rfl
  | k + 1, n, hk => by
    have hro := in_round ds b off len n (((k + 1 : Nat) : Int) - 1)
    have e1 : (((k + 1 : Nat) : Int) - 1) = (k : Int) := by omega
    rw [e1] at hro ⊢
    have e2 : ((k : Int)).toNat = k := by omega
    rw [decide_eq_true (show (k : Int) ≥ 0 by omega), cond_true, e2, decide_eq_true (show (k : Int) < (len : Int) by omega), decide_eq_true (show off + k < ds.length by omega), IntWalk.i64_in ((k : Int) - 1) (by omega)] at hro
    simp only [Bool.and_true, cond_true] at hro
    unfold intGo
    cases hc : decide (n ≥ 281474976710656) with
    | true =>
      rw [hc, cond_true] at hro
      simp only [cond_true]
      refine ⟨fun _ => ?_, fun h => by simp at h⟩
      cases b
      · exact .done hro (by simp)
      · exact .done hro (by simp)
    | false =>
      rw [hc, cond_false] at hro
      simp only [cond_false]
      have ih := in_loop (b := b) hl h64 k (IntKind.u64.wrap (IntKind.u64.wrap (n * 65536) + ds.getD (off + k) Knd.u64.dflt)) (by omega)
      exact ⟨fun h => .more hro (ih.1 h), fun h => .more hro (ih.2 h)⟩
set_option maxHeartbeats 0 in
noncomputable def outIn (v : List SV) (R : List Row) (k : Ex → List SV → List Row → Option Res2) : Option Res2 := match v, R with
  | [.ptr 1 0 0 0, .int .i64 z, .int .u64 n, .int .i64 i], [.vec true .u64 ds, .own [.bool b, .slice 0 1 off len none]] =>
      bif decide (z = 0) && (decide (i = (len : Int) - 1) && (decide (off + len ≤ ds.length) && decide (len ≤ 9223372036854775807))) then
        (bif (intGo ds off len n).1 then k .ret [.ptr 1 0 0 0, .int .i64 (bif b then -9223372036854775808 else 9223372036854775807), .int .u64 (intGo ds off len n).2.1, .int .i64 (intGo ds off len n).2.2] (rowIn ds b off len)
        else k (.exit 0) (valIn (intGo ds off len n).2.1 (-1)) (rowIn ds b off len)) else none
  | _, _ => none
set_option maxHeartbeats 0 in
theorem lpoIn_ok : LpOk 69 [0, 1, 0, 1, 1] (loopF 38 [1, 2, 3, 4] outIn) := by
  intro b hat s K r h
  refine loopF_ok (fuel := 100) xDg_ok lok_none hat (fun v R k r hr => ?_) h
  have hbody := at_body Try.func69 hat
  subst hbody
  unfold outIn at hr
  split at hr
  · rename_i z n i ds b off len
    obtain ⟨hb, hr2⟩ := cond_some hr
    simp only [Bool.and_eq_true, decide_eq_true_eq] at hb
    obtain ⟨h1, h2, h3, h4⟩ := hb
    subst h1 h2
    have hl := in_loop (b := b) h3 h4 len n (Nat.le_refl _)
    cases hq : (intGo ds off len n).1 with
    | true =>
      rw [hq, cond_true] at hr2
      exact ⟨_, _, _, hr2, hl.1 hq⟩
    | false =>
      rw [hq, cond_false] at hr2
      exact ⟨_, _, _, hr2, hl.2 hq⟩
  · cases hr
noncomputable def lpoIn : Lpo := ⟨_, _, _, lpoIn_ok⟩

set_option maxRecDepth 100000 in
set_option maxHeartbeats 0 in
theorem in_tree (ds : List Int) (b : Bool) (off len : Nat) : runK xDg (loopOf [lpoIn]) 300 69 Try.f69 0 [.agg [.bool b, .slice 0 1 off len none]] [.vec true .u64 ds] =
  bif decide (IntKind.i64.wrap ((↑len : Int) - 1) = (↑len : Int) - 1) && (decide (off + len ≤ ds.length) && decide (len ≤ 9223372036854775807)) then
  bif (intGo ds off len 0).fst then some (SV.int IntKind.i64 (bif b then -9223372036854775808 else 9223372036854775807), [])
  else
  bif decide ((intGo ds off len 0).snd.fst > 9223372036854775807) then bif b then some (SV.int IntKind.i64 (-9223372036854775808), []) else some (SV.int IntKind.i64 9223372036854775807, [])
  else
  bif b then some (SV.int IntKind.i64 (IntKind.i64.wrap (0 - IntKind.i64.wrap (intGo ds off len 0).snd.fst)), []) else some (SV.int IntKind.i64 (IntKind.i64.wrap (intGo ds off len 0).snd.fst), [])
  else none := by kernel_rfl

end Go.Proofs.Ytboljdeeodeeeaa

namespace Go.Proofs.Ytboljdeeodeeeaa
set_option linter.unusedSimpArgs false
set_option linter.unusedVariables false
set_option maxRecDepth 100000
open Go.RowKit

/-- The value of digits: as many as the first number says, from the second one on. -/
def valF (f : Nat → Int) : Nat → Nat → Int
  | 0, _ => 0
  | m + 1, i => f i + 65536 * valF f m (i + 1)
def dig (ds : List Int) (off : Nat) (i : Nat) : Int := ds.getD (off + i) 0
def Digs (ds : List Int) : Prop := ∀ d ∈ ds, 0 ≤ d ∧ d < 65536
theorem dig_in {ds : List Int} (h : Digs ds) (off i : Nat) : 0 ≤ dig ds off i ∧ dig ds off i < 65536 := by
  unfold dig
  rw [List.getD_eq_getElem?_getD]
  cases hg : ds[off + i]? with
  | none => simp
  | some d => exact h d (List.mem_of_getElem? hg)
theorem valF_nonneg {f : Nat → Int} (hf : ∀ i, 0 ≤ f i ∧ f i < 65536) : ∀ m i, 0 ≤ valF f m i
  | 0, _ => Int.le_refl _
  | m + 1, i => by
    have := valF_nonneg hf m (i + 1)
    have := (hf i).1
    unfold valF
    omega
theorem valF_tail {f : Nat → Int} (hf : ∀ i, 0 ≤ f i ∧ f i < 65536) : ∀ (k m i : Nat), valF f m (i + k) ≤ valF f (m + k) i
  | 0, m, i => Int.le_refl _
  | k + 1, m, i => by
    have h1 := valF_tail hf k m (i + 1)
    have h2 := valF_nonneg hf (m + k) (i + 1)
    have h3 := (hf i).1
    have e : valF f (m + (k + 1)) i = f i + 65536 * valF f (m + k) (i + 1) := rfl
    rw [e, show i + (k + 1) = i + 1 + k by omega]
    omega
theorem u64_in {a : Int} (h1 : 0 ≤ a) (h2 : a < 18446744073709551616) : IntKind.u64.wrap a = a := by
  unfold IntKind.wrap
  simp [IntKind.signed, IntKind.bits]
  omega
theorem in_plain {ds : List Int} {off len : Nat} (h : Digs ds) : ∀ (k : Nat) (n : Int), k ≤ len → n = valF (dig ds off) (len - k) k →
    ((intGo ds off k n).1 = true → 18446744073709551616 ≤ valF (dig ds off) len 0) ∧ ((intGo ds off k n).1 = false → (intGo ds off k n).2.1 = valF (dig ds off) len 0)
  | 0, n, hk, hn => ⟨fun h => by simp [intGo] at h, fun _ => hn⟩
  | k + 1, n, hk, hn => by
    have hd := dig_in h off k
    have e : valF (dig ds off) (len - k) k = dig ds off k + 65536 * n := by
      rw [hn, show len - k = (len - (k + 1)) + 1 by omega]
      rfl
    unfold intGo
    by_cases hc : n ≥ 281474976710656
    · rw [decide_eq_true hc]
      simp only [cond_true]
      refine ⟨fun _ => ?_, fun h => by simp at h⟩
      have := valF_tail (dig_in h off) k (len - k) 0
      rw [Nat.zero_add, e, show len - k + k = len by omega] at this
      omega
    · rw [decide_eq_false hc]
      simp only [cond_false]
      have n0 : 0 ≤ n := by rw [hn]; exact valF_nonneg (dig_in h off) _ _
      rw [u64_in (a := n * 65536) (by omega) (by omega), show ds.getD (off + k) Knd.u64.dflt = dig ds off k from rfl, u64_in (by omega) (by omega)]
      exact in_plain h k _ (by omega) (by rw [e]; omega)
/-- A number of digits with a sign, saturated. -/
def bigN (b : Bool) (v : Int) : Int := cut64 (bif b then -v else v)
theorem in_val {ds : List Int} {b : Bool} {off len : Nat} (h : Digs ds) (hl : off + len ≤ ds.length) (h64 : len ≤ 9223372036854775807) :
    runK xDg (loopOf [lpoIn]) 300 69 Try.f69 0 [.agg [.bool b, .slice 0 1 off len none]] [.vec true .u64 ds] = some (.int .i64 (bigN b (valF (dig ds off) len 0)), []) := by
  rw [in_tree, decide_eq_true (show IntKind.i64.wrap ((len : Int) - 1) = (len : Int) - 1 from IntWalk.i64_in _ (by omega)), decide_eq_true hl, decide_eq_true h64]
  simp only [Bool.and_true, cond_true]
  obtain ⟨p1, p2⟩ := in_plain h len 0 (Nat.le_refl _) (by rw [Nat.sub_self]; rfl) (off := off)
  have p0 := valF_nonneg (dig_in h off) len 0
  unfold bigN
  cases hq : (intGo ds off len 0).1 with
  | true =>
    have := p1 hq
    simp only [cond_true]
    cases b
    · simp only [cond_false]; unfold cut64; congr 3; omega
    · simp only [cond_true]; unfold cut64; congr 3; omega
  | false =>
    rw [p2 hq]
    simp only [cond_false]
    generalize valF (dig ds off) len 0 = V at p0
    by_cases hV : V > 9223372036854775807
    · rw [decide_eq_true hV, cond_true]
      cases b
      · simp only [cond_false]; unfold cut64; congr 3; omega
      · simp only [cond_true]; unfold cut64; congr 3; omega
    · rw [decide_eq_false hV, cond_false, IntWalk.i64_in V (by omega), IntWalk.i64_in (0 - V) (by omega)]
      cases b
      · simp only [cond_false]; unfold cut64; congr 3; omega
      · simp only [cond_true]; unfold cut64; congr 3; omega

def digsB (ds : List Int) : Bool := ds.all fun d => decide (0 ≤ d) && decide (d < 65536)
theorem digsB_iff {ds : List Int} : digsB ds = true ↔ Digs ds := by
  unfold digsB Digs
  rw [List.all_eq_true]
  simp only [Bool.and_eq_true, decide_eq_true_eq]
def oIntD (args : List SV) (rows : List Row) : Option Eff :=
  match args with
  | [.agg [.bool b, .slice id 1 off len none]] => match rows[id]? with
    | some (.vec _ .u64 ds) => some { ok := digsB ds && (decide (off + len ≤ ds.length) && decide (len ≤ 9223372036854775807)), val := .int .i64 (bigN b (valF (dig ds off) len 0)), rd := [id] }
    | _ => none
  | _ => none
theorem oIntD_ok {args : List SV} {rows : List Row} {n : Nat} {e : Eff} (h : oIntD args rows = some e) (hok : e.ok = true) : FnOk Try.prog 69 args (rows[·]?) n e := by
  unfold oIntD at h
  split at h
  · rename_i b id off len
    split at h
    · rename_i ro ds hrow
      cases h
      simp only [Bool.and_eq_true, decide_eq_true_eq, digsB_iff] at hok
      obtain ⟨h1, h2, h3⟩ := hok
      obtain ⟨rows', hc, _⟩ := runK_ok xDg_ok loopOf_ok Try.func69 (in_val (b := b) (digsB_iff.1 h1) h2 h3)
      refine fnOk_reads hc rfl (σ := [id]) rfl (fun i hi => by simp [SV.idsL, SV.ids] at hi; subst hi; simp) (fun i row hr => ?_)
      match i with
      | 0 => simp at hr; subst hr; exact ⟨.u64, ds, ro, rfl, hrow⟩
      | i + 1 => simp at hr
    · cases h
  · cases h
noncomputable def orcIntD : Orc := ⟨69, oIntD, fun _ _ _ h hok => oIntD_ok h hok, bodied Try.func69 (by kernel_rfl)⟩

/-! What Of's digits are worth. -/
theorem digs_in : ∀ (k m : Nat), Digs (digs k m)
  | 0, _ => by unfold Digs digs; simp
  | k + 1, m => by
    unfold digs
    cases m != 0
    · unfold Digs; simp
    · have ih := digs_in k (m / 65536)
      intro d hd
      rcases List.mem_cons.1 hd with rfl | hd
      · omega
      · exact ih d hd
def valL : List Int → Int
  | [] => 0
  | d :: l => d + 65536 * valL l
theorem valF_list : ∀ (ds : List Int) (m i : Nat), m + i = ds.length → valF (dig ds 0) m i = valL (ds.drop i)
  | ds, 0, i, h => by rw [List.drop_eq_nil_of_le (by omega)]; rfl
  | ds, m + 1, i, h => by
    have hi : i < ds.length := by omega
    rw [List.drop_eq_getElem_cons hi]
    unfold valF valL
    rw [valF_list ds m (i + 1) (by omega)]
    congr 1
    unfold dig
    rw [Nat.zero_add, List.getD_eq_getElem?_getD, List.getElem?_eq_getElem hi]
    rfl
theorem valF_all (ds : List Int) : valF (dig ds 0) ds.length 0 = valL ds := by
  rw [valF_list ds ds.length 0 (by omega)]
  rfl
theorem valL_digs : ∀ (k m : Nat), m < 65536 ^ k → valL (digs k m) = m
  | 0, m, h => by simp at h; subst h; rfl
  | k + 1, m, h => by
    unfold digs
    by_cases h0 : m = 0
    · subst h0; rfl
    · rw [show (m != 0) = true by simpa using h0]
      simp only [cond_true]
      unfold valL
      rw [valL_digs k (m / 65536) (by rw [Nat.pow_succ] at h; exact Nat.div_lt_of_lt_mul (by rw [Nat.mul_comm]; exact h))]
      omega

end Go.Proofs.Ytboljdeeodeeeaa

namespace Go.Proofs.Ytboljdeeodeeeaa
set_option linter.unusedSimpArgs false
set_option linter.unusedVariables false
set_option maxRecDepth 100000
open Go.RowKit

/-! cut: without noughts at the end. -/
noncomputable def rdCu : List SV → List Row → Option Res2 := roundS xDg (fun _ _ => none) 100 68 [0, 0, 1, 1] (bodyAt Try.f68 [0, 0, 1, 1]) 21 1 [0, 2, 3]
def valCu (la : Nat) (n : Int) : List SV := [.slice 0 1 0 la none, .nils, .int .i64 n]
def rowCu (xs : List Int) : List Row := [.vec false .u64 xs]

set_option maxRecDepth 100000 in
set_option maxHeartbeats 0 in
theorem cu_round (xs : List Int) (la : Nat) (n : Int) : rdCu (valCu la n) (rowCu xs) =
  bif
  (decide (0 ≤ IntKind.i64.wrap (n - 1)) && decide (IntKind.i64.wrap (n - 1) < (↑la : Int)) && (decide (0 + (IntKind.i64.wrap (n - 1)).toNat < xs.length) && true) && true ||
  decide (n > 0) != true) &&
  (true || decide (n > 0) == true) &&
  true then
  bif bif decide (n > 0) == true then xs.getD (0 + (IntKind.i64.wrap (n - 1)).toNat) Knd.u64.dflt == 0 else false then
  some (SV.tuple [SV.nilp, SV.tuple [SV.slice 0 1 0 la none, SV.nils, SV.int IntKind.i64 (IntKind.i64.wrap (n - 1))]], [Row.vec false Knd.u64 xs])
  else some (SV.tuple [SV.ptr 0 0 0 0, SV.tuple [SV.slice 0 1 0 la none, SV.nils, SV.int IntKind.i64 n]], [Row.vec false Knd.u64 xs])
  else none := by kernel_rfl

def cutN (xs : List Int) : Nat → Nat
  | 0 => 0
  | k + 1 => bif xs.getD (0 + k) Knd.u64.dflt == 0 then cutN xs k else k + 1
theorem cutN_le (xs : List Int) : ∀ k, cutN xs k ≤ k
  | 0 => Nat.le_refl _
  | k + 1 => by
    unfold cutN
    have := cutN_le xs k
    cases xs.getD (0 + k) Knd.u64.dflt == 0
    · exact Nat.le_refl _
    · simp only [cond_true]; omega
theorem cu_loop {xs : List Int} {la : Nat} (hl : la ≤ xs.length) (h64 : la ≤ 9223372036854775807) : ∀ (k : Nat), k ≤ la → LoopTo rdCu (valCu la k) (rowCu xs) (.exit 0) (valCu la (cutN xs k : Nat)) (rowCu xs)
  | 0, hk => by
    refine .done ?_ (by simp)
    rw [cu_round]
    rfl
  | k + 1, hk => by
    have hro := cu_round xs la ((k + 1 : Nat) : Int)
    have e1 : (((k + 1 : Nat) : Int) - 1) = (k : Int) := by omega
    have e2 : ((k : Int)).toNat = k := by omega
    rw [e1, IntWalk.i64_in (k : Int) (by omega), e2, decide_eq_true (show (0 : Int) ≤ (k : Int) by omega), decide_eq_true (show (k : Int) < (la : Int) by omega), decide_eq_true (show 0 + k < xs.length by omega), decide_eq_true (show ((k + 1 : Nat) : Int) > 0 by omega)] at hro
    simp only [Bool.and_true, Bool.true_or, cond_true, beq_self_eq_true] at hro
    unfold cutN
    cases hc : xs.getD (0 + k) Knd.u64.dflt == 0 with
    | true =>
      rw [hc, cond_true] at hro
      simp only [cond_true]
      exact .more hro (cu_loop hl h64 k (by omega))
    | false =>
      rw [hc, cond_false] at hro
      simp only [cond_false]
      exact .done hro (by simp)
set_option maxHeartbeats 0 in
noncomputable def outCu (v : List SV) (R : List Row) (k : Ex → List SV → List Row → Option Res2) : Option Res2 := match v, R with
  | [.slice 0 1 0 la none, .nils, .int .i64 n], [.vec false .u64 xs] =>
      bif decide (n = (la : Int)) && (decide (la ≤ xs.length) && decide (la ≤ 9223372036854775807)) then k (.exit 0) (valCu la (cutN xs la : Nat)) (rowCu xs) else none
  | _, _ => none
set_option maxHeartbeats 0 in
theorem lpoCu_ok : LpOk 68 [0, 0, 1, 1] (loopF 21 [0, 2, 3] outCu) := by
  intro b hat s K r h
  refine loopF_ok (fuel := 100) xDg_ok lok_none hat (fun v R k r hr => ?_) h
  have hbody := at_body Try.func68 hat
  subst hbody
  unfold outCu at hr
  split at hr
  · rename_i la n xs
    obtain ⟨hb, hr2⟩ := cond_some hr
    simp only [Bool.and_eq_true, decide_eq_true_eq] at hb
    obtain ⟨h1, h3, h4⟩ := hb
    subst h1
    exact ⟨_, _, _, hr2, cu_loop h3 h4 la (Nat.le_refl _)⟩
  · cases hr
noncomputable def lpoCu : Lpo := ⟨_, _, _, lpoCu_ok⟩

set_option maxRecDepth 100000 in
set_option maxHeartbeats 0 in
theorem cu_tree (xs : List Int) (la : Nat) : runK xDg (loopOf [lpoCu]) 300 68 Try.f68 9 [.slice 0 1 0 la none] [.vec false .u64 xs] =
  bif decide ((↑la : Int) = (↑la : Int)) && (decide (la ≤ xs.length) && decide (la ≤ 9223372036854775807)) then
  bif decide (0 ≤ (↑(cutN xs la) : Int)) && decide ((↑(cutN xs la) : Int) ≤ (↑(capOr none la) : Int)) then some (SV.slice 0 1 0 (↑(cutN xs la) : Int).toNat none, [Row.vec false Knd.u64 xs]) else none
  else none := by kernel_rfl

theorem cu_val {xs : List Int} {la : Nat} (h1 : la ≤ xs.length) (h2 : la ≤ 9223372036854775807) : runK xDg (loopOf [lpoCu]) 300 68 Try.f68 9 [.slice 0 1 0 la none] [.vec false .u64 xs] = some (.slice 0 1 0 (cutN xs la) none, [.vec false .u64 xs]) := by
  have hn := cutN_le xs la
  rw [cu_tree, decide_eq_true (show (la : Int) = (la : Int) from rfl), decide_eq_true h1, decide_eq_true h2, show capOr none la = la from rfl, decide_eq_true (show (0 : Int) ≤ ((cutN xs la : Nat) : Int) by omega), decide_eq_true (show ((cutN xs la : Nat) : Int) ≤ ((la : Nat) : Int) by omega)]
  rfl
def oCutD (args : List SV) (rows : List Row) : Option Eff :=
  match args with
  | [.slice id 1 0 la none] => match rows[id]? with
    | some (.vec false .u64 xs) => some { ok := decide (la ≤ xs.length) && decide (la ≤ 9223372036854775807), val := .slice id 1 0 (cutN xs la) none, rd := [id], wr := [(id, .vec false .u64 xs)] }
    | _ => none
  | _ => none
theorem oCutD_ok {args : List SV} {rows : List Row} {e : Eff} (h : oCutD args rows = some e) (hok : e.ok = true) : FnOk Try.prog 68 args (rows[·]?) rows.length e := by
  unfold oCutD at h
  split at h
  · rename_i id la
    split at h
    · rename_i xs hrow
      cases h
      simp only [Bool.and_eq_true, decide_eq_true_eq] at hok
      obtain ⟨h1, h2⟩ := hok
      obtain ⟨rows', hc, ht⟩ := runK_ok xDg_ok loopOf_ok Try.func68 (cu_val (xs := xs) h1 h2)
      have hr' : rows' = [.vec false .u64 xs] := by
        have hl := congrArg List.length ht
        rw [List.length_take] at hl
        simp only [List.length_cons, List.length_nil] at hl
        rw [List.take_of_length_le (by omega)] at ht
        exact ht
      subst hr'
      have l1 := (List.getElem?_eq_some_iff.1 hrow).1
      refine fnOk_ren hc (σ := [id]) (n := rows.length) (W := [(id, .vec false .u64 xs)]) rfl ?_ ?_ ?_ ?_ ?_ ?_ ?_
      · simp
      · intro j hj
        simp at hj
        subst hj
        exact l1
      · intro i hi
        simp [SV.idsL, SV.ids] at hi
        subst hi
        simp
      · intro i row hr j hj
        match i, hr with
        | 0, hr => simp at hr; subst hr; simp [Row.idsR] at hj
        | i + 1, hr => simp at hr
      · intro i row hr
        match i, hr with
        | 0, hr => simp at hr; subst hr; exact ⟨_, hrow, fun h => h, fun _ _ h => h⟩
        | i + 1, hr => simp at hr
      · intro i row hr _
        match i, hr with
        | 0, hr => exact .inr ⟨_, rfl, List.mem_cons_self ..⟩
        | i + 1, hr => simp at hr
      · intro x hx
        simp only [List.mem_cons, List.not_mem_nil, or_false] at hx
        subst hx
        exact ⟨0, _, by simp, rfl, rfl⟩
    · cases h
  · cases h
noncomputable def orcCutD : Orc := ⟨68, oCutD, fun _ _ _ h hok => oCutD_ok h hok, bodied Try.func68 (by kernel_rfl)⟩

/-! at: a digit, 0 beyond. -/
set_option maxRecDepth 100000 in
set_option maxHeartbeats 0 in
theorem at_tree (ds : List Int) (off len : Nat) (i : Int) : runK xDg (fun _ _ => none) 300 74 Try.f74 0 [.slice 0 1 off len none, .int .i64 i] [.vec true .u64 ds] =
  bif decide (i < (↑len : Int)) then
  bif decide (0 ≤ i) && decide (i < (↑len : Int)) then bif decide (off + i.toNat < ds.length) then some (SV.int IntKind.u64 (ds.getD (off + i.toNat) Knd.u64.dflt), []) else none else none
  else some (SV.int IntKind.u64 0, []) := by kernel_rfl

def atD (ds : List Int) (off len : Nat) (i : Int) : Int := bif decide (i < (len : Int)) then ds.getD (off + i.toNat) Knd.u64.dflt else 0
theorem at_val {ds : List Int} {off len : Nat} {i : Int} (h0 : decide (0 ≤ i) = true) (hl : decide (off + len ≤ ds.length) = true) : runK xDg (fun _ _ => none) 300 74 Try.f74 0 [.slice 0 1 off len none, .int .i64 i] [.vec true .u64 ds] = some (.int .u64 (atD ds off len i), []) := by
  rw [at_tree, h0]
  unfold atD
  rw [decide_eq_true_eq] at h0 hl
  cases hc : decide (i < (len : Int)) with
  | true =>
    have := of_decide_eq_true hc
    simp only [cond_true, Bool.true_and]
    rw [decide_eq_true (show off + i.toNat < ds.length by omega)]
    rfl
  | false => rfl
def oAtD (args : List SV) (rows : List Row) : Option Eff :=
  match args with
  | [.slice id 1 off len none, .int .i64 i] => match rows[id]? with
    | some (.vec _ .u64 ds) => some { ok := decide (0 ≤ i) && decide (off + len ≤ ds.length), val := .int .u64 (atD ds off len i), rd := [id] }
    | _ => none
  | _ => none
theorem oAtD_ok {args : List SV} {rows : List Row} {n : Nat} {e : Eff} (h : oAtD args rows = some e) (hok : e.ok = true) : FnOk Try.prog 74 args (rows[·]?) n e := by
  unfold oAtD at h
  split at h
  · rename_i id off len i
    split at h
    · rename_i ro ds hrow
      cases h
      rw [Bool.and_eq_true] at hok
      obtain ⟨rows', hc, _⟩ := runK_ok xDg_ok lok_none Try.func74 (at_val (ds := ds) hok.1 hok.2)
      refine fnOk_reads hc rfl (σ := [id]) rfl (fun i hi => by simp [SV.idsL, SV.ids] at hi; subst hi; simp) (fun i row hr => ?_)
      match i with
      | 0 => simp at hr; subst hr; exact ⟨.u64, ds, ro, rfl, hrow⟩
      | i + 1 => simp at hr
    · cases h
  · cases h
noncomputable def orcAtD : Orc := ⟨74, oAtD, fun _ _ _ h hok => oAtD_ok h hok, bodied Try.func74 (by kernel_rfl)⟩

/-! sum: rounds. -/
noncomputable def xDs : Ctx := ctxOf [] [orcAtD, orcCutD]
theorem xDs_ok : COk Try.prog xDs := ctxOf_ok (by kernel_rfl)
noncomputable def rdSu : List SV → List Row → Option Res2 := roundS xDs (fun _ _ => none) 100 65 [0, 1, 0, 1, 1, 1] (bodyAt Try.f65 [0, 1, 0, 1, 1, 1]) 38 3 [0, 1, 4, 5, 6, 7]
def valSu0 (oa la ob lb : Nat) (c i : Int) : List SV := [.slice 0 1 oa la none, .slice 1 1 ob lb none, .nils, .slice 2 1 0 0 (some 0), .int .u64 c, .int .i64 i]
def valSu (oa la ob lb k : Nat) (c i : Int) : List SV := [.slice 0 1 oa la none, .slice 1 1 ob lb none, .nils, .slice 3 1 0 k none, .int .u64 c, .int .i64 i]
def rowSu0 (xs ys : List Int) : List Row := [.vec true .u64 xs, .vec true .u64 ys, .vec false .u64 []]
def rowSu (xs ys ds : List Int) : List Row := [.vec true .u64 xs, .vec true .u64 ys, .gone, .vec false .u64 ds]

set_option maxRecDepth 100000 in
set_option maxHeartbeats 0 in
theorem su_round0 (xs ys : List Int) (oa la ob lb : Nat) (c i : Int) : rdSu (valSu0 oa la ob lb c i) (rowSu0 xs ys) =
  bif decide (i < IntKind.i64.wrap (max (↑la : Int) (↑lb : Int) + 1)) then
  bif decide (0 ≤ i) && decide (oa + la ≤ xs.length) then
  bif decide (0 ≤ i) && decide (ob + lb ≤ ys.length) then
  some
  (SV.tuple
  [SV.nilp,
  SV.tuple
  [SV.slice 0 1 oa la none, SV.slice 1 1 ob lb none, SV.nils, SV.slice 3 Knd.u64.st 0 (0 + 1) none,
  SV.int IntKind.u64 (IntKind.u64.wrap ((IntKind.u64.wrap (IntKind.u64.wrap (atD xs oa la i + atD ys ob lb i) + c)).tdiv 65536)), SV.int IntKind.i64 (IntKind.i64.wrap (i + 1))]],
  [Row.vec true Knd.u64 xs, Row.vec true Knd.u64 ys, Row.gone, Row.vec false Knd.u64 [(IntKind.u64.wrap (IntKind.u64.wrap (atD xs oa la i + atD ys ob lb i) + c)).tmod 65536]])
  else none
  else none
  else
  some
  (SV.tuple [SV.ptr 0 0 0 0, SV.tuple [SV.slice 0 1 oa la none, SV.slice 1 1 ob lb none, SV.nils, SV.slice 2 1 0 0 (some 0), SV.int IntKind.u64 c, SV.int IntKind.i64 i]],
  [Row.vec true Knd.u64 xs, Row.vec true Knd.u64 ys, Row.vec false Knd.u64 []]) := by kernel_rfl

def growsU (k : Nat) (ds : List Int) (d : Int) : Bool := decide (0 + 1 ≤ [d].length) && ((decide (0 < k) || (none : Option Nat).isSome) && (decide (k ≤ ds.length) && (decide (k + 1 ≤ 9223372036854775807) && decide ((k + 1) * 8 ≤ 140737488355328))))
set_option maxRecDepth 100000 in
set_option maxHeartbeats 0 in
theorem su_round1 (xs ys ds : List Int) (oa la ob lb k : Nat) (c i : Int) : rdSu (valSu oa la ob lb k c i) (rowSu xs ys ds) =
  bif decide (i < IntKind.i64.wrap (max (la : Int) (lb : Int) + 1)) then
    bif decide (0 ≤ i) && decide (oa + la ≤ xs.length) then
      bif decide (0 ≤ i) && decide (ob + lb ≤ ys.length) then
        bif growsU k ds ((IntKind.u64.wrap (IntKind.u64.wrap (atD xs oa la i + atD ys ob lb i) + c)).tmod 65536) then
          some (.tuple [.nilp, .tuple (valSu oa la ob lb (k + 1) (IntKind.u64.wrap ((IntKind.u64.wrap (IntKind.u64.wrap (atD xs oa la i + atD ys ob lb i) + c)).tdiv 65536)) (IntKind.i64.wrap (i + 1)))],
            rowSu xs ys (ds.take k ++ [(IntKind.u64.wrap (IntKind.u64.wrap (atD xs oa la i + atD ys ob lb i) + c)).tmod 65536]))
        else none
      else none
    else none
  else some (.tuple [.ptr 0 0 0 0, .tuple (valSu oa la ob lb k c i)], rowSu xs ys ds) := by kernel_rfl
theorem growsU_ok {k : Nat} {ds : List Int} {d : Int} (h : k = ds.length) (h1 : 0 < k) (h2 : k ≤ 10000) : growsU k ds d = true := by
  unfold growsU
  simp only [Bool.and_eq_true, Bool.or_eq_true, decide_eq_true_eq]
  exact ⟨by simp, .inl h1, by omega, by omega, by omega⟩

/-- The digits of a sum, and what is carried. -/
def sumGo (f g : Nat → Int) : Nat → Nat → Int → List Int
  | 0, _, _ => []
  | k + 1, i, c => (f i + g i + c) % 65536 :: sumGo f g k (i + 1) ((f i + g i + c) / 65536)
def sumC (f g : Nat → Int) : Nat → Nat → Int → Int
  | 0, _, c => c
  | k + 1, i, c => sumC f g k (i + 1) ((f i + g i + c) / 65536)
def atF (ds : List Int) (off len : Nat) (i : Nat) : Int := atD ds off len i
theorem atF_in {ds : List Int} (h : Digs ds) (off len i : Nat) : 0 ≤ atF ds off len i ∧ atF ds off len i < 65536 := by
  unfold atF atD
  cases decide ((i : Int) < (len : Int))
  · simp
  · exact dig_in h off ((i : Int)).toNat
section
variable {xs ys : List Int} {oa la ob lb : Nat}
theorem su_step (hx : Digs xs) (hy : Digs ys) {i : Nat} {c : Int} (hc : 0 ≤ c ∧ c ≤ 1) :
    (IntKind.u64.wrap (IntKind.u64.wrap (atD xs oa la i + atD ys ob lb i) + c)).tmod 65536 = (atF xs oa la i + atF ys ob lb i + c) % 65536 ∧
    IntKind.u64.wrap ((IntKind.u64.wrap (IntKind.u64.wrap (atD xs oa la i + atD ys ob lb i) + c)).tdiv 65536) = (atF xs oa la i + atF ys ob lb i + c) / 65536 ∧ 0 ≤ (atF xs oa la i + atF ys ob lb i + c) / 65536 ∧ (atF xs oa la i + atF ys ob lb i + c) / 65536 ≤ 1 := by
  have h1 := atF_in hx oa la i
  have h2 := atF_in hy ob lb i
  rw [show atD xs oa la i = atF xs oa la i from rfl, show atD ys ob lb i = atF ys ob lb i from rfl]
  generalize atF xs oa la i = A at h1 ⊢
  generalize atF ys ob lb i = B at h2 ⊢
  rw [u64_in (a := A + B) (by omega) (by omega), u64_in (a := A + B + c) (by omega) (by omega), Int.tmod_eq_emod_of_nonneg (by omega), Int.tdiv_eq_ediv_of_nonneg (by omega), u64_in (by omega) (by omega)]
  exact ⟨rfl, rfl, by omega, by omega⟩
theorem su_loop1 (hx : Digs xs) (hy : Digs ys) (ha : oa + la ≤ xs.length) (hb : ob + lb ≤ ys.length) {M : Nat} (hM : M = max la lb + 1) (hM2 : M ≤ 1000) : ∀ (k i : Nat) (c : Int) (ds : List Int), ds.length = i → 0 < i → i + k = M → 0 ≤ c ∧ c ≤ 1 →
    LoopTo rdSu (valSu oa la ob lb i c i) (rowSu xs ys ds) (.exit 0) (valSu oa la ob lb M (sumC (atF xs oa la) (atF ys ob lb) k i c) M) (rowSu xs ys (ds ++ sumGo (atF xs oa la) (atF ys ob lb) k i c))
  | 0, i, c, ds, h1, h2, h3, h4 => by
    obtain rfl : i = M := by omega
    refine .done ?_ (by simp)
    rw [su_round1, IntWalk.i64_in (max (la : Int) (lb : Int) + 1) (by omega), decide_eq_false (by omega), cond_false]
    simp only [sumGo, List.append_nil]
    rfl
  | k + 1, i, c, ds, h1, h2, h3, h4 => by
    obtain ⟨e1, e2, e3, e4⟩ := su_step (oa := oa) (la := la) (ob := ob) (lb := lb) (i := i) hx hy h4
    have hro := su_round1 xs ys ds oa la ob lb i c i
    rw [IntWalk.i64_in (max (la : Int) (lb : Int) + 1) (by omega), decide_eq_true (show (i : Int) < max (la : Int) (lb : Int) + 1 by omega), decide_eq_true (show (0 : Int) ≤ (i : Int) by omega), decide_eq_true ha, decide_eq_true hb, growsU_ok h1.symm h2 (by omega), e1, e2, IntWalk.i64_in ((i : Int) + 1) (by omega)] at hro
    simp only [Bool.and_self, cond_true] at hro
    have et : ds.take i = ds := by rw [← h1]; exact List.take_length
    rw [et] at hro
    have ih := su_loop1 hx hy ha hb hM hM2 k (i + 1) ((atF xs oa la i + atF ys ob lb i + c) / 65536) (ds ++ [(atF xs oa la i + atF ys ob lb i + c) % 65536]) (by simp [h1]) (by omega) (by omega) ⟨e3, e4⟩
    rw [List.append_assoc, List.singleton_append] at ih
    exact .more hro ih
theorem su_loop0 (hx : Digs xs) (hy : Digs ys) (ha : oa + la ≤ xs.length) (hb : ob + lb ≤ ys.length) {M : Nat} (hM : M = max la lb + 1) (hM2 : M ≤ 1000) :
    LoopTo rdSu (valSu0 oa la ob lb 0 0) (rowSu0 xs ys) (.exit 0) (valSu oa la ob lb M (sumC (atF xs oa la) (atF ys ob lb) M 0 0) M) (rowSu xs ys (sumGo (atF xs oa la) (atF ys ob lb) M 0 0)) := by
  obtain ⟨e1, e2, e3, e4⟩ := su_step (oa := oa) (la := la) (ob := ob) (lb := lb) (i := 0) (c := 0) hx hy (by omega)
  have hro := su_round0 xs ys oa la ob lb 0 0
  rw [IntWalk.i64_in (max (la : Int) (lb : Int) + 1) (by omega), decide_eq_true (show (0 : Int) < max (la : Int) (lb : Int) + 1 by omega), decide_eq_true (show (0 : Int) ≤ 0 by omega), decide_eq_true ha, decide_eq_true hb] at hro
  simp only [Bool.and_self, cond_true] at hro
  rw [show ((0 : Nat) : Int) = 0 from rfl] at e1 e2
  rw [e1, e2] at hro
  obtain ⟨k, rfl⟩ : ∃ k, M = k + 1 := ⟨M - 1, by omega⟩
  have ih := su_loop1 hx hy ha hb hM hM2 k 1 ((atF xs oa la 0 + atF ys ob lb 0 + 0) / 65536) [(atF xs oa la 0 + atF ys ob lb 0 + 0) % 65536] rfl (by omega) (by omega) ⟨e3, e4⟩
  rw [List.singleton_append] at ih
  exact .more hro ih
end

end Go.Proofs.Ytboljdeeodeeeaa

namespace Go.Proofs.Ytboljdeeodeeeaa
set_option linter.unusedSimpArgs false
set_option linter.unusedVariables false
set_option maxRecDepth 100000
open Go.RowKit

set_option maxHeartbeats 0 in
noncomputable def outSu (v : List SV) (R : List Row) (k : Ex → List SV → List Row → Option Res2) : Option Res2 := match v, R with
  | [.slice 0 1 oa la none, .slice 1 1 ob lb none, .nils, .slice 2 1 0 0 (some 0), .int .u64 c, .int .i64 i], [.vec true .u64 xs, .vec true .u64 ys, .vec false .u64 zs] =>
      bif (decide (c = 0) && (decide (i = 0) && zs.isEmpty)) && ((digsB xs && digsB ys) && ((decide (oa + la ≤ xs.length) && decide (ob + lb ≤ ys.length)) && decide (max la lb + 1 ≤ 1000))) then
        k (.exit 0) (valSu oa la ob lb (max la lb + 1) (sumC (atF xs oa la) (atF ys ob lb) (max la lb + 1) 0 0) (max la lb + 1 : Nat)) (rowSu xs ys (sumGo (atF xs oa la) (atF ys ob lb) (max la lb + 1) 0 0)) else none
  | _, _ => none
set_option maxHeartbeats 0 in
theorem lpoSu_ok : LpOk 65 [0, 1, 0, 1, 1, 1] (loopF 38 [0, 1, 4, 5, 6, 7] outSu) := by
  intro b hat s K r h
  refine loopF_ok (fuel := 100) xDs_ok lok_none hat (fun v R k r hr => ?_) h
  have hbody := at_body Try.func65 hat
  subst hbody
  unfold outSu at hr
  split at hr
  · rename_i oa la ob lb c i xs ys zs
    obtain ⟨hb, hr2⟩ := cond_some hr
    simp only [Bool.and_eq_true, decide_eq_true_eq] at hb
    obtain ⟨⟨h1, h2, h3⟩, ⟨h4, h5⟩, ⟨h6, h7⟩, h8⟩ := hb
    subst h1 h2
    rcases zs with _ | ⟨z, zs⟩
    · exact ⟨_, _, _, hr2, su_loop0 (digsB_iff.1 h4) (digsB_iff.1 h5) h6 h7 rfl h8⟩
    · cases h3
  · cases hr
noncomputable def lpoSu : Lpo := ⟨_, _, _, lpoSu_ok⟩

def sumD (xs ys : List Int) (oa la ob lb : Nat) : List Int := sumGo (atF xs oa la) (atF ys ob lb) (max la lb + 1) 0 0
set_option maxRecDepth 100000 in
set_option maxHeartbeats 0 in
theorem su_tree (xs ys : List Int) (oa la ob lb : Nat) : runK xDs (loopOf [lpoSu]) 300 65 Try.f65 9 [.slice 0 1 oa la none, .slice 1 1 ob lb none] [.vec true .u64 xs, .vec true .u64 ys] =
  bif (digsB xs && digsB ys) && ((decide (oa + la ≤ xs.length) && decide (ob + lb ≤ ys.length)) && decide (max la lb + 1 ≤ 1000)) then
    bif decide (max la lb + 1 ≤ (sumD xs ys oa la ob lb).length) && decide (max la lb + 1 ≤ 9223372036854775807) then
      some (.slice 3 1 0 (cutN (sumD xs ys oa la ob lb) (max la lb + 1)) none, [.vec true .u64 xs, .vec true .u64 ys, .gone, .vec false .u64 (sumD xs ys oa la ob lb)])
    else none
  else none := by kernel_rfl
theorem sumGo_len (f g : Nat → Int) : ∀ (k i : Nat) (c : Int), (sumGo f g k i c).length = k
  | 0, _, _ => rfl
  | k + 1, i, c => by unfold sumGo; rw [List.length_cons, sumGo_len]
/-- The digits of a sum, without noughts at the end. -/
def sumL (xs ys : List Int) (oa la ob lb : Nat) : List Int := (sumD xs ys oa la ob lb).take (cutN (sumD xs ys oa la ob lb) (max la lb + 1))
theorem sumL_len (xs ys : List Int) (oa la ob lb : Nat) : (sumL xs ys oa la ob lb).length = cutN (sumD xs ys oa la ob lb) (max la lb + 1) := by
  unfold sumL
  rw [List.length_take, show (sumD xs ys oa la ob lb).length = max la lb + 1 from sumGo_len _ _ _ _ _]
  have := cutN_le (sumD xs ys oa la ob lb) (max la lb + 1)
  omega
theorem sumL_get (xs ys : List Int) (oa la ob lb : Nat) {i : Nat} (hi : i < (sumL xs ys oa la ob lb).length) : (sumD xs ys oa la ob lb)[0 + i]? = (sumL xs ys oa la ob lb)[i]? := by
  rw [Nat.zero_add]
  rw [sumL_len] at hi
  unfold sumL
  rw [List.getElem?_take, if_pos hi]
theorem su_val {xs ys : List Int} {oa la ob lb : Nat} (hx : digsB xs = true) (hy : digsB ys = true) (ha : oa + la ≤ xs.length) (hb : ob + lb ≤ ys.length) (hM : max la lb + 1 ≤ 1000) :
    runK xDs (loopOf [lpoSu]) 300 65 Try.f65 9 [.slice 0 1 oa la none, .slice 1 1 ob lb none] [.vec true .u64 xs, .vec true .u64 ys] =
      some (.slice 3 1 0 (sumL xs ys oa la ob lb).length none, [.vec true .u64 xs, .vec true .u64 ys, .gone, .vec false .u64 (sumD xs ys oa la ob lb)]) := by
  rw [su_tree, hx, hy, decide_eq_true ha, decide_eq_true hb, decide_eq_true hM, sumL_len, show (sumD xs ys oa la ob lb).length = max la lb + 1 from sumGo_len _ _ _ _ _, decide_eq_true (Nat.le_refl _), decide_eq_true (show max la lb + 1 ≤ 9223372036854775807 by omega)]
  rfl
def oSumD (args : List SV) (rows : List Row) : Option Eff :=
  match args with
  | [.slice ia 1 oa la none, .slice ib 1 ob lb none] => match rows[ia]?, rows[ib]? with
    | some (.vec _ .u64 xs), some (.vec _ .u64 ys) => some { ok := (digsB xs && digsB ys) && ((decide (oa + la ≤ xs.length) && decide (ob + lb ≤ ys.length)) && decide (max la lb + 1 ≤ 1000)), val := .slice rows.length 1 0 (sumL xs ys oa la ob lb).length none, rd := [ia, ib], nw := [.vec true .u64 (sumL xs ys oa la ob lb)] }
    | _, _ => none
  | _ => none
theorem oSumD_ok {args : List SV} {rows : List Row} {e : Eff} (h : oSumD args rows = some e) (hok : e.ok = true) : FnOk Try.prog 65 args (rows[·]?) rows.length e := by
  unfold oSumD at h
  split at h
  · rename_i ia oa la ib ob lb
    split at h
    · rename_i ra xs rb ys hxr hyr
      cases h
      simp only [Bool.and_eq_true, decide_eq_true_eq] at hok
      obtain ⟨⟨h1, h2⟩, ⟨h3, h4⟩, h5⟩ := hok
      obtain ⟨rows', hc, ht⟩ := runK_ok xDs_ok loopOf_ok Try.func65 (su_val (xs := xs) (ys := ys) h1 h2 h3 h4 h5)
      refine fnOk_fresh (C := fun s => s) (s0 := .slice 3 1 0 (sumL xs ys oa la ob lb).length none) (ds := sumL xs ys oa la ob lb) hc round_id (σ := [ia, ib]) rfl (fun i hi => by simp [SV.idsL, SV.ids] at hi; rcases hi with rfl | rfl <;> simp) (fun i row hr => ?_) (.inr ⟨3, 0, none, false, sumD xs ys oa la ob lb, rfl, by simp, by rw [take_get ht (by omega)]; rfl, fun i hi => ?_⟩)
      · match i with
        | 0 => simp at hr; subst hr; exact ⟨.u64, xs, ra, rfl, hxr⟩
        | 1 => simp at hr; subst hr; exact ⟨.u64, ys, rb, rfl, hyr⟩
        | i + 2 => simp at hr
      · exact sumL_get xs ys oa la ob lb hi
    · cases h
  · cases h
noncomputable def orcSumD : Orc := ⟨65, oSumD, fun _ _ _ h hok => oSumD_ok h hok, bodied Try.func65 (by kernel_rfl)⟩

end Go.Proofs.Ytboljdeeodeeeaa

namespace Go.Proofs.Ytboljdeeodeeeaa
set_option linter.unusedSimpArgs false
set_option linter.unusedVariables false
set_option maxRecDepth 100000
open Go.RowKit

theorem cut_empty : runK xDg (fun _ _ => none) 300 68 Try.f68 9 [.slice 0 1 0 0 (some 0)] [.vec false .u64 []] = some (.slice 0 1 0 0 (some 0), [.vec false .u64 []]) := by kernel_rfl
def oCutE (args : List SV) (rows : List Row) : Option Eff :=
  match args with
  | [.slice id 1 0 la (some c)] => bif Nat.beq la 0 && Nat.beq c 0 then (match rows[id]? with
    | some (.vec false .u64 []) => some { val := .slice id 1 0 0 (some 0), rd := [id], wr := [(id, .vec false .u64 [])] }
    | _ => none) else none
  | _ => oCutD args rows
theorem oCutE_ok {args : List SV} {rows : List Row} {e : Eff} (h : oCutE args rows = some e) (hok : e.ok = true) : FnOk Try.prog 68 args (rows[·]?) rows.length e := by
  unfold oCutE at h
  split at h
  · rename_i id la c
    obtain ⟨hb, h⟩ := cond_some h
    rw [Bool.and_eq_true] at hb
    have hb1 := Nat.eq_of_beq_eq_true hb.1
    have hb2 := Nat.eq_of_beq_eq_true hb.2
    subst hb1 hb2
    split at h
    · rename_i hrow
      cases h
      obtain ⟨rows', hc, ht⟩ := runK_ok xDg_ok lok_none Try.func68 cut_empty
      have hr' : rows' = [.vec false .u64 []] := by
        have hl := congrArg List.length ht
        rw [List.length_take] at hl
        simp only [List.length_cons, List.length_nil] at hl
        rw [List.take_of_length_le (by omega)] at ht
        exact ht
      subst hr'
      have l1 := (List.getElem?_eq_some_iff.1 hrow).1
      refine fnOk_ren hc (σ := [id]) (n := rows.length) (W := [(id, .vec false .u64 [])]) rfl ?_ ?_ ?_ ?_ ?_ ?_ ?_
      · simp
      · intro j hj
        simp at hj
        subst hj
        exact l1
      · intro i hi
        simp [SV.idsL, SV.ids] at hi
        subst hi
        simp
      · intro i row hr j hj
        match i, hr with
        | 0, hr => simp at hr; subst hr; simp [Row.idsR] at hj
        | i + 1, hr => simp at hr
      · intro i row hr
        match i, hr with
        | 0, hr => simp at hr; subst hr; exact ⟨_, hrow, fun h => h, fun _ _ h => h⟩
        | i + 1, hr => simp at hr
      · intro i row hr _
        match i, hr with
        | 0, hr => exact .inr ⟨_, rfl, List.mem_cons_self ..⟩
        | i + 1, hr => simp at hr
      · intro x hx
        simp only [List.mem_cons, List.not_mem_nil, or_false] at hx
        subst hx
        exact ⟨0, _, by simp, rfl, rfl⟩
    · cases h
  · exact oCutD_ok h hok
noncomputable def orcCutE : Orc := ⟨68, oCutE, fun _ _ _ h hok => oCutE_ok h hok, bodied Try.func68 (by kernel_rfl)⟩

noncomputable def xDl : Ctx := ctxOf [] [orcAtD, orcCutE]
theorem xDl_ok : COk Try.prog xDl := ctxOf_ok (by kernel_rfl)
noncomputable def rdLe : List SV → List Row → Option Res2 := roundS xDl (fun _ _ => none) 100 67 [0, 1, 0, 1, 1, 1] (bodyAt Try.f67 [0, 1, 0, 1, 1, 1]) 36 3 [0, 1, 4, 5, 6, 7]

set_option maxRecDepth 100000 in
set_option maxHeartbeats 0 in
theorem le_round0 (xs ys : List Int) (oa la ob lb : Nat) (c i : Int) : rdLe (valSu0 oa la ob lb c i) (rowSu0 xs ys) =
  bif decide (i < (↑la : Int)) then
  bif decide (0 ≤ i) && decide (oa + la ≤ xs.length) then
  bif decide (0 ≤ i) && decide (ob + lb ≤ ys.length) then
  some
  (SV.tuple
  [SV.nilp,
  SV.tuple
  [SV.slice 0 1 oa la none, SV.slice 1 1 ob lb none, SV.nils, SV.slice 3 Knd.u64.st 0 (0 + 1) none,
  SV.int IntKind.u64 (IntKind.u64.wrap (1 - IntKind.u64.wrap ((IntKind.u64.wrap (IntKind.u64.wrap (IntKind.u64.wrap (atD xs oa la i + 65536) - atD ys ob lb i) - c)).tdiv 65536))),
  SV.int IntKind.i64 (IntKind.i64.wrap (i + 1))]],
  [Row.vec true Knd.u64 xs, Row.vec true Knd.u64 ys, Row.gone,
  Row.vec false Knd.u64 [(IntKind.u64.wrap (IntKind.u64.wrap (IntKind.u64.wrap (atD xs oa la i + 65536) - atD ys ob lb i) - c)).tmod 65536]])
  else none
  else none
  else
  some
  (SV.tuple [SV.ptr 0 0 0 0, SV.tuple [SV.slice 0 1 oa la none, SV.slice 1 1 ob lb none, SV.nils, SV.slice 2 1 0 0 (some 0), SV.int IntKind.u64 c, SV.int IntKind.i64 i]],
  [Row.vec true Knd.u64 xs, Row.vec true Knd.u64 ys, Row.vec false Knd.u64 []]) := by kernel_rfl

set_option maxRecDepth 100000 in
set_option maxHeartbeats 0 in
theorem le_round1 (xs ys ds : List Int) (oa la ob lb k : Nat) (c i : Int) : rdLe (valSu oa la ob lb k c i) (rowSu xs ys ds) =
  bif decide (i < (la : Int)) then
    bif decide (0 ≤ i) && decide (oa + la ≤ xs.length) then
      bif decide (0 ≤ i) && decide (ob + lb ≤ ys.length) then
        bif growsU k ds ((IntKind.u64.wrap (IntKind.u64.wrap (IntKind.u64.wrap (atD xs oa la i + 65536) - atD ys ob lb i) - c)).tmod 65536) then
          some (.tuple [.nilp, .tuple (valSu oa la ob lb (k + 1) (IntKind.u64.wrap (1 - IntKind.u64.wrap ((IntKind.u64.wrap (IntKind.u64.wrap (IntKind.u64.wrap (atD xs oa la i + 65536) - atD ys ob lb i) - c)).tdiv 65536))) (IntKind.i64.wrap (i + 1)))],
            rowSu xs ys (ds.take k ++ [(IntKind.u64.wrap (IntKind.u64.wrap (IntKind.u64.wrap (atD xs oa la i + 65536) - atD ys ob lb i) - c)).tmod 65536]))
        else none
      else none
    else none
  else some (.tuple [.ptr 0 0 0 0, .tuple (valSu oa la ob lb k c i)], rowSu xs ys ds) := by kernel_rfl

/-- The digits of a difference, and what is borrowed. -/
def lessGo (f g : Nat → Int) : Nat → Nat → Int → List Int
  | 0, _, _ => []
  | k + 1, i, c => (f i + 65536 - g i - c) % 65536 :: lessGo f g k (i + 1) (1 - (f i + 65536 - g i - c) / 65536)
def lessC (f g : Nat → Int) : Nat → Nat → Int → Int
  | 0, _, c => c
  | k + 1, i, c => lessC f g k (i + 1) (1 - (f i + 65536 - g i - c) / 65536)
section
variable {xs ys : List Int} {oa la ob lb : Nat}
theorem le_step (hx : Digs xs) (hy : Digs ys) {i : Nat} {c : Int} (hc : 0 ≤ c ∧ c ≤ 1) :
    (IntKind.u64.wrap (IntKind.u64.wrap (IntKind.u64.wrap (atD xs oa la i + 65536) - atD ys ob lb i) - c)).tmod 65536 = (atF xs oa la i + 65536 - atF ys ob lb i - c) % 65536 ∧
    IntKind.u64.wrap (1 - IntKind.u64.wrap ((IntKind.u64.wrap (IntKind.u64.wrap (IntKind.u64.wrap (atD xs oa la i + 65536) - atD ys ob lb i) - c)).tdiv 65536)) = 1 - (atF xs oa la i + 65536 - atF ys ob lb i - c) / 65536 ∧ 0 ≤ 1 - (atF xs oa la i + 65536 - atF ys ob lb i - c) / 65536 ∧ 1 - (atF xs oa la i + 65536 - atF ys ob lb i - c) / 65536 ≤ 1 := by
  have h1 := atF_in hx oa la i
  have h2 := atF_in hy ob lb i
  rw [show atD xs oa la i = atF xs oa la i from rfl, show atD ys ob lb i = atF ys ob lb i from rfl]
  generalize atF xs oa la i = A at h1 ⊢
  generalize atF ys ob lb i = B at h2 ⊢
  rw [u64_in (a := A + 65536) (by omega) (by omega), u64_in (a := A + 65536 - B) (by omega) (by omega), u64_in (a := A + 65536 - B - c) (by omega) (by omega), Int.tmod_eq_emod_of_nonneg (by omega), Int.tdiv_eq_ediv_of_nonneg (by omega), u64_in (a := (A + 65536 - B - c) / 65536) (by omega) (by omega), u64_in (by omega) (by omega)]
  exact ⟨rfl, rfl, by omega, by omega⟩
theorem le_loop1 (hx : Digs xs) (hy : Digs ys) (ha : oa + la ≤ xs.length) (hb : ob + lb ≤ ys.length) (hM2 : la ≤ 1000) : ∀ (k i : Nat) (c : Int) (ds : List Int), ds.length = i → 0 < i → i + k = la → 0 ≤ c ∧ c ≤ 1 →
    LoopTo rdLe (valSu oa la ob lb i c i) (rowSu xs ys ds) (.exit 0) (valSu oa la ob lb la (lessC (atF xs oa la) (atF ys ob lb) k i c) la) (rowSu xs ys (ds ++ lessGo (atF xs oa la) (atF ys ob lb) k i c))
  | 0, i, c, ds, h1, h2, h3, h4 => by
    obtain rfl : i = la := by omega
    refine .done ?_ (by simp)
    rw [le_round1, decide_eq_false (by omega), cond_false]
    simp only [lessGo, List.append_nil]
    rfl
  | k + 1, i, c, ds, h1, h2, h3, h4 => by
    obtain ⟨e1, e2, e3, e4⟩ := le_step (oa := oa) (la := la) (ob := ob) (lb := lb) (i := i) hx hy h4
    have hro := le_round1 xs ys ds oa la ob lb i c i
    rw [decide_eq_true (show (i : Int) < (la : Int) by omega), decide_eq_true (show (0 : Int) ≤ (i : Int) by omega), decide_eq_true ha, decide_eq_true hb, growsU_ok h1.symm h2 (by omega), e1, e2, IntWalk.i64_in ((i : Int) + 1) (by omega)] at hro
    simp only [Bool.and_self, cond_true] at hro
    have et : ds.take i = ds := by rw [← h1]; exact List.take_length
    rw [et] at hro
    have ih := le_loop1 hx hy ha hb hM2 k (i + 1) (1 - (atF xs oa la i + 65536 - atF ys ob lb i - c) / 65536) (ds ++ [(atF xs oa la i + 65536 - atF ys ob lb i - c) % 65536]) (by simp [h1]) (by omega) (by omega) ⟨e3, e4⟩
    rw [List.append_assoc, List.singleton_append] at ih
    exact .more hro ih
theorem le_loop0 (hx : Digs xs) (hy : Digs ys) (ha : oa + la ≤ xs.length) (hb : ob + lb ≤ ys.length) (h0 : 0 < la) (hM2 : la ≤ 1000) :
    LoopTo rdLe (valSu0 oa la ob lb 0 0) (rowSu0 xs ys) (.exit 0) (valSu oa la ob lb la (lessC (atF xs oa la) (atF ys ob lb) la 0 0) la) (rowSu xs ys (lessGo (atF xs oa la) (atF ys ob lb) la 0 0)) := by
  obtain ⟨e1, e2, e3, e4⟩ := le_step (oa := oa) (la := la) (ob := ob) (lb := lb) (i := 0) (c := 0) hx hy (by omega)
  have hro := le_round0 xs ys oa la ob lb 0 0
  rw [decide_eq_true (show (0 : Int) < (la : Int) by omega), decide_eq_true (show (0 : Int) ≤ 0 by omega), decide_eq_true ha, decide_eq_true hb] at hro
  simp only [Bool.and_self, cond_true] at hro
  rw [show ((0 : Nat) : Int) = 0 from rfl] at e1 e2
  rw [e1, e2] at hro
  have key : ∀ k, la = k + 1 → LoopTo rdLe (valSu oa la ob lb 1 (1 - (atF xs oa la 0 + 65536 - atF ys ob lb 0 - 0) / 65536) 1) (rowSu xs ys [(atF xs oa la 0 + 65536 - atF ys ob lb 0 - 0) % 65536]) (.exit 0) (valSu oa la ob lb la (lessC (atF xs oa la) (atF ys ob lb) (k + 1) 0 0) la) (rowSu xs ys (lessGo (atF xs oa la) (atF ys ob lb) (k + 1) 0 0)) := by
    intro k hk
    have ih := le_loop1 hx hy ha hb hM2 k 1 (1 - (atF xs oa la 0 + 65536 - atF ys ob lb 0 - 0) / 65536) [(atF xs oa la 0 + 65536 - atF ys ob lb 0 - 0) % 65536] rfl (by omega) (by omega) ⟨e3, e4⟩
    rw [List.singleton_append] at ih
    exact ih
  have h := key (la - 1) (by omega)
  rw [show la - 1 + 1 = la by omega] at h
  exact .more hro h
theorem le_loopN : LoopTo rdLe (valSu0 oa 0 ob lb 0 0) (rowSu0 xs ys) (.exit 0) (valSu0 oa 0 ob lb 0 0) (rowSu0 xs ys) := by
  refine .done ?_ (by simp)
  rw [le_round0, decide_eq_false (by omega), cond_false]
  rfl
end
set_option maxHeartbeats 0 in
noncomputable def outLe (v : List SV) (R : List Row) (k : Ex → List SV → List Row → Option Res2) : Option Res2 := match v, R with
  | [.slice 0 1 oa la none, .slice 1 1 ob lb none, .nils, .slice 2 1 0 0 (some 0), .int .u64 c, .int .i64 i], [.vec true .u64 xs, .vec true .u64 ys, .vec false .u64 zs] =>
      bif (decide (c = 0) && (decide (i = 0) && zs.isEmpty)) && ((digsB xs && digsB ys) && ((decide (oa + la ≤ xs.length) && decide (ob + lb ≤ ys.length)) && decide (la ≤ 1000))) then
        (bif Nat.beq la 0 then k (.exit 0) (valSu0 oa 0 ob lb 0 0) (rowSu0 xs ys)
        else k (.exit 0) (valSu oa la ob lb la (lessC (atF xs oa la) (atF ys ob lb) la 0 0) la) (rowSu xs ys (lessGo (atF xs oa la) (atF ys ob lb) la 0 0))) else none
  | _, _ => none
set_option maxHeartbeats 0 in
theorem lpoLe_ok : LpOk 67 [0, 1, 0, 1, 1, 1] (loopF 36 [0, 1, 4, 5, 6, 7] outLe) := by
  intro b hat s K r h
  refine loopF_ok (fuel := 100) xDl_ok lok_none hat (fun v R k r hr => ?_) h
  have hbody := at_body Try.func67 hat
  subst hbody
  unfold outLe at hr
  split at hr
  · rename_i oa la ob lb c i xs ys zs
    obtain ⟨hb, hr2⟩ := cond_some hr
    simp only [Bool.and_eq_true, decide_eq_true_eq] at hb
    obtain ⟨⟨h1, h2, h3⟩, ⟨h4, h5⟩, ⟨h6, h7⟩, h8⟩ := hb
    subst h1 h2
    rcases zs with _ | ⟨z, zs⟩
    · cases h0 : Nat.beq la 0 with
      | true =>
        rw [h0, cond_true] at hr2
        have hl := Nat.eq_of_beq_eq_true h0
        subst hl
        exact ⟨_, _, _, hr2, le_loopN⟩
      | false =>
        rw [h0, cond_false] at hr2
        have hl := Nat.ne_of_beq_eq_false h0
        exact ⟨_, _, _, hr2, le_loop0 (digsB_iff.1 h4) (digsB_iff.1 h5) h6 h7 (by omega) h8⟩
    · cases h3
  · cases hr
noncomputable def lpoLe : Lpo := ⟨_, _, _, lpoLe_ok⟩

def lessD (xs ys : List Int) (oa la ob lb : Nat) : List Int := lessGo (atF xs oa la) (atF ys ob lb) la 0 0
set_option maxRecDepth 100000 in
set_option maxHeartbeats 0 in
theorem le_tree (xs ys : List Int) (oa la ob lb : Nat) : runK xDl (loopOf [lpoLe]) 300 67 Try.f67 9 [.slice 0 1 oa la none, .slice 1 1 ob lb none] [.vec true .u64 xs, .vec true .u64 ys] =
  bif (digsB xs && digsB ys) && ((decide (oa + la ≤ xs.length) && decide (ob + lb ≤ ys.length)) && decide (la ≤ 1000)) then
    bif Nat.beq la 0 then some (.slice 2 1 0 0 (some 0), [.vec true .u64 xs, .vec true .u64 ys, .vec false .u64 []])
    else
      bif decide (la ≤ (lessD xs ys oa la ob lb).length) && decide (la ≤ 9223372036854775807) then
        some (.slice 3 1 0 (cutN (lessD xs ys oa la ob lb) la) none, [.vec true .u64 xs, .vec true .u64 ys, .gone, .vec false .u64 (lessD xs ys oa la ob lb)])
      else none
  else none := by kernel_rfl
theorem lessGo_len (f g : Nat → Int) : ∀ (k i : Nat) (c : Int), (lessGo f g k i c).length = k
  | 0, _, _ => rfl
  | k + 1, i, c => by unfold lessGo; rw [List.length_cons, lessGo_len]
/-- The digits of a difference, without noughts at the end. -/
def lessL (xs ys : List Int) (oa la ob lb : Nat) : List Int := (lessD xs ys oa la ob lb).take (cutN (lessD xs ys oa la ob lb) la)
theorem lessL_len (xs ys : List Int) (oa la ob lb : Nat) : (lessL xs ys oa la ob lb).length = cutN (lessD xs ys oa la ob lb) la := by
  unfold lessL
  rw [List.length_take, show (lessD xs ys oa la ob lb).length = la from lessGo_len _ _ _ _ _]
  have := cutN_le (lessD xs ys oa la ob lb) la
  omega
theorem lessL_get (xs ys : List Int) (oa la ob lb : Nat) {i : Nat} (hi : i < (lessL xs ys oa la ob lb).length) : (lessD xs ys oa la ob lb)[0 + i]? = (lessL xs ys oa la ob lb)[i]? := by
  rw [Nat.zero_add]
  rw [lessL_len] at hi
  unfold lessL
  rw [List.getElem?_take, if_pos hi]
theorem le_val {xs ys : List Int} {oa la ob lb : Nat} (hx : digsB xs = true) (hy : digsB ys = true) (ha : oa + la ≤ xs.length) (hb : ob + lb ≤ ys.length) (hM : la ≤ 1000) (h0 : Nat.beq la 0 = false) :
    runK xDl (loopOf [lpoLe]) 300 67 Try.f67 9 [.slice 0 1 oa la none, .slice 1 1 ob lb none] [.vec true .u64 xs, .vec true .u64 ys] =
      some (.slice 3 1 0 (lessL xs ys oa la ob lb).length none, [.vec true .u64 xs, .vec true .u64 ys, .gone, .vec false .u64 (lessD xs ys oa la ob lb)]) := by
  rw [le_tree, hx, hy, decide_eq_true ha, decide_eq_true hb, decide_eq_true hM, h0, lessL_len, show (lessD xs ys oa la ob lb).length = la from lessGo_len _ _ _ _ _, decide_eq_true (Nat.le_refl _), decide_eq_true (show la ≤ 9223372036854775807 by omega)]
  rfl
theorem le_valN {xs ys : List Int} {oa ob lb : Nat} (hx : digsB xs = true) (hy : digsB ys = true) (ha : oa + 0 ≤ xs.length) (hb : ob + lb ≤ ys.length) :
    runK xDl (loopOf [lpoLe]) 300 67 Try.f67 9 [.slice 0 1 oa 0 none, .slice 1 1 ob lb none] [.vec true .u64 xs, .vec true .u64 ys] =
      some (.slice 2 1 0 0 (some 0), [.vec true .u64 xs, .vec true .u64 ys, .vec false .u64 []]) := by
  rw [le_tree, hx, hy, decide_eq_true ha, decide_eq_true hb]
  rfl
def oLessD (args : List SV) (rows : List Row) : Option Eff :=
  match args with
  | [.slice ia 1 oa la none, .slice ib 1 ob lb none] => match rows[ia]?, rows[ib]? with
    | some (.vec _ .u64 xs), some (.vec _ .u64 ys) => some { ok := (digsB xs && digsB ys) && ((decide (oa + la ≤ xs.length) && decide (ob + lb ≤ ys.length)) && decide (la ≤ 1000)), val := .slice rows.length 1 0 (lessL xs ys oa la ob lb).length none, rd := [ia, ib], nw := [.vec true .u64 (lessL xs ys oa la ob lb)] }
    | _, _ => none
  | _ => none
theorem oLessD_ok {args : List SV} {rows : List Row} {e : Eff} (h : oLessD args rows = some e) (hok : e.ok = true) : FnOk Try.prog 67 args (rows[·]?) rows.length e := by
  unfold oLessD at h
  split at h
  · rename_i ia oa la ib ob lb
    split at h
    · rename_i ra xs rb ys hxr hyr
      cases h
      simp only [Bool.and_eq_true, decide_eq_true_eq] at hok
      obtain ⟨⟨h1, h2⟩, ⟨h3, h4⟩, h5⟩ := hok
      have hm : ∀ (i : Nat) (row : Row), ([.vec true .u64 xs, .vec true .u64 ys] : List Row)[i]? = some row → ∃ (k : Knd) (zs : List k.T) (ro : Bool), row = .vec true k zs ∧ rows[atR [ia, ib] rows.length i]? = some (.vec ro k zs) := by
        intro i row hr
        match i with
        | 0 => simp at hr; subst hr; exact ⟨.u64, xs, ra, rfl, hxr⟩
        | 1 => simp at hr; subst hr; exact ⟨.u64, ys, rb, rfl, hyr⟩
        | i + 2 => simp at hr
      cases h0 : Nat.beq la 0 with
      | true =>
        have hl := Nat.eq_of_beq_eq_true h0
        subst hl
        obtain ⟨rows', hc, ht⟩ := runK_ok xDl_ok loopOf_ok Try.func67 (le_valN (xs := xs) (ys := ys) h1 h2 h3 h4)
        exact fnOk_fresh (C := fun s => s) (s0 := .slice 2 1 0 0 (some 0)) (ds := []) hc round_id (σ := [ia, ib]) rfl (fun i hi => by simp [SV.idsL, SV.ids] at hi; rcases hi with rfl | rfl <;> simp) hm (.inr ⟨2, 0, some 0, false, [], rfl, by simp, by rw [take_get ht (by omega)]; rfl, fun i hi => by simp at hi⟩)
      | false =>
        obtain ⟨rows', hc, ht⟩ := runK_ok xDl_ok loopOf_ok Try.func67 (le_val (xs := xs) (ys := ys) h1 h2 h3 h4 h5 h0)
        exact fnOk_fresh (C := fun s => s) (s0 := .slice 3 1 0 (lessL xs ys oa la ob lb).length none) (ds := lessL xs ys oa la ob lb) hc round_id (σ := [ia, ib]) rfl (fun i hi => by simp [SV.idsL, SV.ids] at hi; rcases hi with rfl | rfl <;> simp) hm (.inr ⟨3, 0, none, false, lessD xs ys oa la ob lb, rfl, by simp, by rw [take_get ht (by omega)]; rfl, fun i hi => lessL_get xs ys oa la ob lb hi⟩)
    · cases h
  · cases h
noncomputable def orcLessD : Orc := ⟨67, oLessD, fun _ _ _ h hok => oLessD_ok h hok, bodied Try.func67 (by kernel_rfl)⟩

end Go.Proofs.Ytboljdeeodeeeaa

namespace Go.Proofs.Ytboljdeeodeeeaa
set_option linter.unusedSimpArgs false
set_option linter.unusedVariables false
set_option maxRecDepth 100000
open Go.RowKit

noncomputable def rdMo : List SV → List Row → Option Res2 := roundS xDg (fun _ _ => none) 100 66 [0, 1, 0, 1, 1] (bodyAt Try.f66 [0, 1, 0, 1, 1]) 41 2 [0, 1, 4, 5]
def valMo (oa la ob lb : Nat) (b : Bool) (i : Int) : List SV := [.slice 0 1 oa la none, .slice 1 1 ob lb none, .bool b, .int .i64 i]
def rowMo (xs ys : List Int) : List Row := [.vec true .u64 xs, .vec true .u64 ys]

set_option maxRecDepth 100000 in
set_option maxHeartbeats 0 in
theorem mo_round (xs ys : List Int) (oa la ob lb : Nat) (i : Int) : rdMo (valMo oa la ob lb false i) (rowMo xs ys) =
  bif decide (i ≥ 0) then
  bif decide (0 ≤ i) && decide (i < (↑la : Int)) then
  bif decide (oa + i.toNat < xs.length) then
  bif decide (0 ≤ i) && decide (i < (↑lb : Int)) then
  bif decide (ob + i.toNat < ys.length) then
  bif xs.getD (oa + i.toNat) Knd.u64.dflt != ys.getD (ob + i.toNat) Knd.u64.dflt then
  bif decide (0 ≤ i) && decide (i < (↑la : Int)) then
  bif decide (oa + i.toNat < xs.length) then
  bif decide (0 ≤ i) && decide (i < (↑lb : Int)) then
  bif decide (ob + i.toNat < ys.length) then
  some
  (SV.tuple
  [SV.nils,
  SV.tuple
  [SV.slice 0 1 oa la none, SV.slice 1 1 ob lb none, SV.bool (decide (xs.getD (oa + i.toNat) Knd.u64.dflt > ys.getD (ob + i.toNat) Knd.u64.dflt)), SV.int IntKind.i64 i]],
  [Row.vec true Knd.u64 xs, Row.vec true Knd.u64 ys])
  else none
  else none
  else none
  else none
  else
  some
  (SV.tuple [SV.nilp, SV.tuple [SV.slice 0 1 oa la none, SV.slice 1 1 ob lb none, SV.bool false, SV.int IntKind.i64 (IntKind.i64.wrap (i - 1))]],
  [Row.vec true Knd.u64 xs, Row.vec true Knd.u64 ys])
  else none
  else none
  else none
  else none
  else some (SV.tuple [SV.ptr 0 0 0 0, SV.tuple [SV.slice 0 1 oa la none, SV.slice 1 1 ob lb none, SV.bool false, SV.int IntKind.i64 i]], [Row.vec true Knd.u64 xs, Row.vec true Knd.u64 ys]) := by kernel_rfl

/-- Which of two rows of digits is greater, from the last digit on: whether it was told, what, and where. -/
def moreGo (xs ys : List Int) (oa ob : Nat) : Nat → Bool × Bool × Int
  | 0 => (false, false, -1)
  | k + 1 => bif xs.getD (oa + k) Knd.u64.dflt != ys.getD (ob + k) Knd.u64.dflt then (true, decide (xs.getD (oa + k) Knd.u64.dflt > ys.getD (ob + k) Knd.u64.dflt), k) else moreGo xs ys oa ob k
theorem mo_loop {xs ys : List Int} {oa la ob lb : Nat} (ha : oa + la ≤ xs.length) (hb : ob + lb ≤ ys.length) (h64 : la ≤ 9223372036854775807) (he : la = lb) : ∀ (k : Nat), k ≤ la →
    ((moreGo xs ys oa ob k).1 = true → LoopTo rdMo (valMo oa la ob lb false ((k : Int) - 1)) (rowMo xs ys) .ret (valMo oa la ob lb (moreGo xs ys oa ob k).2.1 (moreGo xs ys oa ob k).2.2) (rowMo xs ys)) ∧
    ((moreGo xs ys oa ob k).1 = false → LoopTo rdMo (valMo oa la ob lb false ((k : Int) - 1)) (rowMo xs ys) (.exit 0) (valMo oa la ob lb false (-1)) (rowMo xs ys))
  | 0, hk => by
    refine ⟨fun h => by simp [moreGo] at h, fun _ => .done ?_ (by simp)⟩
    rw [mo_round, decide_eq_false (by omega), cond_false]
    rfl
  | k + 1, hk => by
    have hro := mo_round xs ys oa la ob lb (((k + 1 : Nat) : Int) - 1)
    have e1 : (((k + 1 : Nat) : Int) - 1) = (k : Int) := by omega
    rw [e1] at hro ⊢
    have e2 : ((k : Int)).toNat = k := by omega
    rw [decide_eq_true (show (k : Int) ≥ 0 by omega), cond_true, e2, decide_eq_true (show (k : Int) < (la : Int) by omega), decide_eq_true (show (k : Int) < (lb : Int) by omega), decide_eq_true (show oa + k < xs.length by omega), decide_eq_true (show ob + k < ys.length by omega), IntWalk.i64_in ((k : Int) - 1) (by omega)] at hro
    simp only [Bool.and_true, cond_true] at hro
    unfold moreGo
    cases hc : xs.getD (oa + k) Knd.u64.dflt != ys.getD (ob + k) Knd.u64.dflt with
    | true =>
      rw [hc, cond_true] at hro
      simp only [cond_true]
      exact ⟨fun _ => .done hro (by simp), fun h => by simp at h⟩
    | false =>
      rw [hc, cond_false] at hro
      simp only [cond_false]
      have ih := mo_loop ha hb h64 he k (by omega)
      exact ⟨fun h => .more hro (ih.1 h), fun h => .more hro (ih.2 h)⟩
set_option maxHeartbeats 0 in
noncomputable def outMo (v : List SV) (R : List Row) (k : Ex → List SV → List Row → Option Res2) : Option Res2 := match v, R with
  | [.slice 0 1 oa la none, .slice 1 1 ob lb none, .bool false, .int .i64 i], [.vec true .u64 xs, .vec true .u64 ys] =>
      bif decide (i = (la : Int) - 1) && ((decide (oa + la ≤ xs.length) && decide (ob + lb ≤ ys.length)) && (decide (la ≤ 9223372036854775807) && decide (la = lb))) then
        (bif (moreGo xs ys oa ob la).1 then k .ret (valMo oa la ob lb (moreGo xs ys oa ob la).2.1 (moreGo xs ys oa ob la).2.2) (rowMo xs ys)
        else k (.exit 0) (valMo oa la ob lb false (-1)) (rowMo xs ys)) else none
  | _, _ => none
set_option maxHeartbeats 0 in
theorem lpoMo_ok : LpOk 66 [0, 1, 0, 1, 1] (loopF 41 [0, 1, 4, 5] outMo) := by
  intro b hat s K r h
  refine loopF_ok (fuel := 100) xDg_ok lok_none hat (fun v R k r hr => ?_) h
  have hbody := at_body Try.func66 hat
  subst hbody
  unfold outMo at hr
  split at hr
  · rename_i oa la ob lb i xs ys
    obtain ⟨hb, hr2⟩ := cond_some hr
    simp only [Bool.and_eq_true, decide_eq_true_eq] at hb
    obtain ⟨h1, ⟨h2, h3⟩, h4, h5⟩ := hb
    subst h1
    have hl := mo_loop h2 h3 h4 h5 la (Nat.le_refl _)
    cases hq : (moreGo xs ys oa ob la).1 with
    | true =>
      rw [hq, cond_true] at hr2
      exact ⟨_, _, _, hr2, hl.1 hq⟩
    | false =>
      rw [hq, cond_false] at hr2
      exact ⟨_, _, _, hr2, hl.2 hq⟩
  · cases hr
noncomputable def lpoMo : Lpo := ⟨_, _, _, lpoMo_ok⟩

set_option maxRecDepth 100000 in
set_option maxHeartbeats 0 in
theorem mo_tree (xs ys : List Int) (oa la ob lb : Nat) : runK xDg (loopOf [lpoMo]) 300 66 Try.f66 0 [.slice 0 1 oa la none, .slice 1 1 ob lb none] [.vec true .u64 xs, .vec true .u64 ys] =
  bif (↑la : Int) != (↑lb : Int) then some (SV.bool (decide ((↑la : Int) > (↑lb : Int))), [])
  else
  bif decide (IntKind.i64.wrap ((↑la : Int) - 1) = (↑la : Int) - 1) && (decide (oa + la ≤ xs.length) && decide (ob + lb ≤ ys.length) && (decide (la ≤ 9223372036854775807) && decide (la = lb))) then
  bif (moreGo xs ys oa ob la).fst then some (SV.bool (moreGo xs ys oa ob la).snd.fst, []) else some (SV.bool false, [])
  else none := by kernel_rfl

def moreV (xs ys : List Int) (oa la ob lb : Nat) : Bool := bif (la : Int) != (lb : Int) then decide ((la : Int) > (lb : Int)) else bif (moreGo xs ys oa ob la).1 then (moreGo xs ys oa ob la).2.1 else false
theorem mo_val {xs ys : List Int} {oa la ob lb : Nat} (ha : oa + la ≤ xs.length) (hb : ob + lb ≤ ys.length) (h64 : la ≤ 9223372036854775807) :
    runK xDg (loopOf [lpoMo]) 300 66 Try.f66 0 [.slice 0 1 oa la none, .slice 1 1 ob lb none] [.vec true .u64 xs, .vec true .u64 ys] = some (.bool (moreV xs ys oa la ob lb), []) := by
  rw [mo_tree]
  unfold moreV
  cases hc : (la : Int) != (lb : Int) with
  | true => rfl
  | false =>
    have he : (la : Int) = (lb : Int) := by simpa using hc
    rw [IntWalk.i64_in ((la : Int) - 1) (by omega), decide_eq_true (show (la : Int) - 1 = (la : Int) - 1 from rfl), decide_eq_true ha, decide_eq_true hb, decide_eq_true h64, decide_eq_true (show la = lb by omega)]
    simp only [Bool.and_true, cond_true, cond_false]
    cases (moreGo xs ys oa ob la).1 <;> rfl
def oMoreD (args : List SV) (rows : List Row) : Option Eff :=
  match args with
  | [.slice ia 1 oa la none, .slice ib 1 ob lb none] => match rows[ia]?, rows[ib]? with
    | some (.vec _ .u64 xs), some (.vec _ .u64 ys) => some { ok := (decide (oa + la ≤ xs.length) && decide (ob + lb ≤ ys.length)) && decide (la ≤ 9223372036854775807), val := .bool (moreV xs ys oa la ob lb), rd := [ia, ib] }
    | _, _ => none
  | _ => none
theorem oMoreD_ok {args : List SV} {rows : List Row} {n : Nat} {e : Eff} (h : oMoreD args rows = some e) (hok : e.ok = true) : FnOk Try.prog 66 args (rows[·]?) n e := by
  unfold oMoreD at h
  split at h
  · rename_i ia oa la ib ob lb
    split at h
    · rename_i ra xs rb ys hxr hyr
      cases h
      simp only [Bool.and_eq_true, decide_eq_true_eq] at hok
      obtain ⟨⟨h3, h4⟩, h5⟩ := hok
      obtain ⟨rows', hc, ht⟩ := runK_ok xDg_ok loopOf_ok Try.func66 (mo_val (xs := xs) (ys := ys) h3 h4 h5)
      refine fnOk_reads hc rfl (σ := [ia, ib]) rfl (fun i hi => by simp [SV.idsL, SV.ids] at hi; rcases hi with rfl | rfl <;> simp) (fun i row hr => ?_)
      match i with
      | 0 => simp at hr; subst hr; exact ⟨.u64, xs, ra, rfl, hxr⟩
      | 1 => simp at hr; subst hr; exact ⟨.u64, ys, rb, rfl, hyr⟩
      | i + 2 => simp at hr
    · cases h
  · cases h
noncomputable def orcMoreD : Orc := ⟨66, oMoreD, fun _ _ _ h hok => oMoreD_ok h hok, bodied Try.func66 (by kernel_rfl)⟩

noncomputable def xDp : Ctx := ctxOf [] [orcSumD, orcLessD, orcMoreD]
theorem xDp_ok : COk Try.prog xDp := ctxOf_ok (by kernel_rfl)

set_option maxRecDepth 100000 in
set_option maxHeartbeats 0 in
theorem pl_tree (xs ys : List Int) (p q : Bool) (oa la ob lb : Nat) : runK xDp (fun _ _ => none) 300 47 Try.f47 9 [.agg [.bool p, .slice 0 1 oa la none], .agg [.bool q, .slice 1 1 ob lb none]] [.vec true .u64 xs, .vec true .u64 ys] =
  bif p == q then
  bif digsB xs && digsB ys && (decide (oa + la ≤ xs.length) && decide (ob + lb ≤ ys.length) && decide (max la lb + 1 ≤ 1000)) then
  some
  (SV.agg
  [SV.bool p,
  SV.slice
  [Row.vec true Knd.u64 xs, Row.vec true Knd.u64 ys, Row.own [SV.bool p, SV.slice 0 1 oa la none], Row.own [SV.bool q, SV.slice 1 1 ob lb none], Row.own [SV.bool false, SV.nils]].length 1
  0 (sumL xs ys oa la ob lb).length none],
  [Row.vec true Knd.u64 xs, Row.vec true Knd.u64 ys, Row.own [SV.bool p, SV.slice 0 1 oa la none], Row.own [SV.bool q, SV.slice 1 1 ob lb none],
  Row.own
  [SV.bool p,
  SV.slice
  [Row.vec true Knd.u64 xs, Row.vec true Knd.u64 ys, Row.own [SV.bool p, SV.slice 0 1 oa la none], Row.own [SV.bool q, SV.slice 1 1 ob lb none], Row.own [SV.bool false, SV.nils]].length
  1 0 (sumL xs ys oa la ob lb).length none],
  Row.vec true Knd.u64 ((Nat.brecOn.go (motive := fun x => List Int → List Int) (cutN (sumD xs ys oa la ob lb) (max la lb + 1)) List.take._f).1 (sumD xs ys oa la ob lb))])
  else none
  else
  bif decide (ob + lb ≤ ys.length) && decide (oa + la ≤ xs.length) && decide (lb ≤ 9223372036854775807) then
  bif moreV ys xs ob lb oa la then
  bif digsB ys && digsB xs && (decide (ob + lb ≤ ys.length) && decide (oa + la ≤ xs.length) && decide (lb ≤ 1000)) then
  some
  (SV.agg
  [SV.bool q,
  SV.slice
  [Row.vec true Knd.u64 xs, Row.vec true Knd.u64 ys, Row.own [SV.bool p, SV.slice 0 1 oa la none], Row.own [SV.bool q, SV.slice 1 1 ob lb none],
  Row.own [SV.bool false, SV.nils]].length
  1 0 (lessL ys xs ob lb oa la).length none],
  [Row.vec true Knd.u64 xs, Row.vec true Knd.u64 ys, Row.own [SV.bool p, SV.slice 0 1 oa la none], Row.own [SV.bool q, SV.slice 1 1 ob lb none],
  Row.own
  [SV.bool q,
  SV.slice
  [Row.vec true Knd.u64 xs, Row.vec true Knd.u64 ys, Row.own [SV.bool p, SV.slice 0 1 oa la none], Row.own [SV.bool q, SV.slice 1 1 ob lb none],
  Row.own [SV.bool false, SV.nils]].length
  1 0 (lessL ys xs ob lb oa la).length none],
  Row.vec true Knd.u64 ((Nat.brecOn.go (motive := fun x => List Int → List Int) (cutN (lessD ys xs ob lb oa la) lb) List.take._f).1 (lessD ys xs ob lb oa la))])
  else none
  else
  bif digsB xs && digsB ys && (decide (oa + la ≤ xs.length) && decide (ob + lb ≤ ys.length) && decide (la ≤ 1000)) then
  some
  (SV.agg
  [SV.bool p,
  SV.slice
  [Row.vec true Knd.u64 xs, Row.vec true Knd.u64 ys, Row.own [SV.bool p, SV.slice 0 1 oa la none], Row.own [SV.bool q, SV.slice 1 1 ob lb none],
  Row.own [SV.bool false, SV.nils]].length
  1 0 (lessL xs ys oa la ob lb).length none],
  [Row.vec true Knd.u64 xs, Row.vec true Knd.u64 ys, Row.own [SV.bool p, SV.slice 0 1 oa la none], Row.own [SV.bool q, SV.slice 1 1 ob lb none],
  Row.own
  [SV.bool p,
  SV.slice
  [Row.vec true Knd.u64 xs, Row.vec true Knd.u64 ys, Row.own [SV.bool p, SV.slice 0 1 oa la none], Row.own [SV.bool q, SV.slice 1 1 ob lb none],
  Row.own [SV.bool false, SV.nils]].length
  1 0 (lessL xs ys oa la ob lb).length none],
  Row.vec true Knd.u64 ((Nat.brecOn.go (motive := fun x => List Int → List Int) (cutN (lessD xs ys oa la ob lb) la) List.take._f).1 (lessD xs ys oa la ob lb))])
  else none
  else none := by kernel_rfl

end Go.Proofs.Ytboljdeeodeeeaa

namespace Go.Proofs.Ytboljdeeodeeeaa
set_option linter.unusedSimpArgs false
set_option linter.unusedVariables false
set_option maxRecDepth 100000
open Go.RowKit

/-- A sum of two numbers of digits with signs. -/
def plusS (p q : Bool) (xs ys : List Int) (oa la ob lb : Nat) : Bool × List Int := bif p == q then (p, sumL xs ys oa la ob lb) else bif moreV ys xs ob lb oa la then (q, lessL ys xs ob lb oa la) else (p, lessL xs ys oa la ob lb)
def resP (p q : Bool) (xs ys : List Int) (oa la ob lb : Nat) (b : Bool) (l : List Int) : Res2 := (.agg [.bool b, .slice 5 1 0 l.length none], [.vec true .u64 xs, .vec true .u64 ys, .own [.bool p, .slice 0 1 oa la none], .own [.bool q, .slice 1 1 ob lb none], .own [.bool b, .slice 5 1 0 l.length none], .vec true .u64 l])
set_option maxRecDepth 100000 in
set_option maxHeartbeats 0 in
theorem pl_tree2 (xs ys : List Int) (p q : Bool) (oa la ob lb : Nat) : runK xDp (fun _ _ => none) 300 47 Try.f47 9 [.agg [.bool p, .slice 0 1 oa la none], .agg [.bool q, .slice 1 1 ob lb none]] [.vec true .u64 xs, .vec true .u64 ys] =
  bif p == q then
    bif (digsB xs && digsB ys) && ((decide (oa + la ≤ xs.length) && decide (ob + lb ≤ ys.length)) && decide (max la lb + 1 ≤ 1000)) then some (resP p q xs ys oa la ob lb p (sumL xs ys oa la ob lb)) else none
  else
    bif (decide (ob + lb ≤ ys.length) && decide (oa + la ≤ xs.length)) && decide (lb ≤ 9223372036854775807) then
      bif moreV ys xs ob lb oa la then
        bif (digsB ys && digsB xs) && ((decide (ob + lb ≤ ys.length) && decide (oa + la ≤ xs.length)) && decide (lb ≤ 1000)) then some (resP p q xs ys oa la ob lb q (lessL ys xs ob lb oa la)) else none
      else
        bif (digsB xs && digsB ys) && ((decide (oa + la ≤ xs.length) && decide (ob + lb ≤ ys.length)) && decide (la ≤ 1000)) then some (resP p q xs ys oa la ob lb p (lessL xs ys oa la ob lb)) else none
    else none := by kernel_rfl
theorem pl_val {xs ys : List Int} {p q : Bool} {oa la ob lb : Nat} (hx : digsB xs = true) (hy : digsB ys = true) (ha : oa + la ≤ xs.length) (hb : ob + lb ≤ ys.length) (hM : max la lb + 1 ≤ 1000) :
    runK xDp (fun _ _ => none) 300 47 Try.f47 9 [.agg [.bool p, .slice 0 1 oa la none], .agg [.bool q, .slice 1 1 ob lb none]] [.vec true .u64 xs, .vec true .u64 ys] =
      some (resP p q xs ys oa la ob lb (plusS p q xs ys oa la ob lb).1 (plusS p q xs ys oa la ob lb).2) := by
  rw [pl_tree2, hx, hy, decide_eq_true ha, decide_eq_true hb, decide_eq_true hM, decide_eq_true (show lb ≤ 9223372036854775807 by omega), decide_eq_true (show lb ≤ 1000 by omega), decide_eq_true (show la ≤ 1000 by omega)]
  unfold plusS
  simp only [Bool.and_true, cond_true]
  cases p == q with
  | true => rfl
  | false =>
    simp only [cond_false]
    cases moreV ys xs ob lb oa la with
    | true => rfl
    | false => rfl
def oPlusD (args : List SV) (rows : List Row) : Option Eff :=
  match args with
  | [.agg [.bool p, .slice ia 1 oa la none], .agg [.bool q, .slice ib 1 ob lb none]] => match rows[ia]?, rows[ib]? with
    | some (.vec _ .u64 xs), some (.vec _ .u64 ys) => some { ok := (digsB xs && digsB ys) && ((decide (oa + la ≤ xs.length) && decide (ob + lb ≤ ys.length)) && decide (max la lb + 1 ≤ 1000)), val := .agg [.bool (plusS p q xs ys oa la ob lb).1, .slice rows.length 1 0 (plusS p q xs ys oa la ob lb).2.length none], rd := [ia, ib], nw := [.vec true .u64 (plusS p q xs ys oa la ob lb).2] }
    | _, _ => none
  | _ => none
theorem oPlusD_ok {args : List SV} {rows : List Row} {e : Eff} (h : oPlusD args rows = some e) (hok : e.ok = true) : FnOk Try.prog 47 args (rows[·]?) rows.length e := by
  unfold oPlusD at h
  split at h
  · rename_i p ia oa la q ib ob lb
    split at h
    · rename_i ra xs rb ys hxr hyr
      cases h
      simp only [Bool.and_eq_true, decide_eq_true_eq] at hok
      obtain ⟨⟨h1, h2⟩, ⟨h3, h4⟩, h5⟩ := hok
      obtain ⟨rows', hc, ht⟩ := runK_ok xDp_ok lok_none Try.func47 (pl_val (p := p) (q := q) (xs := xs) (ys := ys) h1 h2 h3 h4 h5)
      refine fnOk_fresh (C := fun s => .agg [.bool (plusS p q xs ys oa la ob lb).1, s]) (s0 := .slice 5 1 0 (plusS p q xs ys oa la ob lb).2.length none) (ds := (plusS p q xs ys oa la ob lb).2) hc (round_big _) (σ := [ia, ib]) rfl (fun i hi => by simp [SV.idsL, SV.ids] at hi; rcases hi with rfl | rfl <;> simp) (fun i row hr => ?_) (.inr ⟨5, 0, none, true, (plusS p q xs ys oa la ob lb).2, rfl, by simp, by rw [take_get ht (by omega)]; rfl, fun i hi => by rw [Nat.zero_add]⟩)
      match i with
      | 0 => simp at hr; subst hr; exact ⟨.u64, xs, ra, rfl, hxr⟩
      | 1 => simp at hr; subst hr; exact ⟨.u64, ys, rb, rfl, hyr⟩
      | i + 2 => simp at hr
    · cases h
  · cases h
noncomputable def orcPlusD : Orc := ⟨47, oPlusD, fun _ _ _ h hok => oPlusD_ok h hok, bodied Try.func47 (by kernel_rfl)⟩

noncomputable def xDa : Ctx := ctxOf [] [orcOf, orcPlusD, orcIntD]
theorem xDa_ok : COk Try.prog xDa := ctxOf_ok (by kernel_rfl)

end Go.Proofs.Ytboljdeeodeeeaa

namespace Go.Proofs.Ytboljdeeodeeeaa
set_option linter.unusedSimpArgs false
set_option linter.unusedVariables false
set_option maxRecDepth 100000
open Go.RowKit

set_option maxRecDepth 100000 in
set_option maxHeartbeats 0 in
theorem sub_tree (a b : Int) : runK xDa (fun _ _ => none) 300 49 Try.f49 0 [.int .i64 a, .int .i64 b] [] =
  bif in64B b then
  bif in64B a then
  bif
  digsB (digs 5 a.natAbs) && digsB (digs 5 b.natAbs) &&
  (decide (0 + (digs 5 a.natAbs).length ≤ (digs 5 a.natAbs).length) && decide (0 + (digs 5 b.natAbs).length ≤ (digs 5 b.natAbs).length) &&
  decide (max (digs 5 a.natAbs).length (digs 5 b.natAbs).length + 1 ≤ 1000)) then
  bif
  digsB (plusS (decide (a < 0)) (!decide (b < 0)) (digs 5 a.natAbs) (digs 5 b.natAbs) 0 (digs 5 a.natAbs).length 0 (digs 5 b.natAbs).length).snd &&
  (decide
  (0 + (plusS (decide (a < 0)) (!decide (b < 0)) (digs 5 a.natAbs) (digs 5 b.natAbs) 0 (digs 5 a.natAbs).length 0 (digs 5 b.natAbs).length).snd.length ≤
  (plusS (decide (a < 0)) (!decide (b < 0)) (digs 5 a.natAbs) (digs 5 b.natAbs) 0 (digs 5 a.natAbs).length 0 (digs 5 b.natAbs).length).snd.length) &&
  decide ((plusS (decide (a < 0)) (!decide (b < 0)) (digs 5 a.natAbs) (digs 5 b.natAbs) 0 (digs 5 a.natAbs).length 0 (digs 5 b.natAbs).length).snd.length ≤ 9223372036854775807)) then
  some
  (SV.int IntKind.i64
  (bigN (plusS (decide (a < 0)) (!decide (b < 0)) (digs 5 a.natAbs) (digs 5 b.natAbs) 0 (digs 5 a.natAbs).length 0 (digs 5 b.natAbs).length).fst
  (valF (dig (plusS (decide (a < 0)) (!decide (b < 0)) (digs 5 a.natAbs) (digs 5 b.natAbs) 0 (digs 5 a.natAbs).length 0 (digs 5 b.natAbs).length).snd 0)
  (plusS (decide (a < 0)) (!decide (b < 0)) (digs 5 a.natAbs) (digs 5 b.natAbs) 0 (digs 5 a.natAbs).length 0 (digs 5 b.natAbs).length).snd.length 0)),
  [])
  else none
  else none
  else none
  else none := by kernel_rfl

end Go.Proofs.Ytboljdeeodeeeaa

namespace Go.Proofs.Ytboljdeeodeeeaa
set_option linter.unusedSimpArgs false
set_option linter.unusedVariables false
set_option maxRecDepth 100000
open Go.RowKit

theorem sumGo_val (f g : Nat → Int) : ∀ (k i : Nat) (c : Int), valL (sumGo f g k i c) + 65536 ^ k * sumC f g k i c = valF f k i + valF g k i + c
  | 0, i, c => by simp [sumGo, sumC, valF, valL]
  | k + 1, i, c => by
    have ih := sumGo_val f g k (i + 1) ((f i + g i + c) / 65536)
    unfold sumGo sumC valF valL
    rw [Int.pow_succ]
    generalize valL (sumGo f g k (i + 1) ((f i + g i + c) / 65536)) = A at ih ⊢
    generalize sumC f g k (i + 1) ((f i + g i + c) / 65536) = C at ih ⊢
    generalize valF f k (i + 1) = F at ih ⊢
    generalize valF g k (i + 1) = G at ih ⊢
    have e : (65536 : Int) ^ k * 65536 * C = 65536 * (65536 ^ k * C) := by grind
    rw [e]
    generalize (65536 : Int) ^ k * C = Z at ih ⊢
    omega
theorem lessGo_val (f g : Nat → Int) : ∀ (k i : Nat) (c : Int), valL (lessGo f g k i c) = valF f k i - valF g k i - c + 65536 ^ k * lessC f g k i c
  | 0, i, c => by simp [lessGo, lessC, valF, valL]; omega
  | k + 1, i, c => by
    have ih := lessGo_val f g k (i + 1) (1 - (f i + 65536 - g i - c) / 65536)
    unfold lessGo lessC valF valL
    rw [Int.pow_succ]
    generalize valL (lessGo f g k (i + 1) (1 - (f i + 65536 - g i - c) / 65536)) = A at ih ⊢
    generalize lessC f g k (i + 1) (1 - (f i + 65536 - g i - c) / 65536) = C at ih ⊢
    generalize valF f k (i + 1) = F at ih ⊢
    generalize valF g k (i + 1) = G at ih ⊢
    have e : (65536 : Int) ^ k * 65536 * C = 65536 * (65536 ^ k * C) := by grind
    rw [e]
    generalize (65536 : Int) ^ k * C = Z at ih ⊢
    omega
theorem sumGo_in (f g : Nat → Int) : ∀ (k i : Nat) (c : Int), Digs (sumGo f g k i c)
  | 0, _, _ => by unfold Digs sumGo; simp
  | k + 1, i, c => by
    intro d hd
    unfold sumGo at hd
    rcases List.mem_cons.1 hd with rfl | hd
    · omega
    · exact sumGo_in f g k _ _ d hd
theorem lessGo_in (f g : Nat → Int) : ∀ (k i : Nat) (c : Int), Digs (lessGo f g k i c)
  | 0, _, _ => by unfold Digs lessGo; simp
  | k + 1, i, c => by
    intro d hd
    unfold lessGo at hd
    rcases List.mem_cons.1 hd with rfl | hd
    · omega
    · exact lessGo_in f g k _ _ d hd
theorem digs_take {l : List Int} (h : Digs l) (n : Nat) : Digs (l.take n) := fun d hd => h d (List.mem_of_mem_take hd)
theorem valL_append : ∀ (l m : List Int), valL (l ++ m) = valL l + 65536 ^ l.length * valL m
  | [], m => by simp [valL]
  | d :: l, m => by
    rw [List.cons_append, valL, valL, valL_append l m, List.length_cons, Int.pow_succ]
    have e : (65536 : Int) ^ l.length * 65536 * valL m = 65536 * (65536 ^ l.length * valL m) := by grind
    rw [e]
    generalize (65536 : Int) ^ l.length * valL m = Z
    omega
theorem take_one_more {l : List Int} {k : Nat} (hk : k < l.length) : l.take (k + 1) = l.take k ++ [l.getD k 0] := by
  rw [List.take_add_one, List.getD_eq_getElem?_getD, List.getElem?_eq_getElem hk]
  rfl
/-- What is cut off is worth nothing. -/
theorem cutN_val {l : List Int} : ∀ (k : Nat), k ≤ l.length → valL (l.take (cutN l k)) = valL (l.take k)
  | 0, _ => rfl
  | k + 1, hk => by
    unfold cutN
    rw [Nat.zero_add]
    cases hc : l.getD k Knd.u64.dflt == 0 with
    | false => rfl
    | true =>
      simp only [cond_true]
      rw [cutN_val k (by omega), take_one_more (by omega), valL_append]
      have h0 : l.getD k (0 : Int) = 0 := eq_of_beq hc
      rw [h0]
      simp [valL]
/-- Behind the cut the last digit is no nought. -/
theorem cutN_last {l : List Int} : ∀ (k : Nat), 0 < cutN l k → l.getD (cutN l k - 1) (0 : Int) ≠ 0
  | 0, h => by simp [cutN] at h
  | k + 1, h => by
    unfold cutN at h ⊢
    rw [Nat.zero_add] at h ⊢
    cases hc : l.getD k Knd.u64.dflt == 0 with
    | false =>
      rw [hc] at h
      simp only [cond_false, Nat.add_sub_cancel]
      exact fun h0 => by rw [show l.getD k Knd.u64.dflt = (0 : Int) from h0] at hc; cases hc
    | true =>
      rw [hc] at h
      simp only [cond_true] at h ⊢
      exact cutN_last k h

end Go.Proofs.Ytboljdeeodeeeaa

namespace Go.Proofs.Ytboljdeeodeeeaa
set_option linter.unusedSimpArgs false
set_option linter.unusedVariables false
set_option maxRecDepth 100000
open Go.RowKit

theorem pow_pos' (k : Nat) : (0 : Int) < 65536 ^ k := Int.pow_pos (by omega)
theorem pow_mono {a b : Nat} (h : a ≤ b) : (65536 : Int) ^ a ≤ 65536 ^ b := by
  obtain ⟨k, rfl⟩ := Nat.exists_eq_add_of_le h
  rw [Int.pow_add]
  have h1 := pow_pos' a
  have h2 := pow_pos' k
  have := Int.mul_le_mul_of_nonneg_left (show 1 ≤ (65536 : Int) ^ k by omega) (Int.le_of_lt h1)
  rw [Int.mul_one] at this
  exact this
theorem valL_in : ∀ {l : List Int}, Digs l → 0 ≤ valL l ∧ valL l < 65536 ^ l.length
  | [], _ => ⟨Int.le_refl _, by simp [valL]⟩
  | d :: l, h => by
    have h1 := h d (List.mem_cons_self ..)
    have ih := valL_in (l := l) fun x hx => h x (List.mem_cons_of_mem _ hx)
    rw [valL, List.length_cons, Int.pow_succ]
    generalize valL l = A at ih ⊢
    generalize (65536 : Int) ^ l.length = P at ih ⊢
    omega
theorem atF_dig (xs : List Int) (i : Nat) : atF xs 0 xs.length i = dig xs 0 i := by
  unfold atF atD dig
  by_cases h : (i : Int) < (xs.length : Int)
  · rw [decide_eq_true h]
    simp only [cond_true]
    rw [show ((i : Int)).toNat = i by omega]
    rfl
  · rw [decide_eq_false h]
    simp only [cond_false]
    rw [Nat.zero_add, List.getD_eq_getElem?_getD, List.getElem?_eq_none (by omega)]
    rfl
theorem valF_ext {f g : Nat → Int} (h : ∀ i, f i = g i) : ∀ m i, valF f m i = valF g m i
  | 0, _ => rfl
  | m + 1, i => by unfold valF; rw [h, valF_ext h m]
theorem valF_zero {f : Nat → Int} : ∀ m i, (∀ j, i ≤ j → f j = 0) → valF f m i = 0
  | 0, _, _ => rfl
  | m + 1, i, h => by
    unfold valF
    rw [h i (Nat.le_refl _), valF_zero m (i + 1) fun j hj => h j (by omega)]
    rfl
theorem valF_more {f : Nat → Int} : ∀ (m k i : Nat), (∀ j, i + m ≤ j → f j = 0) → valF f (m + k) i = valF f m i
  | 0, k, i, h => by rw [Nat.zero_add]; exact valF_zero k i fun j hj => h j (by omega)
  | m + 1, k, i, h => by
    rw [show m + 1 + k = (m + k) + 1 by omega]
    unfold valF
    rw [valF_more m k (i + 1) fun j hj => h j (by omega)]
/-- As many digits as one likes, from a row's length on: its value. -/
theorem valF_at (xs : List Int) {M : Nat} (h : xs.length ≤ M) : valF (atF xs 0 xs.length) M 0 = valL xs := by
  rw [valF_ext (atF_dig xs)]
  obtain ⟨k, rfl⟩ : ∃ k, M = xs.length + k := ⟨M - xs.length, by omega⟩
  rw [valF_more xs.length k 0 fun j hj => ?_, valF_all]
  unfold dig
  rw [List.getD_eq_getElem?_getD, List.getElem?_eq_none (by omega)]
  rfl
theorem sumC_in {f g : Nat → Int} (hf : ∀ i, 0 ≤ f i ∧ f i < 65536) (hg : ∀ i, 0 ≤ g i ∧ g i < 65536) : ∀ (k i : Nat) (c : Int), 0 ≤ c ∧ c ≤ 1 → 0 ≤ sumC f g k i c ∧ sumC f g k i c ≤ 1
  | 0, _, _, h => h
  | k + 1, i, c, h => by
    have h1 := hf i
    have h2 := hg i
    exact sumC_in hf hg k (i + 1) _ (by omega)
theorem lessC_in {f g : Nat → Int} (hf : ∀ i, 0 ≤ f i ∧ f i < 65536) (hg : ∀ i, 0 ≤ g i ∧ g i < 65536) : ∀ (k i : Nat) (c : Int), 0 ≤ c ∧ c ≤ 1 → 0 ≤ lessC f g k i c ∧ lessC f g k i c ≤ 1
  | 0, _, _, h => h
  | k + 1, i, c, h => by
    have h1 := hf i
    have h2 := hg i
    exact lessC_in hf hg k (i + 1) _ (by omega)
/-- The digits of a sum are worth the sum. -/
theorem sumL_val {xs ys : List Int} (hx : Digs xs) (hy : Digs ys) : valL (sumL xs ys 0 xs.length 0 ys.length) = valL xs + valL ys ∧ Digs (sumL xs ys 0 xs.length 0 ys.length) := by
  have hlen : (sumD xs ys 0 xs.length 0 ys.length).length = max xs.length ys.length + 1 := sumGo_len _ _ _ _ _
  have hD : Digs (sumD xs ys 0 xs.length 0 ys.length) := sumGo_in _ _ _ _ _
  refine ⟨?_, digs_take hD _⟩
  unfold sumL
  rw [cutN_val _ (by omega), List.take_of_length_le (by omega)]
  have hv := sumGo_val (atF xs 0 xs.length) (atF ys 0 ys.length) (max xs.length ys.length + 1) 0 0
  have hc := sumC_in (atF_in hx 0 xs.length) (atF_in hy 0 ys.length) (max xs.length ys.length + 1) 0 0 (by omega)
  rw [valF_at xs (by omega), valF_at ys (by omega)] at hv
  have hb := valL_in hD
  rw [hlen] at hb
  unfold sumD at hb ⊢
  have bx : valL xs < 65536 ^ (max xs.length ys.length) := Int.lt_of_lt_of_le (valL_in hx).2 (pow_mono (by omega))
  have b_y : valL ys < 65536 ^ (max xs.length ys.length) := Int.lt_of_lt_of_le (valL_in hy).2 (pow_mono (by omega))
  rw [Int.pow_succ] at hv hb
  generalize sumC (atF xs 0 xs.length) (atF ys 0 ys.length) (max xs.length ys.length + 1) 0 0 = C at hv hc
  generalize valL (sumGo (atF xs 0 xs.length) (atF ys 0 ys.length) (max xs.length ys.length + 1) 0 0) = S at hv hb ⊢
  generalize (65536 : Int) ^ (max xs.length ys.length) = P at hv hb bx b_y
  rcases (show C = 0 ∨ C = 1 by omega) with rfl | rfl
  · omega
  · omega
/-- The digits of a difference are worth the difference, where it is none below nought. -/
theorem lessL_val {xs ys : List Int} (hx : Digs xs) (hy : Digs ys) (hl : ys.length ≤ xs.length) (h : valL ys ≤ valL xs) : valL (lessL xs ys 0 xs.length 0 ys.length) = valL xs - valL ys ∧ Digs (lessL xs ys 0 xs.length 0 ys.length) := by
  have hlen : (lessD xs ys 0 xs.length 0 ys.length).length = xs.length := lessGo_len _ _ _ _ _
  have hD : Digs (lessD xs ys 0 xs.length 0 ys.length) := lessGo_in _ _ _ _ _
  refine ⟨?_, digs_take hD _⟩
  unfold lessL
  rw [cutN_val _ (by omega), List.take_of_length_le (by omega)]
  have hv := lessGo_val (atF xs 0 xs.length) (atF ys 0 ys.length) xs.length 0 0
  have hc := lessC_in (atF_in hx 0 xs.length) (atF_in hy 0 ys.length) xs.length 0 0 (by omega)
  rw [valF_at xs (Nat.le_refl _), valF_at ys hl] at hv
  have hb := valL_in hD
  rw [hlen] at hb
  unfold lessD at hb ⊢
  generalize lessC (atF xs 0 xs.length) (atF ys 0 ys.length) xs.length 0 0 = C at hv hc
  generalize valL (lessGo (atF xs 0 xs.length) (atF ys 0 ys.length) xs.length 0 0) = S at hv hb ⊢
  generalize (65536 : Int) ^ xs.length = P at hv hb
  rcases (show C = 0 ∨ C = 1 by omega) with rfl | rfl
  · omega
  · omega

/-- No nought at the end. -/
def Trim (l : List Int) : Prop := 0 < l.length → l.getD (l.length - 1) 0 ≠ 0
theorem trim_low {l : List Int} (h : Digs l) (ht : Trim l) (h0 : 0 < l.length) : 65536 ^ (l.length - 1) ≤ valL l := by
  have hl := ht h0
  have e : l = l.take (l.length - 1) ++ [l.getD (l.length - 1) 0] := by
    rw [← take_one_more (by omega), show l.length - 1 + 1 = l.length by omega, List.take_length]
  have hv := valL_append (l.take (l.length - 1)) [l.getD (l.length - 1) 0]
  rw [← e, List.length_take, show min (l.length - 1) l.length = l.length - 1 by omega] at hv
  have hA := (valL_in (digs_take h (l.length - 1))).1
  have hd : 1 ≤ l.getD (l.length - 1) 0 := by
    have := dig_in h 0 (l.length - 1)
    unfold dig at this
    rw [Nat.zero_add] at this
    omega
  rw [hv]
  generalize valL (l.take (l.length - 1)) = A at hA ⊢
  have hP := pow_pos' (l.length - 1)
  have e2 : valL [l.getD (l.length - 1) 0] = l.getD (l.length - 1) 0 := by simp [valL]
  rw [e2]
  generalize l.getD (l.length - 1) 0 = d at hd ⊢
  generalize (65536 : Int) ^ (l.length - 1) = P at hP ⊢
  have := Int.mul_le_mul_of_nonneg_left hd (Int.le_of_lt hP)
  omega
theorem moreGo_val {xs ys : List Int} (hx : Digs xs) (hy : Digs ys) : ∀ (k : Nat), k ≤ xs.length → k ≤ ys.length →
    ((moreGo xs ys 0 0 k).1 = false → valL (xs.take k) = valL (ys.take k)) ∧ ((moreGo xs ys 0 0 k).1 = true → (moreGo xs ys 0 0 k).2.1 = decide (valL (xs.take k) > valL (ys.take k)))
  | 0, _, _ => ⟨fun _ => rfl, fun h => by simp [moreGo] at h⟩
  | k + 1, h1, h2 => by
    have ih := moreGo_val hx hy k (by omega) (by omega)
    have bx := valL_in (digs_take hx k)
    have b_y := valL_in (digs_take hy k)
    rw [List.length_take, show min k xs.length = k by omega] at bx
    rw [List.length_take, show min k ys.length = k by omega] at b_y
    unfold moreGo
    rw [take_one_more (l := xs) (by omega), take_one_more (l := ys) (by omega), valL_append, valL_append, List.length_take, List.length_take, show min k xs.length = k by omega, show min k ys.length = k by omega, Nat.zero_add]
    rw [show xs.getD k Knd.u64.dflt = xs.getD k (0 : Int) from rfl, show ys.getD k Knd.u64.dflt = ys.getD k (0 : Int) from rfl]
    have ex : ∀ d : Int, valL [d] = d := fun d => by simp [valL]
    rw [ex, ex]
    generalize xs.getD k (0 : Int) = d
    generalize ys.getD k (0 : Int) = e
    generalize valL (xs.take k) = A at ih bx ⊢
    generalize valL (ys.take k) = B at ih b_y ⊢
    have hP := pow_pos' k
    generalize (65536 : Int) ^ k = P at bx b_y hP ⊢
    by_cases hde : d = e
    · subst hde
      simp only [bne_self_eq_false, cond_false]
      refine ⟨fun h => by rw [ih.1 h], fun h => ?_⟩
      rw [ih.2 h, decide_eq_decide]
      omega
    · have hn : (d != e) = true := by simpa using hde
      rw [hn]
      simp only [cond_true]
      refine ⟨fun h => by simp at h, fun _ => ?_⟩
      rw [decide_eq_decide]
      rcases Int.lt_or_gt_of_ne hde with h | h
      · have := Int.mul_le_mul_of_nonneg_left (show d + 1 ≤ e by omega) (Int.le_of_lt hP)
        rw [Int.mul_add, Int.mul_one] at this
        omega
      · have := Int.mul_le_mul_of_nonneg_left (show e + 1 ≤ d by omega) (Int.le_of_lt hP)
        rw [Int.mul_add, Int.mul_one] at this
        omega

end Go.Proofs.Ytboljdeeodeeeaa

namespace Go.Proofs.Ytboljdeeodeeeaa
set_option linter.unusedSimpArgs false
set_option linter.unusedVariables false
set_option maxRecDepth 100000
open Go.RowKit

theorem longer {xs ys : List Int} (hx : Digs xs) (hy : Digs ys) (tx : Trim xs) (h : ys.length < xs.length) : valL ys < valL xs := by
  have h1 := trim_low hx tx (by omega)
  have h2 := (valL_in hy).2
  have h3 := pow_mono (show ys.length ≤ xs.length - 1 by omega)
  omega
theorem moreV_val {xs ys : List Int} (hx : Digs xs) (hy : Digs ys) (tx : Trim xs) (ty : Trim ys) : moreV xs ys 0 xs.length 0 ys.length = decide (valL xs > valL ys) := by
  unfold moreV
  by_cases he : xs.length = ys.length
  · rw [show ((xs.length : Int) != (ys.length : Int)) = false by simp [he]]
    simp only [cond_false]
    obtain ⟨m1, m2⟩ := moreGo_val hx hy xs.length (Nat.le_refl _) (by omega)
    rw [List.take_length, he, List.take_length] at m1 m2
    rw [he]
    cases hq : (moreGo xs ys 0 0 ys.length).1 with
    | true => exact m2 hq
    | false =>
      have := m1 hq
      simp only [cond_false]
      rw [this]
      exact (decide_eq_false (by omega)).symm
  · rw [show ((xs.length : Int) != (ys.length : Int)) = true by simp; omega]
    simp only [cond_true]
    rw [decide_eq_decide]
    rcases Nat.lt_or_gt_of_ne he with h | h
    · have := longer hy hx ty h
      omega
    · have := longer hx hy tx h
      omega
theorem digs_trim : ∀ (k m : Nat), m < 65536 ^ k → Trim (digs k m)
  | 0, _, _ => fun h => by simp [digs] at h
  | k + 1, m, hm => by
    have hk : m / 65536 < 65536 ^ k := by rw [Nat.pow_succ] at hm; exact Nat.div_lt_of_lt_mul (by rw [Nat.mul_comm]; exact hm)
    have ih := digs_trim k (m / 65536) hk
    have hv := valL_digs k (m / 65536) hk
    by_cases h0 : m = 0
    · subst h0; intro h; simp [digs] at h
    · have e : digs (k + 1) m = ((m % 65536 : Nat) : Int) :: digs k (m / 65536) := by
        show (bif m != 0 then _ else _) = _
        rw [show (m != 0) = true by simpa using h0]
        rfl
      rw [e]
      intro _
      cases hd : digs k (m / 65536) with
      | nil =>
        rw [hd] at hv
        simp only [valL] at hv
        simp
        omega
      | cons d l =>
        rw [hd] at ih
        have := ih (by simp)
        simpa using this
def sg (b : Bool) (v : Int) : Int := bif b then -v else v
theorem plusS_val {xs ys : List Int} {p q : Bool} (hx : Digs xs) (hy : Digs ys) (tx : Trim xs) (ty : Trim ys) :
    sg (plusS p q xs ys 0 xs.length 0 ys.length).1 (valL (plusS p q xs ys 0 xs.length 0 ys.length).2) = sg p (valL xs) + sg q (valL ys) ∧ Digs (plusS p q xs ys 0 xs.length 0 ys.length).2 := by
  unfold plusS
  cases hpq : p == q with
  | true =>
    have : p = q := by simpa using hpq
    subst this
    obtain ⟨s1, s2⟩ := sumL_val hx hy
    simp only [cond_true]
    refine ⟨?_, s2⟩
    rw [s1]
    cases p
    · rfl
    · simp only [sg, cond_true]; omega
  | false =>
    simp only [cond_false]
    rw [moreV_val hy hx ty tx]
    by_cases hm : valL ys > valL xs
    · have hl : xs.length ≤ ys.length := by
        rcases Nat.lt_or_ge ys.length xs.length with h | h
        · have := longer hx hy tx h; omega
        · exact h
      obtain ⟨s1, s2⟩ := lessL_val hy hx hl (by omega)
      rw [decide_eq_true hm]
      simp only [cond_true]
      refine ⟨?_, s2⟩
      rw [s1]
      cases p <;> cases q <;> simp_all only [sg, cond_true, cond_false] <;> first | omega | cases hpq
    · have hl : ys.length ≤ xs.length := by
        rcases Nat.lt_or_ge xs.length ys.length with h | h
        · have := longer hy hx ty h; omega
        · exact h
      obtain ⟨s1, s2⟩ := lessL_val hx hy hl (by omega)
      rw [decide_eq_false hm]
      simp only [cond_false]
      refine ⟨?_, s2⟩
      rw [s1]
      cases p <;> cases q <;> simp_all only [sg, cond_true, cond_false] <;> first | omega | cases hpq
theorem digs_len : ∀ (k m : Nat), (digs k m).length ≤ k
  | 0, _ => Nat.le_refl _
  | k + 1, m => by
    unfold digs
    have := digs_len k (m / 65536)
    cases m != 0
    · simp
    · simp only [cond_true, List.length_cons]; omega
theorem abs_sg (a : Int) : sg (decide (a < 0)) (a.natAbs : Int) = a := by
  unfold sg
  by_cases h : a < 0
  · rw [decide_eq_true h]; simp only [cond_true]; omega
  · rw [decide_eq_false h]; simp only [cond_false]; omega
theorem abs_sg' (a : Int) : sg (!decide (a < 0)) (a.natAbs : Int) = -a := by
  unfold sg
  by_cases h : a < 0
  · rw [decide_eq_true h]; simp only [Bool.not_true, cond_false]; omega
  · rw [decide_eq_false h]; simp only [Bool.not_false, cond_true]; omega
theorem abs_lt {a : Int} (h : In64 a) : a.natAbs < 65536 ^ 5 := by unfold In64 at h; omega
theorem plusS_len (p q : Bool) (xs ys : List Int) (hx : xs.length ≤ 5) (hy : ys.length ≤ 5) : (plusS p q xs ys 0 xs.length 0 ys.length).2.length ≤ 6 := by
  unfold plusS
  have h1 := sumL_len xs ys 0 xs.length 0 ys.length
  have h2 := lessL_len xs ys 0 xs.length 0 ys.length
  have h3 := lessL_len ys xs 0 ys.length 0 xs.length
  have k1 := cutN_le (sumD xs ys 0 xs.length 0 ys.length) (max xs.length ys.length + 1)
  have k2 := cutN_le (lessD xs ys 0 xs.length 0 ys.length) xs.length
  have k3 := cutN_le (lessD ys xs 0 ys.length 0 xs.length) ys.length
  cases p == q
  · cases moreV ys xs 0 ys.length 0 xs.length
    · simp only [cond_false]; omega
    · simp only [cond_true, cond_false]; omega
  · simp only [cond_true]; omega

theorem sub_val {a b : Int} (ha : In64 a) (hb : In64 b) : runK xDa (fun _ _ => none) 300 49 Try.f49 0 [.int .i64 a, .int .i64 b] [] = some (.int .i64 (cut64 (a - b)), []) := by
  rw [sub_tree, in64B_iff.2 ha, in64B_iff.2 hb]
  have la := digs_len 5 a.natAbs
  have lb := digs_len 5 b.natAbs
  obtain ⟨s1, s2⟩ := plusS_val (p := decide (a < 0)) (q := !decide (b < 0)) (digs_in 5 a.natAbs) (digs_in 5 b.natAbs) (digs_trim 5 a.natAbs (abs_lt ha)) (digs_trim 5 b.natAbs (abs_lt hb))
  have ll := plusS_len (decide (a < 0)) (!decide (b < 0)) _ _ la lb
  rw [valL_digs 5 _ (abs_lt ha), valL_digs 5 _ (abs_lt hb), abs_sg, abs_sg'] at s1
  rw [digsB_iff.2 (digs_in 5 a.natAbs), digsB_iff.2 (digs_in 5 b.natAbs), digsB_iff.2 s2, valF_all]
  rw [decide_eq_true (show 0 + (digs 5 a.natAbs).length ≤ (digs 5 a.natAbs).length by omega), decide_eq_true (show 0 + (digs 5 b.natAbs).length ≤ (digs 5 b.natAbs).length by omega), decide_eq_true (show max (digs 5 a.natAbs).length (digs 5 b.natAbs).length + 1 ≤ 1000 by omega)]
  generalize plusS (decide (a < 0)) (!decide (b < 0)) (digs 5 a.natAbs) (digs 5 b.natAbs) 0 (digs 5 a.natAbs).length 0 (digs 5 b.natAbs).length = S at s1 ll ⊢
  rw [decide_eq_true (show 0 + S.2.length ≤ S.2.length by omega), decide_eq_true (show S.2.length ≤ 9223372036854775807 by omega), Int.sub_eq_add_neg, ← s1]
  rfl

end Go.Proofs.Ytboljdeeodeeeaa

namespace Go.Proofs.Ytboljdeeodeeeaa
set_option linter.unusedSimpArgs false
set_option linter.unusedVariables false
set_option maxRecDepth 100000
open Go.RowKit

def oSubD : List SV → Option Eff
  | [.int .i64 a, .int .i64 b] => some { ok := in64B a && in64B b, val := .int .i64 (cut64 (a - b)) }
  | _ => none
theorem oSubD_ok {m : Nat → Option Row} {n : Nat} {args : List SV} {e : Eff} (h : oSubD args = some e) (hok : e.ok = true) : FnOk Try.prog 49 args m n e := by
  unfold oSubD at h
  split at h
  · rename_i a b
    cases h
    rw [Bool.and_eq_true] at hok
    obtain ⟨rows', hc, _⟩ := runK_ok xDa_ok lok_none Try.func49 (sub_val (in64B_iff.1 hok.1) (in64B_iff.1 hok.2))
    exact fnOk_pure hc rfl rfl
  · cases h
noncomputable def orcSubD : Orc := ⟨49, fun args _ => oSubD args, fun _ _ _ h hok => oSubD_ok h hok, bodied Try.func49 (by kernel_rfl)⟩

noncomputable def xDv : Ctx := ctxOf [] [orcSubD]
theorem xDv_ok : COk Try.prog xDv := ctxOf_ok (by kernel_rfl)

set_option maxRecDepth 100000 in
set_option maxHeartbeats 0 in
theorem vm_tree (a b : V3) : runK xDv (fun _ _ => none) 300 25 Try.f25 0 [.agg a.sv, .agg b.sv] [] =
  bif in64B a.x && in64B b.x then
  bif in64B a.y && in64B b.y then
  bif in64B a.z && in64B b.z then some (SV.agg [SV.int IntKind.i64 (cut64 (a.x - b.x)), SV.int IntKind.i64 (cut64 (a.y - b.y)), SV.int IntKind.i64 (cut64 (a.z - b.z))], []) else none
  else none
  else none := by kernel_rfl

def oVecMinus : List SV → Option Eff
  | [.agg [.int .i64 a, .int .i64 b, .int .i64 c], .agg [.int .i64 p, .int .i64 q, .int .i64 r]] => some { ok := fitsB ⟨a, b, c⟩ && fitsB ⟨p, q, r⟩, val := .agg (V3.minus ⟨a, b, c⟩ ⟨p, q, r⟩).sv }
  | _ => none
theorem oVecMinus_ok {m : Nat → Option Row} {n : Nat} {args : List SV} {e : Eff} (h : oVecMinus args = some e) (hok : e.ok = true) : FnOk Try.prog 25 args m n e := by
  unfold oVecMinus at h
  split at h
  · rename_i a b c p q r
    cases h
    rw [Bool.and_eq_true] at hok
    have f1 := fitsB_iff.1 hok.1
    have f2 := fitsB_iff.1 hok.2
    have hv : runK xDv (fun _ _ => none) 300 25 Try.f25 0 [.agg (V3.mk a b c).sv, .agg (V3.mk p q r).sv] [] = some (.agg (V3.minus ⟨a, b, c⟩ ⟨p, q, r⟩).sv, []) := by
      rw [vm_tree, in64B_iff.2 f1.1, in64B_iff.2 f1.2.1, in64B_iff.2 f1.2.2, in64B_iff.2 f2.1, in64B_iff.2 f2.2.1, in64B_iff.2 f2.2.2]
      rfl
    obtain ⟨rows', hc, _⟩ := runK_ok xDv_ok lok_none Try.func25 hv
    exact fnOk_pure hc rfl rfl
  · cases h
noncomputable def orcVecMinus : Orc := ⟨25, fun args _ => oVecMinus args, fun _ _ _ h hok => oVecMinus_ok h hok, bodied Try.func25 (by kernel_rfl)⟩

end Go.Proofs.Ytboljdeeodeeeaa
