/- The reference's digits: rounds of its loops. -/
import Derived.Test.YtnfhlfmcgeaagaaVmFh
import Derived.Test.YtnfhlfmcgeaagaaVmOrb
namespace Go.Proofs.Ytnfhlfmcgeaagaa
set_option linter.unusedSimpArgs false
set_option linter.unusedVariables false
open Go.RowKit

noncomputable def xDg : Ctx := ctxOf [58, 53] []
theorem xDg_ok : COk Try.prog xDg := ctxOf_ok (by kernel_rfl)

def valIn (n i : Int) : List SV := [.ptr 1 0 0 0, .int .i64 0, .int .u64 n, .int .i64 i]
def rowIn (ds : List Int) (b : Bool) (off len : Nat) : List Row := [.vec true .u64 ds, .own [.bool b, .slice 0 1 off len none]]
noncomputable def rdIn : List SV → List Row → Option Res2 := roundS xDg (fun _ _ => none) 100 42 [0, 1, 0, 1, 1] (bodyAt Try.f42 [0, 1, 0, 1, 1]) 38 2 [1, 2, 3, 4]

set_option maxRecDepth 100000 in
set_option maxHeartbeats 0 in
theorem in_round (ds : List Int) (b : Bool) (off len : Nat) (n i : Int) : rdIn (valIn n i) (rowIn ds b off len) =
  bif decide (i ≥ 0) then
  bif decide (n ≥ 281474976710656) then
  bif b then
  some
  (SV.tuple [SV.nils, SV.tuple [SV.ptr 1 0 0 0, SV.int IntKind.i64 (-9223372036854775808), SV.int IntKind.u64 n, SV.int IntKind.i64 i]],
  [Row.vec true Knd.u64 ds, Row.own [SV.bool b, SV.slice 0 1 off len none]])
  else
  some
  (SV.tuple [SV.nils, SV.tuple [SV.ptr 1 0 0 0, SV.int IntKind.i64 9223372036854775807, SV.int IntKind.u64 n, SV.int IntKind.i64 i]],
  [Row.vec true Knd.u64 ds, Row.own [SV.bool b, SV.slice 0 1 off len none]])
  else
  bif decide (0 ≤ i) && decide (i < (↑len : Int)) then
  bif decide (off + i.toNat < ds.length) then
  some
  (SV.tuple
  [SV.nilp,
  SV.tuple
  [SV.ptr 1 0 0 0, SV.int IntKind.i64 0, SV.int IntKind.u64 (IntKind.u64.wrap (IntKind.u64.wrap (n * 65536) + ds.getD (off + i.toNat) Knd.u64.dflt)),
  SV.int IntKind.i64 (IntKind.i64.wrap (i - 1))]],
  [Row.vec true Knd.u64 ds, Row.own [SV.bool b, SV.slice 0 1 off len none]])
  else none
  else none
  else
  some
  (SV.tuple [SV.ptr 0 0 0 0, SV.tuple [SV.ptr 1 0 0 0, SV.int IntKind.i64 0, SV.int IntKind.u64 n, SV.int IntKind.i64 i]], [Row.vec true Knd.u64 ds, Row.own [SV.bool b, SV.slice 0 1 off len none]]) := by kernel_rfl

/-! Of: a number's digits. -/
noncomputable def rdOf : List SV → List Row → Option Res2 := roundS xDg (fun _ _ => none) 100 44 [0, 0, 1, 1] (bodyAt Try.f44 [0, 0, 1, 1]) 26 2 [0, 2, 3]
def valOf (n : Int) : List SV := [.int .i64 n, .ptr 0 0 0 0, .ptr 1 0 0 0]
def rowOf0 (b : Bool) : List Row := [.own [.bool false, .nils], .own [.bool b, .nils]]
def rowOf1 (b : Bool) (ds : List Int) (len : Nat) : List Row := [.own [.bool false, .nils], .own [.bool b, .slice 2 1 0 len none], .vec false .u64 ds]

set_option maxRecDepth 100000 in
set_option maxHeartbeats 0 in
theorem of_round0 (n : Int) (b : Bool) : rdOf (valOf n) (rowOf0 b) =
  bif n != 0 then
  bif decide (n.tmod 65536 < 0) then
  some
  (SV.tuple [SV.nilp, SV.tuple [SV.int IntKind.i64 (IntKind.i64.wrap (n.tdiv 65536)), SV.ptr 0 0 0 0, SV.ptr 1 0 0 0]],
  [Row.own [SV.bool false, SV.nils], Row.own [SV.bool b, SV.slice 2 Knd.u64.st 0 1 none], Row.vec false Knd.u64 [IntKind.u64.wrap (IntKind.i64.wrap (0 - n.tmod 65536))]])
  else
  some
  (SV.tuple [SV.nilp, SV.tuple [SV.int IntKind.i64 (IntKind.i64.wrap (n.tdiv 65536)), SV.ptr 0 0 0 0, SV.ptr 1 0 0 0]],
  [Row.own [SV.bool false, SV.nils], Row.own [SV.bool b, SV.slice 2 Knd.u64.st 0 1 none], Row.vec false Knd.u64 [IntKind.u64.wrap (n.tmod 65536)]])
  else some (SV.tuple [SV.ptr 0 0 0 0, SV.tuple [SV.int IntKind.i64 n, SV.ptr 0 0 0 0, SV.ptr 1 0 0 0]], [Row.own [SV.bool false, SV.nils], Row.own [SV.bool b, SV.nils]]) := by kernel_rfl

def grows (len : Nat) (ds : List Int) (d : Int) : Bool := decide (0 + 1 ≤ [d].length) && ((decide (0 < len) || (none : Option Nat).isSome) && (decide (len ≤ ds.length) && (decide (len + 1 ≤ 9223372036854775807) && decide ((len + 1) * 8 ≤ 140737488355328))))
set_option maxRecDepth 100000 in
set_option maxHeartbeats 0 in
theorem of_round1 (n : Int) (b : Bool) (ds : List Int) (len : Nat) : rdOf (valOf n) (rowOf1 b ds len) =
  bif n != 0 then
    bif decide (n.tmod 65536 < 0) then
      bif grows len ds (IntKind.u64.wrap (IntKind.i64.wrap (0 - n.tmod 65536))) then
        some (.tuple [.nilp, .tuple (valOf (IntKind.i64.wrap (n.tdiv 65536)))], rowOf1 b (ds.take len ++ [IntKind.u64.wrap (IntKind.i64.wrap (0 - n.tmod 65536))]) (len + 1))
      else none
    else
      bif grows len ds (IntKind.u64.wrap (n.tmod 65536)) then
        some (.tuple [.nilp, .tuple (valOf (IntKind.i64.wrap (n.tdiv 65536)))], rowOf1 b (ds.take len ++ [IntKind.u64.wrap (n.tmod 65536)]) (len + 1))
      else none
  else some (.tuple [.ptr 0 0 0 0, .tuple (valOf n)], rowOf1 b ds len) := by kernel_rfl

/-- The digits of a number, the lowest first (at most as many as the first argument). -/
def digs : Nat → Nat → List Int
  | 0, _ => []
  | k + 1, m => bif m != 0 then ((m % 65536 : Nat) : Int) :: digs k (m / 65536) else []
theorem u64_small {a : Int} (h1 : 0 ≤ a) (h2 : a < 65536) : IntKind.u64.wrap a = a := by
  unfold IntKind.wrap
  simp [IntKind.signed, IntKind.bits]
  omega
theorem digit_up {n : Int} (h : ¬ n.tmod 65536 < 0) : IntKind.u64.wrap (n.tmod 65536) = ((n.natAbs % 65536 : Nat) : Int) := by
  have h2 := Int.tmod_lt_of_pos n (show (0 : Int) < 65536 by omega)
  rw [u64_small (by omega) h2]
  have h3 : n.tmod 65536 = n.sign * ((n.natAbs % 65536 : Nat) : Int) := by
    rcases Int.le_total 0 n with hn | hn
    · rw [Int.tmod_eq_emod_of_nonneg hn]
      rcases Int.lt_or_eq_of_le hn with h4 | h4
      · rw [Int.sign_eq_one_of_pos h4]; omega
      · rw [← h4]; rfl
    · rcases Int.lt_or_eq_of_le hn with h4 | h4
      · rw [Int.sign_eq_neg_one_of_neg h4]
        have := Int.neg_tmod (-n) 65536
        rw [Int.neg_neg, Int.tmod_eq_emod_of_nonneg (a := -n) (b := 65536) (by omega)] at this
        rw [this]; omega
      · rw [h4]; rfl
  rcases Int.lt_trichotomy n 0 with h4 | h4 | h4
  · rw [Int.sign_eq_neg_one_of_neg h4] at h3; omega
  · subst h4; rfl
  · rw [Int.sign_eq_one_of_pos h4] at h3; omega
theorem digit_down {n : Int} (h : n.tmod 65536 < 0) : IntKind.u64.wrap (IntKind.i64.wrap (0 - n.tmod 65536)) = ((n.natAbs % 65536 : Nat) : Int) := by
  have h2 := Int.lt_tmod_of_pos n (show (0 : Int) < 65536 by omega)
  rw [IntWalk.i64_in (0 - n.tmod 65536) (by omega), u64_small (by omega) (by omega)]
  have hn : n < 0 := by
    rcases Int.lt_or_le n 0 with h4 | h4
    · exact h4
    · rw [Int.tmod_eq_emod_of_nonneg h4] at h; omega
  have := Int.neg_tmod (-n) 65536
  rw [Int.neg_neg, Int.tmod_eq_emod_of_nonneg (a := -n) (b := 65536) (by omega)] at this
  omega
theorem next_abs {n : Int} (h : In64 n) : IntKind.i64.wrap (n.tdiv 65536) = n.tdiv 65536 ∧ In64 (n.tdiv 65536) ∧ (n.tdiv 65536).natAbs = n.natAbs / 65536 := by
  unfold In64 at h ⊢
  rcases Int.le_total 0 n with hn | hn
  · rw [Int.tdiv_eq_ediv_of_nonneg hn]
    exact ⟨IntWalk.i64_in _ (by omega), by omega, by omega⟩
  · have := Int.neg_tdiv (-n) 65536
    rw [Int.neg_neg, Int.tdiv_eq_ediv_of_nonneg (a := -n) (b := 65536) (by omega)] at this
    rw [this]
    exact ⟨IntWalk.i64_in _ (by omega), by omega, by omega⟩
theorem grows_ok {len : Nat} {ds : List Int} {d : Int} (h : len = ds.length) (h1 : 0 < len) (h2 : len ≤ 1000) : grows len ds d = true := by
  unfold grows
  simp only [Bool.and_eq_true, Bool.or_eq_true, decide_eq_true_eq]
  exact ⟨by simp, .inl h1, by omega, by omega, by omega⟩
theorem of_loop1 {b : Bool} : ∀ (k : Nat) (n : Int) (ds : List Int) (len : Nat), len = ds.length → 0 < len → len + k ≤ 1000 → In64 n → n.natAbs < 65536 ^ k →
    LoopTo rdOf (valOf n) (rowOf1 b ds len) (.exit 0) (valOf 0) (rowOf1 b (ds ++ digs k n.natAbs) (ds ++ digs k n.natAbs).length)
  | 0, n, ds, len, h1, h2, h3, h4, h5 => by
    obtain rfl : n = 0 := by simp at h5; omega
    refine .done ?_ (by simp)
    rw [of_round1, h1]
    simp only [digs, List.append_nil]
    rfl
  | k + 1, n, ds, len, h1, h2, h3, h4, h5 => by
    by_cases h0 : n = 0
    · subst h0
      refine .done ?_ (by simp)
      rw [of_round1, h1]
      simp only [digs, Int.natAbs_zero, bne_self_eq_false, cond_false, List.append_nil]
      rfl
    · obtain ⟨e1, e2, e3⟩ := next_abs h4
      have hro := of_round1 n b ds len
      rw [show (n != 0) = true by simpa using h0, cond_true, e1] at hro
      have et : ds.take len = ds := by rw [h1]; exact List.take_length
      have hk : (n.tdiv 65536).natAbs < 65536 ^ k := by
        rw [e3]
        rw [Nat.pow_succ] at h5
        exact Nat.div_lt_of_lt_mul (by rw [Nat.mul_comm]; exact h5)
      have hd : digs (k + 1) n.natAbs = ((n.natAbs % 65536 : Nat) : Int) :: digs k (n.tdiv 65536).natAbs := by
        rw [e3]
        show (bif n.natAbs != 0 then _ else _) = _
        rw [show (n.natAbs != 0) = true by simpa using h0]
        rfl
      have ih := of_loop1 (b := b) k (n.tdiv 65536) (ds ++ [((n.natAbs % 65536 : Nat) : Int)]) (len + 1) (by simp [h1]) (by omega) (by omega) e2 hk
      rw [List.append_assoc, List.singleton_append, ← hd] at ih
      cases hs : decide (n.tmod 65536 < 0) with
      | true =>
        rw [hs, cond_true, grows_ok h1 h2 (by omega), cond_true, et, digit_down (of_decide_eq_true hs)] at hro
        exact .more hro ih
      | false =>
        rw [hs, cond_false, grows_ok h1 h2 (by omega), cond_true, et, digit_up (of_decide_eq_false hs)] at hro
        exact .more hro ih
theorem of_loop0 {b : Bool} {n : Int} (h : In64 n) (h0 : n ≠ 0) : LoopTo rdOf (valOf n) (rowOf0 b) (.exit 0) (valOf 0) (rowOf1 b (digs 5 n.natAbs) (digs 5 n.natAbs).length) := by
  obtain ⟨e1, e2, e3⟩ := next_abs h
  have hro := of_round0 n b
  rw [show (n != 0) = true by simpa using h0, cond_true, e1] at hro
  have hb : (n.tdiv 65536).natAbs < 65536 ^ 4 := by
    rw [e3]
    unfold In64 at h
    omega
  have hd : digs 5 n.natAbs = ((n.natAbs % 65536 : Nat) : Int) :: digs 4 (n.tdiv 65536).natAbs := by
    rw [e3]
    show (bif n.natAbs != 0 then _ else _) = _
    rw [show (n.natAbs != 0) = true by simpa using h0]
    rfl
  have ih := of_loop1 (b := b) 4 (n.tdiv 65536) [((n.natAbs % 65536 : Nat) : Int)] 1 rfl (by omega) (by omega) e2 hb
  rw [List.singleton_append, ← hd] at ih
  cases hs : decide (n.tmod 65536 < 0) with
  | true =>
    rw [hs, cond_true, digit_down (of_decide_eq_true hs)] at hro
    exact .more hro ih
  | false =>
    rw [hs, cond_false, digit_up (of_decide_eq_false hs)] at hro
    exact .more hro ih

set_option maxHeartbeats 0 in
noncomputable def outOf (v : List SV) (R : List Row) (k : Ex → List SV → List Row → Option Res2) : Option Res2 := match v, R with
  | [.int .i64 n, .ptr 0 0 0 0, .ptr 1 0 0 0], [.own [.bool false, .nils], .own [.bool b, .nils]] =>
      bif in64B n then (bif n == 0 then k (.exit 0) (valOf 0) (rowOf0 b) else k (.exit 0) (valOf 0) (rowOf1 b (digs 5 n.natAbs) (digs 5 n.natAbs).length)) else none
  | _, _ => none
set_option maxHeartbeats 0 in
theorem lpoOf_ok : LpOk 44 [0, 0, 1, 1] (loopF 26 [0, 2, 3] outOf) := by
  intro b hat s K r h
  refine loopF_ok (fuel := 100) xDg_ok lok_none hat (fun v R k r hr => ?_) h
  have hbody := at_body Try.func44 hat
  subst hbody
  unfold outOf at hr
  split at hr
  · rename_i n b
    obtain ⟨hb, hr2⟩ := cond_some hr
    rw [in64B_iff] at hb
    cases h0 : n == 0 with
    | true =>
      rw [h0, cond_true] at hr2
      have hn : n = 0 := by simpa using h0
      subst hn
      exact ⟨_, _, _, hr2, .done (by rw [show ([.own [.bool false, .nils], .own [.bool b, .nils]] : List Row) = rowOf0 b from rfl, show ([.int .i64 0, .ptr 0 0 0 0, .ptr 1 0 0 0] : List SV) = valOf 0 from rfl]; exact of_round0 0 b) (by simp)⟩
    | false =>
      rw [h0, cond_false] at hr2
      exact ⟨_, _, _, hr2, of_loop0 hb (by simpa using h0)⟩
  · cases hr
noncomputable def lpoOf : Lpo := ⟨_, _, _, lpoOf_ok⟩

set_option maxRecDepth 100000 in
set_option maxHeartbeats 0 in
theorem of_tree (n : Int) : runK xDg (loopOf [lpoOf]) 300 44 Try.f44 9 [.int .i64 n] [] =
  bif in64B n then
  bif n == 0 then some (SV.agg [SV.bool (decide (n < 0)), SV.nils], [Row.own [SV.bool (decide (n < 0)), SV.nils], Row.own [SV.bool (decide (n < 0)), SV.nils]])
  else
  some
  (SV.agg [SV.bool (decide (n < 0)), SV.slice 2 1 0 (digs 5 n.natAbs).length none],
  [Row.own [SV.bool (decide (n < 0)), SV.slice 2 1 0 (digs 5 n.natAbs).length none], Row.own [SV.bool (decide (n < 0)), SV.slice 2 1 0 (digs 5 n.natAbs).length none],
  Row.vec false Knd.u64
  (bif n.natAbs != 0 then
  (↑(n.natAbs % 65536) : Int) ::
  bif n.natAbs / 65536 != 0 then
  (↑(n.natAbs / 65536 % 65536) : Int) ::
  bif n.natAbs / 65536 / 65536 != 0 then
  (↑(n.natAbs / 65536 / 65536 % 65536) : Int) ::
  bif n.natAbs / 65536 / 65536 / 65536 != 0 then
  (↑(n.natAbs / 65536 / 65536 / 65536 % 65536) : Int) ::
  bif n.natAbs / 65536 / 65536 / 65536 / 65536 != 0 then [(↑(n.natAbs / 65536 / 65536 / 65536 / 65536 % 65536) : Int)] else []
  else []
  else []
  else []
  else [])])
  else none := by kernel_rfl

theorem of_val {n : Int} (h : in64B n = true) (h0 : (n == 0) = false) : runK xDg (loopOf [lpoOf]) 300 44 Try.f44 9 [.int .i64 n] [] =
    some (.agg [.bool (decide (n < 0)), .slice 2 1 0 (digs 5 n.natAbs).length none], [.own [.bool (decide (n < 0)), .slice 2 1 0 (digs 5 n.natAbs).length none], .own [.bool (decide (n < 0)), .slice 2 1 0 (digs 5 n.natAbs).length none], .vec false .u64 (digs 5 n.natAbs)]) := by
  rw [of_tree, h, h0]
  rfl
def oOf (args : List SV) (rows : List Row) : Option Eff :=
  match args with
  | [.int .i64 n] => some { ok := in64B n, val := .agg [.bool (decide (n < 0)), .slice rows.length 1 0 (digs 5 n.natAbs).length none], nw := [.vec true .u64 (digs 5 n.natAbs)] }
  | _ => none
theorem take_get {α : Type} {l : List α} {k i : Nat} {r : List α} (h : l.take k = r) (hi : i < k) : l[i]? = r[i]? := by
  rw [← h, List.getElem?_take, if_pos hi]
theorem oOf_ok {args : List SV} {rows : List Row} {e : Eff} (h : oOf args rows = some e) (hok : e.ok = true) : FnOk Try.prog 44 args (rows[·]?) rows.length e := by
  unfold oOf at h
  split at h
  · rename_i n
    cases h
    simp only at hok
    cases h0 : n == 0 with
    | true =>
      have hn : n = 0 := by simpa using h0
      subst hn
      obtain ⟨rows', hc, _⟩ := runK_ok xDg_ok loopOf_ok Try.func44 (of_tree 0)
      exact fnOk_fresh (C := fun s => .agg [.bool (decide ((0 : Int) < 0)), s]) (s0 := .nils) (ds := []) hc (round_big _) (σ := []) rfl (by simp [SV.idsL, SV.ids]) (fun i row h => by simp at h) (.inl ⟨rfl, rfl⟩)
    | false =>
      obtain ⟨rows', hc, ht⟩ := runK_ok xDg_ok loopOf_ok Try.func44 (of_val hok h0)
      exact fnOk_fresh (C := fun s => .agg [.bool (decide (n < 0)), s]) (s0 := .slice 2 1 0 (digs 5 n.natAbs).length none) (ds := digs 5 n.natAbs) hc (round_big _) (σ := []) rfl (by simp [SV.idsL, SV.ids]) (fun i row h => by simp at h) (.inr ⟨2, 0, none, false, digs 5 n.natAbs, rfl, by simp, by rw [take_get ht (by omega)]; rfl, fun i _ => by rw [Nat.zero_add]⟩)
  · cases h
noncomputable def orcOf : Orc := ⟨44, oOf, fun _ _ _ h hok => oOf_ok h hok, bodied Try.func44 (by kernel_rfl)⟩

/-! Int: a number of digits, saturated. -/
def intGo (ds : List Int) (off : Nat) : Nat → Int → Bool × Int × Int
  | 0, n => (false, n, -1)
  | k + 1, n => bif decide (n ≥ 281474976710656) then (true, n, k) else intGo ds off k (IntKind.u64.wrap (IntKind.u64.wrap (n * 65536) + ds.getD (off + k) Knd.u64.dflt))
theorem in_loop {ds : List Int} {b : Bool} {off len : Nat} (hl : off + len ≤ ds.length) (h64 : len ≤ 9223372036854775807) : ∀ (k : Nat) (n : Int), k ≤ len →
    ((intGo ds off k n).1 = true → LoopTo rdIn (valIn n ((k : Int) - 1)) (rowIn ds b off len) .ret [.ptr 1 0 0 0, .int .i64 (bif b then -9223372036854775808 else 9223372036854775807), .int .u64 (intGo ds off k n).2.1, .int .i64 (intGo ds off k n).2.2] (rowIn ds b off len)) ∧
    ((intGo ds off k n).1 = false → LoopTo rdIn (valIn n ((k : Int) - 1)) (rowIn ds b off len) (.exit 0) (valIn (intGo ds off k n).2.1 (-1)) (rowIn ds b off len))
  | 0, n, hk => by
    refine ⟨fun h => by simp [intGo] at h, fun _ => .done ?_ (by simp)⟩
    rw [in_round, decide_eq_false (by omega), cond_false]
    rfl
  | k + 1, n, hk => by
    have hro := in_round ds b off len n (((k + 1 : Nat) : Int) - 1)
    have e1 : (((k + 1 : Nat) : Int) - 1) = (k : Int) := by omega
    rw [e1] at hro ⊢
    have e2 : ((k : Int)).toNat = k := by omega
    rw [decide_eq_true (show (k : Int) ≥ 0 by omega), cond_true, e2, decide_eq_true (show (k : Int) < (len : Int) by omega), decide_eq_true (show off + k < ds.length by omega), IntWalk.i64_in ((k : Int) - 1) (by omega)] at hro
    simp only [Bool.and_true, cond_true] at hro
    unfold intGo
    cases hc : decide (n ≥ 281474976710656) with
    | true =>
      rw [hc, cond_true] at hro
      simp only [cond_true]
      refine ⟨fun _ => ?_, fun h => by simp at h⟩
      cases b
      · exact .done hro (by simp)
      · exact .done hro (by simp)
    | false =>
      rw [hc, cond_false] at hro
      simp only [cond_false]
      have ih := in_loop (b := b) hl h64 k (IntKind.u64.wrap (IntKind.u64.wrap (n * 65536) + ds.getD (off + k) Knd.u64.dflt)) (by omega)
      exact ⟨fun h => .more hro (ih.1 h), fun h => .more hro (ih.2 h)⟩
set_option maxHeartbeats 0 in
noncomputable def outIn (v : List SV) (R : List Row) (k : Ex → List SV → List Row → Option Res2) : Option Res2 := match v, R with
  | [.ptr 1 0 0 0, .int .i64 z, .int .u64 n, .int .i64 i], [.vec true .u64 ds, .own [.bool b, .slice 0 1 off len none]] =>
      bif decide (z = 0) && (decide (i = (len : Int) - 1) && (decide (off + len ≤ ds.length) && decide (len ≤ 9223372036854775807))) then
        (bif (intGo ds off len n).1 then k .ret [.ptr 1 0 0 0, .int .i64 (bif b then -9223372036854775808 else 9223372036854775807), .int .u64 (intGo ds off len n).2.1, .int .i64 (intGo ds off len n).2.2] (rowIn ds b off len)
        else k (.exit 0) (valIn (intGo ds off len n).2.1 (-1)) (rowIn ds b off len)) else none
  | _, _ => none
set_option maxHeartbeats 0 in
theorem lpoIn_ok : LpOk 42 [0, 1, 0, 1, 1] (loopF 38 [1, 2, 3, 4] outIn) := by
  intro b hat s K r h
  refine loopF_ok (fuel := 100) xDg_ok lok_none hat (fun v R k r hr => ?_) h
  have hbody := at_body Try.func42 hat
  subst hbody
  unfold outIn at hr
  split at hr
  · rename_i z n i ds b off len
    obtain ⟨hb, hr2⟩ := cond_some hr
    simp only [Bool.and_eq_true, decide_eq_true_eq] at hb
    obtain ⟨h1, h2, h3, h4⟩ := hb
    subst h1 h2
    have hl := in_loop (b := b) h3 h4 len n (Nat.le_refl _)
    cases hq : (intGo ds off len n).1 with
    | true =>
      rw [hq, cond_true] at hr2
      exact ⟨_, _, _, hr2, hl.1 hq⟩
    | false =>
      rw [hq, cond_false] at hr2
      exact ⟨_, _, _, hr2, hl.2 hq⟩
  · cases hr
noncomputable def lpoIn : Lpo := ⟨_, _, _, lpoIn_ok⟩

set_option maxRecDepth 100000 in
set_option maxHeartbeats 0 in
theorem in_tree (ds : List Int) (b : Bool) (off len : Nat) : runK xDg (loopOf [lpoIn]) 300 42 Try.f42 0 [.agg [.bool b, .slice 0 1 off len none]] [.vec true .u64 ds] =
  bif decide (IntKind.i64.wrap ((↑len : Int) - 1) = (↑len : Int) - 1) && (decide (off + len ≤ ds.length) && decide (len ≤ 9223372036854775807)) then
  bif (intGo ds off len 0).fst then some (SV.int IntKind.i64 (bif b then -9223372036854775808 else 9223372036854775807), [])
  else
  bif decide ((intGo ds off len 0).snd.fst > 9223372036854775807) then bif b then some (SV.int IntKind.i64 (-9223372036854775808), []) else some (SV.int IntKind.i64 9223372036854775807, [])
  else
  bif b then some (SV.int IntKind.i64 (IntKind.i64.wrap (0 - IntKind.i64.wrap (intGo ds off len 0).snd.fst)), []) else some (SV.int IntKind.i64 (IntKind.i64.wrap (intGo ds off len 0).snd.fst), [])
  else none := by kernel_rfl

end Go.Proofs.Ytnfhlfmcgeaagaa
