/- The reference's digits: sum, less, more. -/
import Derived.Test.YtnfhlfmcgeaagaaVmDi
namespace Go.Proofs.Ytnfhlfmcgeaagaa
set_option linter.unusedSimpArgs false
set_option linter.unusedVariables false
open Go.RowKit

/-! cut: without noughts at the end. -/
noncomputable def rdCu : List SV → List Row → Option Res2 := roundS xDg (fun _ _ => none) 100 59 [0, 0, 1, 1] (bodyAt Try.f59 [0, 0, 1, 1]) 21 1 [0, 2, 3]
def valCu (la : Nat) (n : Int) : List SV := [.slice 0 1 0 la none, .nils, .int .i64 n]
def rowCu (xs : List Int) : List Row := [.vec false .u64 xs]

set_option maxRecDepth 100000 in
set_option maxHeartbeats 0 in
theorem cu_round (xs : List Int) (la : Nat) (n : Int) : rdCu (valCu la n) (rowCu xs) =
  bif
  (decide (0 ≤ IntKind.i64.wrap (n - 1)) && decide (IntKind.i64.wrap (n - 1) < (↑la : Int)) && (decide (0 + (IntKind.i64.wrap (n - 1)).toNat < xs.length) && true) && true ||
  decide (n > 0) != true) &&
  (true || decide (n > 0) == true) &&
  true then
  bif bif decide (n > 0) == true then xs.getD (0 + (IntKind.i64.wrap (n - 1)).toNat) Knd.u64.dflt == 0 else false then
  some (SV.tuple [SV.nilp, SV.tuple [SV.slice 0 1 0 la none, SV.nils, SV.int IntKind.i64 (IntKind.i64.wrap (n - 1))]], [Row.vec false Knd.u64 xs])
  else some (SV.tuple [SV.ptr 0 0 0 0, SV.tuple [SV.slice 0 1 0 la none, SV.nils, SV.int IntKind.i64 n]], [Row.vec false Knd.u64 xs])
  else none := by kernel_rfl

def cutN (xs : List Int) : Nat → Nat
  | 0 => 0
  | k + 1 => bif xs.getD (0 + k) Knd.u64.dflt == 0 then cutN xs k else k + 1
theorem cutN_le (xs : List Int) : ∀ k, cutN xs k ≤ k
  | 0 => Nat.le_refl _
  | k + 1 => by
    unfold cutN
    have := cutN_le xs k
    cases xs.getD (0 + k) Knd.u64.dflt == 0
    · exact Nat.le_refl _
    · simp only [cond_true]; omega
theorem cu_loop {xs : List Int} {la : Nat} (hl : la ≤ xs.length) (h64 : la ≤ 9223372036854775807) : ∀ (k : Nat), k ≤ la → LoopTo rdCu (valCu la k) (rowCu xs) (.exit 0) (valCu la (cutN xs k : Nat)) (rowCu xs)
  | 0, hk => by
    refine .done ?_ (by simp)
    rw [cu_round]
    rfl
  | k + 1, hk => by
    have hro := cu_round xs la ((k + 1 : Nat) : Int)
    have e1 : (((k + 1 : Nat) : Int) - 1) = (k : Int) := by omega
    have e2 : ((k : Int)).toNat = k := by omega
    rw [e1, IntWalk.i64_in (k : Int) (by omega), e2, decide_eq_true (show (0 : Int) ≤ (k : Int) by omega), decide_eq_true (show (k : Int) < (la : Int) by omega), decide_eq_true (show 0 + k < xs.length by omega), decide_eq_true (show ((k + 1 : Nat) : Int) > 0 by omega)] at hro
    simp only [Bool.and_true, Bool.true_or, cond_true, beq_self_eq_true] at hro
    unfold cutN
    cases hc : xs.getD (0 + k) Knd.u64.dflt == 0 with
    | true =>
      rw [hc, cond_true] at hro
      simp only [cond_true]
      exact .more hro (cu_loop hl h64 k (by omega))
    | false =>
      rw [hc, cond_false] at hro
      simp only [cond_false]
      exact .done hro (by simp)
set_option maxHeartbeats 0 in
noncomputable def outCu (v : List SV) (R : List Row) (k : Ex → List SV → List Row → Option Res2) : Option Res2 := match v, R with
  | [.slice 0 1 0 la none, .nils, .int .i64 n], [.vec false .u64 xs] =>
      bif decide (n = (la : Int)) && (decide (la ≤ xs.length) && decide (la ≤ 9223372036854775807)) then k (.exit 0) (valCu la (cutN xs la : Nat)) (rowCu xs) else none
  | _, _ => none
set_option maxHeartbeats 0 in
theorem lpoCu_ok : LpOk 59 [0, 0, 1, 1] (loopF 21 [0, 2, 3] outCu) := by
  intro b hat s K r h
  refine loopF_ok (fuel := 100) xDg_ok lok_none hat (fun v R k r hr => ?_) h
  have hbody := at_body Try.func59 hat
  subst hbody
  unfold outCu at hr
  split at hr
  · rename_i la n xs
    obtain ⟨hb, hr2⟩ := cond_some hr
    simp only [Bool.and_eq_true, decide_eq_true_eq] at hb
    obtain ⟨h1, h3, h4⟩ := hb
    subst h1
    exact ⟨_, _, _, hr2, cu_loop h3 h4 la (Nat.le_refl _)⟩
  · cases hr
noncomputable def lpoCu : Lpo := ⟨_, _, _, lpoCu_ok⟩

set_option maxRecDepth 100000 in
set_option maxHeartbeats 0 in
theorem cu_tree (xs : List Int) (la : Nat) : runK xDg (loopOf [lpoCu]) 300 59 Try.f59 9 [.slice 0 1 0 la none] [.vec false .u64 xs] =
  bif decide ((↑la : Int) = (↑la : Int)) && (decide (la ≤ xs.length) && decide (la ≤ 9223372036854775807)) then
  bif decide (0 ≤ (↑(cutN xs la) : Int)) && decide ((↑(cutN xs la) : Int) ≤ (↑(capOr none la) : Int)) then some (SV.slice 0 1 0 (↑(cutN xs la) : Int).toNat none, [Row.vec false Knd.u64 xs]) else none
  else none := by kernel_rfl

theorem cu_val {xs : List Int} {la : Nat} (h1 : la ≤ xs.length) (h2 : la ≤ 9223372036854775807) : runK xDg (loopOf [lpoCu]) 300 59 Try.f59 9 [.slice 0 1 0 la none] [.vec false .u64 xs] = some (.slice 0 1 0 (cutN xs la) none, [.vec false .u64 xs]) := by
  have hn := cutN_le xs la
  rw [cu_tree, decide_eq_true (show (la : Int) = (la : Int) from rfl), decide_eq_true h1, decide_eq_true h2, show capOr none la = la from rfl, decide_eq_true (show (0 : Int) ≤ ((cutN xs la : Nat) : Int) by omega), decide_eq_true (show ((cutN xs la : Nat) : Int) ≤ ((la : Nat) : Int) by omega)]
  rfl
def oCutD (args : List SV) (rows : List Row) : Option Eff :=
  match args with
  | [.slice id 1 0 la none] => match rows[id]? with
    | some (.vec false .u64 xs) => some { ok := decide (la ≤ xs.length) && decide (la ≤ 9223372036854775807), val := .slice id 1 0 (cutN xs la) none, rd := [id], wr := [(id, .vec false .u64 xs)] }
    | _ => none
  | _ => none
theorem oCutD_ok {args : List SV} {rows : List Row} {e : Eff} (h : oCutD args rows = some e) (hok : e.ok = true) : FnOk Try.prog 59 args (rows[·]?) rows.length e := by
  unfold oCutD at h
  split at h
  · rename_i id la
    split at h
    · rename_i xs hrow
      cases h
      simp only [Bool.and_eq_true, decide_eq_true_eq] at hok
      obtain ⟨h1, h2⟩ := hok
      obtain ⟨rows', hc, ht⟩ := runK_ok xDg_ok loopOf_ok Try.func59 (cu_val (xs := xs) h1 h2)
      have hr' : rows' = [.vec false .u64 xs] := by
        have hl := congrArg List.length ht
        rw [List.length_take] at hl
        simp only [List.length_cons, List.length_nil] at hl
        rw [List.take_of_length_le (by omega)] at ht
        exact ht
      subst hr'
      have l1 := (List.getElem?_eq_some_iff.1 hrow).1
      refine fnOk_ren hc (σ := [id]) (n := rows.length) (W := [(id, .vec false .u64 xs)]) rfl ?_ ?_ ?_ ?_ ?_ ?_ ?_
      · simp
      · intro j hj
        simp at hj
        subst hj
        exact l1
      · intro i hi
        simp [SV.idsL, SV.ids] at hi
        subst hi
        simp
      · intro i row hr j hj
        match i, hr with
        | 0, hr => simp at hr; subst hr; simp [Row.idsR] at hj
        | i + 1, hr => simp at hr
      · intro i row hr
        match i, hr with
        | 0, hr => simp at hr; subst hr; exact ⟨_, hrow, fun h => h, fun _ _ h => h⟩
        | i + 1, hr => simp at hr
      · intro i row hr _
        match i, hr with
        | 0, hr => exact .inr ⟨_, rfl, List.mem_cons_self ..⟩
        | i + 1, hr => simp at hr
      · intro x hx
        simp only [List.mem_cons, List.not_mem_nil, or_false] at hx
        subst hx
        exact ⟨0, _, by simp, rfl, rfl⟩
    · cases h
  · cases h
noncomputable def orcCutD : Orc := ⟨59, oCutD, fun _ _ _ h hok => oCutD_ok h hok, bodied Try.func59 (by kernel_rfl)⟩

/-! at: a digit, 0 beyond. -/
set_option maxRecDepth 100000 in
set_option maxHeartbeats 0 in
theorem at_tree (ds : List Int) (off len : Nat) (i : Int) : runK xDg (fun _ _ => none) 300 58 Try.f58 0 [.slice 0 1 off len none, .int .i64 i] [.vec true .u64 ds] =
  bif decide (i < (↑len : Int)) then
  bif decide (0 ≤ i) && decide (i < (↑len : Int)) then bif decide (off + i.toNat < ds.length) then some (SV.int IntKind.u64 (ds.getD (off + i.toNat) Knd.u64.dflt), []) else none else none
  else some (SV.int IntKind.u64 0, []) := by kernel_rfl

def atD (ds : List Int) (off len : Nat) (i : Int) : Int := bif decide (i < (len : Int)) then ds.getD (off + i.toNat) Knd.u64.dflt else 0
theorem at_val {ds : List Int} {off len : Nat} {i : Int} (h0 : decide (0 ≤ i) = true) (hl : decide (off + len ≤ ds.length) = true) : runK xDg (fun _ _ => none) 300 58 Try.f58 0 [.slice 0 1 off len none, .int .i64 i] [.vec true .u64 ds] = some (.int .u64 (atD ds off len i), []) := by
  rw [at_tree, h0]
  unfold atD
  rw [decide_eq_true_eq] at h0 hl
  cases hc : decide (i < (len : Int)) with
  | true =>
    have := of_decide_eq_true hc
    simp only [cond_true, Bool.true_and]
    rw [decide_eq_true (show off + i.toNat < ds.length by omega)]
    rfl
  | false => rfl
def oAtD (args : List SV) (rows : List Row) : Option Eff :=
  match args with
  | [.slice id 1 off len none, .int .i64 i] => match rows[id]? with
    | some (.vec _ .u64 ds) => some { ok := decide (0 ≤ i) && decide (off + len ≤ ds.length), val := .int .u64 (atD ds off len i), rd := [id] }
    | _ => none
  | _ => none
theorem oAtD_ok {args : List SV} {rows : List Row} {n : Nat} {e : Eff} (h : oAtD args rows = some e) (hok : e.ok = true) : FnOk Try.prog 58 args (rows[·]?) n e := by
  unfold oAtD at h
  split at h
  · rename_i id off len i
    split at h
    · rename_i ro ds hrow
      cases h
      rw [Bool.and_eq_true] at hok
      obtain ⟨rows', hc, _⟩ := runK_ok xDg_ok lok_none Try.func58 (at_val (ds := ds) hok.1 hok.2)
      refine fnOk_reads hc rfl (σ := [id]) rfl (fun i hi => by simp [SV.idsL, SV.ids] at hi; subst hi; simp) (fun i row hr => ?_)
      match i with
      | 0 => simp at hr; subst hr; exact ⟨.u64, ds, ro, rfl, hrow⟩
      | i + 1 => simp at hr
    · cases h
  · cases h
noncomputable def orcAtD : Orc := ⟨58, oAtD, fun _ _ _ h hok => oAtD_ok h hok, bodied Try.func58 (by kernel_rfl)⟩

/-! sum: rounds. -/
noncomputable def xDs : Ctx := ctxOf [] [orcAtD, orcCutD]
theorem xDs_ok : COk Try.prog xDs := ctxOf_ok (by kernel_rfl)
noncomputable def rdSu : List SV → List Row → Option Res2 := roundS xDs (fun _ _ => none) 100 54 [0, 1, 0, 1, 1, 1] (bodyAt Try.f54 [0, 1, 0, 1, 1, 1]) 38 3 [0, 1, 4, 5, 6, 7]
def valSu0 (oa la ob lb : Nat) (c i : Int) : List SV := [.slice 0 1 oa la none, .slice 1 1 ob lb none, .nils, .slice 2 1 0 0 (some 0), .int .u64 c, .int .i64 i]
def valSu (oa la ob lb k : Nat) (c i : Int) : List SV := [.slice 0 1 oa la none, .slice 1 1 ob lb none, .nils, .slice 3 1 0 k none, .int .u64 c, .int .i64 i]
def rowSu0 (xs ys : List Int) : List Row := [.vec true .u64 xs, .vec true .u64 ys, .vec false .u64 []]
def rowSu (xs ys ds : List Int) : List Row := [.vec true .u64 xs, .vec true .u64 ys, .gone, .vec false .u64 ds]

set_option maxRecDepth 100000 in
set_option maxHeartbeats 0 in
theorem su_round0 (xs ys : List Int) (oa la ob lb : Nat) (c i : Int) : rdSu (valSu0 oa la ob lb c i) (rowSu0 xs ys) =
  bif decide (i < IntKind.i64.wrap (max (↑la : Int) (↑lb : Int) + 1)) then
  bif decide (0 ≤ i) && decide (oa + la ≤ xs.length) then
  bif decide (0 ≤ i) && decide (ob + lb ≤ ys.length) then
  some
  (SV.tuple
  [SV.nilp,
  SV.tuple
  [SV.slice 0 1 oa la none, SV.slice 1 1 ob lb none, SV.nils, SV.slice 3 Knd.u64.st 0 (0 + 1) none,
  SV.int IntKind.u64 (IntKind.u64.wrap ((IntKind.u64.wrap (IntKind.u64.wrap (atD xs oa la i + atD ys ob lb i) + c)).tdiv 65536)), SV.int IntKind.i64 (IntKind.i64.wrap (i + 1))]],
  [Row.vec true Knd.u64 xs, Row.vec true Knd.u64 ys, Row.gone, Row.vec false Knd.u64 [(IntKind.u64.wrap (IntKind.u64.wrap (atD xs oa la i + atD ys ob lb i) + c)).tmod 65536]])
  else none
  else none
  else
  some
  (SV.tuple [SV.ptr 0 0 0 0, SV.tuple [SV.slice 0 1 oa la none, SV.slice 1 1 ob lb none, SV.nils, SV.slice 2 1 0 0 (some 0), SV.int IntKind.u64 c, SV.int IntKind.i64 i]],
  [Row.vec true Knd.u64 xs, Row.vec true Knd.u64 ys, Row.vec false Knd.u64 []]) := by kernel_rfl

def growsU (k : Nat) (ds : List Int) (d : Int) : Bool := decide (0 + 1 ≤ [d].length) && ((decide (0 < k) || (none : Option Nat).isSome) && (decide (k ≤ ds.length) && (decide (k + 1 ≤ 9223372036854775807) && decide ((k + 1) * 8 ≤ 140737488355328))))
set_option maxRecDepth 100000 in
set_option maxHeartbeats 0 in
theorem su_round1 (xs ys ds : List Int) (oa la ob lb k : Nat) (c i : Int) : rdSu (valSu oa la ob lb k c i) (rowSu xs ys ds) =
  bif decide (i < IntKind.i64.wrap (max (la : Int) (lb : Int) + 1)) then
    bif decide (0 ≤ i) && decide (oa + la ≤ xs.length) then
      bif decide (0 ≤ i) && decide (ob + lb ≤ ys.length) then
        bif growsU k ds ((IntKind.u64.wrap (IntKind.u64.wrap (atD xs oa la i + atD ys ob lb i) + c)).tmod 65536) then
          some (.tuple [.nilp, .tuple (valSu oa la ob lb (k + 1) (IntKind.u64.wrap ((IntKind.u64.wrap (IntKind.u64.wrap (atD xs oa la i + atD ys ob lb i) + c)).tdiv 65536)) (IntKind.i64.wrap (i + 1)))],
            rowSu xs ys (ds.take k ++ [(IntKind.u64.wrap (IntKind.u64.wrap (atD xs oa la i + atD ys ob lb i) + c)).tmod 65536]))
        else none
      else none
    else none
  else some (.tuple [.ptr 0 0 0 0, .tuple (valSu oa la ob lb k c i)], rowSu xs ys ds) := by kernel_rfl
theorem growsU_ok {k : Nat} {ds : List Int} {d : Int} (h : k = ds.length) (h1 : 0 < k) (h2 : k ≤ 10000) : growsU k ds d = true := by
  unfold growsU
  simp only [Bool.and_eq_true, Bool.or_eq_true, decide_eq_true_eq]
  exact ⟨by simp, .inl h1, by omega, by omega, by omega⟩

/-- The digits of a sum, and what is carried. -/
def sumGo (f g : Nat → Int) : Nat → Nat → Int → List Int
  | 0, _, _ => []
  | k + 1, i, c => (f i + g i + c) % 65536 :: sumGo f g k (i + 1) ((f i + g i + c) / 65536)
def sumC (f g : Nat → Int) : Nat → Nat → Int → Int
  | 0, _, c => c
  | k + 1, i, c => sumC f g k (i + 1) ((f i + g i + c) / 65536)
def atF (ds : List Int) (off len : Nat) (i : Nat) : Int := atD ds off len i
theorem atF_in {ds : List Int} (h : Digs ds) (off len i : Nat) : 0 ≤ atF ds off len i ∧ atF ds off len i < 65536 := by
  unfold atF atD
  cases decide ((i : Int) < (len : Int))
  · simp
  · exact dig_in h off ((i : Int)).toNat
section
variable {xs ys : List Int} {oa la ob lb : Nat}
theorem su_step (hx : Digs xs) (hy : Digs ys) {i : Nat} {c : Int} (hc : 0 ≤ c ∧ c ≤ 1) :
    (IntKind.u64.wrap (IntKind.u64.wrap (atD xs oa la i + atD ys ob lb i) + c)).tmod 65536 = (atF xs oa la i + atF ys ob lb i + c) % 65536 ∧
    IntKind.u64.wrap ((IntKind.u64.wrap (IntKind.u64.wrap (atD xs oa la i + atD ys ob lb i) + c)).tdiv 65536) = (atF xs oa la i + atF ys ob lb i + c) / 65536 ∧ 0 ≤ (atF xs oa la i + atF ys ob lb i + c) / 65536 ∧ (atF xs oa la i + atF ys ob lb i + c) / 65536 ≤ 1 := by
  have h1 := atF_in hx oa la i
  have h2 := atF_in hy ob lb i
  rw [show atD xs oa la i = atF xs oa la i from rfl, show atD ys ob lb i = atF ys ob lb i from rfl]
  generalize atF xs oa la i = A at h1 ⊢
  generalize atF ys ob lb i = B at h2 ⊢
  rw [u64_in (a := A + B) (by omega) (by omega), u64_in (a := A + B + c) (by omega) (by omega), Int.tmod_eq_emod_of_nonneg (by omega), Int.tdiv_eq_ediv_of_nonneg (by omega), u64_in (by omega) (by omega)]
  exact ⟨rfl, rfl, by omega, by omega⟩
theorem su_loop1 (hx : Digs xs) (hy : Digs ys) (ha : oa + la ≤ xs.length) (hb : ob + lb ≤ ys.length) {M : Nat} (hM : M = max la lb + 1) (hM2 : M ≤ 1000) : ∀ (k i : Nat) (c : Int) (ds : List Int), ds.length = i → 0 < i → i + k = M → 0 ≤ c ∧ c ≤ 1 →
    LoopTo rdSu (valSu oa la ob lb i c i) (rowSu xs ys ds) (.exit 0) (valSu oa la ob lb M (sumC (atF xs oa la) (atF ys ob lb) k i c) M) (rowSu xs ys (ds ++ sumGo (atF xs oa la) (atF ys ob lb) k i c))
  | 0, i, c, ds, h1, h2, h3, h4 => by
    obtain rfl : i = M := by omega
    refine .done ?_ (by simp)
    rw [su_round1, IntWalk.i64_in (max (la : Int) (lb : Int) + 1) (by omega), decide_eq_false (by omega), cond_false]
    simp only [sumGo, List.append_nil]
    rfl
  | k + 1, i, c, ds, h1, h2, h3, h4 => by
    obtain ⟨e1, e2, e3, e4⟩ := su_step (oa := oa) (la := la) (ob := ob) (lb := lb) (i := i) hx hy h4
    have hro := su_round1 xs ys ds oa la ob lb i c i
    rw [IntWalk.i64_in (max (la : Int) (lb : Int) + 1) (by omega), decide_eq_true (show (i : Int) < max (la : Int) (lb : Int) + 1 by omega), decide_eq_true (show (0 : Int) ≤ (i : Int) by omega), decide_eq_true ha, decide_eq_true hb, growsU_ok h1.symm h2 (by omega), e1, e2, IntWalk.i64_in ((i : Int) + 1) (by omega)] at hro
    simp only [Bool.and_self, cond_true] at hro
    have et : ds.take i = ds := by rw [← h1]; exact List.take_length
    rw [et] at hro
    have ih := su_loop1 hx hy ha hb hM hM2 k (i + 1) ((atF xs oa la i + atF ys ob lb i + c) / 65536) (ds ++ [(atF xs oa la i + atF ys ob lb i + c) % 65536]) (by simp [h1]) (by omega) (by omega) ⟨e3, e4⟩
    rw [List.append_assoc, List.singleton_append] at ih
    exact .more hro ih
theorem su_loop0 (hx : Digs xs) (hy : Digs ys) (ha : oa + la ≤ xs.length) (hb : ob + lb ≤ ys.length) {M : Nat} (hM : M = max la lb + 1) (hM2 : M ≤ 1000) :
    LoopTo rdSu (valSu0 oa la ob lb 0 0) (rowSu0 xs ys) (.exit 0) (valSu oa la ob lb M (sumC (atF xs oa la) (atF ys ob lb) M 0 0) M) (rowSu xs ys (sumGo (atF xs oa la) (atF ys ob lb) M 0 0)) := by
  obtain ⟨e1, e2, e3, e4⟩ := su_step (oa := oa) (la := la) (ob := ob) (lb := lb) (i := 0) (c := 0) hx hy (by omega)
  have hro := su_round0 xs ys oa la ob lb 0 0
  rw [IntWalk.i64_in (max (la : Int) (lb : Int) + 1) (by omega), decide_eq_true (show (0 : Int) < max (la : Int) (lb : Int) + 1 by omega), decide_eq_true (show (0 : Int) ≤ 0 by omega), decide_eq_true ha, decide_eq_true hb] at hro
  simp only [Bool.and_self, cond_true] at hro
  rw [show ((0 : Nat) : Int) = 0 from rfl] at e1 e2
  rw [e1, e2] at hro
  obtain ⟨k, rfl⟩ : ∃ k, M = k + 1 := ⟨M - 1, by omega⟩
  have ih := su_loop1 hx hy ha hb hM hM2 k 1 ((atF xs oa la 0 + atF ys ob lb 0 + 0) / 65536) [(atF xs oa la 0 + atF ys ob lb 0 + 0) % 65536] rfl (by omega) (by omega) ⟨e3, e4⟩
  rw [List.singleton_append] at ih
  exact .more hro ih
end

end Go.Proofs.Ytnfhlfmcgeaagaa
