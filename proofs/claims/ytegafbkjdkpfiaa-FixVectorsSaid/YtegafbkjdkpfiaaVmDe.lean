/- The reference's digits: Mul, Dot, Long, Times, Neg as contracts. -/
import Derived.Test.YtegafbkjdkpfiaaVmDd
import Derived.Test.YtegafbkjdkpfiaaVmLg
namespace Go.Proofs.Ytegafbkjdkpfiaa
set_option linter.unusedSimpArgs false
set_option linter.unusedVariables false
open Go.RowKit

noncomputable def xMu : Ctx := ctxOf [53] [orcOf, orcProdD, orcPlusD, orcIntD, orcGreat]
theorem xMu_ok : COk Try.prog xMu := ctxOf_ok (by kernel_rfl)

/-- A product of two numbers: its digits, its sign; sums of such. -/
def prT (a b : Int) : List Int := timesL (digs 5 a.natAbs) (digs 5 b.natAbs) 0 (digs 5 a.natAbs).length 0 (digs 5 b.natAbs).length
def prS (a b : Int) : Bool := !(decide (a < 0) == decide (b < 0))
def prK (a b : Int) : Bool := (digsB (digs 5 a.natAbs) && digsB (digs 5 b.natAbs)) && ((decide (0 + (digs 5 a.natAbs).length ≤ (digs 5 a.natAbs).length) && decide (0 + (digs 5 b.natAbs).length ≤ (digs 5 b.natAbs).length)) && decide ((digs 5 a.natAbs).length + (digs 5 b.natAbs).length + 1 ≤ 2000))
def plK (xs ys : List Int) : Bool := (digsB xs && digsB ys) && ((decide (0 + xs.length ≤ xs.length) && decide (0 + ys.length ≤ ys.length)) && decide (max xs.length ys.length + 1 ≤ 1000))
def sum2 (a b : V3) : Bool × List Int := plusS (prS a.x b.x) (prS a.y b.y) (prT a.x b.x) (prT a.y b.y) 0 (prT a.x b.x).length 0 (prT a.y b.y).length
def sum3 (a b : V3) : Bool × List Int := plusS (sum2 a b).1 (prS a.z b.z) (sum2 a b).2 (prT a.z b.z) 0 (sum2 a b).2.length 0 (prT a.z b.z).length
/-- What lies behind 2^16, as a number. -/
def behR (b : Bool) (l : List Int) : Option Res2 :=
  bif (l.length : Int) == 0 then
  bif digsB l && (decide (0 + l.length ≤ l.length) && decide (l.length ≤ 9223372036854775807)) then some (.int .i64 (bigN b (valF (dig l 0) l.length 0)), []) else none
  else
  bif decide (1 ≤ (l.length : Int)) then
  bif digsB l && (decide (0 + Int.toNat 1 + (l.length - Int.toNat 1) ≤ l.length) && decide (l.length - Int.toNat 1 ≤ 9223372036854775807)) then some (.int .i64 (bigN b (valF (dig l (0 + Int.toNat 1)) (l.length - Int.toNat 1) 0)), []) else none
  else none
set_option maxRecDepth 100000 in
set_option maxHeartbeats 0 in
theorem mu_tree (a b : Int) : runK xMu (fun _ _ => none) 300 27 Try.f27 0 [.int .i64 a, .int .i64 b] [] =
  bif in64B a then bif in64B b then bif prK a b then behR (prS a b) (prT a b) else none else none else none := by kernel_rfl
set_option maxRecDepth 100000 in
set_option maxHeartbeats 0 in
theorem do_tree (a b : V3) : runK xMu (fun _ _ => none) 300 37 Try.f37 0 [.agg a.sv, .agg b.sv] [] =
  bif in64B a.x then bif in64B b.x then bif prK a.x b.x then
  bif in64B a.y then bif in64B b.y then bif prK a.y b.y then
  bif in64B a.z then bif in64B b.z then bif prK a.z b.z then
  bif plK (prT a.x b.x) (prT a.y b.y) then bif plK (sum2 a b).2 (prT a.z b.z) then behR (sum3 a b).1 (sum3 a b).2
  else none else none else none else none else none else none else none else none else none else none else none := by kernel_rfl
set_option maxRecDepth 100000 in
set_option maxHeartbeats 0 in
theorem lo_tree (a : V3) : runK xMu (fun _ _ => none) 300 38 Try.f38 0 [.agg a.sv] [] =
  bif in64B a.x then bif in64B a.x then bif prK a.x a.x then
  bif in64B a.y then bif in64B a.y then bif prK a.y a.y then
  bif in64B a.z then bif in64B a.z then bif prK a.z a.z then
  bif plK (prT a.x a.x) (prT a.y a.y) then bif plK (sum2 a a).2 (prT a.z a.z) then
  bif grOk (sum3 a a).2 (sum3 a a).2.length then
  bif decide (grVs (sum3 a a).2 > 9223372036854775807) then some (.int .i64 9223372036854775807, []) else some (.int .i64 (IntKind.i64.wrap (grVs (sum3 a a).2)), [])
  else none else none else none else none else none else none else none else none else none else none else none else none := by kernel_rfl

theorem behR_val {b : Bool} {l : List Int} (h : Digs l) (hl : l.length ≤ 3000) : behR b l = some (.int .i64 (bigN b (valL l / 65536)), []) := by
  unfold behR
  cases l with
  | nil => rfl
  | cons d t =>
    have hd := h d (List.mem_cons_self ..)
    have e : valF (dig (d :: t) (0 + Int.toNat 1)) ((d :: t).length - Int.toNat 1) 0 = valL (d :: t) / 65536 := by
      rw [show (d :: t).length - Int.toNat 1 = t.length from rfl, valF_ext (g := dig t 0), valF_all, valL]
      · omega
      · intro i
        unfold dig
        rw [show 0 + Int.toNat 1 + i = i + 1 from (by rw [show Int.toNat 1 = 1 from rfl]; omega), List.getD_cons_succ, Nat.zero_add]
    rw [e, digsB_iff.2 h, show (((d :: t).length : Int) == 0) = false by rw [beq_eq_false_iff_ne, List.length_cons]; omega, decide_eq_true (show (1 : Int) ≤ ((d :: t).length : Int) by rw [List.length_cons]; omega), decide_eq_true (show 0 + Int.toNat 1 + ((d :: t).length - Int.toNat 1) ≤ (d :: t).length from (by rw [show Int.toNat 1 = 1 from rfl, List.length_cons]; omega)), decide_eq_true (show (d :: t).length - Int.toNat 1 ≤ 9223372036854775807 by omega)]
    rfl
theorem prK_ok (a b : Int) : prK a b = true := by
  have h1 := digs_len 5 a.natAbs
  have h2 := digs_len 5 b.natAbs
  unfold prK
  rw [digsB_iff.2 (digs_in 5 _), digsB_iff.2 (digs_in 5 _), decide_eq_true (by omega), decide_eq_true (by omega), decide_eq_true (by omega)]
  rfl
theorem plK_ok {xs ys : List Int} (hx : Digs xs) (hy : Digs ys) (h1 : xs.length ≤ 500) (h2 : ys.length ≤ 500) : plK xs ys = true := by
  unfold plK
  rw [digsB_iff.2 hx, digsB_iff.2 hy, decide_eq_true (by omega), decide_eq_true (by omega), decide_eq_true (by omega)]
  rfl
theorem prT_facts {a b : Int} (ha : In64 a) (hb : In64 b) : Digs (prT a b) ∧ Trim (prT a b) ∧ (prT a b).length ≤ 11 ∧ valL (prT a b) = ((a.natAbs * b.natAbs : Nat) : Int) ∧ sg (prS a b) (valL (prT a b)) = a * b := by
  obtain ⟨a1, a2, a3⟩ := digs_val ha
  obtain ⟨b1, b2, b3⟩ := digs_val hb
  have l1 := digs_len 5 a.natAbs
  have l2 := digs_len 5 b.natAbs
  obtain ⟨t1, t2⟩ := timesL_val a3 b3 0 (digs 5 a.natAbs).length 0 (digs 5 b.natAbs).length
  have hv : valL (prT a b) = ((a.natAbs * b.natAbs : Nat) : Int) := by
    unfold prT
    rw [t1, valF_all, valF_all, a1, b1]
    push_cast
    rfl
  refine ⟨t2, timesL_trim _ _ _ _ _ _, ?_, hv, ?_⟩
  · unfold prT
    rw [timesL_len]
    have := cutN_le (timesD (digs 5 a.natAbs) (digs 5 b.natAbs) 0 (digs 5 a.natAbs).length 0 (digs 5 b.natAbs).length) ((digs 5 a.natAbs).length + (digs 5 b.natAbs).length + 1)
    omega
  · rw [hv]
    unfold sg prS
    rcases Int.lt_or_le a 0 with h1 | h1 <;> rcases Int.lt_or_le b 0 with h2 | h2
    · rw [decide_eq_true h1, decide_eq_true h2]
      show ((a.natAbs * b.natAbs : Nat) : Int) = a * b
      rw [Int.natCast_mul, show (a.natAbs : Int) = -a by omega, show (b.natAbs : Int) = -b by omega, Int.neg_mul_neg]
    · rw [decide_eq_true h1, decide_eq_false (by omega)]
      show -((a.natAbs * b.natAbs : Nat) : Int) = a * b
      rw [Int.natCast_mul, show (a.natAbs : Int) = -a by omega, show (b.natAbs : Int) = b by omega, Int.neg_mul, Int.neg_neg]
    · rw [decide_eq_false (by omega), decide_eq_true h2]
      show -((a.natAbs * b.natAbs : Nat) : Int) = a * b
      rw [Int.natCast_mul, show (a.natAbs : Int) = a by omega, show (b.natAbs : Int) = -b by omega, Int.mul_neg, Int.neg_neg]
    · rw [decide_eq_false (by omega), decide_eq_false (by omega)]
      show ((a.natAbs * b.natAbs : Nat) : Int) = a * b
      rw [Int.natCast_mul, show (a.natAbs : Int) = a by omega, show (b.natAbs : Int) = b by omega]
theorem plusS_more {xs ys : List Int} {p q : Bool} : Trim (plusS p q xs ys 0 xs.length 0 ys.length).2 ∧ (plusS p q xs ys 0 xs.length 0 ys.length).2.length ≤ max xs.length ys.length + 1 := by
  have hs : Trim (sumL xs ys 0 xs.length 0 ys.length) ∧ (sumL xs ys 0 xs.length 0 ys.length).length ≤ max xs.length ys.length + 1 := by
    refine ⟨cut_trim (by rw [show (sumD xs ys 0 xs.length 0 ys.length).length = max xs.length ys.length + 1 from sumGo_len _ _ _ _ _]; omega), ?_⟩
    rw [sumL_len]
    exact cutN_le _ _
  have hl : ∀ {us vs : List Int}, us.length ≤ max xs.length ys.length → Trim (lessL us vs 0 us.length 0 vs.length) ∧ (lessL us vs 0 us.length 0 vs.length).length ≤ max xs.length ys.length + 1 := by
    intro us vs h
    refine ⟨cut_trim (by rw [show (lessD us vs 0 us.length 0 vs.length).length = us.length from lessGo_len _ _ _ _ _]; omega), ?_⟩
    rw [lessL_len]
    have := cutN_le (lessD us vs 0 us.length 0 vs.length) us.length
    omega
  unfold plusS
  cases p == q
  · cases moreV ys xs 0 ys.length 0 xs.length
    · exact hl (by omega)
    · exact hl (by omega)
  · exact hs
theorem sum3_facts {a b : V3} (ha : a.fits) (hb : b.fits) : plK (prT a.x b.x) (prT a.y b.y) = true ∧ plK (sum2 a b).2 (prT a.z b.z) = true ∧ Digs (sum3 a b).2 ∧ Trim (sum3 a b).2 ∧ (sum3 a b).2.length ≤ 13 ∧ sg (sum3 a b).1 (valL (sum3 a b).2) = a.x * b.x + a.y * b.y + a.z * b.z := by
  obtain ⟨x1, x2, x3, _, x5⟩ := prT_facts ha.1 hb.1
  obtain ⟨y1, y2, y3, _, y5⟩ := prT_facts ha.2.1 hb.2.1
  obtain ⟨z1, z2, z3, _, z5⟩ := prT_facts ha.2.2 hb.2.2
  obtain ⟨p1, p2⟩ := plusS_val (p := prS a.x b.x) (q := prS a.y b.y) x1 y1 x2 y2
  obtain ⟨p3, p4⟩ := plusS_more (xs := prT a.x b.x) (ys := prT a.y b.y) (p := prS a.x b.x) (q := prS a.y b.y)
  rw [show plusS (prS a.x b.x) (prS a.y b.y) (prT a.x b.x) (prT a.y b.y) 0 (prT a.x b.x).length 0 (prT a.y b.y).length = sum2 a b from rfl] at p1 p2 p3 p4
  obtain ⟨q1, q2⟩ := plusS_val (p := (sum2 a b).1) (q := prS a.z b.z) p2 z1 p3 z2
  obtain ⟨q3, q4⟩ := plusS_more (xs := (sum2 a b).2) (ys := prT a.z b.z) (p := (sum2 a b).1) (q := prS a.z b.z)
  rw [show plusS (sum2 a b).1 (prS a.z b.z) (sum2 a b).2 (prT a.z b.z) 0 (sum2 a b).2.length 0 (prT a.z b.z).length = sum3 a b from rfl] at q1 q2 q3 q4
  exact ⟨plK_ok x1 y1 (by omega) (by omega), plK_ok p2 z1 (by omega) (by omega), q2, q3, by omega, by rw [q1, p1, x5, y5, z5]⟩
theorem bigN_cut (b : Bool) (n : Nat) : bigN b (n : Int) = signedN n b := by
  rw [signedN_cut]
  unfold bigN
  cases b <;> rfl
theorem dmul_val {a b : Int} (ha : In64 a) (hb : In64 b) : runK xMu (fun _ _ => none) 300 27 Try.f27 0 [.int .i64 a, .int .i64 b] [] = some (.int .i64 (mul16 a b), []) := by
  obtain ⟨x1, x2, x3, x4, x5⟩ := prT_facts ha hb
  rw [mu_tree, in64B_iff.2 ha, in64B_iff.2 hb, prK_ok, behR_val x1 (by omega), x4]
  simp only [cond_true]
  rw [show ((a.natAbs * b.natAbs : Nat) : Int) / 65536 = ((a.natAbs * b.natAbs / 65536 : Nat) : Int) by omega, bigN_cut]
  rfl
theorem up_down (a c : Int) : ((upN a c : Nat) : Int) - ((downN a c : Nat) : Int) = a * c := by
  unfold upN downN
  rcases Int.lt_or_le a 0 with h1 | h1 <;> rcases Int.lt_or_le c 0 with h2 | h2
  · rw [decide_eq_true h1, decide_eq_true h2, if_pos rfl, if_pos rfl, Int.natCast_mul, show (a.natAbs : Int) = -a by omega, show (c.natAbs : Int) = -c by omega, Int.neg_mul_neg]; omega
  · rw [decide_eq_true h1, decide_eq_false (show ¬ c < 0 by omega), if_neg (by simp), if_neg (by simp), Int.natCast_mul, show (a.natAbs : Int) = -a by omega, show (c.natAbs : Int) = c by omega, Int.neg_mul]; omega
  · rw [decide_eq_false (show ¬ a < 0 by omega), decide_eq_true h2, if_neg (by simp), if_neg (by simp), Int.natCast_mul, show (a.natAbs : Int) = a by omega, show (c.natAbs : Int) = -c by omega, Int.mul_neg]; omega
  · rw [decide_eq_false (show ¬ a < 0 by omega), decide_eq_false (show ¬ c < 0 by omega), if_pos rfl, if_pos rfl, Int.natCast_mul, show (a.natAbs : Int) = a by omega, show (c.natAbs : Int) = c by omega]; omega
theorem ddot_val {a b : V3} (ha : a.fits) (hb : b.fits) : runK xMu (fun _ _ => none) 300 37 Try.f37 0 [.agg a.sv, .agg b.sv] [] = some (.int .i64 (dotN a b), []) := by
  obtain ⟨k1, k2, k3, k4, k5, k6⟩ := sum3_facts ha hb
  rw [do_tree, in64B_iff.2 ha.1, in64B_iff.2 ha.2.1, in64B_iff.2 ha.2.2, in64B_iff.2 hb.1, in64B_iff.2 hb.2.1, in64B_iff.2 hb.2.2, prK_ok, prK_ok, prK_ok, k1, k2, behR_val k3 (by omega)]
  simp only [cond_true]
  have hV := (valL_in k3).1
  have u1 := up_down a.x b.x
  have u2 := up_down a.y b.y
  have u3 := up_down a.z b.z
  have hs : sg (sum3 a b).1 (valL (sum3 a b).2) = ((upV a b : Nat) : Int) - ((downV a b : Nat) : Int) := by
    rw [k6]
    unfold upV downV
    omega
  generalize valL (sum3 a b).2 = V at hV hs ⊢
  unfold dotN
  generalize upV a b = U at hs ⊢
  generalize downV a b = D at hs ⊢
  obtain ⟨V, rfl⟩ : ∃ n : Nat, V = n := ⟨V.toNat, by omega⟩
  rw [show ((V : Nat) : Int) / 65536 = ((V / 65536 : Nat) : Int) by omega, bigN_cut]
  cases hq : (sum3 a b).1 with
  | true =>
    rw [hq] at hs
    have hs' : -(V : Int) = (U : Int) - (D : Int) := hs
    by_cases hlt : U < D
    · rw [if_pos hlt, show D - U = V by omega]
    · rw [if_neg hlt, show U - D = 0 by omega, show V = 0 by omega]
      rfl
  | false =>
    rw [hq] at hs
    have hs' : (V : Int) = (U : Int) - (D : Int) := hs
    rw [if_neg (by omega), show U - D = V by omega]
theorem dlong_val {a : V3} (ha : a.fits) : runK xMu (fun _ _ => none) 300 38 Try.f38 0 [.agg a.sv] [] = some (.int .i64 a.long, []) := by
  obtain ⟨k1, k2, k3, k4, k5, k6⟩ := sum3_facts ha ha
  have hV := (valL_in k3).1
  have u1 := up_down a.x a.x
  have u2 := up_down a.y a.y
  have u3 := up_down a.z a.z
  have d0 : ∀ c : Int, downN c c = 0 := fun c => by unfold downN; rw [if_pos rfl]
  have hs : valL (sum3 a a).2 = ((upV a a : Nat) : Int) := by
    rw [d0] at u1 u2 u3
    have hU : a.x * a.x + a.y * a.y + a.z * a.z = ((upV a a : Nat) : Int) := by unfold upV; omega
    rw [hU] at k6
    unfold sg at k6
    cases hq : (sum3 a a).1 with
    | true => rw [hq] at k6; simp only [cond_true] at k6; omega
    | false => rw [hq] at k6; exact k6
  obtain ⟨r1, r2, r3⟩ := grVs_root hs (upV_lt ha)
  rw [lo_tree, in64B_iff.2 ha.1, in64B_iff.2 ha.2.1, in64B_iff.2 ha.2.2, prK_ok, prK_ok, prK_ok, k1, k2, grOk_iff.2 ⟨⟨k3, k4⟩, rfl, by omega⟩, r1]
  rw [r1] at r2 r3
  simp only [cond_true]
  unfold V3.long
  rw [← rootC_eq (upV_lt ha)]
  generalize rootN (upV a a) = R at r2 r3 ⊢
  unfold signedN
  rw [if_neg (by simp)]
  by_cases hR : (R : Int) > 9223372036854775807
  · rw [decide_eq_true hR, Int.min_eq_right (by omega)]; rfl
  · rw [decide_eq_false hR, IntWalk.i64_in (R : Int) (by omega), Int.min_eq_left (by omega)]; rfl

end Go.Proofs.Ytegafbkjdkpfiaa
