/- The reference's digits: Int as a contract, and what it says of the digits' value. -/
import Derived.Test.YtnfhlfmcgeaagaaVmDg
namespace Go.Proofs.Ytnfhlfmcgeaagaa
set_option linter.unusedSimpArgs false
set_option linter.unusedVariables false
open Go.RowKit

/-- The value of digits: as many as the first number says, from the second one on. -/
def valF (f : Nat → Int) : Nat → Nat → Int
  | 0, _ => 0
  | m + 1, i => f i + 65536 * valF f m (i + 1)
def dig (ds : List Int) (off : Nat) (i : Nat) : Int := ds.getD (off + i) 0
def Digs (ds : List Int) : Prop := ∀ d ∈ ds, 0 ≤ d ∧ d < 65536
theorem dig_in {ds : List Int} (h : Digs ds) (off i : Nat) : 0 ≤ dig ds off i ∧ dig ds off i < 65536 := by
  unfold dig
  rw [List.getD_eq_getElem?_getD]
  cases hg : ds[off + i]? with
  | none => simp
  | some d => exact h d (List.mem_of_getElem? hg)
theorem valF_nonneg {f : Nat → Int} (hf : ∀ i, 0 ≤ f i ∧ f i < 65536) : ∀ m i, 0 ≤ valF f m i
  | 0, _ => Int.le_refl _
  | m + 1, i => by
    have := valF_nonneg hf m (i + 1)
    have := (hf i).1
    unfold valF
    omega
theorem valF_tail {f : Nat → Int} (hf : ∀ i, 0 ≤ f i ∧ f i < 65536) : ∀ (k m i : Nat), valF f m (i + k) ≤ valF f (m + k) i
  | 0, m, i => Int.le_refl _
  | k + 1, m, i => by
    have h1 := valF_tail hf k m (i + 1)
    have h2 := valF_nonneg hf (m + k) (i + 1)
    have h3 := (hf i).1
    have e : valF f (m + (k + 1)) i = f i + 65536 * valF f (m + k) (i + 1) := rfl
    rw [e, show i + (k + 1) = i + 1 + k by omega]
    omega
theorem u64_in {a : Int} (h1 : 0 ≤ a) (h2 : a < 18446744073709551616) : IntKind.u64.wrap a = a := by
  unfold IntKind.wrap
  simp [IntKind.signed, IntKind.bits]
  omega
theorem in_plain {ds : List Int} {off len : Nat} (h : Digs ds) : ∀ (k : Nat) (n : Int), k ≤ len → n = valF (dig ds off) (len - k) k →
    ((intGo ds off k n).1 = true → 18446744073709551616 ≤ valF (dig ds off) len 0) ∧ ((intGo ds off k n).1 = false → (intGo ds off k n).2.1 = valF (dig ds off) len 0)
  | 0, n, hk, hn => ⟨fun h => by simp [intGo] at h, fun _ => hn⟩
  | k + 1, n, hk, hn => by
    have hd := dig_in h off k
    have e : valF (dig ds off) (len - k) k = dig ds off k + 65536 * n := by
      rw [hn, show len - k = (len - (k + 1)) + 1 by omega]
      rfl
    unfold intGo
    by_cases hc : n ≥ 281474976710656
    · rw [decide_eq_true hc]
      simp only [cond_true]
      refine ⟨fun _ => ?_, fun h => by simp at h⟩
      have := valF_tail (dig_in h off) k (len - k) 0
      rw [Nat.zero_add, e, show len - k + k = len by omega] at this
      omega
    · rw [decide_eq_false hc]
      simp only [cond_false]
      have n0 : 0 ≤ n := by rw [hn]; exact valF_nonneg (dig_in h off) _ _
      rw [u64_in (a := n * 65536) (by omega) (by omega), show ds.getD (off + k) Knd.u64.dflt = dig ds off k from rfl, u64_in (by omega) (by omega)]
      exact in_plain h k _ (by omega) (by rw [e]; omega)
/-- A number of digits with a sign, saturated. -/
def bigN (b : Bool) (v : Int) : Int := cut64 (bif b then -v else v)
theorem in_val {ds : List Int} {b : Bool} {off len : Nat} (h : Digs ds) (hl : off + len ≤ ds.length) (h64 : len ≤ 9223372036854775807) :
    runK xDg (loopOf [lpoIn]) 300 42 Try.f42 0 [.agg [.bool b, .slice 0 1 off len none]] [.vec true .u64 ds] = some (.int .i64 (bigN b (valF (dig ds off) len 0)), []) := by
  rw [in_tree, decide_eq_true (show IntKind.i64.wrap ((len : Int) - 1) = (len : Int) - 1 from IntWalk.i64_in _ (by omega)), decide_eq_true hl, decide_eq_true h64]
  simp only [Bool.and_true, cond_true]
  obtain ⟨p1, p2⟩ := in_plain h len 0 (Nat.le_refl _) (by rw [Nat.sub_self]; rfl) (off := off)
  have p0 := valF_nonneg (dig_in h off) len 0
  unfold bigN
  cases hq : (intGo ds off len 0).1 with
  | true =>
    have := p1 hq
    simp only [cond_true]
    cases b
    · simp only [cond_false]; unfold cut64; congr 3; omega
    · simp only [cond_true]; unfold cut64; congr 3; omega
  | false =>
    rw [p2 hq]
    simp only [cond_false]
    generalize valF (dig ds off) len 0 = V at p0
    by_cases hV : V > 9223372036854775807
    · rw [decide_eq_true hV, cond_true]
      cases b
      · simp only [cond_false]; unfold cut64; congr 3; omega
      · simp only [cond_true]; unfold cut64; congr 3; omega
    · rw [decide_eq_false hV, cond_false, IntWalk.i64_in V (by omega), IntWalk.i64_in (0 - V) (by omega)]
      cases b
      · simp only [cond_false]; unfold cut64; congr 3; omega
      · simp only [cond_true]; unfold cut64; congr 3; omega

def digsB (ds : List Int) : Bool := ds.all fun d => decide (0 ≤ d) && decide (d < 65536)
theorem digsB_iff {ds : List Int} : digsB ds = true ↔ Digs ds := by
  unfold digsB Digs
  rw [List.all_eq_true]
  simp only [Bool.and_eq_true, decide_eq_true_eq]
def oIntD (args : List SV) (rows : List Row) : Option Eff :=
  match args with
  | [.agg [.bool b, .slice id 1 off len none]] => match rows[id]? with
    | some (.vec _ .u64 ds) => some { ok := digsB ds && (decide (off + len ≤ ds.length) && decide (len ≤ 9223372036854775807)), val := .int .i64 (bigN b (valF (dig ds off) len 0)), rd := [id] }
    | _ => none
  | _ => none
theorem oIntD_ok {args : List SV} {rows : List Row} {n : Nat} {e : Eff} (h : oIntD args rows = some e) (hok : e.ok = true) : FnOk Try.prog 42 args (rows[·]?) n e := by
  unfold oIntD at h
  split at h
  · rename_i b id off len
    split at h
    · rename_i ro ds hrow
      cases h
      simp only [Bool.and_eq_true, decide_eq_true_eq, digsB_iff] at hok
      obtain ⟨h1, h2, h3⟩ := hok
      obtain ⟨rows', hc, _⟩ := runK_ok xDg_ok loopOf_ok Try.func42 (in_val (b := b) (digsB_iff.1 h1) h2 h3)
      refine fnOk_reads hc rfl (σ := [id]) rfl (fun i hi => by simp [SV.idsL, SV.ids] at hi; subst hi; simp) (fun i row hr => ?_)
      match i with
      | 0 => simp at hr; subst hr; exact ⟨.u64, ds, ro, rfl, hrow⟩
      | i + 1 => simp at hr
    · cases h
  · cases h
noncomputable def orcIntD : Orc := ⟨42, oIntD, fun _ _ _ h hok => oIntD_ok h hok, bodied Try.func42 (by kernel_rfl)⟩

/-! What Of's digits are worth. -/
theorem digs_in : ∀ (k m : Nat), Digs (digs k m)
  | 0, _ => by unfold Digs digs; simp
  | k + 1, m => by
    unfold digs
    cases m != 0
    · unfold Digs; simp
    · have ih := digs_in k (m / 65536)
      intro d hd
      rcases List.mem_cons.1 hd with rfl | hd
      · omega
      · exact ih d hd
def valL : List Int → Int
  | [] => 0
  | d :: l => d + 65536 * valL l
theorem valF_list : ∀ (ds : List Int) (m i : Nat), m + i = ds.length → valF (dig ds 0) m i = valL (ds.drop i)
  | ds, 0, i, h => by rw [List.drop_eq_nil_of_le (by omega)]; rfl
  | ds, m + 1, i, h => by
    have hi : i < ds.length := by omega
    rw [List.drop_eq_getElem_cons hi]
    unfold valF valL
    rw [valF_list ds m (i + 1) (by omega)]
    congr 1
    unfold dig
    rw [Nat.zero_add, List.getD_eq_getElem?_getD, List.getElem?_eq_getElem hi]
    rfl
theorem valF_all (ds : List Int) : valF (dig ds 0) ds.length 0 = valL ds := by
  rw [valF_list ds ds.length 0 (by omega)]
  rfl
theorem valL_digs : ∀ (k m : Nat), m < 65536 ^ k → valL (digs k m) = m
  | 0, m, h => by simp at h; subst h; rfl
  | k + 1, m, h => by
    unfold digs
    by_cases h0 : m = 0
    · subst h0; rfl
    · rw [show (m != 0) = true by simpa using h0]
      simp only [cond_true]
      unfold valL
      rw [valL_digs k (m / 65536) (by rw [Nat.pow_succ] at h; exact Nat.div_lt_of_lt_mul (by rw [Nat.mul_comm]; exact h))]
      omega

end Go.Proofs.Ytnfhlfmcgeaagaa
