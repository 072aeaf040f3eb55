/- The small machine in the laws of package grid: what they take of the program. -/
import Derived.Test.YtikifgbbiffclaaVmSg
import Derived.Test.YtikifgbbiffclaaVmG9
import Derived.Test.YtikifgbbiffclaaSightF
namespace Go.Proofs.Ytikifgbbiffclaa
set_option linter.unusedSimpArgs false
set_option linter.unusedVariables false
open Go.RowKit

noncomputable def orcShown9 : Orc := ⟨13, fun args _ => oConst (.bool true) args, fun _ _ _ h _ => (runK_ok xG_ok lok_none Try.func13 shown9_val).elim fun _ hc => oConst_ok hc.1 rfl h, bodied Try.func13 (by kernel_rfl)⟩

noncomputable def x9 : Ctx := ctxOf [25, 14, 15] [orcShown9, orcSolid, orcClear, orcSight, orcPlus, orcMinus]
theorem x9_ok : COk Try.prog x9 := ctxOf_ok (by kernel_rfl)

theorem mp_inside {w d h : Int} {len : Nat} {s : Nat → Bool} : Inside (mpOf w d h len s).solid := fun x y z hs => mp_solid_in x y z hs
section
variable {m : Mp} (hm : Inside m.solid) {a b : V3}
include hm
theorem msight_turn (a b : V3) : m.sight a b = m.sight b a := sight_turn hm a b
theorem msight_self (a : V3) : m.sight a a = !m.solid (a.x / 65536) (a.y / 65536) (a.z / 65536) := sight_self hm a
theorem msight_ends (h : m.sight a b = true) : m.sight a a = true ∧ m.sight b b = true := sight_ends hm h
theorem msight_box (h : ∀ x y z, InBox a b x y z → m.solid x y z = false) : m.sight a b = true := sight_box hm h
theorem msight_halves {c : V3} (hx : 2 * c.x = a.x + b.x) (hy : 2 * c.y = a.y + b.y) (hz : 2 * c.z = a.z + b.z) : m.sight a b = (m.sight a c && m.sight c b) := sight_halves hm hx hy hz
theorem msight_mono {n : Mp} (hn : Inside n.solid) (hle : ∀ x y z, n.solid x y z = false → m.solid x y z = false) (h : n.sight a b = true) : m.sight a b = true := sight_mono hm hn hle h
theorem msight_same {n : Mp} (hn : Inside n.solid) (h : ∀ x y z, InBox a b x y z → m.solid x y z = n.solid x y z) : m.sight a b = n.sight a b := sight_same hm hn h
end

theorem imp_form (c d : Bool) : (((c && true) && true || d != true) && (true || d == true) && true) = (c || !d) := by cases c <;> cases d <;> rfl
theorem eight {w : Int} : 1 ≤ IntKind.i64.wrap (1 + IntKind.i64.wrap ((BitVec.ofInt IntKind.i64.bits w &&& BitVec.ofInt IntKind.i64.bits 7).toNat : Int)) ∧ IntKind.i64.wrap (1 + IntKind.i64.wrap ((BitVec.ofInt IntKind.i64.bits w &&& BitVec.ofInt IntKind.i64.bits 7).toNat : Int)) ≤ 8 := by
  have h : (BitVec.ofInt IntKind.i64.bits w &&& BitVec.ofInt IntKind.i64.bits 7).toNat ≤ 7 := by
    rw [BitVec.toNat_and]
    exact Nat.le_trans Nat.and_le_right (by decide)
  generalize (BitVec.ofInt IntKind.i64.bits w &&& BitVec.ofInt IntKind.i64.bits 7).toNat = n at h
  rw [IntWalk.i64_in (n : Int) (by omega), IntWalk.i64_in (1 + (n : Int)) (by omega)]
  omega

theorem solid_parts {w d h : Int} {L : Nat} {s : Nat → Bool} {x y z : Int} : (mpOf w d h L s).solid x y z = false ↔ (mpOf w d h L s).sized = true ∧ inB x w = true ∧ inB y d = true ∧ inB z h = true ∧ s ((z * d + y) * w + x).toNat = false := by
  unfold Mp.solid
  simp only [Bool.or_eq_false_iff, Bool.not_eq_false']
  constructor
  · rintro ⟨⟨⟨⟨h1, h2⟩, h3⟩, h4⟩, h5⟩; exact ⟨h1, h2, h3, h4, h5⟩
  · rintro ⟨h1, h2, h3, h4, h5⟩; exact ⟨⟨⟨⟨h1, h2⟩, h3⟩, h4⟩, h5⟩
theorem solid_mono {w d h : Int} {L : Nat} {s s' : Nat → Bool} (hle : ∀ j, j < L → s' j = false → s j = false) (x y z : Int) (hs : (mpOf w d h L s').solid x y z = false) : (mpOf w d h L s).solid x y z = false := by
  rw [solid_parts] at hs ⊢
  obtain ⟨h1, h2, h3, h4, h5⟩ := hs
  exact ⟨h1, h2, h3, h4, hle _ (Mp.idx_lt (m := mpOf w d h L s') h1 h2 h3 h4).2.2.2.2.2 h5⟩
theorem clear_mono {m n : Mp} (hle : ∀ x y z, n.solid x y z = false → m.solid x y z = false) {a b : V3} (h : n.clear a b = true) : m.clear a b = true := by
  rw [Mp.clear_iff] at h ⊢
  unfold Mp.Clear Mp.boxFree at *
  rcases h with h | h | h | h
  · exact .inl h
  · exact .inr (.inl h)
  · exact .inr (.inr (.inl h))
  · exact .inr (.inr (.inr fun i j k a b c d e f => hle _ _ _ (h i j k a b c d e f)))
/-- A row of cells with one that is laid anew. -/
theorem set_get {xs : List Bool} {L r : Nat} {b : Bool} (hr : r < L) (hL : L ≤ xs.length) {j : Nat} (hj : j < L) : ((List.take 0 ([] : List Bool) ++ List.take L (List.drop 0 xs)).set (0 + r) b).getD (0 + j) false = if j = r then b else xs.getD (0 + j) false := by
  simp only [Nat.zero_add, List.take_zero, List.nil_append, List.drop_zero]
  rw [List.getD_eq_getElem?_getD, List.getD_eq_getElem?_getD]
  by_cases he : r = j
  · subst he
    rw [List.getElem?_set_self (by rw [List.length_take]; omega), if_pos rfl]
    rfl
  · rw [List.getElem?_set_ne he, List.getElem?_take_of_lt hj, if_neg (fun h => he h.symm)]

/-- What is asked where a map's rows are cut. -/
theorem small_facts {w d h : Int} {len ls : Nat} {xs : List Bool} (hw : In64 w) (hd : In64 d) (hh : In64 h) (hl : len ≤ 9223372036854775807) (hx : xs.length = len) :
    (decide (0 ≤ min (len : Int) 32768) && decide (min (len : Int) 32768 ≤ ((capOr none len : Nat) : Int))) = true ∧ (decide (0 ≤ min (ls : Int) 70) && decide (min (ls : Int) 70 ≤ ((capOr none ls : Nat) : Int))) = true ∧
      ∃ L, (min (len : Int) 32768).toNat = L ∧ mapOk w d h L = true ∧ decide (0 + L ≤ xs.length) = true := by
  refine ⟨?_, ?_, _, rfl, ?_, ?_⟩
  · simp only [show capOr none len = len from rfl, Bool.and_eq_true, decide_eq_true_eq]; omega
  · simp only [show capOr none ls = ls from rfl, Bool.and_eq_true, decide_eq_true_eq]; omega
  · unfold mapOk
    simp only [Bool.and_eq_true, in64B_iff, decide_eq_true_eq]
    exact ⟨hw, hd, hh, by omega⟩
  · rw [decide_eq_true_eq]; omega

end Go.Proofs.Ytikifgbbiffclaa
