/- The reference's grid: Sized and meets as contracts; a loop that ends early, in general. -/
import Derived.Test.YtnfhlfmcgeaagaaVmRg
namespace Go.Proofs.Ytnfhlfmcgeaagaa
set_option linter.unusedSimpArgs false
set_option linter.unusedVariables false
open Go.RowKit

def oRSized (args : List SV) (rows : List Row) : Option Eff :=
  match args with
  | [.agg [.int .i64 w, .int .i64 d, .int .i64 h, .slice id st off len _, sp]] => match rows[id]? with
    | some (.vec _ .bool xs) => bif Nat.beq st 1 && sp.one then some { val := .bool (mpOf w d h len fun j => xs.getD (off + j) false).sized, rd := [id] } else none
    | _ => none
  | _ => none
theorem oRSized_ok {args : List SV} {rows : List Row} {n : Nat} {e : Eff} (h : oRSized args rows = some e) (hok : e.ok = true) : FnOk Try.prog 46 args (rows[·]?) n e := by
  unfold oRSized at h
  split at h
  · rename_i w d hh id st off len cap sp
    split at h
    · rename_i ro xs hrow
      cases hb : Nat.beq st 1 && sp.one with
      | false => simp [hb] at h
      | true =>
        simp only [hb, cond_true, Option.some.injEq] at h
        subst h
        rw [Bool.and_eq_true] at hb
        have hst := Nat.eq_of_beq_eq_true hb.1
        subst hst
        obtain ⟨rows', hc, _⟩ := runK_ok xRg_ok lok_none Try.func46 (rsized_val (w := w) (d := d) (h := hh) (len := len) (off := off) (xs := xs))
        exact fnOk_map hb.2 hc rfl rfl hrow
    · cases h
  · cases h
noncomputable def orcRSized : Orc := ⟨46, oRSized, fun _ _ _ h hok => oRSized_ok h hok, bodied Try.func46 (by kernel_rfl)⟩

/-- Has a cell a point from lo on, and below hi? -/
def meetsB (c lo hi : Int) : Bool := decide (max lo (c * 65536) ≤ min (hi - 1) (c * 65536 + 65535))
def meetsOk (c lo hi : Int) : Bool := (decide (0 ≤ c) && decide (c ≤ 32)) && ((in64B lo && in64B hi) && decide (lo < hi))
theorem meets_val {c lo hi : Int} (h : meetsOk c lo hi = true) : runK xRg (fun _ _ => none) 300 47 Try.f47 0 [.int .i64 c, .int .i64 lo, .int .i64 hi] [] = some (.bool (meetsB c lo hi), []) := by
  unfold meetsOk at h
  simp only [Bool.and_eq_true, decide_eq_true_eq, in64B_iff] at h
  obtain ⟨⟨h1, h2⟩, ⟨h3, h4⟩, h5⟩ := h
  unfold In64 at h3 h4
  rw [rmeets_tree, IntWalk.i64_in (c * 65536) (by omega), IntWalk.i64_in (hi - 1) (by omega), IntWalk.i64_in (c * 65536 + 65535) (by omega)]
  rfl
def oMeets : List SV → Option Eff
  | [.int .i64 c, .int .i64 lo, .int .i64 hi] => some { ok := meetsOk c lo hi, val := .bool (meetsB c lo hi) }
  | _ => none
theorem oMeets_ok {m : Nat → Option Row} {n : Nat} {args : List SV} {e : Eff} (h : oMeets args = some e) (hok : e.ok = true) : FnOk Try.prog 47 args m n e := by
  unfold oMeets at h
  split at h
  · rename_i c lo hi
    cases h
    obtain ⟨rows', hc, _⟩ := runK_ok xRg_ok lok_none Try.func47 (meets_val hok)
    exact fnOk_pure hc rfl rfl
  · cases h
noncomputable def orcMeets : Orc := ⟨47, fun args _ => oMeets args, fun _ _ _ h hok => oMeets_ok h hok, bodied Try.func47 (by kernel_rfl)⟩

/-! A loop that counts, and returns at the first number at which something holds. -/
def anyB (p : Int → Bool) : Nat → Int → Bool
  | 0, _ => false
  | k + 1, i => bif p i then true else anyB p k (i + 1)
def posB (p : Int → Bool) : Nat → Int → Int
  | 0, i => i
  | k + 1, i => bif p i then i else posB p k (i + 1)
theorem anyB_iff {p : Int → Bool} : ∀ {k : Nat} {i : Int}, anyB p k i = true ↔ ∃ j, i ≤ j ∧ j < i + k ∧ p j = true
  | 0, i => by
    simp only [anyB]
    constructor
    · intro h; cases h
    · rintro ⟨j, h1, h2, _⟩; omega
  | k + 1, i => by
    unfold anyB
    cases hp : p i with
    | true => simp only [cond_true, true_iff]; exact ⟨i, by omega, by omega, hp⟩
    | false =>
      simp only [cond_false]
      rw [anyB_iff]
      constructor
      · rintro ⟨j, h1, h2, h3⟩; exact ⟨j, by omega, by omega, h3⟩
      · rintro ⟨j, h1, h2, h3⟩
        have : j ≠ i := fun h => by rw [h, hp] at h3; cases h3
        exact ⟨j, by omega, by omega, h3⟩
theorem loop_any {rd : List SV → List Row → Option Res2} {val valR : Int → List SV} {R : List Row} {p : Int → Bool} {W : Int} {ex : Nat}
    (hr : ∀ i : Int, 0 ≤ i → i < W → rd (val i) R = bif p i then some (.tuple [.nils, .tuple (valR i)], R) else some (.tuple [.nilp, .tuple (val (i + 1))], R))
    (he : rd (val W) R = some (.tuple [.ptr ex 0 0 0, .tuple (val W)], R)) : ∀ (k : Nat) (i : Int), 0 ≤ i → i + k = W →
    (anyB p k i = true → LoopTo rd (val i) R .ret (valR (posB p k i)) R) ∧ (anyB p k i = false → LoopTo rd (val i) R (.exit ex) (val W) R)
  | 0, i, h0, hk => by
    obtain rfl : i = W := by omega
    exact ⟨fun h => (by cases h), fun _ => .done he (by simp)⟩
  | k + 1, i, h0, hk => by
    have hro := hr i h0 (by omega)
    unfold anyB posB
    cases hp : p i with
    | true =>
      rw [hp, cond_true] at hro
      simp only [cond_true]
      exact ⟨fun _ => .done hro (by simp), fun h => (by cases h)⟩
    | false =>
      rw [hp, cond_false] at hro
      simp only [cond_false]
      have ih := loop_any hr he k (i + 1) (by omega) (by omega)
      exact ⟨fun h => .more hro (ih.1 h), fun h => .more hro (ih.2 h)⟩

end Go.Proofs.Ytnfhlfmcgeaagaa
