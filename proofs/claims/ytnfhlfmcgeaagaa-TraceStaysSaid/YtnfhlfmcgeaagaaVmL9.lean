/- The small machine in the laws of package trace: what must be in any case. -/
import Derived.Test.YtnfhlfmcgeaagaaVmSl
namespace Go.Proofs.Ytnfhlfmcgeaagaa
set_option linter.unusedSimpArgs false
set_option linter.unusedVariables false
open Go.RowKit

/-! A map's boxes, reckoned. -/
def allGo (p : Int → Bool) : Nat → Int → Bool
  | 0, _ => true
  | n + 1, i => p i && allGo p n (i + 1)
def allI (a b : Int) (p : Int → Bool) : Bool := allGo p (b + 1 - a).toNat a
theorem allGo_iff {p : Int → Bool} : ∀ {n : Nat} {a : Int}, allGo p n a = true ↔ ∀ i, a ≤ i → i < a + n → p i = true
  | 0, a => by simp [allGo]; intro i h1 h2; omega
  | n + 1, a => by
    rw [allGo, Bool.and_eq_true, allGo_iff]
    constructor
    · rintro ⟨h1, h2⟩ i h3 h4
      by_cases hi : i = a
      · subst hi; exact h1
      · exact h2 i (by omega) (by omega)
    · intro h
      exact ⟨h a (by omega) (by omega), fun i h3 h4 => h i (by omega) (by omega)⟩
theorem allI_iff {a b : Int} {p : Int → Bool} : allI a b p = true ↔ ∀ i, a ≤ i → i ≤ b → p i = true := by
  unfold allI
  rw [allGo_iff]
  constructor
  · intro h i h1 h2; exact h i h1 (by omega)
  · intro h i h1 h2; exact h i h1 (by omega)

def Mp.clearC (m : Mp) (lo hi : V3) : Bool := decide (hi.x ≤ lo.x) || (decide (hi.y ≤ lo.y) || (decide (hi.z ≤ lo.z) ||
  allI (lo.x / 65536) ((hi.x - 1) / 65536) fun i => allI (lo.y / 65536) ((hi.y - 1) / 65536) fun j => allI (lo.z / 65536) ((hi.z - 1) / 65536) fun k => !m.solid i j k))
theorem clear_eq (m : Mp) (lo hi : V3) : m.clear lo hi = m.clearC lo hi := by
  rw [Bool.eq_iff_iff, Mp.clear_iff]
  unfold Mp.Clear Mp.boxFree Mp.clearC
  simp only [Bool.or_eq_true, decide_eq_true_eq, allI_iff, Bool.not_eq_true']
  constructor
  · rintro (h | h | h | h)
    · exact .inl h
    · exact .inr (.inl h)
    · exact .inr (.inr (.inl h))
    · exact .inr (.inr (.inr fun i h1 h2 j h3 h4 k h5 h6 => h i j k h1 h2 h3 h4 h5 h6))
  · rintro (h | h | h | h)
    · exact .inl h
    · exact .inr (.inl h)
    · exact .inr (.inr (.inl h))
    · exact .inr (.inr (.inr fun i j k h1 h2 h3 h4 h5 h6 => h i h1 h2 j h3 h4 k h5 h6))
def Mp.freeC (m : Mp) (p : V3) : Bool := m.clearC (p.minus boxV) (p.plus boxV)
theorem free_eq (m : Mp) (p : V3) : m.free p = m.freeC p := clear_eq m _ _
def Mp.stepC (m : Mp) (p q : V3) (d : Int) : V3 × Bool := bif m.freeC q then (q, false) else (p, d != 0)
def Mp.slideC (m : Mp) (p b : V3) : V3 × Bool × Bool × Bool :=
  let r1 := m.stepC p ⟨cut64 (p.x + clampN 32768 b.x), p.y, p.z⟩ (clampN 32768 b.x)
  let r2 := m.stepC r1.1 ⟨r1.1.x, cut64 (r1.1.y + clampN 32768 b.y), r1.1.z⟩ (clampN 32768 b.y)
  let r3 := m.stepC r2.1 ⟨r2.1.x, r2.1.y, cut64 (r2.1.z + clampN 32768 b.z)⟩ (clampN 32768 b.z)
  (r3.1, r1.2, r2.2, r3.2)
theorem slide_eq (m : Mp) (p b : V3) : m.slide p b = m.slideC p b := by
  unfold Mp.slide Mp.slideC Mp.stepB Mp.stepC
  simp only [free_eq]

/-! The laws' callees. -/
noncomputable def call10a (f : Nat) (args : List SV) (rows : List Row) : Option Eff :=
  bif Nat.beq f 12 then oSlide args rows else bif Nat.beq f 14 then oFree args rows else none
noncomputable def fns10 : List Nat := [11, 16]
noncomputable def x10 : Ctx := ⟨vmT, fnsOf fns10, call10a⟩

theorem fnsOf_ok {l : List Nat} (hl : (l.all fun f => match Try.prog.funcs[f]? with
    | some fn => !(fn.name == "runtime.NumGoroutine" || fn.body.isNone)
    | none => true) = true) : ∀ f fn, fnsOf l f = some fn → Try.prog.funcs[f]? = some fn ∧ (fn.name == "runtime.NumGoroutine" || fn.body.isNone) = false := by
  intro f fn h
  unfold fnsOf at h
  cases hm : memN f l with
  | false => simp [hm] at h
  | true =>
    simp only [hm, cond_true] at h
    have h1 := List.all_eq_true.1 hl f (memN_iff.1 hm)
    rw [h] at h1
    exact ⟨h, by simpa using h1⟩

theorem call10a_ok {f : Nat} {args : List SV} {rows : List Row} {e : Eff} (h : call10a f args rows = some e) (hok : e.ok = true) : FnOk Try.prog f args (rows[·]?) rows.length e ∧ (∃ fn, Try.prog.funcs[f]? = some fn ∧ (fn.name == "runtime.NumGoroutine" || fn.body.isNone) = false) := by
  unfold call10a at h
  cases h1 : Nat.beq f 12 with
  | true =>
    simp only [h1, cond_true] at h
    have := Nat.eq_of_beq_eq_true h1
    subst this
    exact ⟨oSlide_ok h hok, bodied Try.func12 (by kernel_rfl)⟩
  | false =>
    simp only [h1, cond_false] at h
    cases h2 : Nat.beq f 14 with
    | true =>
      simp only [h2, cond_true] at h
      have := Nat.eq_of_beq_eq_true h2
      subst this
      exact ⟨oFree_ok h hok, bodied Try.func14 (by kernel_rfl)⟩
    | false => simp [h2] at h

theorem x10_ok : COk Try.prog x10 where
  mixed := by kernel_rfl
  T := vmT_ok
  fn := fnsOf_ok (by kernel_rfl)
  call := fun _ _ _ _ h hok => call10a_ok h hok

end Go.Proofs.Ytnfhlfmcgeaagaa
