/- The small machine in package trace: Free and Slide by values that can be reckoned. -/
import Derived.Test.YtihpfaeabocdbaaVmSl
import Derived.Test.YtihpfaeabocdbaaVmOrb
namespace Go.Proofs.Ytihpfaeabocdbaa
set_option linter.unusedSimpArgs false
set_option linter.unusedVariables false
set_option maxRecDepth 100000
open Go.RowKit

/-! A map's boxes, reckoned. -/
def allGo (p : Int → Bool) : Nat → Int → Bool
  | 0, _ => true
  | n + 1, i => p i && allGo p n (i + 1)
def allI (a b : Int) (p : Int → Bool) : Bool := allGo p (b + 1 - a).toNat a
theorem allGo_iff {p : Int → Bool} : ∀ {n : Nat} {a : Int}, allGo p n a = true ↔ ∀ i, a ≤ i → i < a + n → p i = true
  | 0, a => by simp [allGo]; intro i h1 h2; omega
  | n + 1, a => by
    rw [allGo, Bool.and_eq_true, allGo_iff]
    constructor
    · rintro ⟨h1, h2⟩ i h3 h4
      by_cases hi : i = a
      · subst hi; exact h1
      · exact h2 i (by omega) (by omega)
    · intro h
      exact ⟨h a (by omega) (by omega), fun i h3 h4 => h i (by omega) (by omega)⟩
theorem allI_iff {a b : Int} {p : Int → Bool} : allI a b p = true ↔ ∀ i, a ≤ i → i ≤ b → p i = true := by
  unfold allI
  rw [allGo_iff]
  constructor
  · intro h i h1 h2; exact h i h1 (by omega)
  · intro h i h1 h2; exact h i h1 (by omega)

def Mp.clearC (m : Mp) (lo hi : V3) : Bool := decide (hi.x ≤ lo.x) || (decide (hi.y ≤ lo.y) || (decide (hi.z ≤ lo.z) ||
  allI (lo.x / 65536) ((hi.x - 1) / 65536) fun i => allI (lo.y / 65536) ((hi.y - 1) / 65536) fun j => allI (lo.z / 65536) ((hi.z - 1) / 65536) fun k => !m.solid i j k))
theorem clear_eq (m : Mp) (lo hi : V3) : m.clear lo hi = m.clearC lo hi := by
  rw [Bool.eq_iff_iff, Mp.clear_iff]
  unfold Mp.Clear Mp.boxFree Mp.clearC
  simp only [Bool.or_eq_true, decide_eq_true_eq, allI_iff, Bool.not_eq_true']
  constructor
  · rintro (h | h | h | h)
    · exact .inl h
    · exact .inr (.inl h)
    · exact .inr (.inr (.inl h))
    · exact .inr (.inr (.inr fun i h1 h2 j h3 h4 k h5 h6 => h i j k h1 h2 h3 h4 h5 h6))
  · rintro (h | h | h | h)
    · exact .inl h
    · exact .inr (.inl h)
    · exact .inr (.inr (.inl h))
    · exact .inr (.inr (.inr fun i j k h1 h2 h3 h4 h5 h6 => h i h1 h2 j h3 h4 k h5 h6))
def Mp.freeC (m : Mp) (p : V3) : Bool := m.clearC (p.minus boxV) (p.plus boxV)
theorem free_eq (m : Mp) (p : V3) : m.free p = m.freeC p := clear_eq m _ _
def Mp.stepC (m : Mp) (p q : V3) (d : Int) : V3 × Bool := bif m.freeC q then (q, false) else (p, d != 0)
def Mp.slideC (m : Mp) (p b : V3) : V3 × Bool × Bool × Bool :=
  let r1 := m.stepC p ⟨cut64 (p.x + clampN 32768 b.x), p.y, p.z⟩ (clampN 32768 b.x)
  let r2 := m.stepC r1.1 ⟨r1.1.x, cut64 (r1.1.y + clampN 32768 b.y), r1.1.z⟩ (clampN 32768 b.y)
  let r3 := m.stepC r2.1 ⟨r2.1.x, r2.1.y, cut64 (r2.1.z + clampN 32768 b.z)⟩ (clampN 32768 b.z)
  (r3.1, r1.2, r2.2, r3.2)
theorem slide_eq (m : Mp) (p b : V3) : m.slide p b = m.slideC p b := by
  unfold Mp.slide Mp.slideC Mp.stepB Mp.stepC
  simp only [free_eq]

/-- Slide's and Free's contracts, by values that can be reckoned. -/
noncomputable def oSlideC (args : List SV) (rows : List Row) : Option Eff :=
  match args with
  | [.agg [.int .i64 w, .int .i64 d, .int .i64 h, .slice id st off len _, sp], .agg [.int .i64 x, .int .i64 y, .int .i64 z], .agg [.int .i64 p, .int .i64 q, .int .i64 r]] => match rows[id]? with
    | some (.vec _ .bool xs) => bif Nat.beq st 1 && sp.one then some { ok := mapOk w d h len && (fitsB ⟨x, y, z⟩ && decide (off + len ≤ xs.length)), val := slideV ((mpOf w d h len fun j => xs.getD (off + j) false).slideC ⟨x, y, z⟩ ⟨p, q, r⟩), rd := [id] } else none
    | _ => none
  | _ => none
theorem oSlideC_le {args : List SV} {rows : List Row} {e : Eff} (h : oSlideC args rows = some e) : oSlide args rows = some e := by
  unfold oSlideC at h
  split at h
  · split at h
    · rename_i h1
      unfold oSlide
      simp only [h1, slide_eq]
      exact h
    · cases h
  · cases h
noncomputable def orcSlideC : Orc := ⟨27, oSlideC, fun _ _ _ h hok => oSlide_ok (oSlideC_le h) hok, bodied Try.func27 (by kernel_rfl)⟩
noncomputable def orcSlide : Orc := ⟨27, oSlide, fun _ _ _ h hok => oSlide_ok h hok, bodied Try.func27 (by kernel_rfl)⟩

noncomputable def oFreeC (args : List SV) (rows : List Row) : Option Eff :=
  match args with
  | [.agg [.int .i64 w, .int .i64 d, .int .i64 h, .slice id st off len _, sp], .agg [.int .i64 x, .int .i64 y, .int .i64 z]] => match rows[id]? with
    | some (.vec _ .bool xs) => bif Nat.beq st 1 && sp.one then some { ok := mapOk w d h len && (fitsB ⟨x, y, z⟩ && decide (off + len ≤ xs.length)), val := .bool ((mpOf w d h len fun j => xs.getD (off + j) false).freeC ⟨x, y, z⟩), rd := [id] } else none
    | _ => none
  | _ => none
theorem oFreeC_le {args : List SV} {rows : List Row} {e : Eff} (h : oFreeC args rows = some e) : oFree args rows = some e := by
  unfold oFreeC at h
  split at h
  · split at h
    · rename_i h1
      unfold oFree
      simp only [h1, free_eq]
      exact h
    · cases h
  · cases h
noncomputable def orcFreeC : Orc := ⟨23, oFreeC, fun _ _ _ h hok => oFree_ok (oFreeC_le h) hok, bodied Try.func23 (by kernel_rfl)⟩
noncomputable def orcFree : Orc := ⟨23, oFree, fun _ _ _ h hok => oFree_ok h hok, bodied Try.func23 (by kernel_rfl)⟩

end Go.Proofs.Ytihpfaeabocdbaa
