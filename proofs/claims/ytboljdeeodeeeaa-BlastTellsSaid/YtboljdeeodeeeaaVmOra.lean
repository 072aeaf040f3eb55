/- The small machine: contracts of fix, put for lists of contracts; laws for trees. -/
import Derived.Test.YtboljdeeodeeeaaVmOrc
namespace Go.Proofs.Ytboljdeeodeeeaa
set_option linter.unusedSimpArgs false
set_option linter.unusedVariables false
set_option maxRecDepth 100000
open Go.RowKit

noncomputable def orcPlus : Orc := ⟨37, fun args _ => oPlus args, fun _ _ _ h hok => oPlus_ok h hok, bodied Try.func37 (by kernel_rfl)⟩

noncomputable def orcMinus : Orc := ⟨23, fun args _ => oMinus args, fun _ _ _ h hok => oMinus_ok h hok, bodied Try.func23 (by kernel_rfl)⟩

theorem bif_law {α : Type} {c : Bool} {x y r : α} (h1 : c = true → x = r) (h2 : c = false → y = r) : (bif c then x else y) = r := by cases c; exact h2 rfl; exact h1 rfl
theorem bif_true {α : Type} {c : Bool} {x y r : α} (hc : c = true) (h : x = r) : (bif c then x else y) = r := by subst hc; exact h
theorem bif_false {α : Type} {c : Bool} {x y r : α} (hc : c = false) (h : y = r) : (bif c then x else y) = r := by subst hc; exact h
theorem or_form (c d : Bool) : (bif c == false then d else true) = (c || d) := by cases c <;> rfl
theorem and_form (c d : Bool) : (bif c == true then d else false) = (c && d) := by cases c <;> rfl
theorem i64_div {a : Int} (h : In64 a) : in64B (a.fdiv (2 ^ min (Int.toNat 16) IntKind.i64.bits)) = true := by
  have p16 : (2 ^ min (Int.toNat 16) IntKind.i64.bits : Int) = 65536 := by decide
  rw [p16, Int.fdiv_eq_ediv_of_nonneg a (by omega), in64B_iff]
  unfold In64 at h ⊢
  omega
theorem div16 (a : Int) : a.fdiv (2 ^ min (Int.toNat 16) IntKind.i64.bits) = a / 65536 := by
  have p16 : (2 ^ min (Int.toNat 16) IntKind.i64.bits : Int) = 65536 := by decide
  rw [p16, Int.fdiv_eq_ediv_of_nonneg a (by omega)]
theorem i64_div' {a : Int} (h : In64 a) : in64B (a / 65536) = true := by
  rw [in64B_iff]
  unfold In64 at h ⊢
  omega

end Go.Proofs.Ytboljdeeodeeeaa
