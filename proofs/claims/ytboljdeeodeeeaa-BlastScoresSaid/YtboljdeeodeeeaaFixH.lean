/- Package fix's Sqrt: contract. (Under way.) -/
import Derived.Test.YtboljdeeodeeeaaFixG
-- EVDEFS: Wide, Wide.cs
namespace Go.Proofs.Ytboljdeeodeeeaa
set_option linter.unusedSimpArgs false
set_option linter.unusedVariables false
set_option maxRecDepth 100000
open Go.RowKit

theorem U_one16 : U 65536 = .int .u64 65536 := by rw [U, nI_eq]; rfl

theorem product_one (m : Nat) (w : World) (hm : m < 18446744073709551616) : Calls Try.prog 60 #[U m, .int .u64 65536] w (Ret w (Wide (m * 65536))) := by
  rw [← U_one16]
  exact product_any m 65536 w hm (by omega)

theorem rootN_lt {W b : Nat} (h : W < b * b) : rootN W < b := by
  have h1 := (rootN_spec W).1
  by_cases hh : rootN W < b
  · exact hh
  · have := Nat.mul_le_mul (Nat.le_of_not_lt hh) (Nat.le_of_not_lt hh)
    omega

end Go.Proofs.Ytboljdeeodeeeaa
