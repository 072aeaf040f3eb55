/- Package trace's Free: contract. -/
import Derived.Test.YtboljdeeodeeeaaGridD
import Derived.Test.YtboljdeeodeeeaaFixC
-- EVDEFS: Mp.v
namespace Go.Proofs.Ytboljdeeodeeeaa
set_option linter.unusedSimpArgs false
set_option linter.unusedVariables false
set_option maxRecDepth 100000
open Go.RowKit

def boxV : V3 := ⟨26214, 26214, 58982⟩
theorem boxV_fits : boxV.fits := ⟨by show In64 26214; unfold In64; omega, by show In64 26214; unfold In64; omega, by show In64 58982; unfold In64; omega⟩
theorem plus_fits (a b : V3) : (a.plus b).fits := ⟨cut64_fits _, cut64_fits _, cut64_fits _⟩
theorem minus_fits (a b : V3) : (a.minus b).fits := ⟨cut64_fits _, cut64_fits _, cut64_fits _⟩

/-- A player fits. -/
noncomputable def Mp.free (m : Mp) (p : V3) : Bool := m.clear (p.minus boxV) (p.plus boxV)

end Go.Proofs.Ytboljdeeodeeeaa
