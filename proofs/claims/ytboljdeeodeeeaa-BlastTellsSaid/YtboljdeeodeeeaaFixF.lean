/- Package fix's Times: contract. -/
import Derived.Test.YtboljdeeodeeeaaFixC
namespace Go.Proofs.Ytboljdeeodeeeaa
set_option linter.unusedSimpArgs false
set_option linter.unusedVariables false
set_option maxRecDepth 100000
open Go.RowKit

def V3.times (a : V3) (n : Int) : V3 := ⟨mul16 a.x n, mul16 a.y n, mul16 a.z n⟩

end Go.Proofs.Ytboljdeeodeeeaa
