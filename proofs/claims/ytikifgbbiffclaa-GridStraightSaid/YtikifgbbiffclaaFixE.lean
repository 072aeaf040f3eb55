/- Package fix's Clamp: contract. -/
import Derived.Test.YtikifgbbiffclaaFixD
namespace Go.Proofs.Ytikifgbbiffclaa
set_option linter.unusedSimpArgs false
set_option linter.unusedVariables false
open Go.RowKit

def clampN (n a : Int) : Int := max (-(max n 0)) (min (max n 0) a)
def V3.clamp (a : V3) (n : Int) : V3 := ⟨clampN n a.x, clampN n a.y, clampN n a.z⟩

end Go.Proofs.Ytikifgbbiffclaa
