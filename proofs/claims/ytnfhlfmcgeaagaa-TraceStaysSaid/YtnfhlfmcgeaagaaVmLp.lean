/- The small machine, loops and chapter 10's plain laws together. -/
import Derived.Test.YtnfhlfmcgeaagaaVmL10
import Derived.Test.YtnfhlfmcgeaagaaVmN
import Derived.Test.YtnfhlfmcgeaagaaVmM
import Derived.Test.YtnfhlfmcgeaagaaVmHallP
namespace Go.Proofs.Ytnfhlfmcgeaagaa
set_option linter.unusedSimpArgs false
set_option linter.unusedVariables false
open Go.RowKit
end Go.Proofs.Ytnfhlfmcgeaagaa
