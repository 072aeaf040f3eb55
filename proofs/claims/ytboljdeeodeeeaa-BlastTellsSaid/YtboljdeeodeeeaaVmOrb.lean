/- The small machine: contracts of fix and grid. -/
import Derived.Test.YtboljdeeodeeeaaVmMp
namespace Go.Proofs.Ytboljdeeodeeeaa
set_option linter.unusedSimpArgs false
set_option linter.unusedVariables false
set_option maxRecDepth 100000
end Go.Proofs.Ytboljdeeodeeeaa
