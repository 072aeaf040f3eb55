/- The small machine: contracts of fix and grid. -/
import Derived.Test.YtikifgbbiffclaaVmMp
namespace Go.Proofs.Ytikifgbbiffclaa
set_option linter.unusedSimpArgs false
set_option linter.unusedVariables false
end Go.Proofs.Ytikifgbbiffclaa
