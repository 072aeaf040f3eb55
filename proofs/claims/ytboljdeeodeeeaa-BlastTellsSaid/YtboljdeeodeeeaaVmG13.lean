/- The small machine in the laws of package blast: what must be in any case. -/
import Derived.Test.YtboljdeeodeeeaaVmLg
import Derived.Test.YtboljdeeodeeeaaVmSg
import Derived.Test.YtboljdeeodeeeaaVmOrb
namespace Go.Proofs.Ytboljdeeodeeeaa
set_option linter.unusedSimpArgs false
set_option linter.unusedVariables false
set_option maxRecDepth 100000
open Go.RowKit

noncomputable def fns13 : List Nat := [20, 9, 17, 13]
noncomputable def x13a : Ctx := ctxOf fns13 [orcLong, orcMinus, orcSight]
theorem x13a_ok : COk Try.prog x13a := ctxOf_ok (by kernel_rfl)

set_option maxRecDepth 100000 in
set_option maxHeartbeats 0 in
theorem shown13_val : runK x13a (fun _ _ => none) 5000 8 Try.f8 0 [] [] = some (.bool true, []) := by kernel_rfl
noncomputable def orcShown13 : Orc := ⟨8, fun args _ => oConst (.bool true) args, fun _ _ _ h _ => (runK_ok x13a_ok lok_none Try.func8 shown13_val).elim fun _ hc => oConst_ok hc.1 rfl h, bodied Try.func8 (by kernel_rfl)⟩

end Go.Proofs.Ytboljdeeodeeeaa
