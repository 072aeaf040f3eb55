/- The small machine in the laws of package trace: what must be in any case. -/
import Derived.Test.YtnfhlfmcgeaagaaVmSc
namespace Go.Proofs.Ytnfhlfmcgeaagaa
set_option linter.unusedSimpArgs false
set_option linter.unusedVariables false
open Go.RowKit

noncomputable def xG10 : Ctx := ctxOf [] [orcSlideC, orcFreeC]
theorem xG10_ok : COk Try.prog xG10 := ctxOf_ok (by kernel_rfl)

set_option maxRecDepth 100000 in
set_option maxHeartbeats 0 in
theorem shown10_val : runK xG10 (fun _ _ => none) 5000 10 Try.f10 0 [] [] = some (.bool true, []) := by kernel_rfl
noncomputable def orcShown10 : Orc := ⟨10, fun args _ => oConst (.bool true) args, fun _ _ _ h _ => (runK_ok xG10_ok lok_none Try.func10 shown10_val).elim fun _ hc => oConst_ok hc.1 rfl h, bodied Try.func10 (by kernel_rfl)⟩

end Go.Proofs.Ytnfhlfmcgeaagaa
