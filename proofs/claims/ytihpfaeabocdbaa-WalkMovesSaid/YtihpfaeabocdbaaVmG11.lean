/- The small machine in the laws of package walk: what must be in any case. -/
import Derived.Test.YtihpfaeabocdbaaVmSc
namespace Go.Proofs.Ytihpfaeabocdbaa
set_option linter.unusedSimpArgs false
set_option linter.unusedVariables false
set_option maxRecDepth 100000
open Go.RowKit

noncomputable def fns11 : List Nat := [19, 15, 13, 26, 22, 21, 11]
noncomputable def x11a : Ctx := ctxOf fns11 [orcSlideC, orcFreeC]
theorem x11a_ok : COk Try.prog x11a := ctxOf_ok (by kernel_rfl)

set_option maxRecDepth 100000 in
set_option maxHeartbeats 0 in
theorem shown11_val : runK x11a (fun _ _ => none) 20000 9 Try.f9 0 [] [] = some (.bool true, []) := by kernel_rfl
noncomputable def orcShown11 : Orc := ⟨9, fun args _ => oConst (.bool true) args, fun _ _ _ h _ => (runK_ok x11a_ok lok_none Try.func9 shown11_val).elim fun _ hc => oConst_ok hc.1 rfl h, bodied Try.func9 (by kernel_rfl)⟩

end Go.Proofs.Ytihpfaeabocdbaa
