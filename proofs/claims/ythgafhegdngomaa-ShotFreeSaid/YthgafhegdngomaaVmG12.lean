/- The small machine in the laws of package shot: what must be in any case. -/
import Derived.Test.YthgafhegdngomaaVmLg
import Derived.Test.YthgafhegdngomaaVmOrb
namespace Go.Proofs.Ythgafhegdngomaa
set_option linter.unusedSimpArgs false
set_option linter.unusedVariables false
open Go.RowKit

noncomputable def fns12 : List Nat := [17, 9, 16, 14, 18, 23, 24, 36, 35, 21]
noncomputable def x12a : Ctx := ctxOf fns12 [orcLong, orcSolid]
theorem x12a_ok : COk Try.prog x12a := ctxOf_ok (by kernel_rfl)

set_option maxRecDepth 100000 in
set_option maxHeartbeats 0 in
theorem shown12_val : runK x12a (fun _ _ => none) 5000 8 Try.f8 0 [] [] = some (.bool true, []) := by kernel_rfl
noncomputable def orcShown12 : Orc := ⟨8, fun args _ => oConst (.bool true) args, fun _ _ _ h _ => (runK_ok x12a_ok lok_none Try.func8 shown12_val).elim fun _ hc => oConst_ok hc.1 rfl h, bodied Try.func8 (by kernel_rfl)⟩

end Go.Proofs.Ythgafhegdngomaa
