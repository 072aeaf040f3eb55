/- Arguments opened: a player as a small machine's value. -/
import Derived.Test.YtimkhidniolpeaaOpen
import Derived.Test.YtimkhidniolpeaaVmO
namespace Go.Proofs.Ytimkhidniolpeaa
set_option linter.unusedSimpArgs false
set_option linter.unusedVariables false
set_option maxRecDepth 100000
set_option maxHeartbeats 0
open Go.RowKit Go.ChangeShapes Go.WideShapes

theorem rel_pl {ρ : Rho} {p : Pl} {u : Value} : Rel ρ (.agg p.sv) u ↔ u = p.v := by
 simp only [Pl.sv, Rel, RelL]
 constructor
 · rintro ⟨vs, rfl, _, _, rfl, rfl, _, _, rfl, rfl, _, _, rfl, rfl, _, _, rfl, rfl, _, _, rfl, rfl, _, _, rfl, rfl, _, _, rfl, rfl, _, _, rfl, rfl, _, _, rfl, rfl, _, _, rfl, rfl, _, _, rfl, rfl, _, _, rfl, rfl, _, _, rfl, rfl, _, _, rfl, rfl, _, _, rfl, rfl, rfl⟩; rfl
 · rintro rfl
   exact ⟨[I p.id, I p.pos.x, I p.pos.y, I p.pos.z, I p.vel.x, I p.vel.y, I p.vel.z, .bool p.ground, I p.health, I p.armour, I p.score, I p.a0, I p.a1, I p.wait, I p.dead], rfl, _, _, rfl, rfl, _, _, rfl, rfl, _, _, rfl, rfl, _, _, rfl, rfl, _, _, rfl, rfl, _, _, rfl, rfl, _, _, rfl, rfl, _, _, rfl, rfl, _, _, rfl, rfl, _, _, rfl, rfl, _, _, rfl, rfl, _, _, rfl, rfl, _, _, rfl, rfl, _, _, rfl, rfl, _, _, rfl, rfl, rfl⟩

end Go.Proofs.Ytimkhidniolpeaa
