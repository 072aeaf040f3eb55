/- Arguments opened: shots and commands. -/
import Derived.Test.YtimkhidniolpeaaOpen
import Derived.Test.YtimkhidniolpeaaVmO
namespace Go.Proofs.Ytimkhidniolpeaa
set_option linter.unusedSimpArgs false
set_option linter.unusedVariables false
set_option maxRecDepth 100000
set_option maxHeartbeats 0
open Go.RowKit Go.ChangeShapes Go.WideShapes

theorem arr11 {α : Type} {cs : Array α} (h : cs.size = 11) : ∃ a0 a1 a2 a3 a4 a5 a6 a7 a8 a9 a10, cs = #[a0, a1, a2, a3, a4, a5, a6, a7, a8, a9, a10] := by
 obtain ⟨l⟩ := cs
 match l, h with
 | [a0, a1, a2, a3, a4, a5, a6, a7, a8, a9, a10], _ => exact ⟨a0, a1, a2, a3, a4, a5, a6, a7, a8, a9, a10, rfl⟩

def Sh.fits (s : Sh) : Prop := (In64 s.id ∧ In64 s.owner ∧ In64 s.kind) ∧ s.pos.fits ∧ s.vel.fits ∧ In64 s.fuse
def Sh.v (s : Sh) : Value := .agg #[I s.id, I s.owner, I s.kind, I s.pos.x, I s.pos.y, I s.pos.z, I s.vel.x, I s.vel.y, I s.vel.z, I s.fuse, .bool s.rest]
theorem rel_sh {ρ : Rho} {s : Sh} {u : Value} : Rel ρ (.agg s.sv) u ↔ u = s.v := by
 simp only [Sh.sv, Rel, RelL]
 constructor
 · rintro ⟨vs, rfl, _, _, rfl, rfl, _, _, rfl, rfl, _, _, rfl, rfl, _, _, rfl, rfl, _, _, rfl, rfl, _, _, rfl, rfl, _, _, rfl, rfl, _, _, rfl, rfl, _, _, rfl, rfl, _, _, rfl, rfl, _, _, rfl, rfl, rfl⟩; rfl
 · rintro rfl
   exact ⟨[I s.id, I s.owner, I s.kind, I s.pos.x, I s.pos.y, I s.pos.z, I s.vel.x, I s.vel.y, I s.vel.z, I s.fuse, .bool s.rest], rfl, _, _, rfl, rfl, _, _, rfl, rfl, _, _, rfl, rfl, _, _, rfl, rfl, _, _, rfl, rfl, _, _, rfl, rfl, _, _, rfl, rfl, _, _, rfl, rfl, _, _, rfl, rfl, _, _, rfl, rfl, _, _, rfl, rfl, rfl⟩

theorem open_sh {w : World} {r : Reach} {base : Nat} {v : Value} (h : Value.okWide Try.prog w r base 64 v) : ∃ s : Sh, v = s.v ∧ s.fits := by
  obtain ⟨cs, rfl, hs, hc⟩ := agg_cells (ts := [3, 3, 3, 2, 2, 2, 2, 2, 2, 3, 4]) agg_shot (by kernel_rfl) (by kernel_rfl) rfl h
  obtain ⟨a0, a1, a2, a3, a4, a5, a6, a7, a8, a9, a10, rfl⟩ := arr11 hs
  obtain ⟨a0, rfl, h0⟩ := cell_i64 Try.underlying3 (hc 0 _ _ rfl rfl)
  obtain ⟨a1, rfl, h1⟩ := cell_i64 Try.underlying3 (hc 1 _ _ rfl rfl)
  obtain ⟨a2, rfl, h2⟩ := cell_i64 Try.underlying3 (hc 2 _ _ rfl rfl)
  obtain ⟨a3, rfl, h3⟩ := cell_i64 Try.underlying2 (hc 3 _ _ rfl rfl)
  obtain ⟨a4, rfl, h4⟩ := cell_i64 Try.underlying2 (hc 4 _ _ rfl rfl)
  obtain ⟨a5, rfl, h5⟩ := cell_i64 Try.underlying2 (hc 5 _ _ rfl rfl)
  obtain ⟨a6, rfl, h6⟩ := cell_i64 Try.underlying2 (hc 6 _ _ rfl rfl)
  obtain ⟨a7, rfl, h7⟩ := cell_i64 Try.underlying2 (hc 7 _ _ rfl rfl)
  obtain ⟨a8, rfl, h8⟩ := cell_i64 Try.underlying2 (hc 8 _ _ rfl rfl)
  obtain ⟨a9, rfl, h9⟩ := cell_i64 Try.underlying3 (hc 9 _ _ rfl rfl)
  obtain ⟨a10, rfl⟩ := cell_bool Try.underlying4 (hc 10 _ _ rfl rfl)
  exact ⟨⟨a0, a1, a2, ⟨a3, a4, a5⟩, ⟨a6, a7, a8⟩, a9, a10⟩, rfl, ⟨h0, h1, h2⟩, ⟨h3, h4, h5⟩, ⟨h6, h7, h8⟩, h9⟩

def Cm.v (c : Cm) : Value := .agg #[.int .u16 c.seq, .int .u8 c.buttons, .int .i8 c.dx, .int .i8 c.dy, I c.ticks]
def Cm.fits (c : Cm) : Prop := (0 ≤ c.seq ∧ c.seq ≤ 65535) ∧ (0 ≤ c.buttons ∧ c.buttons ≤ 255) ∧ (-128 ≤ c.dx ∧ c.dx ≤ 127) ∧ (-128 ≤ c.dy ∧ c.dy ≤ 127) ∧ In64 c.ticks
theorem rel_cm {ρ : Rho} {c : Cm} {u : Value} : Rel ρ (.agg c.sv) u ↔ u = c.v := by
 simp only [Cm.sv, Rel, RelL]
 constructor
 · rintro ⟨vs, rfl, _, _, rfl, rfl, _, _, rfl, rfl, _, _, rfl, rfl, _, _, rfl, rfl, _, _, rfl, rfl, rfl⟩; rfl
 · rintro rfl
   exact ⟨[.int .u16 c.seq, .int .u8 c.buttons, .int .i8 c.dx, .int .i8 c.dy, I c.ticks], rfl, _, _, rfl, rfl, _, _, rfl, rfl, _, _, rfl, rfl, _, _, rfl, rfl, _, _, rfl, rfl, rfl⟩

theorem arr5c {α : Type} {cs : Array α} (h : cs.size = 5) : ∃ a b c d e, cs = #[a, b, c, d, e] := by
  obtain ⟨l⟩ := cs
  match l, h with
  | [a, b, c, d, e], _ => exact ⟨a, b, c, d, e, rfl⟩

theorem open_cm {w : World} {r : Reach} {base : Nat} {v : Value} (h : Value.okWide Try.prog w r base 52 v) : ∃ c : Cm, v = c.v ∧ c.fits := by
  obtain ⟨cs, rfl, hs, hc⟩ := agg_cells (ts := [49, 5, 50, 50, 3]) agg_cmd (by kernel_rfl) (by kernel_rfl) rfl h
  obtain ⟨a0, a1, a2, a3, a4, rfl⟩ := arr5c hs
  obtain ⟨a0, rfl, h0⟩ := cell_int Try.underlying49 (hc 0 _ _ rfl rfl)
  obtain ⟨a1, rfl, h1⟩ := cell_int Try.underlying5 (hc 1 _ _ rfl rfl)
  obtain ⟨a2, rfl, h2⟩ := cell_int Try.underlying50 (hc 2 _ _ rfl rfl)
  obtain ⟨a3, rfl, h3⟩ := cell_int Try.underlying50 (hc 3 _ _ rfl rfl)
  obtain ⟨a4, rfl, h4⟩ := cell_i64 Try.underlying3 (hc 4 _ _ rfl rfl)
  refine ⟨⟨a0, a1, a2, a3, a4⟩, rfl, ?_, ?_, ?_, ?_, h4⟩
  · simpa [IntKind.has, IntKind.min, IntKind.max, IntKind.signed, IntKind.bits] using h0
  · simpa [IntKind.has, IntKind.min, IntKind.max, IntKind.signed, IntKind.bits] using h1
  · simpa [IntKind.has, IntKind.min, IntKind.max, IntKind.signed, IntKind.bits] using h2
  · simpa [IntKind.has, IntKind.min, IntKind.max, IntKind.signed, IntKind.bits] using h3

end Go.Proofs.Ytimkhidniolpeaa
