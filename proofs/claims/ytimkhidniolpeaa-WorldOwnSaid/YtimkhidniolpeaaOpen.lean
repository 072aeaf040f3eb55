/- Arguments opened to their numbers: structs of numbers and bools, by value. -/
import Derived.Test.YtimkhidniolpeaaTypes
namespace Go.Proofs.Ytimkhidniolpeaa
set_option linter.unusedSimpArgs false
set_option linter.unusedVariables false
set_option maxRecDepth 100000
set_option maxHeartbeats 0
open Go.ChangeShapes Go.WideShapes Go.RowKit

def In64 (n : Int) : Prop := -9223372036854775808 ≤ n ∧ n ≤ 9223372036854775807

section
variable {P : Program} {w : World} {r : Reach} {base : Nat}

theorem has64 {n : Int} (h : IntKind.i64.has n) : In64 n := by
 unfold In64; simpa [IntKind.has, IntKind.min, IntKind.max, IntKind.signed, IntKind.bits] using h

theorem cell_int {t : TypeId} {k : IntKind} {v : Value} (ht : P.underlying t = some (.int k)) (h : Cell.okWide P w r base t v) : ∃ n, v = .int k n ∧ k.has n := by
 simp only [Cell.okWide, ht] at h
 cases v <;> simp_all [Cell.ok]

theorem cell_i64 {t : TypeId} {v : Value} (ht : P.underlying t = some (.int .i64)) (h : Cell.okWide P w r base t v) : ∃ n, v = .int .i64 n ∧ In64 n := by
 obtain ⟨n, rfl, hn⟩ := cell_int ht h
 exact ⟨n, rfl, has64 hn⟩

theorem cell_bool {t : TypeId} {v : Value} (ht : P.underlying t = some .bool) (h : Cell.okWide P w r base t v) : ∃ b, v = .bool b := by
 simp only [Cell.okWide, ht] at h
 cases v <;> simp_all [Cell.ok]

theorem val_cell {t : TypeId} {d : TypeDesc} {v : Value} (ht : P.underlying t = some d) (hd : (match d with | .struct _ | .array _ _ => true | _ => false) = false) (h : Value.okWide P w r base t v) : Cell.okWide P w r base t v := by
 simp only [Value.okWide, ht] at h
 cases d <;> simp_all

theorem agg_cells {t : TypeId} {n : Nat} {ts : List TypeId} {v : Value} (ht : Agg P t n) (hn : P.cellsOf t = n) (hc : P.cellTypes P.depth t = some ts) (hl : ts.length = n) (h : Value.okWide P w r base t v) :
    ∃ cs : Array Value, v = .agg cs ∧ cs.size = n ∧ ∀ (i : Nat) (u : TypeId) (x : Value), ts[i]? = some u → cs[i]? = some x → Cell.okWide P w r base u x := by
 obtain ⟨⟨d, hd, hm⟩, _⟩ := ht
 simp only [Value.okWide, hd] at h
 have h' : ∃ cs, v = .agg cs ∧ cs.size = P.cellsOf t ∧ Row.okWide P w r base t cs := by cases d <;> simp_all
 obtain ⟨cs, rfl, hs, ts', hts, _, hrow⟩ := h'
 rw [hc] at hts
 cases hts
 refine ⟨cs, rfl, hs.trans hn, fun i u x hu hx => ?_⟩
 obtain ⟨u', hu', hok⟩ := hrow i x hx
 have hi : i < ts.length := by
  cases hlt : decide (i < ts.length) with
  | true => simpa using hlt
  | false => simp at hlt; rw [List.getElem?_eq_none hlt] at hu; cases hu
 rw [Nat.mod_eq_of_lt hi, hu] at hu'
 cases hu'
 exact hok
end

theorem arr3 {α : Type} {cs : Array α} (h : cs.size = 3) : ∃ a b c, cs = #[a, b, c] := by
 obtain ⟨l⟩ := cs
 match l, h with
 | [a, b, c], _ => exact ⟨a, b, c, rfl⟩

section
variable {w : World} {r : Reach} {base : Nat}
def V3.fits (a : V3) : Prop := In64 a.x ∧ In64 a.y ∧ In64 a.z
theorem open_vec {v : Value} (h : Value.okWide Try.prog w r base 27 v) : ∃ a : V3, v = a.v ∧ a.fits := by
  obtain ⟨cs, rfl, hs, hc⟩ := agg_cells (ts := [2, 2, 2]) agg_vec (by kernel_rfl) (by kernel_rfl) rfl h
  obtain ⟨x, y, z, rfl⟩ := arr3 hs
  obtain ⟨x, rfl, hx⟩ := cell_i64 Try.underlying2 (hc 0 _ _ rfl rfl)
  obtain ⟨y, rfl, hy⟩ := cell_i64 Try.underlying2 (hc 1 _ _ rfl rfl)
  obtain ⟨z, rfl, hz⟩ := cell_i64 Try.underlying2 (hc 2 _ _ rfl rfl)
  exact ⟨⟨x, y, z⟩, rfl, hx, hy, hz⟩
end

theorem arr15 {α : Type} {cs : Array α} (h : cs.size = 15) : ∃ a0 a1 a2 a3 a4 a5 a6 a7 a8 a9 a10 a11 a12 a13 a14, cs = #[a0, a1, a2, a3, a4, a5, a6, a7, a8, a9, a10, a11, a12, a13, a14] := by
  obtain ⟨l⟩ := cs
  match l, h with
  | [a0, a1, a2, a3, a4, a5, a6, a7, a8, a9, a10, a11, a12, a13, a14], _ => exact ⟨a0, a1, a2, a3, a4, a5, a6, a7, a8, a9, a10, a11, a12, a13, a14, rfl⟩

structure Pl.fits (p : Pl) : Prop where
 id : In64 p.id
 px : In64 p.pos.x
 py : In64 p.pos.y
 pz : In64 p.pos.z
 vx : In64 p.vel.x
 vy : In64 p.vel.y
 vz : In64 p.vel.z
 health : In64 p.health
 armour : In64 p.armour
 score : In64 p.score
 a0 : In64 p.a0
 a1 : In64 p.a1
 wait : In64 p.wait
 dead : In64 p.dead

section
variable {w : World} {r : Reach} {base : Nat}
theorem open_pl {v : Value} (h : Value.okWide Try.prog w r base 44 v) : ∃ p : Pl, v = p.v ∧ p.fits := by
  obtain ⟨cs, rfl, hs, hc⟩ := agg_cells (ts := [3, 2, 2, 2, 2, 2, 2, 4, 3, 3, 3, 3, 3, 3, 3]) agg_pl (by kernel_rfl) (by kernel_rfl) rfl h
  obtain ⟨a0, a1, a2, a3, a4, a5, a6, a7, a8, a9, a10, a11, a12, a13, a14, rfl⟩ := arr15 hs
  obtain ⟨a0, rfl, h0⟩ := cell_i64 Try.underlying3 (hc 0 _ _ rfl rfl)
  obtain ⟨a1, rfl, h1⟩ := cell_i64 Try.underlying2 (hc 1 _ _ rfl rfl)
  obtain ⟨a2, rfl, h2⟩ := cell_i64 Try.underlying2 (hc 2 _ _ rfl rfl)
  obtain ⟨a3, rfl, h3⟩ := cell_i64 Try.underlying2 (hc 3 _ _ rfl rfl)
  obtain ⟨a4, rfl, h4⟩ := cell_i64 Try.underlying2 (hc 4 _ _ rfl rfl)
  obtain ⟨a5, rfl, h5⟩ := cell_i64 Try.underlying2 (hc 5 _ _ rfl rfl)
  obtain ⟨a6, rfl, h6⟩ := cell_i64 Try.underlying2 (hc 6 _ _ rfl rfl)
  obtain ⟨a7, rfl⟩ := cell_bool Try.underlying4 (hc 7 _ _ rfl rfl)
  obtain ⟨a8, rfl, h8⟩ := cell_i64 Try.underlying3 (hc 8 _ _ rfl rfl)
  obtain ⟨a9, rfl, h9⟩ := cell_i64 Try.underlying3 (hc 9 _ _ rfl rfl)
  obtain ⟨a10, rfl, h10⟩ := cell_i64 Try.underlying3 (hc 10 _ _ rfl rfl)
  obtain ⟨a11, rfl, h11⟩ := cell_i64 Try.underlying3 (hc 11 _ _ rfl rfl)
  obtain ⟨a12, rfl, h12⟩ := cell_i64 Try.underlying3 (hc 12 _ _ rfl rfl)
  obtain ⟨a13, rfl, h13⟩ := cell_i64 Try.underlying3 (hc 13 _ _ rfl rfl)
  obtain ⟨a14, rfl, h14⟩ := cell_i64 Try.underlying3 (hc 14 _ _ rfl rfl)
  exact ⟨⟨a0, ⟨a1, a2, a3⟩, ⟨a4, a5, a6⟩, a7, a8, a9, a10, a11, a12, a13, a14⟩, rfl, ⟨h0, h1, h2, h3, h4, h5, h6, h8, h9, h10, h11, h12, h13, h14⟩⟩
end

theorem open_i64 {P : Program} {w : World} {r : Reach} {base : Nat} {t : TypeId} {v : Value} (ht : P.underlying t = some (.int .i64)) (h : Value.okWide P w r base t v) : ∃ n, v = I n ∧ In64 n := by
 exact cell_i64 ht (val_cell ht rfl h)

theorem Try.own : ownKnob Try.prog.godebug = none := by kernel_rfl
theorem Try.laidOut : laidOutB Try.prog = true := by kernel_rfl

end Go.Proofs.Ytimkhidniolpeaa
