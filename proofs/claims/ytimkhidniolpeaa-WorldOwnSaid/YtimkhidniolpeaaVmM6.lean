/- A law's arguments opened for the small machine: slices of ops (chapter 16). -/
import Derived.Test.YtimkhidniolpeaaVmM
import Derived.Test.YtimkhidniolpeaaOpen3
namespace Go.Proofs.Ytimkhidniolpeaa
set_option linter.unusedSimpArgs false
set_option linter.unusedVariables false
set_option maxRecDepth 100000
set_option maxHeartbeats 0
open Go.ChangeShapes Go.WideShapes Go.RowKit

section
variable {H : Type} {enc : TypeId × Value → H} {w : World} {base b0 : Nat} {r : Reach} {held : Bool} {spare : Nat → Bool}

instance : Inhabited WOp := ⟨⟨0, 0, ⟨0, 0, 0, 0, 0⟩, 0, 0, ⟨0, 0, 0⟩⟩⟩

theorem trod_op {fuel : Nat} {cs : List Value} {x : DataW H × List MemPlace} (h : DataW.trod enc Try.prog w base spare held fuel 60 cs = some x) : ∃ a : WOp, cs = [I a.kind, I a.player, .int .u16 a.cmd.seq, .int .u8 a.cmd.buttons, .int .i8 a.cmd.dx, .int .i8 a.cmd.dy, I a.cmd.ticks, I a.shot, I a.ahead, I a.dir.x, I a.dir.y, I a.dir.z] := by
 have c64 : Try.prog.cellsOf 3 = 1 := by kernel_rfl
 have c5 : Try.prog.cellsOf 52 = 5 := by kernel_rfl
 have c3 : Try.prog.cellsOf 27 = 3 := by kernel_rfl
 have c12 : Try.prog.cellsOf 60 = 12 := by kernel_rfl
 obtain ⟨xs, k, rfl, _, hlen, _⟩ := DataW.trod_struct Try.underlying60 h
 rw [c12] at hlen
 match cs, hlen with
 | [v0, v1, v2, v3, v4, v5, v6, v7, v8, v9, v10, v11], _ =>
  obtain ⟨y0, h0⟩ := trod_field Try.underlying60 h (i := 0) rfl
  obtain ⟨y1, h1⟩ := trod_field Try.underlying60 h (i := 1) rfl
  obtain ⟨y2, h2⟩ := trod_field Try.underlying60 h (i := 2) rfl
  obtain ⟨y3, h3⟩ := trod_field Try.underlying60 h (i := 3) rfl
  obtain ⟨y4, h4⟩ := trod_field Try.underlying60 h (i := 4) rfl
  obtain ⟨y5, h5⟩ := trod_field Try.underlying60 h (i := 5) rfl
  obtain ⟨n0, e0, _, f0⟩ := DataW.trod_int Try.underlying3 h0
  obtain ⟨n1, e1, _, f1⟩ := DataW.trod_int Try.underlying3 h1
  obtain ⟨n2, e2⟩ := trod_cm h2
  obtain ⟨n3, e3, _, f3⟩ := DataW.trod_int Try.underlying3 h3
  obtain ⟨n4, e4, _, f4⟩ := DataW.trod_int Try.underlying3 h4
  obtain ⟨n5, e5, f5⟩ := trod_vec h5
  have e0 : (([v0, v1, v2, v3, v4, v5, v6, v7, v8, v9, v10, v11] : List Value).drop 0).take (Try.prog.cellsOf 3) = [I n0] := e0
  have e1 : (([v0, v1, v2, v3, v4, v5, v6, v7, v8, v9, v10, v11] : List Value).drop 1).take (Try.prog.cellsOf 3) = [I n1] := e1
  have e2 : (([v0, v1, v2, v3, v4, v5, v6, v7, v8, v9, v10, v11] : List Value).drop 2).take (Try.prog.cellsOf 52) = [.int .u16 n2.seq, .int .u8 n2.buttons, .int .i8 n2.dx, .int .i8 n2.dy, I n2.ticks] := e2
  have e3 : (([v0, v1, v2, v3, v4, v5, v6, v7, v8, v9, v10, v11] : List Value).drop 7).take (Try.prog.cellsOf 3) = [I n3] := e3
  have e4 : (([v0, v1, v2, v3, v4, v5, v6, v7, v8, v9, v10, v11] : List Value).drop 8).take (Try.prog.cellsOf 3) = [I n4] := e4
  have e5 : (([v0, v1, v2, v3, v4, v5, v6, v7, v8, v9, v10, v11] : List Value).drop 9).take (Try.prog.cellsOf 27) = [I n5.x, I n5.y, I n5.z] := e5
  rw [c64] at e0 e1 e3 e4
  rw [c5] at e2
  rw [c3] at e5
  simp at e0 e1 e2 e3 e4 e5
  obtain ⟨a2, b2, d2, g2, k2⟩ := e2
  obtain ⟨a5, b5, d5⟩ := e5
  exact ⟨⟨n0, n1, n2, n3, n4, n5⟩, by rw [e0, e1, a2, b2, d2, g2, k2, e3, e4, a5, b5, d5]⟩

theorem open_ops {v : Value} {d : DataW H} {p : List MemPlace} (hval : ∃ oa len cap, v = .slice oa len cap) (h : DataW.Trod enc Try.prog w base spare held 55 v d p) :
    ∃ (oa : Option Addr) (len cap : Nat) (l : List WOp), v = .slice oa len cap ∧ len ≤ 9223372036854775807 ∧ len ≤ cap ∧ l.length = len ∧
     (len = 0 ∨ ∃ b off, oa = some ⟨b, off, none⟩ ∧ b < w.heap.size ∧ ∀ (i : Nat) (x : WOp), l[i]? = some x → ∀ (j : Nat) (s : SV), x.sv[j]? = some s → w.cell? ⟨b, off + i * 12 + j, none⟩ = some (dval s)) := by
 obtain ⟨oa, len, cap, rfl⟩ := hval
 have c12 : Try.prog.cellsOf 60 = 12 := by kernel_rfl
 obtain ⟨fuel, hf⟩ := h
 rcases Deep.open_slice Try.underlying55 hf with ⟨hx, _⟩ | ⟨a, len', cap', m, n, D, Pl, hx, _, hl, hm, hmm, _, hall⟩
 · simp [Value.cells] at hx
   obtain ⟨rfl, rfl, rfl⟩ := hx
   exact ⟨none, 0, 0, [], rfl, by omega, by omega, rfl, .inl rfl⟩
 · simp [Value.cells] at hx
   obtain ⟨rfl, rfl, rfl⟩ := hx
   have hmax : maxLen = 9223372036854775807 := rfl
   have hlm : len ≤ m := by rw [hmm]; split <;> omega
   obtain ⟨F, hF⟩ := Deep.choose_lt (α := WOp) (n := len) (p := fun i x => (∀ (j : Nat) (s : SV), x.sv[j]? = some s → w.cell? (a.add (i * 12 + j)) = some (dval s))) (fun i hi => by
    obtain ⟨cs, h1, h2⟩ := hall i (by omega)
    rw [c12] at h1
    obtain ⟨_, _, hc⟩ := World.cells?_some h1
    obtain ⟨x, rfl⟩ := trod_op h2
    refine ⟨x, fun j s hs => ?_⟩
    have hj : j < 12 := by
     have := (List.getElem?_eq_some_iff.1 hs).1
     simpa [WOp.sv] using this
    have := hc j hj
    rw [Deep.add_add] at this
    rw [this]
    match j, hj with
    | 0, _ => simp [WOp.sv] at hs; subst hs; rfl
    | 1, _ => simp [WOp.sv] at hs; subst hs; rfl
    | 2, _ => simp [WOp.sv] at hs; subst hs; rfl
    | 3, _ => simp [WOp.sv] at hs; subst hs; rfl
    | 4, _ => simp [WOp.sv] at hs; subst hs; rfl
    | 5, _ => simp [WOp.sv] at hs; subst hs; rfl
    | 6, _ => simp [WOp.sv] at hs; subst hs; rfl
    | 7, _ => simp [WOp.sv] at hs; subst hs; rfl
    | 8, _ => simp [WOp.sv] at hs; subst hs; rfl
    | 9, _ => simp [WOp.sv] at hs; subst hs; rfl
    | 10, _ => simp [WOp.sv] at hs; subst hs; rfl
    | 11, _ => simp [WOp.sv] at hs; subst hs; rfl)
   refine ⟨some a, len, cap, (List.range len).map F, rfl, by omega, hl, by simp, ?_⟩
   by_cases h0 : len = 0
   · exact .inl h0
   right
   obtain ⟨ab, ao, asp⟩ := a
   have h00 := hF 0 (by omega) 0 _ rfl
   have hsp : asp = none := by
    cases asp with
    | none => rfl
    | some s =>
     exfalso
     simp [Addr.add, World.cell?] at h00
     split at h00 <;> simp at h00
   subst hsp
   refine ⟨ab, ao, rfl, ?_, fun i x hx j s hs => ?_⟩
   · simp only [addr_add] at h00
     unfold World.cell? at h00
     cases hb : w.heap[ab]? with
     | none => simp [hb] at h00
     | some b => exact (Array.getElem?_eq_some_iff.1 hb).1
   · have hi : i < len := by have := (List.getElem?_eq_some_iff.1 hx).1; simpa using this
     have hxF : x = F i := by
      rw [List.getElem?_map, List.getElem?_range hi] at hx
      simpa using hx.symm
     subst hxF
     have := hF i hi j s hs
     simp only [addr_add] at this
     rw [Nat.add_assoc]
     exact this

theorem op_entry {ρ : Rho} {k : Nat} {v : Value} {d : DataW H} {p : List MemPlace} (hg : Good ρ w) (hn : ∀ i, k ≤ i → ρ i = none) (hmi : ∀ i p, ρ i = some p → p.mine = false)
    (hval : ∃ oa len cap, v = .slice oa len cap) (h : DataW.Trod enc Try.prog w base spare held 55 v d p) :
    ∃ (ρ' : Rho) (len : Nat) (l : List WOp), ρ.le ρ' ∧ Rel ρ' (.slice k 12 0 len none) v ∧ len ≤ 9223372036854775807 ∧ l.length = len ∧ Good ρ' w ∧ RowAt ρ' k (.vec true .wop l) w ∧ (∀ i, k + 1 ≤ i → ρ' i = none) ∧ (∀ i p, ρ' i = some p → p.mine = false) := by
 obtain ⟨oa, len, cap, l, rfl, h1, h2, h3, h4⟩ := open_ops hval h
 rcases h4 with rfl | ⟨b, off, rfl, hb, hc⟩
 · have hl : l = [] := List.length_eq_zero_iff.1 h3
   subst hl
   refine ⟨ρ, 0, [], Rho.le.refl ρ, ?_, by omega, rfl, hg, .inl ⟨rfl, rfl⟩, fun i hi => hn i (by omega), hmi⟩
   simp only [Rel]
   exact .inr ⟨trivial, trivial, _, _, rfl⟩
 · have hle : ρ.le (ρ.upd k ⟨b, off, false, 0⟩) := Rho.le_upd (hn k (Nat.le_refl _))
   have hat : (ρ.upd k ⟨b, off, false, 0⟩) k = some ⟨b, off, false, 0⟩ := by simp [Rho.upd]
   refine ⟨ρ.upd k ⟨b, off, false, 0⟩, len, l, hle, ?_, h1, h3, ?_, .inr ⟨⟨b, off, false, 0⟩, hat, fun _ => rfl, fun h => (by cases h), ?_⟩, ?_, ?_⟩
   · simp only [Rel]
     exact .inl ⟨_, off, cap, hat, rfl, by simp, .inl (by simp), h2, by simp⟩
   · intro i p hp
     unfold Rho.upd at hp
     split at hp
     · cases hp; exact hb
     · exact hg i p hp
   · intro i x hx j s hs
     exact hc i x hx j s hs
   · intro i hi
     unfold Rho.upd
     rw [if_neg (by omega)]
     exact hn i (by omega)
   · intro i p hp
     unfold Rho.upd at hp
     split at hp
     · cases hp; rfl
     · exact hmi i p hp

end

def WOp.v (o : WOp) : Value := .agg #[I o.kind, I o.player, .int .u16 o.cmd.seq, .int .u8 o.cmd.buttons, .int .i8 o.cmd.dx, .int .i8 o.cmd.dy, I o.cmd.ticks, I o.shot, I o.ahead, I o.dir.x, I o.dir.y, I o.dir.z]
theorem rel_op {ρ : Rho} {o : WOp} : Rel ρ (.agg o.sv) o.v := by
 simp only [WOp.sv, Rel, WOp.v]
 refine ⟨_, rfl, ?_⟩
 simp only [relL_cons, relL_nil, Rel, and_self]
theorem agg_op : Agg Try.prog 60 12 := ⟨⟨_, Try.underlying60, rfl⟩, by kernel_rfl⟩
theorem arr12 {α : Type} {cs : Array α} (h : cs.size = 12) : ∃ a b c d e f g i j k l m, cs = #[a, b, c, d, e, f, g, i, j, k, l, m] := by
 obtain ⟨l⟩ := cs
 match l, h with
 | [a, b, c, d, e, f, g, i, j, k, l, m], _ => exact ⟨a, b, c, d, e, f, g, i, j, k, l, m, rfl⟩
theorem open_op {w : World} {r : Reach} {base : Nat} {v : Value} (h : Value.okWide Try.prog w r base 60 v) : ∃ o : WOp, v = o.v := by
 obtain ⟨cs, rfl, hs, hc⟩ := agg_cells (ts := [3, 3, 49, 5, 50, 50, 3, 3, 3, 2, 2, 2]) agg_op (by kernel_rfl) (by kernel_rfl) rfl h
 obtain ⟨a0, a1, a2, a3, a4, a5, a6, a7, a8, a9, a10, a11, rfl⟩ := arr12 hs
 obtain ⟨a0, rfl, _⟩ := cell_i64 Try.underlying3 (hc 0 _ _ rfl rfl)
 obtain ⟨a1, rfl, _⟩ := cell_i64 Try.underlying3 (hc 1 _ _ rfl rfl)
 obtain ⟨a2, rfl, _⟩ := cell_int Try.underlying49 (hc 2 _ _ rfl rfl)
 obtain ⟨a3, rfl, _⟩ := cell_int Try.underlying5 (hc 3 _ _ rfl rfl)
 obtain ⟨a4, rfl, _⟩ := cell_int Try.underlying50 (hc 4 _ _ rfl rfl)
 obtain ⟨a5, rfl, _⟩ := cell_int Try.underlying50 (hc 5 _ _ rfl rfl)
 obtain ⟨a6, rfl, _⟩ := cell_i64 Try.underlying3 (hc 6 _ _ rfl rfl)
 obtain ⟨a7, rfl, _⟩ := cell_i64 Try.underlying3 (hc 7 _ _ rfl rfl)
 obtain ⟨a8, rfl, _⟩ := cell_i64 Try.underlying3 (hc 8 _ _ rfl rfl)
 obtain ⟨a9, rfl, _⟩ := cell_i64 Try.underlying2 (hc 9 _ _ rfl rfl)
 obtain ⟨a10, rfl, _⟩ := cell_i64 Try.underlying2 (hc 10 _ _ rfl rfl)
 obtain ⟨a11, rfl, _⟩ := cell_i64 Try.underlying2 (hc 11 _ _ rfl rfl)
 exact ⟨⟨a0, a1, ⟨a2, a3, a4, a5, a6⟩, a7, a8, ⟨a9, a10, a11⟩⟩, rfl⟩

end Go.Proofs.Ytimkhidniolpeaa
