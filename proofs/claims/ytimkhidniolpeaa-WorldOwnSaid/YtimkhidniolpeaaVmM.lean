/- A law's arguments opened for the small machine: maps. A law's arguments opened for the small machine: slices of places. A law's arguments opened for the small machine: slices of commands. -/
import Derived.Test.YtimkhidniolpeaaVmOra
import Derived.Deep.Grids
namespace Go.Proofs.Ytimkhidniolpeaa
set_option linter.unusedSimpArgs false
set_option linter.unusedVariables false
set_option maxRecDepth 100000
set_option maxHeartbeats 0
open Go.ChangeShapes Go.WideShapes Go.RowKit

section
variable {H : Type} {enc : TypeId × Value → H} {P : Program} {w : World} {base : Nat} {held : Bool} {spare : Nat → Bool}

theorem mapM_each {α β : Type} {f : α → Option β} : ∀ {l : List α} {ys : List β}, l.mapM f = some ys → ∀ (i : Nat) (x : α), l[i]? = some x → ∃ y, f x = some y
 | [], _, _, i, x, hx => by simp at hx
 | a :: l, ys, h, i, x, hx => by
  simp only [List.mapM_cons, Option.bind_eq_bind, Option.pure_def] at h
  cases hf : f a with
  | none => simp [hf] at h
  | some y =>
   cases hr : l.mapM f with
   | none => simp [hf, hr] at h
   | some ys' =>
    cases i with
    | zero => simp at hx; subst hx; exact ⟨y, hf⟩
    | succ i => exact mapM_each hr i x (by simpa using hx)

theorem trod_field {t : TypeId} {fs : Array Field} (ht : P.underlying t = some (.struct fs)) {fuel : Nat} {cs : List Value} {x : DataW H × List MemPlace} (h : DataW.trod enc P w base spare held (fuel + 1) t cs = some x) {i : Nat} {f : Field} (hf : fs[i]? = some f) :
    ∃ y, DataW.trod enc P w base spare held fuel f.type ((cs.drop f.offset).take (P.cellsOf f.type)) = some y := by
 simp only [DataW.trod, ht] at h
 have h' : (fs.toList.mapM fun f => DataW.trod enc P w base spare held fuel f.type ((cs.drop f.offset).take (P.cellsOf f.type))).isSome = true := by
  cases hm : (fs.toList.mapM fun f => DataW.trod enc P w base spare held fuel f.type ((cs.drop f.offset).take (P.cellsOf f.type))) with
  | some _ => rfl
  | none =>
   exfalso
   simp only [hm] at h
   split at h <;> simp at h
 obtain ⟨ys, hys⟩ := Option.isSome_iff_exists.1 h'
 exact mapM_each hys i f (by simpa using hf)
end

theorem arr5 {α : Type} {cs : Array α} (h : cs.size = 5) : ∃ a b c d e, cs = #[a, b, c, d, e] := by
 obtain ⟨l⟩ := cs
 match l, h with
 | [a, b, c, d, e], _ => exact ⟨a, b, c, d, e, rfl⟩

section
variable {H : Type} {enc : TypeId × Value → H} {w : World} {base b0 : Nat} {r : Reach} {held : Bool}

theorem cell_slice {P : Program} {t e : TypeId} {v : Value} (ht : P.underlying t = some (.slice e)) (h : Cell.okWide P w r base t v) : ∃ a l c, v = .slice a l c := by
 simp only [Cell.okWide, ht] at h
 cases v <;> simp_all [Cell.ok]

theorem open_map {v : Value} {d : DataW H} {p : List MemPlace} (hval : Value.okWide Try.prog w r b0 25 v) (h : DataW.Trod enc Try.prog w base (fun _ => true) held 25 v d p) :
    ∃ (wd dd hd : Int) (oa : Option Addr) (len cap : Nat) (xs : List Bool) (sp : Value), v = .agg #[I wd, I dd, I hd, .slice oa len cap, sp] ∧ In64 wd ∧ In64 dd ∧ In64 hd ∧ sp.oneCell' = true ∧ sp.cells = #[sp] ∧ len ≤ 9223372036854775807 ∧ len ≤ cap ∧ xs.length = len ∧
     (len = 0 ∨ ∃ b off, oa = some ⟨b, off, none⟩ ∧ b < w.heap.size ∧ ∀ j, j < len → w.cell? ⟨b, off + j, none⟩ = some (.bool (xs.getD j false))) := by
 obtain ⟨cs, rfl, hs, hc⟩ := agg_cells (ts := [3, 3, 3, 22, 23]) agg_map (by kernel_rfl) (by kernel_rfl) rfl hval
 obtain ⟨x0, x1, x2, x3, x4, rfl⟩ := arr5 hs
 obtain ⟨wd, rfl, h0⟩ := cell_i64 Try.underlying3 (hc 0 _ _ rfl rfl)
 obtain ⟨dd, rfl, h1⟩ := cell_i64 Try.underlying3 (hc 1 _ _ rfl rfl)
 obtain ⟨hd, rfl, h2⟩ := cell_i64 Try.underlying3 (hc 2 _ _ rfl rfl)
 obtain ⟨a4, l4, c4, rfl⟩ := cell_slice Try.underlying23 (hc 4 _ _ rfl rfl)
 obtain ⟨fuel, hf⟩ := h
 cases fuel with
 | zero => simp [DataW.trod] at hf
 | succ fuel =>
  obtain ⟨y, hy⟩ := trod_field Try.underlying25 hf (i := 3) rfl
  have e1 : Try.prog.cellsOf 22 = 1 := by kernel_rfl
  have hy' : DataW.trod enc Try.prog w base (fun _ => true) held fuel 22 [x3] = some y := by
   simp only [Value.cells] at hy
   have e2 : ∀ (l : List Value), ((#[I wd, I dd, I hd, x3, Value.slice a4 l4 c4] : Array Value).toList.drop 3).take 1 = [x3] := fun _ => rfl
   rw [← e2 [], ← e1]
   exact hy
  cases fuel with
  | zero => simp [DataW.trod] at hy'
  | succ fuel =>
  rcases Deep.open_bools Try.underlying22 Try.underlying4 (by kernel_rfl) hy' with ⟨hx, _⟩ | ⟨a, len, cap, B, hx, _, hl, hm, _, hcell⟩
  · simp only [List.cons.injEq, and_true] at hx
    subst hx
    exact ⟨wd, dd, hd, none, 0, 0, [], _, rfl, h0, h1, h2, rfl, rfl, by omega, by omega, rfl, .inl rfl⟩
  · simp only [List.cons.injEq, and_true] at hx
    subst hx
    have hmax : maxLen = 9223372036854775807 := rfl
    refine ⟨wd, dd, hd, some a, len, cap, (List.range len).map B, _, rfl, h0, h1, h2, rfl, rfl, by omega, hl, by simp, ?_⟩
    obtain ⟨ab, ao, asp⟩ := a
    by_cases hlen : len = 0
    · exact .inl hlen
    · right
      have h00 := hcell 0 (by omega)
      have hsp : asp = none := by
       cases asp with
       | none => rfl
       | some s =>
        exfalso
        simp [Addr.add, World.cell?] at h00
        split at h00 <;> simp at h00
      subst hsp
      refine ⟨ab, ao, rfl, ?_, fun j hj => ?_⟩
      · have := hcell 0 (by omega)
        simp only [addr_add] at this
        unfold World.cell? at this
        cases hb : w.heap[ab]? with
        | none => simp [hb] at this
        | some b => exact (Array.getElem?_eq_some_iff.1 hb).1
      · have := hcell j (by omega)
        simp only [addr_add] at this
        rw [this]
        simp [List.getD, hj]

theorem relL_one' {ρ : Rho} {a : SV} {u : Value} : RelL ρ [a] [u] ↔ Rel ρ a u := by rw [relL_cons, relL_nil]; simp

theorem map_entry {v : Value} {d : DataW H} {p : List MemPlace} (hval : Value.okWide Try.prog w r b0 25 v) (h : DataW.Trod enc Try.prog w base (fun _ => true) held 25 v d p) :
    ∃ (ρ : Rho) (wd dd hd : Int) (len : Nat) (xs : List Bool), Rel ρ (mapS wd dd hd (.slice 0 1 0 len none) .unk) v ∧ In64 wd ∧ In64 dd ∧ In64 hd ∧ len ≤ 9223372036854775807 ∧ xs.length = len ∧ Good ρ w ∧ RowAt ρ 0 (.vec true .bool xs) w ∧ (∀ i, 1 ≤ i → ρ i = none) ∧ (∀ i p, ρ i = some p → p.mine = false) := by
 obtain ⟨wd, dd, hd, oa, len, cap, xs, sp, rfl, h0, h1, h2, h3, h4, h5, h6, h7, h8⟩ := open_map hval h
 rcases h8 with rfl | ⟨b, off, rfl, hb, hc⟩
 · have hx : xs = [] := List.length_eq_zero_iff.1 h7
   subst hx
   refine ⟨fun _ => none, wd, dd, hd, 0, [], ?_, h0, h1, h2, by omega, rfl, fun _ _ h => (by cases h), .inl ⟨rfl, rfl⟩, fun _ _ => rfl, fun _ _ h => (by cases h)⟩
   unfold mapS
   simp only [Rel, RelL]
   exact ⟨_, rfl, _, _, rfl, rfl, _, _, rfl, rfl, _, _, rfl, rfl, _, _, rfl, .inr ⟨trivial, trivial, _, _, rfl⟩, _, _, rfl, ⟨h3, h4⟩, rfl⟩
 · refine ⟨fun i => if i = 0 then some ⟨b, off, false, 0⟩ else none, wd, dd, hd, len, xs, ?_, h0, h1, h2, h5, h7, ?_, .inr ⟨⟨b, off, false, 0⟩, by simp, fun _ => rfl, fun h => (by cases h), ?_⟩, ?_, ?_⟩
   · unfold mapS
     simp only [Rel, RelL]
     exact ⟨_, rfl, _, _, rfl, rfl, _, _, rfl, rfl, _, _, rfl, rfl, _, _, rfl, .inl ⟨⟨b, off, false, 0⟩, off, cap, by simp, rfl, by simp, .inl (by simp), h6, by simp⟩, _, _, rfl, ⟨h3, h4⟩, rfl⟩
   · intro i p hp
     simp only at hp
     split at hp
     · cases hp; exact hb
     · cases hp
   · intro i x hx j s hs
     have hx' : @getElem? (List Bool) Nat Bool _ _ xs i = some x := hx
     have hi : i < len := by have := (List.getElem?_eq_some_iff.1 hx').1; omega
     have hj : j = 0 := by have := (List.getElem?_eq_some_iff.1 hs).1; simpa [Knd.enc] using this
     subst hj
     simp [Knd.enc] at hs
     subst hs
     have := hc i hi
     simp only [Knd.st, Nat.mul_one, Nat.add_zero, dval]
     rw [this]
     rw [List.getD_eq_getElem?_getD, hx']
     rfl
   · intro i hi; simp only; rw [if_neg (by omega)]
   · intro i p hp
     simp only at hp
     split at hp
     · cases hp; rfl
     · cases hp
end
end Go.Proofs.Ytimkhidniolpeaa

namespace Go.Proofs.Ytimkhidniolpeaa
set_option linter.unusedSimpArgs false
set_option linter.unusedVariables false
set_option maxRecDepth 100000
set_option maxHeartbeats 0
open Go.ChangeShapes Go.WideShapes Go.RowKit

theorem trodAll_5w {H : Type} {enc : TypeId × Value → H} {P : Program} {w : World} {base : Nat} {spare : Nat → Bool} {held : Bool} {t0 t1 t2 t3 t4 : TypeId} {args : Array Value} {ds : List (DataW H)} {ps : List MemPlace} (h : DataW.TrodAll enc P w base spare held [t0, t1, t2, t3, t4] args.toList ds ps) :
    ∃ v0 v1 v2 v3 v4 d0 d1 d2 d3 d4 p0 p1 p2 p3 p4, args = #[v0, v1, v2, v3, v4] ∧ ds = [d0, d1, d2, d3, d4] ∧ DataW.Trod enc P w base spare held t0 v0 d0 p0 ∧ DataW.Trod enc P w base spare held t1 v1 d1 p1 ∧ DataW.Trod enc P w base spare held t2 v2 d2 p2 ∧ DataW.Trod enc P w base spare held t3 v3 d3 p3 ∧ DataW.Trod enc P w base spare held t4 v4 d4 p4 := by
 obtain ⟨v0, vs, d0, ds', p0, q, hargs, rfl, rfl, h0, hrest⟩ := trodAll_cons h
 obtain ⟨v1, vs1, d1, ds1, p1, q1, rfl, rfl, rfl, h1, hrest⟩ := trodAll_cons hrest
 obtain ⟨v2, vs2, d2, ds2, p2, q2, rfl, rfl, rfl, h2, hrest⟩ := trodAll_cons hrest
 obtain ⟨v3, vs3, d3, ds3, p3, q3, rfl, rfl, rfl, h3, hrest⟩ := trodAll_cons hrest
 obtain ⟨v4, vs4, d4, ds4, p4, q4, rfl, rfl, rfl, h4, hrest⟩ := trodAll_cons hrest
 obtain ⟨rfl, rfl, rfl⟩ := trodAll_nil hrest
 exact ⟨v0, v1, v2, v3, v4, d0, d1, d2, d3, d4, p0, p1, p2, p3, p4, by cases args; simp_all, rfl, h0, h1, h2, h3, h4⟩

theorem trodAll_6w {H : Type} {enc : TypeId × Value → H} {P : Program} {w : World} {base : Nat} {spare : Nat → Bool} {held : Bool} {t0 t1 t2 t3 t4 t5 : TypeId} {args : Array Value} {ds : List (DataW H)} {ps : List MemPlace} (h : DataW.TrodAll enc P w base spare held [t0, t1, t2, t3, t4, t5] args.toList ds ps) :
    ∃ v0 v1 v2 v3 v4 v5 d0 d1 d2 d3 d4 d5 p0 p1 p2 p3 p4 p5, args = #[v0, v1, v2, v3, v4, v5] ∧ ds = [d0, d1, d2, d3, d4, d5] ∧ DataW.Trod enc P w base spare held t0 v0 d0 p0 ∧ DataW.Trod enc P w base spare held t1 v1 d1 p1 ∧ DataW.Trod enc P w base spare held t2 v2 d2 p2 ∧ DataW.Trod enc P w base spare held t3 v3 d3 p3 ∧ DataW.Trod enc P w base spare held t4 v4 d4 p4 ∧ DataW.Trod enc P w base spare held t5 v5 d5 p5 := by
 obtain ⟨v0, vs, d0, ds', p0, q, hargs, rfl, rfl, h0, hrest⟩ := trodAll_cons h
 obtain ⟨v1, vs1, d1, ds1, p1, q1, rfl, rfl, rfl, h1, hrest⟩ := trodAll_cons hrest
 obtain ⟨v2, vs2, d2, ds2, p2, q2, rfl, rfl, rfl, h2, hrest⟩ := trodAll_cons hrest
 obtain ⟨v3, vs3, d3, ds3, p3, q3, rfl, rfl, rfl, h3, hrest⟩ := trodAll_cons hrest
 obtain ⟨v4, vs4, d4, ds4, p4, q4, rfl, rfl, rfl, h4, hrest⟩ := trodAll_cons hrest
 obtain ⟨v5, vs5, d5, ds5, p5, q5, rfl, rfl, rfl, h5, hrest⟩ := trodAll_cons hrest
 obtain ⟨rfl, rfl, rfl⟩ := trodAll_nil hrest
 exact ⟨v0, v1, v2, v3, v4, v5, d0, d1, d2, d3, d4, d5, p0, p1, p2, p3, p4, p5, by cases args; simp_all, rfl, h0, h1, h2, h3, h4, h5⟩

section
variable {H : Type} {enc : TypeId × Value → H} {w : World} {base b0 : Nat} {r : Reach} {held : Bool} {spare : Nat → Bool}

instance : Inhabited V3 := ⟨⟨0, 0, 0⟩⟩

theorem trod_vec {fuel : Nat} {cs : List Value} {x : DataW H × List MemPlace} (h : DataW.trod enc Try.prog w base spare held fuel 27 cs = some x) : ∃ a : V3, cs = [I a.x, I a.y, I a.z] ∧ a.fits := by
 have c64 : Try.prog.cellsOf 2 = 1 := by kernel_rfl
 have c3 : Try.prog.cellsOf 27 = 3 := by kernel_rfl
 obtain ⟨xs, k, rfl, _, hlen, _⟩ := DataW.trod_struct Try.underlying27 h
 rw [c3] at hlen
 match cs, hlen with
 | [v0, v1, v2], _ =>
  obtain ⟨y0, h0⟩ := trod_field Try.underlying27 h (i := 0) rfl
  obtain ⟨y1, h1⟩ := trod_field Try.underlying27 h (i := 1) rfl
  obtain ⟨y2, h2⟩ := trod_field Try.underlying27 h (i := 2) rfl
  obtain ⟨n0, e0, _, f0⟩ := DataW.trod_int Try.underlying2 h0
  obtain ⟨n1, e1, _, f1⟩ := DataW.trod_int Try.underlying2 h1
  obtain ⟨n2, e2, _, f2⟩ := DataW.trod_int Try.underlying2 h2
  have e0 : (([v0, v1, v2] : List Value).drop 0).take (Try.prog.cellsOf 2) = [I n0] := e0
  have e1 : (([v0, v1, v2] : List Value).drop 1).take (Try.prog.cellsOf 2) = [I n1] := e1
  have e2 : (([v0, v1, v2] : List Value).drop 2).take (Try.prog.cellsOf 2) = [I n2] := e2
  rw [c64] at e0 e1 e2
  simp at e0 e1 e2
  have wf : ∀ n : Int, (Lit.int .i64 n).wf = true → In64 n := fun n h => by
   unfold Lit.wf at h
   simpa [In64, IntKind.min, IntKind.max, IntKind.signed, IntKind.bits] using h
  exact ⟨⟨n0, n1, n2⟩, by rw [e0, e1, e2], wf _ f0, wf _ f1, wf _ f2⟩

theorem open_vecs {v : Value} {d : DataW H} {p : List MemPlace} (hval : ∃ oa len cap, v = .slice oa len cap) (h : DataW.Trod enc Try.prog w base spare held 23 v d p) :
    ∃ (oa : Option Addr) (len cap : Nat) (l : List V3), v = .slice oa len cap ∧ len ≤ 9223372036854775807 ∧ len ≤ cap ∧ l.length = len ∧ (∀ x ∈ l, x.fits) ∧
     (len = 0 ∨ ∃ b off, oa = some ⟨b, off, none⟩ ∧ b < w.heap.size ∧ ∀ (i : Nat) (x : V3), l[i]? = some x → ∀ (j : Nat) (s : SV), x.sv[j]? = some s → w.cell? ⟨b, off + i * 3 + j, none⟩ = some (dval s)) := by
 obtain ⟨oa, len, cap, rfl⟩ := hval
 have c3 : Try.prog.cellsOf 27 = 3 := by kernel_rfl
 obtain ⟨fuel, hf⟩ := h
 rcases Deep.open_slice Try.underlying23 hf with ⟨hx, _⟩ | ⟨a, len', cap', m, n, D, Pl, hx, _, hl, hm, hmm, _, hall⟩
 · simp [Value.cells] at hx
   obtain ⟨rfl, rfl, rfl⟩ := hx
   exact ⟨none, 0, 0, [], rfl, by omega, by omega, rfl, (by simp), .inl rfl⟩
 · simp [Value.cells] at hx
   obtain ⟨rfl, rfl, rfl⟩ := hx
   have hmax : maxLen = 9223372036854775807 := rfl
   have hlm : len ≤ m := by rw [hmm]; split <;> omega
   obtain ⟨F, hF⟩ := Deep.choose_lt (α := V3) (n := len) (p := fun i x => (∀ (j : Nat) (s : SV), x.sv[j]? = some s → w.cell? (a.add (i * 3 + j)) = some (dval s)) ∧ x.fits) (fun i hi => by
    obtain ⟨cs, h1, h2⟩ := hall i (by omega)
    rw [c3] at h1
    obtain ⟨_, _, hc⟩ := World.cells?_some h1
    obtain ⟨x, rfl, hxf⟩ := trod_vec h2
    refine ⟨x, fun j s hs => ?_, hxf⟩
    have hj : j < 3 := by
     have := (List.getElem?_eq_some_iff.1 hs).1
     simpa [V3.sv] using this
    have := hc j hj
    rw [Deep.add_add] at this
    rw [this]
    match j, hj with
    | 0, _ => simp [V3.sv] at hs; subst hs; rfl
    | 1, _ => simp [V3.sv] at hs; subst hs; rfl
    | 2, _ => simp [V3.sv] at hs; subst hs; rfl)
   refine ⟨some a, len, cap, (List.range len).map F, rfl, by omega, hl, by simp, fun x hx => (by obtain ⟨i, hi, rfl⟩ := List.mem_map.1 hx; exact (hF i (List.mem_range.1 hi)).2), ?_⟩
   by_cases h0 : len = 0
   · exact .inl h0
   right
   obtain ⟨ab, ao, asp⟩ := a
   have h00 := (hF 0 (by omega)).1 0 _ rfl
   have hsp : asp = none := by
    cases asp with
    | none => rfl
    | some s =>
     exfalso
     simp [Addr.add, World.cell?] at h00
     split at h00 <;> simp at h00
   subst hsp
   refine ⟨ab, ao, rfl, ?_, fun i x hx j s hs => ?_⟩
   · simp only [addr_add] at h00
     unfold World.cell? at h00
     cases hb : w.heap[ab]? with
     | none => simp [hb] at h00
     | some b => exact (Array.getElem?_eq_some_iff.1 hb).1
   · have hi : i < len := by have := (List.getElem?_eq_some_iff.1 hx).1; simpa using this
     have hxF : x = F i := by
      rw [List.getElem?_map, List.getElem?_range hi] at hx
      simpa using hx.symm
     subst hxF
     have := (hF i hi).1 j s hs
     simp only [addr_add] at this
     rw [Nat.add_assoc]
     exact this

theorem vec_entry_f {ρ : Rho} {k : Nat} {v : Value} {d : DataW H} {p : List MemPlace} (hg : Good ρ w) (hn : ∀ i, k ≤ i → ρ i = none) (hmi : ∀ i p, ρ i = some p → p.mine = false)
    (hval : ∃ oa len cap, v = .slice oa len cap) (h : DataW.Trod enc Try.prog w base spare held 23 v d p) :
    ∃ (ρ' : Rho) (len : Nat) (l : List V3), ρ.le ρ' ∧ Rel ρ' (.slice k 3 0 len none) v ∧ len ≤ 9223372036854775807 ∧ l.length = len ∧ Good ρ' w ∧ RowAt ρ' k (.vec true .vec l) w ∧ (∀ i, k + 1 ≤ i → ρ' i = none) ∧ (∀ i p, ρ' i = some p → p.mine = false) ∧ (∀ x ∈ l, x.fits) := by
 obtain ⟨oa, len, cap, l, rfl, h1, h2, h3, hf, h4⟩ := open_vecs hval h
 rcases h4 with rfl | ⟨b, off, rfl, hb, hc⟩
 · have hl : l = [] := List.length_eq_zero_iff.1 h3
   subst hl
   refine ⟨ρ, 0, [], Rho.le.refl ρ, ?_, by omega, rfl, hg, .inl ⟨rfl, rfl⟩, fun i hi => hn i (by omega), hmi, by simp⟩
   simp only [Rel]
   exact .inr ⟨trivial, trivial, _, _, rfl⟩
 · have hle : ρ.le (ρ.upd k ⟨b, off, false, 0⟩) := Rho.le_upd (hn k (Nat.le_refl _))
   have hat : (ρ.upd k ⟨b, off, false, 0⟩) k = some ⟨b, off, false, 0⟩ := by simp [Rho.upd]
   refine ⟨ρ.upd k ⟨b, off, false, 0⟩, len, l, hle, ?_, h1, h3, ?_, .inr ⟨⟨b, off, false, 0⟩, hat, fun _ => rfl, fun h => (by cases h), ?_⟩, ?_, ?_, hf⟩
   · simp only [Rel]
     exact .inl ⟨_, off, cap, hat, rfl, by simp, .inl (by simp), h2, by simp⟩
   · intro i p hp
     unfold Rho.upd at hp
     split at hp
     · cases hp; exact hb
     · exact hg i p hp
   · intro i x hx j s hs
     exact hc i x hx j s hs
   · intro i hi
     unfold Rho.upd
     rw [if_neg (by omega)]
     exact hn i (by omega)
   · intro i p hp
     unfold Rho.upd at hp
     split at hp
     · cases hp; rfl
     · exact hmi i p hp
theorem vec_entry_s {ρ : Rho} {k : Nat} {v : Value} {d : DataW H} {p : List MemPlace} (hg : Good ρ w) (hn : ∀ i, k ≤ i → ρ i = none) (hmi : ∀ i p, ρ i = some p → p.mine = false)
    (hval : ∃ oa len cap, v = .slice oa len cap) (h : DataW.Trod enc Try.prog w base spare held 23 v d p) :
    ∃ (ρ' : Rho) (len : Nat) (l : List V3), ρ.le ρ' ∧ Rel ρ' (.slice k 3 0 len none) v ∧ len ≤ 9223372036854775807 ∧ l.length = len ∧ Good ρ' w ∧ RowAt ρ' k (.vec true .vec l) w ∧ (∀ i, k + 1 ≤ i → ρ' i = none) ∧ (∀ i p, ρ' i = some p → p.mine = false) := by
 obtain ⟨ρ', len, l, h1, h2, h3, h4, h5, h6, h7, h8, _⟩ := vec_entry_f hg hn hmi hval h
 exact ⟨ρ', len, l, h1, h2, h3, h4, h5, h6, h7, h8⟩
theorem vec_entry {ρ : Rho} {k : Nat} {v : Value} {d : DataW H} {p : List MemPlace} (hg : Good ρ w) (hn : ∀ i, k ≤ i → ρ i = none) (hmi : ∀ i p, ρ i = some p → p.mine = false)
    (hval : Value.okWide Try.prog w r b0 23 v) (h : DataW.Trod enc Try.prog w base spare held 23 v d p) :
    ∃ (ρ' : Rho) (len : Nat) (l : List V3), ρ.le ρ' ∧ Rel ρ' (.slice k 3 0 len none) v ∧ len ≤ 9223372036854775807 ∧ l.length = len ∧ Good ρ' w ∧ RowAt ρ' k (.vec true .vec l) w ∧ (∀ i, k + 1 ≤ i → ρ' i = none) ∧ (∀ i p, ρ' i = some p → p.mine = false) :=
 vec_entry_s hg hn hmi (cell_slice Try.underlying23 (val_cell Try.underlying23 rfl hval)) h

theorem map_entry3 {v : Value} {d : DataW H} {p : List MemPlace} (hval : Value.okWide Try.prog w r b0 25 v) (h : DataW.Trod enc Try.prog w base (fun _ => true) held 25 v d p) :
    ∃ (ρ : Rho) (wd dd hd : Int) (len : Nat) (xs : List Bool) (ls : Nat) (sp : List V3), Rel ρ (mapS wd dd hd (.slice 0 1 0 len none) (.slice 1 3 0 ls none)) v ∧ In64 wd ∧ In64 dd ∧ In64 hd ∧ len ≤ 9223372036854775807 ∧ xs.length = len ∧ ls ≤ 9223372036854775807 ∧ sp.length = ls ∧ Good ρ w ∧ RowAt ρ 0 (.vec true .bool xs) w ∧ RowAt ρ 1 (.vec true .vec sp) w ∧ (∀ i, 2 ≤ i → ρ i = none) ∧ (∀ i p, ρ i = some p → p.mine = false) ∧ (∀ x ∈ sp, x.fits) := by
 obtain ⟨ρ, wd, dd, hd, len, xs, g1, g2, g3, g4, g5, g6, g7, g8, g9, g10⟩ := map_entry hval h
 obtain ⟨cs, rfl, hs, hc⟩ := agg_cells (ts := [3, 3, 3, 22, 23]) agg_map (by kernel_rfl) (by kernel_rfl) rfl hval
 obtain ⟨x0, x1, x2, x3, x4, rfl⟩ := arr5 hs
 have hsl := cell_slice Try.underlying23 (hc 4 _ _ rfl rfl)
 have htr : ∃ d' p', DataW.Trod enc Try.prog w base (fun _ => true) held 23 x4 d' p' := by
  obtain ⟨fuel, hf⟩ := h
  cases fuel with
  | zero => simp [DataW.trod] at hf
  | succ fuel =>
   obtain ⟨y, hy⟩ := trod_field Try.underlying25 hf (i := 4) rfl
   have e1 : Try.prog.cellsOf 23 = 1 := by kernel_rfl
   refine ⟨y.1, y.2, fuel, ?_⟩
   have e2 : x4.cells.toList = [x4] := by obtain ⟨a, l, c, rfl⟩ := hsl; rfl
   rw [e2]
   have e3 : ∀ (l : List Value), ((#[x0, x1, x2, x3, x4] : Array Value).toList.drop 4).take 1 = [x4] := fun _ => rfl
   rw [← e3 [], ← e1]
   exact hy
 obtain ⟨d', p', htr⟩ := htr
 obtain ⟨ρ', ls, sp, k1, k2, k3, k4, k5, k6, k7, k8, k9⟩ := vec_entry_f (k := 1) g7 g9 g10 hsl htr
 refine ⟨ρ', wd, dd, hd, len, xs, ls, sp, ?_, g2, g3, g4, g5, g6, k3, k4, k5, g8.keep k1 (fun _ _ => rfl), k6, k7, k8, k9⟩
 have g1' := Rel.mono k1 _ _ g1
 unfold mapS at g1' ⊢
 simp only [Rel] at g1' k2 ⊢
 obtain ⟨vs, hv, hr⟩ := g1'
 refine ⟨vs, hv, ?_⟩
 simp only [RelL, Rel] at hr ⊢
 obtain ⟨a1, l1, rfl, h1, a2, l2, rfl, h2, a3, l3, rfl, h3, a4, l4, rfl, h4, a5, l5, rfl, h5, rfl⟩ := hr
 have e5 : a5 = x4 := by
  injection hv with hv
  have := congrArg Array.toList hv
  simp at this
  exact this.2.2.2.2.symm
 subst e5
 exact ⟨_, _, rfl, h1, _, _, rfl, h2, _, _, rfl, h3, _, _, rfl, h4, _, _, rfl, k2, rfl⟩
theorem map_entry2 {v : Value} {d : DataW H} {p : List MemPlace} (hval : Value.okWide Try.prog w r b0 25 v) (h : DataW.Trod enc Try.prog w base (fun _ => true) held 25 v d p) :
    ∃ (ρ : Rho) (wd dd hd : Int) (len : Nat) (xs : List Bool) (ls : Nat) (sp : List V3), Rel ρ (mapS wd dd hd (.slice 0 1 0 len none) (.slice 1 3 0 ls none)) v ∧ In64 wd ∧ In64 dd ∧ In64 hd ∧ len ≤ 9223372036854775807 ∧ xs.length = len ∧ ls ≤ 9223372036854775807 ∧ sp.length = ls ∧ Good ρ w ∧ RowAt ρ 0 (.vec true .bool xs) w ∧ RowAt ρ 1 (.vec true .vec sp) w ∧ (∀ i, 2 ≤ i → ρ i = none) ∧ (∀ i p, ρ i = some p → p.mine = false) := by
 obtain ⟨ρ, wd, dd, hd, len, xs, ls, sp, h1, h2, h3, h4, h5, h6, h7, h8, h9, h10, h11, h12, h13, _⟩ := map_entry3 hval h
 exact ⟨ρ, wd, dd, hd, len, xs, ls, sp, h1, h2, h3, h4, h5, h6, h7, h8, h9, h10, h11, h12, h13⟩
end
end Go.Proofs.Ytimkhidniolpeaa

namespace Go.Proofs.Ytimkhidniolpeaa
set_option linter.unusedSimpArgs false
set_option linter.unusedVariables false
set_option maxRecDepth 100000
set_option maxHeartbeats 0
open Go.ChangeShapes Go.WideShapes Go.RowKit

section
variable {H : Type} {enc : TypeId × Value → H} {w : World} {base b0 : Nat} {r : Reach} {held : Bool} {spare : Nat → Bool}

instance : Inhabited Cm := ⟨⟨0, 0, 0, 0, 0⟩⟩

theorem trod_cm {fuel : Nat} {cs : List Value} {x : DataW H × List MemPlace} (h : DataW.trod enc Try.prog w base spare held fuel 52 cs = some x) : ∃ a : Cm, cs = [.int .u16 a.seq, .int .u8 a.buttons, .int .i8 a.dx, .int .i8 a.dy, I a.ticks] := by
 have c64 : Try.prog.cellsOf 3 = 1 := by kernel_rfl
 have c16 : Try.prog.cellsOf 49 = 1 := by kernel_rfl
 have c8 : Try.prog.cellsOf 5 = 1 := by kernel_rfl
 have ci : Try.prog.cellsOf 50 = 1 := by kernel_rfl
 have c5 : Try.prog.cellsOf 52 = 5 := by kernel_rfl
 obtain ⟨xs, k, rfl, _, hlen, _⟩ := DataW.trod_struct Try.underlying52 h
 rw [c5] at hlen
 match cs, hlen with
 | [v0, v1, v2, v3, v4], _ =>
  obtain ⟨y0, h0⟩ := trod_field Try.underlying52 h (i := 0) rfl
  obtain ⟨y1, h1⟩ := trod_field Try.underlying52 h (i := 1) rfl
  obtain ⟨y2, h2⟩ := trod_field Try.underlying52 h (i := 2) rfl
  obtain ⟨y3, h3⟩ := trod_field Try.underlying52 h (i := 3) rfl
  obtain ⟨y4, h4⟩ := trod_field Try.underlying52 h (i := 4) rfl
  obtain ⟨n0, e0, _, f0⟩ := DataW.trod_int Try.underlying49 h0
  obtain ⟨n1, e1, _, f1⟩ := DataW.trod_int Try.underlying5 h1
  obtain ⟨n2, e2, _, f2⟩ := DataW.trod_int Try.underlying50 h2
  obtain ⟨n3, e3, _, f3⟩ := DataW.trod_int Try.underlying50 h3
  obtain ⟨n4, e4, _, f4⟩ := DataW.trod_int Try.underlying3 h4
  have e0 : (([v0, v1, v2, v3, v4] : List Value).drop 0).take (Try.prog.cellsOf 49) = [.int .u16 n0] := e0
  have e1 : (([v0, v1, v2, v3, v4] : List Value).drop 1).take (Try.prog.cellsOf 5) = [.int .u8 n1] := e1
  have e2 : (([v0, v1, v2, v3, v4] : List Value).drop 2).take (Try.prog.cellsOf 50) = [.int .i8 n2] := e2
  have e3 : (([v0, v1, v2, v3, v4] : List Value).drop 3).take (Try.prog.cellsOf 50) = [.int .i8 n3] := e3
  have e4 : (([v0, v1, v2, v3, v4] : List Value).drop 4).take (Try.prog.cellsOf 3) = [I n4] := e4
  rw [c16] at e0
  rw [c8] at e1
  rw [ci] at e2 e3
  rw [c64] at e4
  simp at e0 e1 e2 e3 e4
  exact ⟨⟨n0, n1, n2, n3, n4⟩, by rw [e0, e1, e2, e3, e4]⟩

theorem open_cms {v : Value} {d : DataW H} {p : List MemPlace} (hval : ∃ oa len cap, v = .slice oa len cap) (h : DataW.Trod enc Try.prog w base spare held 46 v d p) :
    ∃ (oa : Option Addr) (len cap : Nat) (l : List Cm), v = .slice oa len cap ∧ len ≤ 9223372036854775807 ∧ len ≤ cap ∧ l.length = len ∧
     (len = 0 ∨ ∃ b off, oa = some ⟨b, off, none⟩ ∧ b < w.heap.size ∧ ∀ (i : Nat) (x : Cm), l[i]? = some x → ∀ (j : Nat) (s : SV), x.sv[j]? = some s → w.cell? ⟨b, off + i * 5 + j, none⟩ = some (dval s)) := by
 obtain ⟨oa, len, cap, rfl⟩ := hval
 have c5 : Try.prog.cellsOf 52 = 5 := by kernel_rfl
 obtain ⟨fuel, hf⟩ := h
 rcases Deep.open_slice Try.underlying46 hf with ⟨hx, _⟩ | ⟨a, len', cap', m, n, D, Pl, hx, _, hl, hm, hmm, _, hall⟩
 · simp [Value.cells] at hx
   obtain ⟨rfl, rfl, rfl⟩ := hx
   exact ⟨none, 0, 0, [], rfl, by omega, by omega, rfl, .inl rfl⟩
 · simp [Value.cells] at hx
   obtain ⟨rfl, rfl, rfl⟩ := hx
   have hmax : maxLen = 9223372036854775807 := rfl
   have hlm : len ≤ m := by rw [hmm]; split <;> omega
   obtain ⟨F, hF⟩ := Deep.choose_lt (α := Cm) (n := len) (p := fun i x => (∀ (j : Nat) (s : SV), x.sv[j]? = some s → w.cell? (a.add (i * 5 + j)) = some (dval s))) (fun i hi => by
    obtain ⟨cs, h1, h2⟩ := hall i (by omega)
    rw [c5] at h1
    obtain ⟨_, _, hc⟩ := World.cells?_some h1
    obtain ⟨x, rfl⟩ := trod_cm h2
    refine ⟨x, fun j s hs => ?_⟩
    have hj : j < 5 := by
     have := (List.getElem?_eq_some_iff.1 hs).1
     simpa [Cm.sv] using this
    have := hc j hj
    rw [Deep.add_add] at this
    rw [this]
    match j, hj with
    | 0, _ => simp [Cm.sv] at hs; subst hs; rfl
    | 1, _ => simp [Cm.sv] at hs; subst hs; rfl
    | 2, _ => simp [Cm.sv] at hs; subst hs; rfl
    | 3, _ => simp [Cm.sv] at hs; subst hs; rfl
    | 4, _ => simp [Cm.sv] at hs; subst hs; rfl)
   refine ⟨some a, len, cap, (List.range len).map F, rfl, by omega, hl, by simp, ?_⟩
   by_cases h0 : len = 0
   · exact .inl h0
   right
   obtain ⟨ab, ao, asp⟩ := a
   have h00 := hF 0 (by omega) 0 _ rfl
   have hsp : asp = none := by
    cases asp with
    | none => rfl
    | some s =>
     exfalso
     simp [Addr.add, World.cell?] at h00
     split at h00 <;> simp at h00
   subst hsp
   refine ⟨ab, ao, rfl, ?_, fun i x hx j s hs => ?_⟩
   · simp only [addr_add] at h00
     unfold World.cell? at h00
     cases hb : w.heap[ab]? with
     | none => simp [hb] at h00
     | some b => exact (Array.getElem?_eq_some_iff.1 hb).1
   · have hi : i < len := by have := (List.getElem?_eq_some_iff.1 hx).1; simpa using this
     have hxF : x = F i := by
      rw [List.getElem?_map, List.getElem?_range hi] at hx
      simpa using hx.symm
     subst hxF
     have := hF i hi j s hs
     simp only [addr_add] at this
     rw [Nat.add_assoc]
     exact this

theorem cm_entry {ρ : Rho} {k : Nat} {v : Value} {d : DataW H} {p : List MemPlace} (hg : Good ρ w) (hn : ∀ i, k ≤ i → ρ i = none) (hmi : ∀ i p, ρ i = some p → p.mine = false)
    (hval : ∃ oa len cap, v = .slice oa len cap) (h : DataW.Trod enc Try.prog w base spare held 46 v d p) :
    ∃ (ρ' : Rho) (len : Nat) (l : List Cm), ρ.le ρ' ∧ Rel ρ' (.slice k 5 0 len none) v ∧ len ≤ 9223372036854775807 ∧ l.length = len ∧ Good ρ' w ∧ RowAt ρ' k (.vec true .cm l) w ∧ (∀ i, k + 1 ≤ i → ρ' i = none) ∧ (∀ i p, ρ' i = some p → p.mine = false) := by
 obtain ⟨oa, len, cap, l, rfl, h1, h2, h3, h4⟩ := open_cms hval h
 rcases h4 with rfl | ⟨b, off, rfl, hb, hc⟩
 · have hl : l = [] := List.length_eq_zero_iff.1 h3
   subst hl
   refine ⟨ρ, 0, [], Rho.le.refl ρ, ?_, by omega, rfl, hg, .inl ⟨rfl, rfl⟩, fun i hi => hn i (by omega), hmi⟩
   simp only [Rel]
   exact .inr ⟨trivial, trivial, _, _, rfl⟩
 · have hle : ρ.le (ρ.upd k ⟨b, off, false, 0⟩) := Rho.le_upd (hn k (Nat.le_refl _))
   have hat : (ρ.upd k ⟨b, off, false, 0⟩) k = some ⟨b, off, false, 0⟩ := by simp [Rho.upd]
   refine ⟨ρ.upd k ⟨b, off, false, 0⟩, len, l, hle, ?_, h1, h3, ?_, .inr ⟨⟨b, off, false, 0⟩, hat, fun _ => rfl, fun h => (by cases h), ?_⟩, ?_, ?_⟩
   · simp only [Rel]
     exact .inl ⟨_, off, cap, hat, rfl, by simp, .inl (by simp), h2, by simp⟩
   · intro i p hp
     unfold Rho.upd at hp
     split at hp
     · cases hp; exact hb
     · exact hg i p hp
   · intro i x hx j s hs
     exact hc i x hx j s hs
   · intro i hi
     unfold Rho.upd
     rw [if_neg (by omega)]
     exact hn i (by omega)
   · intro i p hp
     unfold Rho.upd at hp
     split at hp
     · cases hp; rfl
     · exact hmi i p hp

end

end Go.Proofs.Ytimkhidniolpeaa
