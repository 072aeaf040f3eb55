/- The small machine in package trace: Free, and what Slide takes of its callees. The small machine in package trace: Slide. The small machine in package trace: Free and Slide by values that can be reckoned. walk's Tick, as a contract: its parts. walk's Step, as a contract. -/
import Derived.Test.YtimkhidniolpeaaVmOra
import Derived.Test.YtimkhidniolpeaaVmR
namespace Go.Proofs.Ytimkhidniolpeaa
set_option linter.unusedSimpArgs false
set_option linter.unusedVariables false
set_option maxRecDepth 100000
set_option maxHeartbeats 0
open Go.RowKit

noncomputable def xTr : Ctx := ctxOf [] [orcClear, orcPlus, orcMinus]
theorem xTr_ok : COk Try.prog xTr := ctxOf_ok (by kernel_rfl)

theorem free_tree (w d h : Int) (len off : Nat) (xs : List Bool) (p : V3) : runK xTr (fun _ _ => none) 300 42 Try.f42 0 [mapS w d h (.slice 0 1 off len none) .unk, .agg p.sv] [.vec true .bool xs] =
 bif fitsB p && fitsB (V3.mk 26214 26214 58982) then
 bif fitsB p && fitsB (V3.mk 26214 26214 58982) then
 bif mapOk w d h len && (fitsB (p.minus (V3.mk 26214 26214 58982)) && (fitsB (p.plus (V3.mk 26214 26214 58982)) && decide (off + len ≤ xs.length))) then
 some (SV.bool ((mpOf w d h len fun j => xs.getD (off + j) false).clear (p.minus (V3.mk 26214 26214 58982)) (p.plus (V3.mk 26214 26214 58982))), [])
 else none
 else none
 else none := by kernel_rfl

theorem free_val {w d h : Int} {len off : Nat} {xs : List Bool} {p : V3} (hm : mapOk w d h len = true) (f1 : p.fits) (hl : off + len ≤ xs.length) : runK xTr (fun _ _ => none) 300 42 Try.f42 0 [mapS w d h (.slice 0 1 off len none) .unk, .agg p.sv] [.vec true .bool xs] = some (.bool ((mpOf w d h len fun j => xs.getD (off + j) false).free p), []) := by
 rw [free_tree]
 simp only [fitsB_iff.2 f1, show fitsB (V3.mk 26214 26214 58982) = true from rfl, fitsB_iff.2 (minus_fits _ _), fitsB_iff.2 (plus_fits _ _), decide_eq_true hl, hm, Bool.and_self, cond_true]
 rfl
noncomputable def oFree (args : List SV) (rows : List Row) : Option Eff :=
 match args with
 | [.agg [.int .i64 w, .int .i64 d, .int .i64 h, .slice id st off len _, sp], .agg [.int .i64 x, .int .i64 y, .int .i64 z]] => match rows[id]? with
  | some (.vec _ .bool xs) => bif Nat.beq st 1 && sp.one then some { ok := mapOk w d h len && (fitsB ⟨x, y, z⟩ && decide (off + len ≤ xs.length)), val := .bool ((mpOf w d h len fun j => xs.getD (off + j) false).free ⟨x, y, z⟩), rd := [id] } else none
  | _ => none
 | _ => none
theorem oFree_ok {args : List SV} {rows : List Row} {n : Nat} {e : Eff} (h : oFree args rows = some e) (hok : e.ok = true) : FnOk Try.prog 42 args (rows[·]?) n e := by
 unfold oFree at h
 split at h
 · rename_i wd dd hd id st off len cap sp x y z
   split at h
   · rename_i ro xs hrow
     obtain ⟨hb, h⟩ := cond_some h
     cases h
     simp only [Bool.and_eq_true, decide_eq_true_eq, fitsB_iff] at hok
     exact fnOk_grid xTr_ok lok_none Try.func42 hb hrow rfl rfl (free_val (p := ⟨x, y, z⟩) hok.1 hok.2.1 hok.2.2)
   · cases h
 · cases h

section
noncomputable def xSlide : Ctx := ctxOf [] [⟨65, fun args _ => oAdd args, fun _ _ _ h hok => oAdd_ok h hok, bodied Try.func65 (by kernel_rfl)⟩, ⟨88, fun args _ => oClamp args, fun _ _ _ h hok => oClamp_ok h hok, bodied Try.func88 (by kernel_rfl)⟩, ⟨42, oFree, fun _ _ _ h hok => oFree_ok h hok, bodied Try.func42 (by kernel_rfl)⟩]
theorem xSlide_ok : COk Try.prog xSlide := ctxOf_ok (by kernel_rfl)
end
end Go.Proofs.Ytimkhidniolpeaa

namespace Go.Proofs.Ytimkhidniolpeaa
set_option linter.unusedSimpArgs false
set_option linter.unusedVariables false
set_option maxRecDepth 100000
set_option maxHeartbeats 0
open Go.RowKit

theorem slide_tree (w d h : Int) (len off : Nat) (xs : List Bool) (px py pz bx b_y bz : Int) : runK xSlide (fun _ _ => none) 200 78 Try.f78 0 [mapS w d h (.slice 0 1 off len none) .unk, .agg [.int .i64 px, .int .i64 py, .int .i64 pz], .agg [.int .i64 bx, .int .i64 b_y, .int .i64 bz]] [.vec true .bool xs] =
 bif in64B px && in64B (clampN 32768 bx) then
  bif mapOk w d h len && (fitsB { x := cut64 (px + clampN 32768 bx), y := py, z := pz } && decide (off + len ≤ xs.length)) then
   bif (mpOf w d h len fun j => xs.getD (off + j) false).free { x := cut64 (px + clampN 32768 bx), y := py, z := pz } then
    bif in64B py && in64B (clampN 32768 b_y) then
     bif mapOk w d h len && (fitsB { x := cut64 (px + clampN 32768 bx), y := cut64 (py + clampN 32768 b_y), z := pz } && decide (off + len ≤ xs.length)) then
      bif (mpOf w d h len fun j => xs.getD (off + j) false).free { x := cut64 (px + clampN 32768 bx), y := cut64 (py + clampN 32768 b_y), z := pz } then
       bif in64B pz && in64B (clampN 32768 bz) then
        bif mapOk w d h len && (fitsB { x := cut64 (px + clampN 32768 bx), y := cut64 (py + clampN 32768 b_y), z := cut64 (pz + clampN 32768 bz) } && decide (off + len ≤ xs.length)) then
         bif (mpOf w d h len fun j => xs.getD (off + j) false).free { x := cut64 (px + clampN 32768 bx), y := cut64 (py + clampN 32768 b_y), z := cut64 (pz + clampN 32768 bz) } then
          some
           (SV.tuple
               [SV.agg [.int .i64 (cut64 (px + clampN 32768 bx)), .int .i64 (cut64 (py + clampN 32768 b_y)), .int .i64 (cut64 (pz + clampN 32768 bz))],
                SV.agg [SV.bool false, SV.bool false, SV.bool false]],
            [])
         else
          some
           (SV.tuple
               [SV.agg [.int .i64 (cut64 (px + clampN 32768 bx)), .int .i64 (cut64 (py + clampN 32768 b_y)), .int .i64 pz],
                SV.agg [SV.bool false, SV.bool false, SV.bool (clampN 32768 bz != 0)]],
            [])
        else none
       else none
      else
       bif in64B pz && in64B (clampN 32768 bz) then
        bif mapOk w d h len && (fitsB { x := cut64 (px + clampN 32768 bx), y := py, z := cut64 (pz + clampN 32768 bz) } && decide (off + len ≤ xs.length)) then
         bif (mpOf w d h len fun j => xs.getD (off + j) false).free { x := cut64 (px + clampN 32768 bx), y := py, z := cut64 (pz + clampN 32768 bz) } then
          some
           (SV.tuple
               [SV.agg [.int .i64 (cut64 (px + clampN 32768 bx)), .int .i64 py, .int .i64 (cut64 (pz + clampN 32768 bz))],
                SV.agg [SV.bool false, SV.bool (clampN 32768 b_y != 0), SV.bool false]],
            [])
         else
          some
           (SV.tuple
               [SV.agg [.int .i64 (cut64 (px + clampN 32768 bx)), .int .i64 py, .int .i64 pz],
                SV.agg [SV.bool false, SV.bool (clampN 32768 b_y != 0), SV.bool (clampN 32768 bz != 0)]],
            [])
        else none
       else none
     else none
    else none
   else
    bif in64B py && in64B (clampN 32768 b_y) then
     bif mapOk w d h len && (fitsB { x := px, y := cut64 (py + clampN 32768 b_y), z := pz } && decide (off + len ≤ xs.length)) then
      bif (mpOf w d h len fun j => xs.getD (off + j) false).free { x := px, y := cut64 (py + clampN 32768 b_y), z := pz } then
       bif in64B pz && in64B (clampN 32768 bz) then
        bif mapOk w d h len && (fitsB { x := px, y := cut64 (py + clampN 32768 b_y), z := cut64 (pz + clampN 32768 bz) } && decide (off + len ≤ xs.length)) then
         bif (mpOf w d h len fun j => xs.getD (off + j) false).free { x := px, y := cut64 (py + clampN 32768 b_y), z := cut64 (pz + clampN 32768 bz) } then
          some
           (SV.tuple
               [SV.agg [.int .i64 px, .int .i64 (cut64 (py + clampN 32768 b_y)), .int .i64 (cut64 (pz + clampN 32768 bz))],
                SV.agg [SV.bool (clampN 32768 bx != 0), SV.bool false, SV.bool false]],
            [])
         else
          some
           (SV.tuple
               [SV.agg [.int .i64 px, .int .i64 (cut64 (py + clampN 32768 b_y)), .int .i64 pz],
                SV.agg [SV.bool (clampN 32768 bx != 0), SV.bool false, SV.bool (clampN 32768 bz != 0)]],
            [])
        else none
       else none
      else
       bif in64B pz && in64B (clampN 32768 bz) then
        bif mapOk w d h len && (fitsB { x := px, y := py, z := cut64 (pz + clampN 32768 bz) } && decide (off + len ≤ xs.length)) then
         bif (mpOf w d h len fun j => xs.getD (off + j) false).free { x := px, y := py, z := cut64 (pz + clampN 32768 bz) } then
          some
           (SV.tuple
               [SV.agg [.int .i64 px, .int .i64 py, .int .i64 (cut64 (pz + clampN 32768 bz))],
                SV.agg [SV.bool (clampN 32768 bx != 0), SV.bool (clampN 32768 b_y != 0), SV.bool false]],
            [])
         else
          some
           (SV.tuple
               [SV.agg [.int .i64 px, .int .i64 py, .int .i64 pz],
                SV.agg [SV.bool (clampN 32768 bx != 0), SV.bool (clampN 32768 b_y != 0), SV.bool (clampN 32768 bz != 0)]],
            [])
        else none
       else none
     else none
    else none
  else none
 else none := by kernel_rfl


noncomputable def Mp.stepB (m : Mp) (p q : V3) (d : Int) : V3 × Bool := bif m.free q then (q, false) else (p, d != 0)
noncomputable def Mp.slide (m : Mp) (p b : V3) : V3 × Bool × Bool × Bool :=
 let r1 := m.stepB p ⟨cut64 (p.x + clampN 32768 b.x), p.y, p.z⟩ (clampN 32768 b.x)
 let r2 := m.stepB r1.1 ⟨r1.1.x, cut64 (r1.1.y + clampN 32768 b.y), r1.1.z⟩ (clampN 32768 b.y)
 let r3 := m.stepB r2.1 ⟨r2.1.x, r2.1.y, cut64 (r2.1.z + clampN 32768 b.z)⟩ (clampN 32768 b.z)
 (r3.1, r1.2, r2.2, r3.2)
def slideV (r : V3 × Bool × Bool × Bool) : SV := .tuple [.agg [.int .i64 r.1.x, .int .i64 r.1.y, .int .i64 r.1.z], .agg [.bool r.2.1, .bool r.2.2.1, .bool r.2.2.2]]

theorem in64B_cut (z : Int) : in64B (cut64 z) = true := in64B_iff.2 (cut64_fits z)
theorem in64B_clamp (a : Int) : in64B (clampN 32768 a) = true := by rw [in64B_iff]; unfold In64 clampN; omega

theorem slide_val {w d h : Int} {len off : Nat} {xs : List Bool} {px py pz bx b_y bz : Int} (hm : mapOk w d h len = true) (hl : decide (off + len ≤ xs.length) = true) (h1 : in64B px = true) (h2 : in64B py = true) (h3 : in64B pz = true) :
    runK xSlide (fun _ _ => none) 200 78 Try.f78 0 [mapS w d h (.slice 0 1 off len none) .unk, .agg [.int .i64 px, .int .i64 py, .int .i64 pz], .agg [.int .i64 bx, .int .i64 b_y, .int .i64 bz]] [.vec true .bool xs] =
    some (slideV ((mpOf w d h len fun j => xs.getD (off + j) false).slide ⟨px, py, pz⟩ ⟨bx, b_y, bz⟩), []) := by
 rw [slide_tree]
 simp only [hm, hl, h1, h2, h3, fitsB, in64B_cut, in64B_clamp, Bool.and_true, cond_true]
 unfold slideV Mp.slide Mp.stepB
 dsimp only
 generalize (mpOf w d h len fun j => xs.getD (off + j) false).free = F
 cases h1 : F ⟨cut64 (px + clampN 32768 bx), py, pz⟩
 · simp only [cond_false]
   cases h2 : F ⟨px, cut64 (py + clampN 32768 b_y), pz⟩
   · simp only [cond_false]
     cases h3 : F ⟨px, py, cut64 (pz + clampN 32768 bz)⟩ <;> rfl
   · simp only [cond_true]
     cases h3 : F ⟨px, cut64 (py + clampN 32768 b_y), cut64 (pz + clampN 32768 bz)⟩ <;> rfl
 · simp only [cond_true]
   cases h2 : F ⟨cut64 (px + clampN 32768 bx), cut64 (py + clampN 32768 b_y), pz⟩
   · simp only [cond_false]
     cases h3 : F ⟨cut64 (px + clampN 32768 bx), py, cut64 (pz + clampN 32768 bz)⟩ <;> rfl
   · simp only [cond_true]
     cases h3 : F ⟨cut64 (px + clampN 32768 bx), cut64 (py + clampN 32768 b_y), cut64 (pz + clampN 32768 bz)⟩ <;> rfl

noncomputable def oSlide (args : List SV) (rows : List Row) : Option Eff :=
 match args with
 | [.agg [.int .i64 w, .int .i64 d, .int .i64 h, .slice id st off len _, sp], .agg [.int .i64 x, .int .i64 y, .int .i64 z], .agg [.int .i64 p, .int .i64 q, .int .i64 r]] => match rows[id]? with
  | some (.vec _ .bool xs) => bif Nat.beq st 1 && sp.one then some { ok := mapOk w d h len && (fitsB ⟨x, y, z⟩ && decide (off + len ≤ xs.length)), val := slideV ((mpOf w d h len fun j => xs.getD (off + j) false).slide ⟨x, y, z⟩ ⟨p, q, r⟩), rd := [id] } else none
  | _ => none
 | _ => none

theorem oSlide_ok {args : List SV} {rows : List Row} {n : Nat} {e : Eff} (h : oSlide args rows = some e) (hok : e.ok = true) : FnOk Try.prog 78 args (rows[·]?) n e := by
 unfold oSlide at h
 split at h
 · rename_i wd dd hd id st off len cap sp x y z p q r
   split at h
   · rename_i ro xs hrow
     cases hb : Nat.beq st 1 && sp.one with
     | false => simp [hb] at h
     | true =>
      simp only [hb, cond_true, Option.some.injEq] at h
      subst h
      rw [Bool.and_eq_true] at hb
      have hst := Nat.eq_of_beq_eq_true hb.1
      subst hst
      simp only [Bool.and_eq_true, fitsB] at hok
      obtain ⟨h1, ⟨h2, h3, h4⟩, h5⟩ := hok
      obtain ⟨rows', hc, _⟩ := runK_ok xSlide_ok lok_none Try.func78 (slide_val (bx := p) (b_y := q) (bz := r) h1 h5 h2 h3 h4)
      exact fnOk_map hb.2 hc rfl rfl hrow
   · cases h
 · cases h

end Go.Proofs.Ytimkhidniolpeaa

namespace Go.Proofs.Ytimkhidniolpeaa
set_option linter.unusedSimpArgs false
set_option linter.unusedVariables false
set_option maxRecDepth 100000
set_option maxHeartbeats 0
open Go.RowKit

def allGo (p : Int → Bool) : Nat → Int → Bool
 | 0, _ => true
 | n + 1, i => p i && allGo p n (i + 1)
def allI (a b : Int) (p : Int → Bool) : Bool := allGo p (b + 1 - a).toNat a
theorem allGo_iff {p : Int → Bool} : ∀ {n : Nat} {a : Int}, allGo p n a = true ↔ ∀ i, a ≤ i → i < a + n → p i = true
 | 0, a => by simp [allGo]; intro i h1 h2; omega
 | n + 1, a => by
  rw [allGo, Bool.and_eq_true, allGo_iff]
  constructor
  · rintro ⟨h1, h2⟩ i h3 h4
    by_cases hi : i = a
    · subst hi; exact h1
    · exact h2 i (by omega) (by omega)
  · intro h
    exact ⟨h a (by omega) (by omega), fun i h3 h4 => h i (by omega) (by omega)⟩
theorem allI_iff {a b : Int} {p : Int → Bool} : allI a b p = true ↔ ∀ i, a ≤ i → i ≤ b → p i = true := by
 unfold allI
 rw [allGo_iff]
 constructor
 · intro h i h1 h2; exact h i h1 (by omega)
 · intro h i h1 h2; exact h i h1 (by omega)

def Mp.clearC (m : Mp) (lo hi : V3) : Bool := decide (hi.x ≤ lo.x) || (decide (hi.y ≤ lo.y) || (decide (hi.z ≤ lo.z) ||
 allI (lo.x / 65536) ((hi.x - 1) / 65536) fun i => allI (lo.y / 65536) ((hi.y - 1) / 65536) fun j => allI (lo.z / 65536) ((hi.z - 1) / 65536) fun k => !m.solid i j k))
theorem clear_eq (m : Mp) (lo hi : V3) : m.clear lo hi = m.clearC lo hi := by
 rw [Bool.eq_iff_iff, Mp.clear_iff]
 unfold Mp.Clear Mp.boxFree Mp.clearC
 simp only [Bool.or_eq_true, decide_eq_true_eq, allI_iff, Bool.not_eq_true']
 constructor
 · rintro (h | h | h | h)
   · exact .inl h
   · exact .inr (.inl h)
   · exact .inr (.inr (.inl h))
   · exact .inr (.inr (.inr fun i h1 h2 j h3 h4 k h5 h6 => h i j k h1 h2 h3 h4 h5 h6))
 · rintro (h | h | h | h)
   · exact .inl h
   · exact .inr (.inl h)
   · exact .inr (.inr (.inl h))
   · exact .inr (.inr (.inr fun i j k h1 h2 h3 h4 h5 h6 => h i h1 h2 j h3 h4 k h5 h6))
def Mp.freeC (m : Mp) (p : V3) : Bool := m.clearC (p.minus boxV) (p.plus boxV)
theorem free_eq (m : Mp) (p : V3) : m.free p = m.freeC p := clear_eq m _ _
def Mp.stepC (m : Mp) (p q : V3) (d : Int) : V3 × Bool := bif m.freeC q then (q, false) else (p, d != 0)
def Mp.slideC (m : Mp) (p b : V3) : V3 × Bool × Bool × Bool :=
 let r1 := m.stepC p ⟨cut64 (p.x + clampN 32768 b.x), p.y, p.z⟩ (clampN 32768 b.x)
 let r2 := m.stepC r1.1 ⟨r1.1.x, cut64 (r1.1.y + clampN 32768 b.y), r1.1.z⟩ (clampN 32768 b.y)
 let r3 := m.stepC r2.1 ⟨r2.1.x, r2.1.y, cut64 (r2.1.z + clampN 32768 b.z)⟩ (clampN 32768 b.z)
 (r3.1, r1.2, r2.2, r3.2)
theorem slide_eq (m : Mp) (p b : V3) : m.slide p b = m.slideC p b := by
 unfold Mp.slide Mp.slideC Mp.stepB Mp.stepC
 simp only [free_eq]

noncomputable def oSlideC (args : List SV) (rows : List Row) : Option Eff :=
 match args with
 | [.agg [.int .i64 w, .int .i64 d, .int .i64 h, .slice id st off len _, sp], .agg [.int .i64 x, .int .i64 y, .int .i64 z], .agg [.int .i64 p, .int .i64 q, .int .i64 r]] => match rows[id]? with
  | some (.vec _ .bool xs) => bif Nat.beq st 1 && sp.one then some { ok := mapOk w d h len && (fitsB ⟨x, y, z⟩ && decide (off + len ≤ xs.length)), val := slideV ((mpOf w d h len fun j => xs.getD (off + j) false).slideC ⟨x, y, z⟩ ⟨p, q, r⟩), rd := [id] } else none
  | _ => none
 | _ => none
theorem oSlideC_le {args : List SV} {rows : List Row} {e : Eff} (h : oSlideC args rows = some e) : oSlide args rows = some e := by
 unfold oSlideC at h
 split at h
 · split at h
   · rename_i h1
     unfold oSlide
     simp only [h1, slide_eq]
     exact h
   · cases h
 · cases h
noncomputable def orcSlideC : Orc := ⟨78, oSlideC, fun _ _ _ h hok => oSlide_ok (oSlideC_le h) hok, bodied Try.func78 (by kernel_rfl)⟩
noncomputable def orcSlide : Orc := ⟨78, oSlide, fun _ _ _ h hok => oSlide_ok h hok, bodied Try.func78 (by kernel_rfl)⟩

noncomputable def oFreeC (args : List SV) (rows : List Row) : Option Eff :=
 match args with
 | [.agg [.int .i64 w, .int .i64 d, .int .i64 h, .slice id st off len _, sp], .agg [.int .i64 x, .int .i64 y, .int .i64 z]] => match rows[id]? with
  | some (.vec _ .bool xs) => bif Nat.beq st 1 && sp.one then some { ok := mapOk w d h len && (fitsB ⟨x, y, z⟩ && decide (off + len ≤ xs.length)), val := .bool ((mpOf w d h len fun j => xs.getD (off + j) false).freeC ⟨x, y, z⟩), rd := [id] } else none
  | _ => none
 | _ => none
theorem oFreeC_le {args : List SV} {rows : List Row} {e : Eff} (h : oFreeC args rows = some e) : oFree args rows = some e := by
 unfold oFreeC at h
 split at h
 · split at h
   · rename_i h1
     unfold oFree
     simp only [h1, free_eq]
     exact h
   · cases h
 · cases h
noncomputable def orcFreeC : Orc := ⟨42, oFreeC, fun _ _ _ h hok => oFree_ok (oFreeC_le h) hok, bodied Try.func42 (by kernel_rfl)⟩
noncomputable def orcFree : Orc := ⟨42, oFree, fun _ _ _ h hok => oFree_ok h hok, bodied Try.func42 (by kernel_rfl)⟩

end Go.Proofs.Ytimkhidniolpeaa

namespace Go.Proofs.Ytimkhidniolpeaa
set_option linter.unusedSimpArgs false
set_option linter.unusedVariables false
set_option maxRecDepth 100000
set_option maxHeartbeats 0
open Go.RowKit

noncomputable def xNr : Ctx := ctxOf [] []
theorem xNr_ok : COk Try.prog xNr := ctxOf_ok (by kernel_rfl)

theorem near_tree (s wn sh : Int) : runK xNr (fun _ _ => none) 200 77 Try.f77 0 [.int .i64 s, .int .i8 wn, .int .i64 sh] [] =
 bif !decide (sh = 0) then
 some (.int .i64 (IntKind.i64.wrap (s + IntKind.i64.wrap ((IntKind.i64.wrap (IntKind.i64.wrap ((IntKind.i64.wrap (IntKind.i64.wrap wn * 16384)).tdiv 127) - s)).tdiv sh))), [])
 else none := by kernel_rfl

theorem cut_tree (n : Int) : runK xNr (fun _ _ => none) 200 41 Try.f41 0 [.int .i64 n] [] =
 some (.int .i64 (min (max n (-32768)) 32768), []) := by kernel_rfl

def nearV (s wn sh : Int) : Int := IntKind.i64.wrap (s + IntKind.i64.wrap ((IntKind.i64.wrap (IntKind.i64.wrap ((IntKind.i64.wrap (IntKind.i64.wrap wn * 16384)).tdiv 127) - s)).tdiv sh))
def cutM (n : Int) : Int := min (max n (-32768)) 32768
theorem near_val {s wn sh : Int} (h : decide (sh = 0) = false) : runK xNr (fun _ _ => none) 200 77 Try.f77 0 [.int .i64 s, .int .i8 wn, .int .i64 sh] [] = some (.int .i64 (nearV s wn sh), []) := by
 rw [near_tree, h]
 rfl
def oNear : List SV → Option Eff
 | [.int .i64 s, .int .i8 wn, .int .i64 sh] => some { ok := !decide (sh = 0), val := .int .i64 (nearV s wn sh) }
 | _ => none
theorem oNear_ok {m : Nat → Option Row} {n : Nat} {args : List SV} {e : Eff} (h : oNear args = some e) (hok : e.ok = true) : FnOk Try.prog 77 args m n e := by
 unfold oNear at h
 split at h
 · rename_i s wn sh
   cases h
   simp only [Bool.not_eq_true'] at hok
   obtain ⟨rows', hc, _⟩ := runK_ok xNr_ok lok_none Try.func77 (near_val (s := s) (wn := wn) hok)
   exact fnOk_pure hc rfl rfl
 · cases h
noncomputable def orcNear : Orc := ⟨77, fun args _ => oNear args, fun _ _ _ h hok => oNear_ok h hok, bodied Try.func77 (by kernel_rfl)⟩
def oCut : List SV → Option Eff
 | [.int .i64 n] => some { val := .int .i64 (cutM n) }
 | _ => none
theorem oCut_ok {m : Nat → Option Row} {n : Nat} {args : List SV} {e : Eff} (h : oCut args = some e) : FnOk Try.prog 41 args m n e := by
 unfold oCut at h
 split at h
 · rename_i k
   cases h
   obtain ⟨rows', hc, _⟩ := runK_ok xNr_ok lok_none Try.func41 (cut_tree k)
   exact fnOk_pure hc rfl rfl
 · cases h
noncomputable def orcCut : Orc := ⟨41, fun args _ => oCut args, fun _ _ _ h _ => oCut_ok h, bodied Try.func41 (by kernel_rfl)⟩

noncomputable def xTc : Ctx := ctxOf [40] [orcNear, orcCut, orcSlide]
theorem xTc_ok : COk Try.prog xTc := ctxOf_ok (by kernel_rfl)

def firmB (p : Pl) (c : Cm) : Bool := p.ground && (IntKind.u8.wrap ((BitVec.ofInt IntKind.u8.bits c.buttons &&& BitVec.ofInt IntKind.u8.bits 2).toNat : Int) == 0)
def jumpB (p : Pl) (c : Cm) : Bool := p.ground && (IntKind.u8.wrap ((BitVec.ofInt IntKind.u8.bits c.buttons &&& BitVec.ofInt IntKind.u8.bits 1).toNat : Int) != 0)
def triedV (f j : Bool) (p : Pl) (c : Cm) : V3 := ⟨cutM (nearV p.vel.x c.dx (bif f then 4 else 16)), cutM (nearV p.vel.y c.dy (bif f then 4 else 16)), cutM (IntKind.i64.wrap ((bif j then 24576 else p.vel.z) - 1024))⟩
def landP (p : Pl) (v : V3) (r : V3 × Bool × Bool × Bool) : Pl := ⟨p.id, r.1, ⟨bif r.2.1 then 0 else v.x, bif r.2.2.1 then 0 else v.y, bif r.2.2.2 then 0 else v.z⟩, r.2.2.2 && decide (v.z < 0), p.health, p.armour, p.score, p.a0, p.a1, p.wait, p.dead⟩
def tickP (S : V3 → V3 → V3 × Bool × Bool × Bool) (p : Pl) (c : Cm) : Pl := bif decide (p.dead > 0) then p else landP p (triedV (firmB p c) (jumpB p c) p c) (S p.pos (triedV (firmB p c) (jumpB p c) p c))
def leafT (p : Pl) (v : V3) (r : V3 × Bool × Bool × Bool) (b1 b2 b3 : Bool) : Option Res2 :=
 some (.agg [.int .i64 p.id, .int .i64 r.1.x, .int .i64 r.1.y, .int .i64 r.1.z, .int .i64 (bif b1 then 0 else v.x), .int .i64 (bif b2 then 0 else v.y), .int .i64 (bif b3 then 0 else v.z), .bool (bif r.2.2.2 == true then decide (v.z < 0) else false), .int .i64 p.health, .int .i64 p.armour, .int .i64 p.score, .int .i64 p.a0, .int .i64 p.a1, .int .i64 p.wait, .int .i64 p.dead], [])
def landT (p : Pl) (v : V3) (r : V3 × Bool × Bool × Bool) : Option Res2 :=
 bif r.2.1 then (bif r.2.2.1 then (bif r.2.2.2 then leafT p v r true true true else leafT p v r true true false) else (bif r.2.2.2 then leafT p v r true false true else leafT p v r true false false))
 else (bif r.2.2.1 then (bif r.2.2.2 then leafT p v r false true true else leafT p v r false true false) else (bif r.2.2.2 then leafT p v r false false true else leafT p v r false false false))
noncomputable def goTc (w d h : Int) (len off : Nat) (xs : List Bool) (p : Pl) (c : Cm) (f j : Bool) : Option Res2 :=
 bif mapOk w d h len && (fitsB p.pos && decide (off + len ≤ xs.length)) then landT p (triedV f j p c) ((mpOf w d h len fun j => xs.getD (off + j) false).slide p.pos (triedV f j p c)) else none
def firmC (p : Pl) (c : Cm) : Bool := bif p.ground == true then (IntKind.u8.wrap ((BitVec.ofInt IntKind.u8.bits c.buttons &&& BitVec.ofInt IntKind.u8.bits 2).toNat : Int) == 0) else false
def jumpC (p : Pl) (c : Cm) : Bool := bif p.ground == true then (IntKind.u8.wrap ((BitVec.ofInt IntKind.u8.bits c.buttons &&& BitVec.ofInt IntKind.u8.bits 1).toNat : Int) != 0) else false
theorem tick_tree (w d h : Int) (len off : Nat) (xs : List Bool) (p : Pl) (c : Cm) : runK xTc (fun _ _ => none) 400 58 Try.f58 0 [mapS w d h (.slice 0 1 off len none) .unk, .agg p.sv, .agg c.sv] [.vec true .bool xs] =
 bif decide (p.dead > 0) then some (.agg p.sv, []) else
 bif firmC p c then (bif jumpC p c then goTc w d h len off xs p c true true else goTc w d h len off xs p c true false)
 else (bif jumpC p c then goTc w d h len off xs p c false true else goTc w d h len off xs p c false false) := by kernel_rfl
theorem firmC_eq (p : Pl) (c : Cm) : firmC p c = firmB p c := and_form _ _
theorem jumpC_eq (p : Pl) (c : Cm) : jumpC p c = jumpB p c := and_form _ _
theorem landT_eq (p : Pl) (v : V3) (r : V3 × Bool × Bool × Bool) : landT p v r = some (.agg (landP p v r).sv, []) := by
 obtain ⟨q, b1, b2, b3⟩ := r
 cases b1 <;> cases b2 <;> cases b3 <;> rfl
theorem tick_val {w d h : Int} {len off : Nat} {xs : List Bool} {p : Pl} {c : Cm} (hm : mapOk w d h len = true) (hl : decide (off + len ≤ xs.length) = true) (hp : p.pos.fits) :
    runK xTc (fun _ _ => none) 400 58 Try.f58 0 [mapS w d h (.slice 0 1 off len none) .unk, .agg p.sv, .agg c.sv] [.vec true .bool xs] = some (.agg (tickP (mpOf w d h len fun j => xs.getD (off + j) false).slide p c).sv, []) := by
 rw [tick_tree, firmC_eq, jumpC_eq]
 unfold goTc tickP
 rw [hm, hl, fitsB_iff.2 hp]
 simp only [landT_eq, Bool.and_true, cond_true]
 cases decide (p.dead > 0) <;> cases firmB p c <;> cases jumpB p c <;> rfl
noncomputable def oTick (args : List SV) (rows : List Row) : Option Eff :=
 match args with
 | [.agg [.int .i64 w, .int .i64 d, .int .i64 h, .slice id st off len _, sp], .agg [.int .i64 a0, .int .i64 a1, .int .i64 a2, .int .i64 a3, .int .i64 a4, .int .i64 a5, .int .i64 a6, .bool a7, .int .i64 a8, .int .i64 a9, .int .i64 a10, .int .i64 a11, .int .i64 a12, .int .i64 a13, .int .i64 a14], .agg [.int .u16 c0, .int .u8 c1, .int .i8 c2, .int .i8 c3, .int .i64 c4]] => match rows[id]? with
  | some (.vec _ .bool xs) => bif Nat.beq st 1 && sp.one then some { ok := mapOk w d h len && (fitsB ⟨a1, a2, a3⟩ && decide (off + len ≤ xs.length)), val := .agg (tickP (mpOf w d h len fun j => xs.getD (off + j) false).slide ⟨a0, ⟨a1, a2, a3⟩, ⟨a4, a5, a6⟩, a7, a8, a9, a10, a11, a12, a13, a14⟩ ⟨c0, c1, c2, c3, c4⟩).sv, rd := [id] } else none
  | _ => none
 | _ => none
theorem oTick_ok {args : List SV} {rows : List Row} {n : Nat} {e : Eff} (h : oTick args rows = some e) (hok : e.ok = true) : FnOk Try.prog 58 args (rows[·]?) n e := by
 unfold oTick at h
 split at h
 · rename_i wd dd hd id st off len cap sp a0 a1 a2 a3 a4 a5 a6 a7 a8 a9 a10 a11 a12 a13 a14 c0 c1 c2 c3 c4
   split at h
   · rename_i ro xs hrow
     cases hb : Nat.beq st 1 && sp.one with
     | false => simp [hb] at h
     | true =>
      simp only [hb, cond_true, Option.some.injEq] at h
      subst h
      rw [Bool.and_eq_true] at hb
      have hst := Nat.eq_of_beq_eq_true hb.1
      subst hst
      simp only [Bool.and_eq_true, fitsB_iff] at hok
      obtain ⟨h1, h2, h3⟩ := hok
      obtain ⟨rows', hc, _⟩ := runK_ok xTc_ok lok_none Try.func58 (tick_val (p := ⟨a0, ⟨a1, a2, a3⟩, ⟨a4, a5, a6⟩, a7, a8, a9, a10, a11, a12, a13, a14⟩) (c := ⟨c0, c1, c2, c3, c4⟩) h1 h3 h2)
      exact fnOk_map hb.2 hc rfl rfl hrow
   · cases h
 · cases h
noncomputable def orcTick : Orc := ⟨58, oTick, fun _ _ _ h hok => oTick_ok h hok, bodied Try.func58 (by kernel_rfl)⟩

end Go.Proofs.Ytimkhidniolpeaa

namespace Go.Proofs.Ytimkhidniolpeaa
set_option linter.unusedSimpArgs false
set_option linter.unusedVariables false
set_option maxRecDepth 100000
set_option maxHeartbeats 0
open Go.RowKit

noncomputable def xSw : Ctx := ctxOf [] [orcTick]
theorem xSw_ok : COk Try.prog xSw := ctxOf_ok (by kernel_rfl)
def valSw (n i : Int) : List SV := [.ptr 1 0 0 0, .ptr 2 0 0 0, .ptr 3 0 0 0, .ptr 4 0 0 0, .int .i64 n, .int .i64 i]
def rowSw (w d h : Int) (len off : Nat) (xs : List Bool) (p : Pl) (c : Cm) (r : Pl) : List Row := [.vec true .bool xs, .own [.int .i64 w, .int .i64 d, .int .i64 h, .slice 0 1 off len none, .unk], .own p.sv, .own c.sv, .own r.sv]
noncomputable def rdSw : List SV → List Row → Option Res2 := roundS xSw (fun _ _ => none) 100 38 [0, 1, 0, 1, 1] (bodyAt Try.f38 [0, 1, 0, 1, 1]) 26 5 [3, 4, 5, 6, 17, 18]

theorem sw_round (w d h : Int) (len off : Nat) (xs : List Bool) (p : Pl) (c : Cm) (r : Pl) (n i : Int) : rdSw (valSw n i) (rowSw w d h len off xs p c r) =
 bif decide (i < n) then
 bif mapOk w d h len && (fitsB p.pos && decide (off + len ≤ xs.length)) then
 some
 (SV.tuple [SV.nilp, SV.tuple [SV.ptr 1 0 0 0, SV.ptr 2 0 0 0, SV.ptr 3 0 0 0, SV.ptr 4 0 0 0, .int .i64 n, .int .i64 (IntKind.i64.wrap (i + 1))]],
 [Row.vec true Knd.bool xs, Row.own [.int .i64 w, .int .i64 d, .int .i64 h, SV.slice 0 1 off len none, SV.unk],
 Row.own
 [.int .i64 (tickP (mpOf w d h len fun j => xs.getD (off + j) false).slide p c).id, .int .i64 (tickP (mpOf w d h len fun j => xs.getD (off + j) false).slide p c).pos.x,
 .int .i64 (tickP (mpOf w d h len fun j => xs.getD (off + j) false).slide p c).pos.y,
 .int .i64 (tickP (mpOf w d h len fun j => xs.getD (off + j) false).slide p c).pos.z,
 .int .i64 (tickP (mpOf w d h len fun j => xs.getD (off + j) false).slide p c).vel.x,
 .int .i64 (tickP (mpOf w d h len fun j => xs.getD (off + j) false).slide p c).vel.y,
 .int .i64 (tickP (mpOf w d h len fun j => xs.getD (off + j) false).slide p c).vel.z, SV.bool (tickP (mpOf w d h len fun j => xs.getD (off + j) false).slide p c).ground,
 .int .i64 (tickP (mpOf w d h len fun j => xs.getD (off + j) false).slide p c).health,
 .int .i64 (tickP (mpOf w d h len fun j => xs.getD (off + j) false).slide p c).armour,
 .int .i64 (tickP (mpOf w d h len fun j => xs.getD (off + j) false).slide p c).score, .int .i64 (tickP (mpOf w d h len fun j => xs.getD (off + j) false).slide p c).a0,
 .int .i64 (tickP (mpOf w d h len fun j => xs.getD (off + j) false).slide p c).a1, .int .i64 (tickP (mpOf w d h len fun j => xs.getD (off + j) false).slide p c).wait,
 .int .i64 (tickP (mpOf w d h len fun j => xs.getD (off + j) false).slide p c).dead],
 Row.own [.int .u16 c.seq, .int .u8 c.buttons, .int .i8 c.dx, .int .i8 c.dy, .int .i64 c.ticks],
 Row.own
 [.int .i64 r.id, .int .i64 r.pos.x, .int .i64 r.pos.y, .int .i64 r.pos.z, .int .i64 r.vel.x, .int .i64 r.vel.y,
 .int .i64 r.vel.z, SV.bool r.ground, .int .i64 r.health, .int .i64 r.armour, .int .i64 r.score, .int .i64 r.a0, .int .i64 r.a1,
 .int .i64 r.wait, .int .i64 r.dead]])
 else none
 else
 some
 (SV.tuple [SV.ptr 0 0 0 0, SV.tuple [SV.ptr 1 0 0 0, SV.ptr 2 0 0 0, SV.ptr 3 0 0 0, SV.ptr 4 0 0 0, .int .i64 n, .int .i64 i]],
 [Row.vec true Knd.bool xs, Row.own [.int .i64 w, .int .i64 d, .int .i64 h, SV.slice 0 1 off len none, SV.unk],
 Row.own
 [.int .i64 p.id, .int .i64 p.pos.x, .int .i64 p.pos.y, .int .i64 p.pos.z, .int .i64 p.vel.x, .int .i64 p.vel.y,
 .int .i64 p.vel.z, SV.bool p.ground, .int .i64 p.health, .int .i64 p.armour, .int .i64 p.score, .int .i64 p.a0, .int .i64 p.a1,
 .int .i64 p.wait, .int .i64 p.dead],
 Row.own [.int .u16 c.seq, .int .u8 c.buttons, .int .i8 c.dx, .int .i8 c.dy, .int .i64 c.ticks],
 Row.own
 [.int .i64 r.id, .int .i64 r.pos.x, .int .i64 r.pos.y, .int .i64 r.pos.z, .int .i64 r.vel.x, .int .i64 r.vel.y,
 .int .i64 r.vel.z, SV.bool r.ground, .int .i64 r.health, .int .i64 r.armour, .int .i64 r.score, .int .i64 r.a0, .int .i64 r.a1,
 .int .i64 r.wait, .int .i64 r.dead]]) := by kernel_rfl

theorem stepB_fits (m : Mp) (p q : V3) (d : Int) (hp : p.fits) (hq : q.fits) : (m.stepB p q d).1.fits := by
 unfold Mp.stepB
 cases m.free q
 · exact hp
 · exact hq
theorem slideW_fits (m : Mp) (p b : V3) (hp : p.fits) : (m.slide p b).1.fits := by
 unfold Mp.slide
 dsimp only
 have h1 := stepB_fits m p ⟨cut64 (p.x + clampN 32768 b.x), p.y, p.z⟩ (clampN 32768 b.x) hp ⟨cut64_fits _, hp.2.1, hp.2.2⟩
 have h2 := stepB_fits m _ ⟨(m.stepB p ⟨cut64 (p.x + clampN 32768 b.x), p.y, p.z⟩ (clampN 32768 b.x)).1.x, cut64 ((m.stepB p ⟨cut64 (p.x + clampN 32768 b.x), p.y, p.z⟩ (clampN 32768 b.x)).1.y + clampN 32768 b.y), (m.stepB p ⟨cut64 (p.x + clampN 32768 b.x), p.y, p.z⟩ (clampN 32768 b.x)).1.z⟩ (clampN 32768 b.y) h1 ⟨h1.1, cut64_fits _, h1.2.2⟩
 exact stepB_fits m _ _ _ h2 ⟨h2.1, h2.2.1, cut64_fits _⟩
theorem tickP_fits {m : Mp} {p : Pl} {c : Cm} (hp : p.pos.fits) : (tickP m.slide p c).pos.fits := by
 unfold tickP
 cases decide (p.dead > 0)
 · exact slideW_fits m _ _ hp
 · exact hp
def walkN (S : V3 → V3 → V3 × Bool × Bool × Bool) (c : Cm) : Nat → Pl → Pl
 | 0, p => p
 | k + 1, p => walkN S c k (tickP S p c)
theorem walkN_fits {m : Mp} {c : Cm} : ∀ (k : Nat) (p : Pl), p.pos.fits → (walkN m.slide c k p).pos.fits
 | 0, _, h => h
 | k + 1, _, h => walkN_fits k _ (tickP_fits h)

section
variable {w d h : Int} {len off : Nat} {xs : List Bool}
theorem sw_loop (hm : mapOk w d h len = true) (hl : decide (off + len ≤ xs.length) = true) {n : Int} {c : Cm} {r : Pl} : ∀ (k : Nat) (i : Int) (p : Pl), p.pos.fits → i + k = n → 0 ≤ i → n ≤ 9223372036854775807 →
    LoopTo rdSw (valSw n i) (rowSw w d h len off xs p c r) (.exit 0) (valSw n n) (rowSw w d h len off xs (walkN (mpOf w d h len fun j => xs.getD (off + j) false).slide c k p) c r)
 | 0, i, p, hp, h1, h2, h3 => by
  obtain rfl : i = n := by omega
  refine .done ?_ (by simp)
  rw [sw_round, decide_eq_false (by omega), cond_false]
  rfl
 | k + 1, i, p, hp, h1, h2, h3 => by
  have hr := sw_round w d h len off xs p c r n i
  rw [decide_eq_true (by omega), cond_true, hm, hl, fitsB_iff.2 hp, IntWalk.i64_in (i + 1) (by omega)] at hr
  simp only [Bool.and_true, cond_true] at hr
  exact .more hr (sw_loop hm hl k (i + 1) _ (tickP_fits hp) (by omega) (by omega) h3)
end

noncomputable def outSw (v : List SV) (R : List Row) (k : Ex → List SV → List Row → Option Res2) : Option Res2 := match v, R with
 | [.ptr 1 0 0 0, .ptr 2 0 0 0, .ptr 3 0 0 0, .ptr 4 0 0 0, .int .i64 n, .int .i64 i],
  [.vec true .bool xs, .own [.int .i64 w, .int .i64 d, .int .i64 h, .slice 0 1 off len none, .unk], .own [.int .i64 a0, .int .i64 a1, .int .i64 a2, .int .i64 a3, .int .i64 a4, .int .i64 a5, .int .i64 a6, .bool a7, .int .i64 a8, .int .i64 a9, .int .i64 a10, .int .i64 a11, .int .i64 a12, .int .i64 a13, .int .i64 a14], .own [.int .u16 c0, .int .u8 c1, .int .i8 c2, .int .i8 c3, .int .i64 c4], .own [.int .i64 b0, .int .i64 b1, .int .i64 b2, .int .i64 b3, .int .i64 b4, .int .i64 b5, .int .i64 b6, .bool b7, .int .i64 b8, .int .i64 b9, .int .i64 b10, .int .i64 b11, .int .i64 b12, .int .i64 b13, .int .i64 b14]] =>
   bif (decide (i = 0) && (decide (0 ≤ n) && decide (n ≤ 9223372036854775807))) && (mapOk w d h len && (decide (off + len ≤ xs.length) && fitsB ⟨a1, a2, a3⟩)) then
    k (.exit 0) (valSw n n) (rowSw w d h len off xs (walkN (mpOf w d h len fun j => xs.getD (off + j) false).slide ⟨c0, c1, c2, c3, c4⟩ n.toNat ⟨a0, ⟨a1, a2, a3⟩, ⟨a4, a5, a6⟩, a7, a8, a9, a10, a11, a12, a13, a14⟩) ⟨c0, c1, c2, c3, c4⟩ ⟨b0, ⟨b1, b2, b3⟩, ⟨b4, b5, b6⟩, b7, b8, b9, b10, b11, b12, b13, b14⟩) else none
 | _, _ => none
theorem lpoSw_ok : LpOk 38 [0, 1, 0, 1, 1] (loopF 26 [3, 4, 5, 6, 17, 18] outSw) := by
 intro b hat s K r h
 refine loopF_ok (fuel := 100) xSw_ok lok_none hat (fun v R k r hr => ?_) h
 have hbody := at_body Try.func38 hat
 subst hbody
 unfold outSw at hr
 split at hr
 · rename_i n i xs w d h off len a0 a1 a2 a3 a4 a5 a6 a7 a8 a9 a10 a11 a12 a13 a14 c0 c1 c2 c3 c4 b0 b1 b2 b3 b4 b5 b6 b7 b8 b9 b10 b11 b12 b13 b14
   obtain ⟨hb, hr2⟩ := cond_some hr
   simp only [Bool.and_eq_true, decide_eq_true_eq, fitsB_iff] at hb
   obtain ⟨⟨h1, h2, h3⟩, h5, h6, h7⟩ := hb
   subst h1
   exact ⟨_, _, _, hr2, sw_loop (n := n) (c := ⟨c0, c1, c2, c3, c4⟩) (r := ⟨b0, ⟨b1, b2, b3⟩, ⟨b4, b5, b6⟩, b7, b8, b9, b10, b11, b12, b13, b14⟩) h5 (decide_eq_true h6) n.toNat 0 ⟨a0, ⟨a1, a2, a3⟩, ⟨a4, a5, a6⟩, a7, a8, a9, a10, a11, a12, a13, a14⟩ h7 (by omega) (by omega) h3⟩
 · cases hr
noncomputable def lpoSw : Lpo := ⟨_, _, _, lpoSw_ok⟩

theorem sw_tree (w d h : Int) (len off : Nat) (xs : List Bool) (p : Pl) (c : Cm) : runK xSw (loopOf [lpoSw]) 300 38 Try.f38 0 [mapS w d h (.slice 0 1 off len none) .unk, .agg p.sv, .agg c.sv] [.vec true .bool xs] =
 bif bif decide (c.ticks < 1) == false then decide (c.ticks > 8) else true then
 some
 (SV.agg
 [.int .i64 p.id, .int .i64 p.pos.x, .int .i64 p.pos.y, .int .i64 p.pos.z, .int .i64 p.vel.x, .int .i64 p.vel.y,
 .int .i64 p.vel.z, SV.bool p.ground, .int .i64 p.health, .int .i64 p.armour, .int .i64 p.score, .int .i64 p.a0, .int .i64 p.a1,
 .int .i64 p.wait, .int .i64 p.dead],
 [])
 else
 bif decide (0 ≤ c.ticks) && decide (c.ticks ≤ 9223372036854775807) && (mapOk w d h len && (decide (off + len ≤ xs.length) && fitsB p.pos)) then
 some
 (SV.agg
 [.int .i64 (walkN (mpOf w d h len fun j => xs.getD (off + j) false).slide c c.ticks.toNat p).id,
 .int .i64 (walkN (mpOf w d h len fun j => xs.getD (off + j) false).slide c c.ticks.toNat p).pos.x,
 .int .i64 (walkN (mpOf w d h len fun j => xs.getD (off + j) false).slide c c.ticks.toNat p).pos.y,
 .int .i64 (walkN (mpOf w d h len fun j => xs.getD (off + j) false).slide c c.ticks.toNat p).pos.z,
 .int .i64 (walkN (mpOf w d h len fun j => xs.getD (off + j) false).slide c c.ticks.toNat p).vel.x,
 .int .i64 (walkN (mpOf w d h len fun j => xs.getD (off + j) false).slide c c.ticks.toNat p).vel.y,
 .int .i64 (walkN (mpOf w d h len fun j => xs.getD (off + j) false).slide c c.ticks.toNat p).vel.z,
 SV.bool (walkN (mpOf w d h len fun j => xs.getD (off + j) false).slide c c.ticks.toNat p).ground,
 .int .i64 (walkN (mpOf w d h len fun j => xs.getD (off + j) false).slide c c.ticks.toNat p).health,
 .int .i64 (walkN (mpOf w d h len fun j => xs.getD (off + j) false).slide c c.ticks.toNat p).armour,
 .int .i64 (walkN (mpOf w d h len fun j => xs.getD (off + j) false).slide c c.ticks.toNat p).score,
 .int .i64 (walkN (mpOf w d h len fun j => xs.getD (off + j) false).slide c c.ticks.toNat p).a0,
 .int .i64 (walkN (mpOf w d h len fun j => xs.getD (off + j) false).slide c c.ticks.toNat p).a1,
 .int .i64 (walkN (mpOf w d h len fun j => xs.getD (off + j) false).slide c c.ticks.toNat p).wait,
 .int .i64 (walkN (mpOf w d h len fun j => xs.getD (off + j) false).slide c c.ticks.toNat p).dead],
 [])
 else none := by kernel_rfl

def walkP (S : V3 → V3 → V3 × Bool × Bool × Bool) (p : Pl) (c : Cm) : Pl := bif decide (c.ticks < 1) || decide (c.ticks > 8) then p else walkN S c c.ticks.toNat p
theorem walkP_fits {m : Mp} {p : Pl} {c : Cm} (hp : p.pos.fits) : (walkP m.slide p c).pos.fits := by
 unfold walkP
 cases (decide (c.ticks < 1) || decide (c.ticks > 8))
 · exact walkN_fits _ _ hp
 · exact hp
theorem sw_val {w d h : Int} {len off : Nat} {xs : List Bool} {p : Pl} {c : Cm} (hm : mapOk w d h len = true) (hl : decide (off + len ≤ xs.length) = true) (hp : p.pos.fits) :
    runK xSw (loopOf [lpoSw]) 300 38 Try.f38 0 [mapS w d h (.slice 0 1 off len none) .unk, .agg p.sv, .agg c.sv] [.vec true .bool xs] = some (.agg (walkP (mpOf w d h len fun j => xs.getD (off + j) false).slide p c).sv, []) := by
 rw [sw_tree]
 simp only [or_form]
 unfold walkP
 cases hc : (decide (c.ticks < 1) || decide (c.ticks > 8)) with
 | true => rfl
 | false =>
  simp only [Bool.or_eq_false_iff, decide_eq_false_iff_not] at hc
  rw [decide_eq_true (show 0 ≤ c.ticks by omega), decide_eq_true (show c.ticks ≤ 9223372036854775807 by omega), hm, hl, fitsB_iff.2 hp]
  rfl
noncomputable def oStepW (args : List SV) (rows : List Row) : Option Eff :=
 match args with
 | [.agg [.int .i64 w, .int .i64 d, .int .i64 h, .slice id st off len _, sp], .agg [.int .i64 a0, .int .i64 a1, .int .i64 a2, .int .i64 a3, .int .i64 a4, .int .i64 a5, .int .i64 a6, .bool a7, .int .i64 a8, .int .i64 a9, .int .i64 a10, .int .i64 a11, .int .i64 a12, .int .i64 a13, .int .i64 a14], .agg [.int .u16 c0, .int .u8 c1, .int .i8 c2, .int .i8 c3, .int .i64 c4]] => match rows[id]? with
  | some (.vec _ .bool xs) => bif Nat.beq st 1 && sp.one then some { ok := mapOk w d h len && (fitsB ⟨a1, a2, a3⟩ && decide (off + len ≤ xs.length)), val := .agg (walkP (mpOf w d h len fun j => xs.getD (off + j) false).slide ⟨a0, ⟨a1, a2, a3⟩, ⟨a4, a5, a6⟩, a7, a8, a9, a10, a11, a12, a13, a14⟩ ⟨c0, c1, c2, c3, c4⟩).sv, rd := [id] } else none
  | _ => none
 | _ => none
theorem oStepW_ok {args : List SV} {rows : List Row} {n : Nat} {e : Eff} (h : oStepW args rows = some e) (hok : e.ok = true) : FnOk Try.prog 38 args (rows[·]?) n e := by
 unfold oStepW at h
 split at h
 · rename_i wd dd hd id st off len cap sp a0 a1 a2 a3 a4 a5 a6 a7 a8 a9 a10 a11 a12 a13 a14 c0 c1 c2 c3 c4
   split at h
   · rename_i ro xs hrow
     cases hb : Nat.beq st 1 && sp.one with
     | false => simp [hb] at h
     | true =>
      simp only [hb, cond_true, Option.some.injEq] at h
      subst h
      rw [Bool.and_eq_true] at hb
      have hst := Nat.eq_of_beq_eq_true hb.1
      subst hst
      simp only [Bool.and_eq_true, fitsB_iff] at hok
      obtain ⟨h1, h2, h3⟩ := hok
      obtain ⟨rows', hc, _⟩ := runK_ok xSw_ok loopOf_ok Try.func38 (sw_val (p := ⟨a0, ⟨a1, a2, a3⟩, ⟨a4, a5, a6⟩, a7, a8, a9, a10, a11, a12, a13, a14⟩) (c := ⟨c0, c1, c2, c3, c4⟩) h1 h3 h2)
      exact fnOk_map hb.2 hc rfl rfl hrow
   · cases h
 · cases h
noncomputable def orcStepW : Orc := ⟨38, oStepW, fun _ _ _ h hok => oStepW_ok h hok, bodied Try.func38 (by kernel_rfl)⟩

end Go.Proofs.Ytimkhidniolpeaa
