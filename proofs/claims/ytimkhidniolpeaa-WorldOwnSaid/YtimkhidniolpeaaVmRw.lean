/- walk's Right, as a contract. Walking: plain laws. Games, in plain words: what holds of every game, and that each op can be done. Games, in plain words: each op can be done, and what holds of a game still holds. -/
import Derived.Test.YtimkhidniolpeaaVmTr
import Derived.Test.YtimkhidniolpeaaVmR
import Derived.Test.YtimkhidniolpeaaWoP
namespace Go.Proofs.Ytimkhidniolpeaa
set_option linter.unusedSimpArgs false
set_option linter.unusedVariables false
set_option maxRecDepth 100000
set_option maxHeartbeats 0
open Go.RowKit

noncomputable def xRw : Ctx := ctxOf [40, 41] [orcFree]
theorem xRw_ok : COk Try.prog xRw := ctxOf_ok (by kernel_rfl)

theorem rw_tree (w d h : Int) (len off : Nat) (xs : List Bool) (p : Pl) : runK xRw (fun _ _ => none) 400 25 Try.f25 0 [mapS w d h (.slice 0 1 off len none) .unk, .agg p.sv] [.vec true .bool xs] =
 bif p.vel.x != min (max p.vel.x (-32768)) 32768 then some (SV.bool false, [])
 else
  bif p.vel.y != min (max p.vel.y (-32768)) 32768 then some (SV.bool false, [])
  else
   bif p.vel.z != min (max p.vel.z (-32768)) 32768 then some (SV.bool false, [])
   else bif mapOk w d h len && (fitsB p.pos && decide (off + len ≤ xs.length)) then some (SV.bool ((mpOf w d h len fun j => xs.getD (off + j) false).free p.pos), []) else none := by kernel_rfl

def wRight (F : V3 → Bool) (p : Pl) : Bool := (p.vel.x == min (max p.vel.x (-32768)) 32768) && ((p.vel.y == min (max p.vel.y (-32768)) 32768) && ((p.vel.z == min (max p.vel.z (-32768)) 32768) && F p.pos))
theorem wRight_iff {F : V3 → Bool} {p : Pl} : wRight F p = true ↔ (-32768 ≤ p.vel.x ∧ p.vel.x ≤ 32768) ∧ (-32768 ≤ p.vel.y ∧ p.vel.y ≤ 32768) ∧ (-32768 ≤ p.vel.z ∧ p.vel.z ≤ 32768) ∧ F p.pos = true := by
 unfold wRight
 simp only [Bool.and_eq_true, beq_iff_eq]
 constructor
 · rintro ⟨h1, h2, h3, h4⟩; exact ⟨by omega, by omega, by omega, h4⟩
 · rintro ⟨h1, h2, h3, h4⟩; exact ⟨by omega, by omega, by omega, h4⟩
theorem rw_val {w d h : Int} {len off : Nat} {xs : List Bool} {p : Pl} (hm : mapOk w d h len = true) (hl : decide (off + len ≤ xs.length) = true) (hp : p.pos.fits) :
    runK xRw (fun _ _ => none) 400 25 Try.f25 0 [mapS w d h (.slice 0 1 off len none) .unk, .agg p.sv] [.vec true .bool xs] = some (.bool (wRight (mpOf w d h len fun j => xs.getD (off + j) false).free p), []) := by
 rw [rw_tree]
 simp only [hm, hl, fitsB_iff.2 hp, Bool.and_true, cond_true]
 unfold wRight
 simp only [bne]
 cases (p.vel.x == min (max p.vel.x (-32768)) 32768) <;> cases (p.vel.y == min (max p.vel.y (-32768)) 32768) <;> cases (p.vel.z == min (max p.vel.z (-32768)) 32768) <;> rfl
noncomputable def oRw (args : List SV) (rows : List Row) : Option Eff :=
 match args with
 | [.agg [.int .i64 w, .int .i64 d, .int .i64 h, .slice id st off len _, sp], .agg [.int .i64 a0, .int .i64 a1, .int .i64 a2, .int .i64 a3, .int .i64 a4, .int .i64 a5, .int .i64 a6, .bool a7, .int .i64 a8, .int .i64 a9, .int .i64 a10, .int .i64 a11, .int .i64 a12, .int .i64 a13, .int .i64 a14]] => match rows[id]? with
  | some (.vec _ .bool xs) => bif Nat.beq st 1 && sp.one then some { ok := mapOk w d h len && (fitsB ⟨a1, a2, a3⟩ && decide (off + len ≤ xs.length)), val := .bool (wRight (mpOf w d h len fun j => xs.getD (off + j) false).free ⟨a0, ⟨a1, a2, a3⟩, ⟨a4, a5, a6⟩, a7, a8, a9, a10, a11, a12, a13, a14⟩), rd := [id] } else none
  | _ => none
 | _ => none
theorem oRw_ok {args : List SV} {rows : List Row} {n : Nat} {e : Eff} (h : oRw args rows = some e) (hok : e.ok = true) : FnOk Try.prog 25 args (rows[·]?) n e := by
 unfold oRw at h
 split at h
 · rename_i wd dd hd id st off len cap sp a0 a1 a2 a3 a4 a5 a6 a7 a8 a9 a10 a11 a12 a13 a14
   split at h
   · rename_i ro xs hrow
     cases hb : Nat.beq st 1 && sp.one with
     | false => simp [hb] at h
     | true =>
      simp only [hb, cond_true, Option.some.injEq] at h
      subst h
      rw [Bool.and_eq_true] at hb
      have hst := Nat.eq_of_beq_eq_true hb.1
      subst hst
      simp only [Bool.and_eq_true, fitsB_iff] at hok
      obtain ⟨h1, h2, h3⟩ := hok
      obtain ⟨rows', hc, _⟩ := runK_ok xRw_ok lok_none Try.func25 (rw_val (p := ⟨a0, ⟨a1, a2, a3⟩, ⟨a4, a5, a6⟩, a7, a8, a9, a10, a11, a12, a13, a14⟩) h1 h3 h2)
      exact fnOk_map hb.2 hc rfl rfl hrow
   · cases h
 · cases h
noncomputable def orcRw : Orc := ⟨25, oRw, fun _ _ _ h hok => oRw_ok h hok, bodied Try.func25 (by kernel_rfl)⟩

end Go.Proofs.Ytimkhidniolpeaa

namespace Go.Proofs.Ytimkhidniolpeaa
set_option linter.unusedSimpArgs false
set_option linter.unusedVariables false
set_option maxRecDepth 100000
set_option maxHeartbeats 0
open Go.RowKit

theorem tickP_ext {S : V3 → V3 → V3 × Bool × Bool × Bool} {p : Pl} {c e : Cm} (h1 : firmB p c = firmB p e) (h2 : jumpB p c = jumpB p e) (h3 : c.dx = e.dx) (h4 : c.dy = e.dy) : tickP S p c = tickP S p e := by
 unfold tickP triedV
 rw [h1, h2, h3, h4]
theorem u8_round (x : BitVec IntKind.u8.bits) : BitVec.ofInt IntKind.u8.bits (IntKind.u8.wrap (x.toNat : Int)) = x := by
 have h : x.toNat < 256 := x.isLt
 have e : IntKind.u8.wrap (x.toNat : Int) = (x.toNat : Int) := by
  unfold IntKind.wrap
  simp [IntKind.signed, IntKind.bits]
  omega
 rw [e]
 apply BitVec.eq_of_toNat_eq
 show (BitVec.ofInt 8 (x.toNat : Int)).toNat = x.toNat
 rw [BitVec.toNat_ofInt]
 omega
theorem bits_or2 : ∀ x : BitVec 8, (x ||| BitVec.ofInt 8 1) &&& BitVec.ofInt 8 2 = x &&& BitVec.ofInt 8 2 := by decide
theorem bits_not2 : ∀ x : BitVec 8, (x &&& ~~~BitVec.ofInt 8 1) &&& BitVec.ofInt 8 2 = x &&& BitVec.ofInt 8 2 := by decide
theorem bits_or1 : ∀ x : BitVec 8, (x ||| BitVec.ofInt 8 1) &&& BitVec.ofInt 8 1 = 1#8 := by decide
theorem bits_not1 : ∀ x : BitVec 8, (x &&& ~~~BitVec.ofInt 8 1) &&& BitVec.ofInt 8 1 = 0#8 := by decide

theorem stepB_cases (m : Mp) (p q : V3) (d : Int) : (m.stepB p q d = (q, false) ∧ m.free q = true) ∨ (m.stepB p q d = (p, d != 0) ∧ m.free q = false) := by
 unfold Mp.stepB
 cases m.free q
 · exact .inr ⟨rfl, rfl⟩
 · exact .inl ⟨rfl, rfl⟩
def moved (a b d : Int) (k : Bool) : Prop := (b = cut64 (a + clampN 32768 d) ∧ k = false) ∨ (b = a ∧ k = (clampN 32768 d != 0))
theorem slide_spec (m : Mp) (p b : V3) : ∃ (x y z : Int) (k1 k2 k3 : Bool), m.slide p b = (⟨x, y, z⟩, k1, k2, k3) ∧ moved p.x x b.x k1 ∧ moved p.y y b.y k2 ∧ moved p.z z b.z k3 ∧ (m.free p = true → m.free ⟨x, y, z⟩ = true) := by
 unfold Mp.slide
 dsimp only
 rcases stepB_cases m p ⟨cut64 (p.x + clampN 32768 b.x), p.y, p.z⟩ (clampN 32768 b.x) with ⟨e1, f1⟩ | ⟨e1, f1⟩ <;> simp only [e1]
 · rcases stepB_cases m ⟨cut64 (p.x + clampN 32768 b.x), p.y, p.z⟩ ⟨cut64 (p.x + clampN 32768 b.x), cut64 (p.y + clampN 32768 b.y), p.z⟩ (clampN 32768 b.y) with ⟨e2, f2⟩ | ⟨e2, f2⟩ <;> simp only [e2]
   · rcases stepB_cases m ⟨cut64 (p.x + clampN 32768 b.x), cut64 (p.y + clampN 32768 b.y), p.z⟩ ⟨cut64 (p.x + clampN 32768 b.x), cut64 (p.y + clampN 32768 b.y), cut64 (p.z + clampN 32768 b.z)⟩ (clampN 32768 b.z) with ⟨e3, f3⟩ | ⟨e3, f3⟩ <;> simp only [e3]
     · exact ⟨_, _, _, _, _, _, rfl, .inl ⟨rfl, rfl⟩, .inl ⟨rfl, rfl⟩, .inl ⟨rfl, rfl⟩, fun _ => f3⟩
     · exact ⟨_, _, _, _, _, _, rfl, .inl ⟨rfl, rfl⟩, .inl ⟨rfl, rfl⟩, .inr ⟨rfl, rfl⟩, fun _ => f2⟩
   · rcases stepB_cases m ⟨cut64 (p.x + clampN 32768 b.x), p.y, p.z⟩ ⟨cut64 (p.x + clampN 32768 b.x), p.y, cut64 (p.z + clampN 32768 b.z)⟩ (clampN 32768 b.z) with ⟨e3, f3⟩ | ⟨e3, f3⟩ <;> simp only [e3]
     · exact ⟨_, _, _, _, _, _, rfl, .inl ⟨rfl, rfl⟩, .inr ⟨rfl, rfl⟩, .inl ⟨rfl, rfl⟩, fun _ => f3⟩
     · exact ⟨_, _, _, _, _, _, rfl, .inl ⟨rfl, rfl⟩, .inr ⟨rfl, rfl⟩, .inr ⟨rfl, rfl⟩, fun _ => f1⟩
 · rcases stepB_cases m p ⟨p.x, cut64 (p.y + clampN 32768 b.y), p.z⟩ (clampN 32768 b.y) with ⟨e2, f2⟩ | ⟨e2, f2⟩ <;> simp only [e2]
   · rcases stepB_cases m ⟨p.x, cut64 (p.y + clampN 32768 b.y), p.z⟩ ⟨p.x, cut64 (p.y + clampN 32768 b.y), cut64 (p.z + clampN 32768 b.z)⟩ (clampN 32768 b.z) with ⟨e3, f3⟩ | ⟨e3, f3⟩ <;> simp only [e3]
     · exact ⟨_, _, _, _, _, _, rfl, .inr ⟨rfl, rfl⟩, .inl ⟨rfl, rfl⟩, .inl ⟨rfl, rfl⟩, fun _ => f3⟩
     · exact ⟨_, _, _, _, _, _, rfl, .inr ⟨rfl, rfl⟩, .inl ⟨rfl, rfl⟩, .inr ⟨rfl, rfl⟩, fun _ => f2⟩
   · rcases stepB_cases m p ⟨p.x, p.y, cut64 (p.z + clampN 32768 b.z)⟩ (clampN 32768 b.z) with ⟨e3, f3⟩ | ⟨e3, f3⟩ <;> simp only [e3]
     · exact ⟨_, _, _, _, _, _, rfl, .inr ⟨rfl, rfl⟩, .inr ⟨rfl, rfl⟩, .inl ⟨rfl, rfl⟩, fun _ => f3⟩
     · exact ⟨_, _, _, _, _, _, rfl, .inr ⟨rfl, rfl⟩, .inr ⟨rfl, rfl⟩, .inr ⟨rfl, rfl⟩, fun h => h⟩
theorem stepB_third (m : Mp) (r : V3) (z d : Int) : (m.stepB r ⟨r.x, r.y, z⟩ d).1.x = r.x ∧ (m.stepB r ⟨r.x, r.y, z⟩ d).1.y = r.y := by
 rcases stepB_cases m r ⟨r.x, r.y, z⟩ d with ⟨e, _⟩ | ⟨e, _⟩ <;> rw [e] <;> exact ⟨rfl, rfl⟩
theorem slide_xy (m : Mp) (p : V3) (a b z z' : Int) : (m.slide p ⟨a, b, z⟩).1.x = (m.slide p ⟨a, b, z'⟩).1.x ∧ (m.slide p ⟨a, b, z⟩).1.y = (m.slide p ⟨a, b, z'⟩).1.y := by
 unfold Mp.slide
 dsimp only
 generalize (m.stepB (m.stepB p ⟨cut64 (p.x + clampN 32768 a), p.y, p.z⟩ (clampN 32768 a)).1 ⟨(m.stepB p ⟨cut64 (p.x + clampN 32768 a), p.y, p.z⟩ (clampN 32768 a)).1.x, cut64 ((m.stepB p ⟨cut64 (p.x + clampN 32768 a), p.y, p.z⟩ (clampN 32768 a)).1.y + clampN 32768 b), (m.stepB p ⟨cut64 (p.x + clampN 32768 a), p.y, p.z⟩ (clampN 32768 a)).1.z⟩ (clampN 32768 b)).1 = r
 rw [(stepB_third m r _ _).1, (stepB_third m r _ _).1, (stepB_third m r _ _).2, (stepB_third m r _ _).2]
 exact ⟨rfl, rfl⟩
theorem cutM_in (n : Int) : -32768 ≤ cutM n ∧ cutM n ≤ 32768 := by unfold cutM; omega
theorem clampN_in {n : Int} (h : -32768 ≤ n ∧ n ≤ 32768) : clampN 32768 n = n := by unfold clampN; omega
theorem tickP_spec (m : Mp) (p : Pl) (c : Cm) (hd : ¬ p.dead > 0) : ∃ (v : V3) (x y z : Int) (k1 k2 k3 : Bool), v = triedV (firmB p c) (jumpB p c) p c ∧ tickP m.slide p c = ⟨p.id, ⟨x, y, z⟩, ⟨bif k1 then 0 else v.x, bif k2 then 0 else v.y, bif k3 then 0 else v.z⟩, k3 && decide (v.z < 0), p.health, p.armour, p.score, p.a0, p.a1, p.wait, p.dead⟩ ∧ moved p.pos.x x v.x k1 ∧ moved p.pos.y y v.y k2 ∧ moved p.pos.z z v.z k3 ∧ (m.free p.pos = true → m.free ⟨x, y, z⟩ = true) := by
 obtain ⟨x, y, z, k1, k2, k3, e, h⟩ := slide_spec m p.pos (triedV (firmB p c) (jumpB p c) p c)
 refine ⟨_, x, y, z, k1, k2, k3, rfl, ?_, h⟩
 unfold tickP
 rw [decide_eq_false hd, cond_false, e]
 rfl
theorem moved_near {a b d : Int} {k : Bool} (ha : In64 a) (h : moved a b d k) : -32768 ≤ b - a ∧ b - a ≤ 32768 := by
 unfold In64 at ha
 rcases h with ⟨h, _⟩ | ⟨h, _⟩
 · unfold clampN cut64 at h; omega
 · omega
theorem moved_stay {a b d : Int} (h : moved a b d true) : b = a := by
 rcases h with ⟨_, h⟩ | ⟨h, _⟩
 · cases h
 · exact h
theorem bif_in {k : Bool} {n : Int} (h : -32768 ≤ n ∧ n ≤ 32768) : -32768 ≤ (bif k then 0 else n) ∧ (bif k then 0 else n) ≤ 32768 := by
 cases k
 · exact h
 · simp only [cond_true]; omega
theorem tickP_right {m : Mp} {p : Pl} {c : Cm} (h : wRight m.free p = true) : wRight m.free (tickP m.slide p c) = true := by
 by_cases hd : p.dead > 0
 · unfold tickP; rw [decide_eq_true hd]; exact h
 · obtain ⟨v, x, y, z, k1, k2, k3, hv, e, _, _, _, hf⟩ := tickP_spec m p c hd
   rw [wRight_iff] at h ⊢
   rw [e]
   subst hv
   exact ⟨bif_in (cutM_in _), bif_in (cutM_in _), bif_in (cutM_in _), hf h.2.2.2⟩
theorem walkN_right {m : Mp} {c : Cm} : ∀ (k : Nat) {p : Pl}, wRight m.free p = true → wRight m.free (walkN m.slide c k p) = true
 | 0, _, h => h
 | k + 1, _, h => walkN_right k (tickP_right h)
theorem walkP_right {m : Mp} {c : Cm} {p : Pl} (h : wRight m.free p = true) : wRight m.free (walkP m.slide p c) = true := by
 unfold walkP
 cases (decide (c.ticks < 1) || decide (c.ticks > 8))
 · exact walkN_right _ h
 · exact h
def sameBut (p q : Pl) : Prop := q = { p with pos := q.pos, vel := q.vel, ground := q.ground }
theorem tickP_same (m : Mp) (p : Pl) (c : Cm) : sameBut p (tickP m.slide p c) := by
 unfold sameBut tickP
 cases decide (p.dead > 0) <;> rfl
theorem sameBut_trans {p q r : Pl} (h1 : sameBut p q) (h2 : sameBut q r) : sameBut p r := by
 unfold sameBut at *
 rw [h2, h1]
theorem walkN_same {m : Mp} {c : Cm} : ∀ (k : Nat) (p : Pl), sameBut p (walkN m.slide c k p)
 | 0, _ => rfl
 | k + 1, p => sameBut_trans (tickP_same m p c) (walkN_same k _)
theorem walkN_dead {m : Mp} {c : Cm} : ∀ (k : Nat) {p : Pl}, p.dead > 0 → walkN m.slide c k p = p
 | 0, _, _ => rfl
 | k + 1, p, h => by
  unfold walkN
  have e : tickP m.slide p c = p := by unfold tickP; rw [decide_eq_true h]; rfl
  rw [e]
  exact walkN_dead k h
theorem walkP_same (m : Mp) (c : Cm) (p : Pl) : sameBut p (walkP m.slide p c) := by
 unfold walkP
 cases (decide (c.ticks < 1) || decide (c.ticks > 8))
 · exact walkN_same _ _
 · rfl
theorem walkP_dead {m : Mp} {c : Cm} {p : Pl} (h : p.dead > 0) : walkP m.slide p c = p := by
 unfold walkP
 cases (decide (c.ticks < 1) || decide (c.ticks > 8))
 · exact walkN_dead _ h
 · rfl
theorem walkN_ext {S : V3 → V3 → V3 × Bool × Bool × Bool} {c e : Cm} (h0 : c.buttons = e.buttons) (h3 : c.dx = e.dx) (h4 : c.dy = e.dy) : ∀ (k : Nat) (p : Pl), walkN S c k p = walkN S e k p
 | 0, _ => rfl
 | k + 1, p => by
  unfold walkN
  have h : tickP S p c = tickP S p e := tickP_ext (by unfold firmB; rw [h0]) (by unfold jumpB; rw [h0]) h3 h4
  rw [h]
  exact walkN_ext h0 h3 h4 k _
theorem walkN_add {S : V3 → V3 → V3 × Bool × Bool × Bool} {c : Cm} (b : Nat) : ∀ (a : Nat) (p : Pl), walkN S c (a + b) p = walkN S c b (walkN S c a p)
 | 0, p => by rw [Nat.zero_add]; rfl
 | a + 1, p => by rw [Nat.add_right_comm]; exact walkN_add b a _

end Go.Proofs.Ytimkhidniolpeaa

namespace Go.Proofs.Ytimkhidniolpeaa
set_option linter.unusedSimpArgs false
set_option linter.unusedVariables false
set_option maxRecDepth 100000
set_option maxHeartbeats 0
open Go.RowKit

structure WS.Inv (k : Nat) (s : WS) : Prop where
 map : mapOk s.w s.d s.h s.cells.length = true
 sp : 1 ≤ s.spawns.length ∧ s.spawns.length ≤ 64
 spf : ∀ a ∈ s.spawns, a.fits
 few : s.ps.length ≤ 8
 shots : s.shots.length ≤ 64
 given : 0 ≤ s.given ∧ s.given ≤ k
 fired : 0 ≤ s.fired ∧ s.fired ≤ k
 ps : ∀ p ∈ s.ps, 1 ≤ p.p.id ∧ p.p.id ≤ s.given ∧ p.p.pos.fits
 sh : ∀ t ∈ s.shots, t.pos.fits

theorem takeP_pos (p : Pl) (n : Int) : (takeP p n).id = p.id ∧ (takeP p n).pos = p.pos := by
 unfold takeP
 cases decide (p.dead > 0) || decide (n < 1)
 · cases decide (takeH p n ≤ 0) <;> exact ⟨rfl, rfl⟩
 · exact ⟨rfl, rfl⟩
theorem bumpP_pos (o s : Int) (q : Pl) : (bumpP o s q).id = q.id ∧ (bumpP o s q).pos = q.pos := by
 unfold bumpP
 cases q.id == o <;> exact ⟨rfl, rfl⟩
theorem burstL_get {F : Pl → Pl} {o : Int} {ps : List Pl} {i : Nat} {p : Pl} (h : ps[i]? = some p) : (burstL F o ps)[i]? = some (bumpP o (brSc F o ps 0) (F p)) := by
 unfold burstL
 rw [List.getElem?_map, List.getElem?_map, h]
 rfl
theorem brAt_get {B : List Pl} : ∀ {ps : List PL} {k i : Nat} {q : PL}, (brAt B k ps)[i]? = some q → ∃ p, ps[i]? = some p ∧ q = ⟨B.getD (k + i) Knd.pl.dflt, p.left⟩
 | [], _, _, _, h => by simp [brAt] at h
 | p :: ps, k, 0, q, h => by
  simp [brAt] at h
  exact ⟨p, by simp, h.symm⟩
 | p :: ps, k, i + 1, q, h => by
  rw [brAt, List.getElem?_cons_succ] at h
  obtain ⟨p', h1, h2⟩ := brAt_get h
  exact ⟨p', by simpa using h1, by rw [h2, show k + 1 + i = k + (i + 1) by omega]⟩
theorem burstW_mem {s : WS} {t : Sh} {q : PL} (h : q ∈ (burstW s t).ps) : ∃ p ∈ s.ps, ∃ sc, q = ⟨bumpP t.owner sc (s.mp.brQ t.pos p.p), p.left⟩ := by
 obtain ⟨i, hi⟩ := List.getElem?_of_mem h
 obtain ⟨p, hp, rfl⟩ := brAt_get hi
 refine ⟨p, List.mem_of_getElem? hp, brSc (s.mp.brQ t.pos) t.owner (s.ps.map PL.p) 0, ?_⟩
 have h1 : (s.ps.map PL.p)[i]? = some p.p := by rw [List.getElem?_map, hp]; rfl
 have h2 := burstL_get (F := s.mp.brQ t.pos) (o := t.owner) h1
 unfold burstB
 simp only [Nat.zero_add, List.getD, h2]
 rfl
theorem burstW_pos {s : WS} {t : Sh} {q : PL} (h : q ∈ (burstW s t).ps) : ∃ p ∈ s.ps, q.p.id = p.p.id ∧ q.p.pos = p.p.pos ∧ q.left = p.left := by
 obtain ⟨p, hp, sc, rfl⟩ := burstW_mem h
 refine ⟨p, hp, ?_, ?_, rfl⟩
 · show (bumpP t.owner sc (s.mp.brQ t.pos p.p)).id = _
   rw [(bumpP_pos _ _ _).1]
   exact (takeP_pos _ _).1
 · show (bumpP t.owner sc (s.mp.brQ t.pos p.p)).pos = _
   rw [(bumpP_pos _ _ _).2]
   exact (takeP_pos _ _).2

structure WS.Fl (s : WS) : Prop where
 map : mapOk s.w s.d s.h s.cells.length = true
 few : s.ps.length ≤ 8
 ps : ∀ p ∈ s.ps, p.p.pos.fits
theorem WS.Inv.fl {k : Nat} {s : WS} (h : s.Inv k) : s.Fl := ⟨h.map, h.few, fun p hp => (h.ps p hp).2.2⟩
theorem flyOk_of {s : WS} {t : Sh} (h : s.Fl) (ht : t.pos.fits) : flyOk s t = true := by
 have h1 : decide (0 + s.cells.length ≤ s.cells.length) = true := by simp
 unfold flyOk
 rw [h.map, fitsB_iff.2 ht, h1]
 simp only [Bool.and_self, Bool.true_and]
 unfold burstOkB
 split
 · rfl
 · unfold buOk
   rw [h.map, fitsB_iff.2 (stepS_fits ht), h1]
   simp only [Bool.and_self, Bool.true_and, Bool.and_eq_true, List.all_eq_true, decide_eq_true_eq, List.length_map, List.mem_map]
   refine ⟨?_, trivial, by have := h.few; omega⟩
   rintro q ⟨p, hp, rfl⟩
   exact fitsB_iff.2 (h.ps p hp)
theorem flyS_facts {s : WS} {t : Sh} (ht : t.pos.fits) : (flyS s t).2.1.pos.fits ∧ ∀ q ∈ (flyS s t).1.ps, ∃ p ∈ s.ps, q.p.id = p.p.id ∧ q.p.pos = p.p.pos ∧ q.left = p.left := by
 unfold flyS
 cases (stepS s.mp.at t).2 || hitL (stepS s.mp.at t).1 s.ps with
 | true => exact ⟨stepS_fits ht, fun q hq => burstW_pos hq⟩
 | false => exact ⟨stepS_fits ht, fun q hq => ⟨q, hq, rfl, rfl, rfl⟩⟩
theorem flyS_fl {s : WS} {t : Sh} (h : s.Fl) (ht : t.pos.fits) : (flyS s t).1.Fl := by
 have hs := flyS_same s t
 refine ⟨by rw [hs]; exact h.map, by rw [flyS_len]; exact h.few, fun q hq => ?_⟩
 obtain ⟨p, hp, _, h2, _⟩ := (flyS_facts ht).2 q hq
 rw [h2]
 exact h.ps p hp
theorem fliesG_facts : ∀ (ts : List Sh) (s : WS) (left : List Sh), s.Fl → (∀ t ∈ ts, t.pos.fits) → fliesOk s ts = true ∧ (fliesG s left ts).1.Fl ∧ (∀ q ∈ (fliesG s left ts).1.ps, ∃ p ∈ s.ps, q.p.id = p.p.id ∧ q.p.pos = p.p.pos ∧ q.left = p.left) ∧
    ((∀ t ∈ left, t.pos.fits) → ∀ t ∈ (fliesG s left ts).2, t.pos.fits) ∧ (fliesG s left ts).2.length ≤ left.length + ts.length
 | [], s, left, h, _ => ⟨rfl, h, fun q hq => ⟨q, hq, rfl, rfl, rfl⟩, fun h => h, by simp [fliesG]⟩
 | t :: ts, s, left, h, ht => by
  have h1 := ht t (by simp)
  have hf := flyS_fl h h1
  obtain ⟨g1, g2, g3, g4, g5⟩ := fliesG_facts ts (flyS s t).1 (bif (flyS s t).2.2 then left ++ [(flyS s t).2.1] else left) hf (fun t' ht' => ht t' (by simp [ht']))
  rw [fliesG, fliesOk, flyOk_of h h1, g1]
  refine ⟨rfl, g2, fun q hq => ?_, fun hl => g4 ?_, ?_⟩
  · obtain ⟨p, hp, e1, e2, e3⟩ := g3 q hq
    obtain ⟨p', hp', e1', e2', e3'⟩ := (flyS_facts h1).2 p hp
    exact ⟨p', hp', e1.trans e1', e2.trans e2', e3.trans e3'⟩
  · cases (flyS s t).2.2 with
    | false => exact hl
    | true =>
     intro t' ht'
     simp only [cond_true, List.mem_append, List.mem_singleton] at ht'
     rcases ht' with ht' | rfl
     · exact hl t' ht'
     · exact (flyS_facts h1).1
  · cases hb : (flyS s t).2.2 <;> rw [hb] at g5 <;> simp at g5 ⊢ <;> omega
theorem fliesF_facts : ∀ (k : Nat) (i : Int) (s : WS) (t : Sh), s.Fl → t.pos.fits → fliesFOk k s t = true ∧ (fliesF k i s t).1.Fl ∧ (∀ q ∈ (fliesF k i s t).1.ps, ∃ p ∈ s.ps, q.p.id = p.p.id ∧ q.p.pos = p.p.pos ∧ q.left = p.left) ∧ (fliesF k i s t).2.1.pos.fits
 | 0, i, s, t, h, ht => ⟨rfl, h, fun q hq => ⟨q, hq, rfl, rfl, rfl⟩, ht⟩
 | k + 1, i, s, t, h, ht => by
  rw [fliesFOk, fliesF, flyOk_of h ht]
  cases hb : (flyS s t).2.2 with
  | true =>
   obtain ⟨g1, g2, g3, g4⟩ := fliesF_facts k (i + 1) (flyS s t).1 (flyS s t).2.1 (flyS_fl h ht) (flyS_facts ht).1
   refine ⟨by simpa using g1, g2, fun q hq => ?_, g4⟩
   obtain ⟨p, hp, e1, e2, e3⟩ := g3 q hq
   obtain ⟨p', hp', e1', e2', e3'⟩ := (flyS_facts ht).2 p hp
   exact ⟨p', hp', e1.trans e1', e2.trans e2', e3.trans e3'⟩
  | false => exact ⟨rfl, flyS_fl h ht, (flyS_facts ht).2, (flyS_facts ht).1⟩

end Go.Proofs.Ytimkhidniolpeaa

namespace Go.Proofs.Ytimkhidniolpeaa
set_option linter.unusedSimpArgs false
set_option linter.unusedVariables false
set_option maxRecDepth 100000
set_option maxHeartbeats 0
open Go.RowKit

theorem WS.Inv.more {k : Nat} {s : WS} (h : s.Inv k) : s.Inv (k + 1) :=
 ⟨h.map, h.sp, h.spf, h.few, h.shots, ⟨h.given.1, by have := h.given.2; omega⟩, ⟨h.fired.1, by have := h.fired.2; omega⟩, h.ps, h.sh⟩
theorem place_ok {s : WS} {id : Int} (hs : 1 ≤ s.spawns.length ∧ s.spawns.length ≤ 64) (h1 : 1 ≤ id) (h2 : id ≤ 1000000) : placeB s id = true ∧ s.place id ∈ s.spawns := by
 have hw : IntKind.i64.wrap (id - 1) = id - 1 := i64_wrap (by omega) (by omega)
 have hi : spawnI s id = (id - 1) % (s.spawns.length : Int) := by
  unfold spawnI
  rw [hw, Int.tmod_eq_emod_of_nonneg (by omega)]
 have h3 : 0 ≤ spawnI s id := by rw [hi]; exact Int.emod_nonneg _ (by omega)
 have h4 : spawnI s id < (s.spawns.length : Int) := by rw [hi]; exact Int.emod_lt_of_pos _ (by omega)
 have h5 : 0 + (spawnI s id).toNat < s.spawns.length := by omega
 refine ⟨?_, ?_⟩
 · unfold placeB
   simp only [Bool.and_eq_true, decide_eq_true_eq, Bool.not_eq_true', decide_eq_false_iff_not]
   exact ⟨by omega, ⟨h3, h4⟩, h5⟩
 · unfold WS.place
   rw [List.getD_eq_getElem?_getD, List.getElem?_eq_getElem h5]
   exact List.getElem_mem _

theorem sameBut_id {p q : Pl} (h : sameBut p q) : q.id = p.id := by
 unfold sameBut at h
 rw [h]
theorem doL_facts {s : WS} {id : Int} {c : Cm} : ∀ {ps : List PL} {q : PL}, q ∈ (doL s id c ps).2 → (∀ p ∈ ps, p.p.pos.fits) → ∃ p ∈ ps, q.p.id = p.p.id ∧ q.p.pos.fits
 | [], _, h, _ => by simp [doL] at h
 | p :: ps, q, h, hf => by
  rw [doL] at h
  cases hid : p.p.id == id with
  | false =>
   rw [hid] at h
   simp only [cond_false, List.mem_cons] at h
   rcases h with rfl | h
   · exact ⟨_, by simp, rfl, hf _ (by simp)⟩
   · obtain ⟨p', h1, h2⟩ := doL_facts h (fun p hp => hf p (by simp [hp]))
     exact ⟨p', by simp [h1], h2⟩
  | true =>
   rw [hid] at h
   have old : q ∈ p :: ps → ∃ p' ∈ p :: ps, q.p.id = p'.p.id ∧ q.p.pos.fits := fun hq => ⟨q, hq, rfl, hf q hq⟩
   cases hb : badC c with
   | true => rw [hb] at h; exact old h
   | false =>
    rw [hb] at h
    cases hl : decide (c.ticks > p.left) with
    | true => rw [hl] at h; exact old h
    | false =>
     rw [hl] at h
     simp only [cond_true, cond_false, List.mem_cons] at h
     rcases h with rfl | h
     · exact ⟨p, by simp, sameBut_id (walkP_same s.mp c p.p), walkP_fits (hf p (by simp))⟩
     · exact old (by simp [h])
theorem WS.Inv.doS {k : Nat} {s : WS} (h : s.Inv k) (id : Int) (c : Cm) : mapB s = true ∧ (doS s id c).Inv k := by
 refine ⟨?_, h.map, h.sp, h.spf, ?_, h.shots, h.given, h.fired, fun q hq => ?_, h.sh⟩
 · unfold mapB
   rw [h.map, Bool.true_and, List.all_eq_true]
   exact fun p hp => fitsB_iff.2 (h.ps p hp).2.2
 · show (doL s id c s.ps).2.length ≤ 8
   rw [doL_len]
   exact h.few
 · obtain ⟨p, hp, h1, h2⟩ := doL_facts (s := s) (id := id) (c := c) hq (fun p hp => (h.ps p hp).2.2)
   rw [h1]
   exact ⟨(h.ps p hp).1, (h.ps p hp).2.1, h2⟩

theorem WS.Inv.nowS {k : Nat} {s : WS} (h : s.Inv k) : (nowS s).Fl := ⟨h.map, h.few, fun p hp => (h.ps p hp).2.2⟩
theorem WS.Inv.tick {k : Nat} {s : WS} (h : s.Inv k) (hk : k ≤ 1000) : okTick s = true ∧ (tickW s).Inv k := by
 obtain ⟨g1, g2, g3, g4, g5⟩ := fliesG_facts s.shots (Go.Proofs.Ytimkhidniolpeaa.nowS s) [] h.nowS h.sh
 have hlen := (fliesG_len s.shots (Go.Proofs.Ytimkhidniolpeaa.nowS s) []).1
 have hsame := (fliesG_len s.shots (Go.Proofs.Ytimkhidniolpeaa.nowS s) []).2
 have hid : ∀ q ∈ (fliesG (Go.Proofs.Ytimkhidniolpeaa.nowS s) [] s.shots).1.ps, 1 ≤ q.p.id ∧ q.p.id ≤ s.given := by
  intro q hq
  obtain ⟨p, hp, e1, _, _⟩ := g3 q hq
  rw [e1]
  exact ⟨(h.ps p hp).1, (h.ps p hp).2.1⟩
 have hgk := h.given.2
 have hpl : ∀ q ∈ (fliesG (Go.Proofs.Ytimkhidniolpeaa.nowS s) [] s.shots).1.ps, placeB (fliesG (Go.Proofs.Ytimkhidniolpeaa.nowS s) [] s.shots).1 q.p.id = true ∧ (fliesG (Go.Proofs.Ytimkhidniolpeaa.nowS s) [] s.shots).1.place q.p.id ∈ s.spawns := by
  intro q hq
  have := place_ok (s := s) h.sp (hid q hq).1 (by have := (hid q hq).2; omega)
  rw [hsame]
  exact this
 refine ⟨?_, ?_⟩
 · unfold okTick
   rw [g1]
   simp only [Bool.true_and, Bool.and_eq_true, decide_eq_true_eq, List.all_eq_true]
   refine ⟨by have := h.shots; omega, fun q hq => ?_⟩
   unfold okPl
   rw [(hpl q hq).1, Bool.or_true]
 · have e : tickW s = { s with now := IntKind.i64.wrap (s.now + 1), ps := (fliesG (Go.Proofs.Ytimkhidniolpeaa.nowS s) [] s.shots).1.ps.map (stepPl (fliesG (Go.Proofs.Ytimkhidniolpeaa.nowS s) [] s.shots).1), shots := (fliesG (Go.Proofs.Ytimkhidniolpeaa.nowS s) [] s.shots).2 } := by
    unfold tickW stepAll
    rw [hsame]
    rfl
   rw [e]
   refine ⟨h.map, h.sp, h.spf, ?_, ?_, h.given, h.fired, fun q hq => ?_, ?_⟩
   · simp only [List.length_map]
     rw [hlen]
     exact h.few
   · simpa using Nat.le_trans g5 (by simpa using h.shots)
   · simp only [List.mem_map] at hq
     obtain ⟨p, hp, rfl⟩ := hq
     unfold stepPl
     cases hd : p.p.dead == 1 with
     | true => exact ⟨(hid p hp).1, (hid p hp).2, h.spf _ (hpl p hp).2⟩
     | false => exact ⟨(hid p hp).1, (hid p hp).2, g2.ps p hp⟩
   · exact g4 (by simp)

theorem WS.Inv.join {k : Nat} {s : WS} (h : s.Inv k) (hk : k ≤ 1000) : okJ s = true ∧ (joinW s).Inv (k + 1) := by
 have hg := h.given
 have hw : IntKind.i64.wrap (s.given + 1) = s.given + 1 := i64_wrap (by omega) (by omega)
 have hp := place_ok (s := s) (id := s.given + 1) h.sp (by omega) (by omega)
 unfold okJ joinW
 cases hf : fullB s with
 | true => exact ⟨rfl, h.more⟩
 | false =>
  rw [hw, hp.1]
  refine ⟨rfl, h.map, h.sp, h.spf, ?_, h.shots, ?_, ⟨h.fired.1, by have := h.fired.2; show s.fired ≤ _; omega⟩, fun q hq => ?_, h.sh⟩
  · have h8 := h.few
    have : s.ps.length ≠ 8 := fun e => by unfold fullB at hf; rw [e] at hf; cases hf
    simp only [cond_false, joinS, List.length_append, List.length_cons, List.length_nil]
    omega
  · show 0 ≤ IntKind.i64.wrap (s.given + 1) ∧ IntKind.i64.wrap (s.given + 1) ≤ _
    rw [hw]
    omega
  · simp only [cond_false, joinS, List.mem_append, List.mem_singleton] at hq ⊢
    rw [hw] at hq ⊢
    rcases hq with hq | rfl
    · have := h.ps q hq
      exact ⟨this.1, by omega, this.2.2⟩
    · exact ⟨by show 1 ≤ s.given + 1; omega, Int.le_refl _, h.spf _ hp.2⟩
theorem WS.Inv.leave {k : Nat} {s : WS} (h : s.Inv k) (id : Int) : (leaveW s id).Inv k :=
 ⟨h.map, h.sp, h.spf, Nat.le_trans (List.length_filter_le ..) h.few, h.shots, h.given, h.fired, fun q hq => h.ps q (List.mem_filter.1 hq).1, h.sh⟩

theorem fireP_same (p : Pl) (k : Int) : (fireP p k).1.id = p.id ∧ (fireP p k).1.pos = p.pos := by
 unfold fireP fireG
 cases k == 0 <;> cases decide (p.dead > 0) <;> cases decide (p.wait > 0) <;> first | (cases decide (p.a0 ≤ 0) <;> exact ⟨rfl, rfl⟩) | (cases decide (p.a1 ≤ 0) <;> exact ⟨rfl, rfl⟩)
theorem fireL_facts {k : Nat} {s : WS} (h : s.Inv k) (hk : k ≤ 1000) {id kd : Int} {d : V3} {ahead : Int} : ∀ (ps pre : List PL), s.ps = pre ++ ps → fireOkL s id kd d ahead pre ps = true ∧ (fireL s id kd d ahead pre ps).1.Inv (k + 1)
 | [], pre, _ => ⟨rfl, h.more⟩
 | p :: ps, pre, hs => by
  rw [fireOkL, fireL]
  cases hid : p.p.id == id with
  | false => exact fireL_facts h hk ps (pre ++ [p]) (by simp [hs])
  | true =>
   simp only [cond_true]
   unfold fireOk1 fire1
   cases hn : newE kd d != 0 with
   | true => exact ⟨rfl, h.more⟩
   | false =>
   cases he : (fireP p.p kd).2 != 0 with
   | true => exact ⟨rfl, h.more⟩
   | false =>
   cases h64 : (s.shots.length : Int) == 64 with
   | true => exact ⟨rfl, h.more⟩
   | false =>
    simp only [cond_false]
    have hp : p ∈ s.ps := by rw [hs]; simp
    have hw : IntKind.i64.wrap (s.fired + 1) = s.fired + 1 := i64_wrap (by have := h.fired.1; omega) (by have := h.fired.2; omega)
    have hmem : ∀ q ∈ (firedS s pre p ps kd).ps, ∃ p' ∈ s.ps, q.p.id = p'.p.id ∧ q.p.pos = p'.p.pos := by
     intro q hq
     simp only [firedS, List.mem_append, List.mem_cons] at hq
     rcases hq with hq | rfl | hq
     · exact ⟨q, by rw [hs]; simp [hq], rfl, rfl⟩
     · exact ⟨p, hp, (fireP_same p.p kd).1, (fireP_same p.p kd).2⟩
     · exact ⟨q, by rw [hs]; simp [hq], rfl, rfl⟩
    have hlen : (firedS s pre p ps kd).ps.length = s.ps.length := by rw [hs]; simp [firedS]
    have hF : (firedS s pre p ps kd).Fl := ⟨h.map, by rw [hlen]; exact h.few, fun q hq => by
     obtain ⟨p', h1, _, h2⟩ := hmem q hq
     rw [h2]
     exact (h.ps p' h1).2.2⟩
    have hT : (fireSh s p id kd d).pos.fits := by
     unfold fireSh newS
     cases newBad kd d with
     | true => exact (by unfold V3.fits In64; decide : (⟨0, 0, 0⟩ : V3).fits)
     | false => exact (h.ps p hp).2.2
    obtain ⟨g1, g2, g3, g4⟩ := fliesF_facts (fireB ahead).toNat 0 (firedS s pre p ps kd) (fireSh s p id kd d) hF hT
    obtain ⟨l1, l2⟩ := fliesF_len (fireB ahead).toNat 0 (firedS s pre p ps kd) (fireSh s p id kd d)
    refine ⟨g1, ?_⟩
    have base : (zF (firedS s pre p ps kd) (fireSh s p id kd d) (fireB ahead)).1.Inv (k + 1) := by
     unfold zF
     rw [l2]
     refine ⟨h.map, h.sp, h.spf, ?_, h.shots, ⟨h.given.1, by have := h.given.2; show s.given ≤ _; omega⟩, ?_, fun q hq => ?_, h.sh⟩
     · show (fliesF (fireB ahead).toNat 0 (firedS s pre p ps kd) (fireSh s p id kd d)).1.ps.length ≤ 8
       rw [l1, hlen]
       exact h.few
     · show 0 ≤ IntKind.i64.wrap (s.fired + 1) ∧ IntKind.i64.wrap (s.fired + 1) ≤ _
       rw [hw]
       have := h.fired
       omega
     · obtain ⟨p1, hp1, e1, e2, _⟩ := g3 q hq
       obtain ⟨p2, hp2, e1', e2'⟩ := hmem p1 hp1
       rw [e1, e1', e2, e2']
       exact h.ps p2 hp2
    unfold fire2
    cases hz : (zF (firedS s pre p ps kd) (fireSh s p id kd d) (fireB ahead)).2.2.1 with
    | false => exact base
    | true =>
     refine ⟨base.map, base.sp, base.spf, base.few, ?_, base.given, base.fired, base.ps, fun t ht => ?_⟩
     · have h1 := h.shots
       have h2 : s.shots.length ≠ 64 := fun e => by rw [e] at h64; cases h64
       show (s.shots ++ [_]).length ≤ 64
       simp only [List.length_append, List.length_cons, List.length_nil]
       omega
     · have ht : t ∈ s.shots ++ [(zF (firedS s pre p ps kd) (fireSh s p id kd d) (fireB ahead)).2.1] := ht
       simp only [List.mem_append, List.mem_singleton] at ht
       rcases ht with ht | rfl
       · exact h.sh t ht
       · exact g4
theorem WS.Inv.fire {k : Nat} {s : WS} (h : s.Inv k) (hk : k ≤ 1000) (id kd : Int) (d : V3) (ahead : Int) : okFire s id kd d ahead = true ∧ (fireS s id kd d ahead).1.Inv (k + 1) := by
 obtain ⟨h1, h2⟩ := fireL_facts h hk (id := id) (kd := kd) (d := d) (ahead := ahead) s.ps [] rfl
 refine ⟨?_, h2⟩
 unfold okFire
 rw [h1, Bool.and_true, decide_eq_true_eq]
 have := h.shots
 omega

theorem WS.Inv.op {k : Nat} {s : WS} (h : s.Inv k) (hk : k ≤ 1000) (o : WOp) : opOk s o = true ∧ (opS s o).1.Inv (k + 1) := by
 unfold opOk opS
 cases o.kind == 0 || o.kind == 1 with
 | true => exact ⟨(h.doS o.player o.cmd).1, (h.doS o.player o.cmd).2.more⟩
 | false =>
 cases o.kind == 2 || o.kind == 3 with
 | true => exact h.fire hk o.player o.shot o.dir o.ahead
 | false =>
 cases o.kind == 4 || (o.kind == 5 || o.kind == 6) with
 | true => exact ⟨(h.tick hk).1, (h.tick hk).2.more⟩
 | false =>
 cases o.kind == 7 with
 | true => exact h.join hk
 | false =>
 cases o.kind == 8 with
 | true => exact ⟨rfl, (h.leave o.player).more⟩
 | false => exact ⟨rfl, h.more⟩

end Go.Proofs.Ytimkhidniolpeaa
