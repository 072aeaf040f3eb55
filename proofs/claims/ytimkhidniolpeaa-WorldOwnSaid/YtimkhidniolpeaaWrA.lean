/- Games, in plain words: players stay right, IDs rise, fuses burn. -/
import Derived.Test.YtimkhidniolpeaaWoX
namespace Go.Proofs.Ytimkhidniolpeaa
set_option linter.unusedSimpArgs false
set_option linter.unusedVariables false
set_option maxRecDepth 100000
set_option maxHeartbeats 0
open Go.RowKit

structure PlOk (F : V3 → Bool) (p : Pl) : Prop where
 right : wRight F p = true
 health : 0 ≤ p.health ∧ p.health ≤ 100
 armour : p.armour = 0
 a0 : 0 ≤ p.a0 ∧ p.a0 ≤ 10
 a1 : 0 ≤ p.a1 ∧ p.a1 ≤ 5
 wait : 0 ≤ p.wait ∧ p.wait ≤ 10
 dead : 0 ≤ p.dead ∧ p.dead ≤ 30
 both : p.health = 0 ↔ 0 < p.dead

theorem hurt_in (m : Mp) (a : V3) (p : Pl) : 0 ≤ m.hurt a p ∧ m.hurt a p ≤ 100 := by
 unfold Mp.hurt
 cases hb : (decide (p.dead > 0) || decide (nearN a p ≤ 0)) || !m.sight a p.pos with
 | true => exact ⟨Int.le_refl _, by simp⟩
 | false =>
  simp only [cond_false]
  simp only [Bool.or_eq_false_iff, decide_eq_false_iff_not] at hb
  have h1 : 0 ≤ (p.pos.minus a).long ∧ (p.pos.minus a).long ≤ 9223372036854775807 := by first | (unfold V3.long; omega) | (unfold V3.long signedN; simp; omega)
  have h2 := hb.1.2
  unfold nearN at h2 ⊢
  rw [IntWalk.i64_in (196608 - (p.pos.minus a).long) (by omega)] at h2 ⊢
  generalize (p.pos.minus a).long = z at h1 h2
  rw [IntWalk.i64_in (100 * (196608 - z)) (by omega), Int.tdiv_eq_ediv_of_nonneg (by omega), IntWalk.i64_in _ (by omega)]
  omega

theorem PlOk.take {F : V3 → Bool} {p : Pl} (h : PlOk F p) {n : Int} (hn : 0 ≤ n ∧ n ≤ 100) : PlOk F (takeP p n) := by
 have hh := h.health
 have hb := h.both
 have hd := h.dead
 unfold takeP
 cases hc : decide (p.dead > 0) || decide (n < 1) with
 | true => exact h
 | false =>
  simp only [Bool.or_eq_false_iff, decide_eq_false_iff_not] at hc
  have ho : takeOff p n = 0 := by
   unfold takeOff
   rw [h.armour, Int.tdiv_eq_ediv_of_nonneg (by omega), IntWalk.i64_in _ (by omega)]
   omega
  have hH : takeH p n = p.health - n := by
   unfold takeH
   rw [ho, IntWalk.i64_in (n - 0) (by omega), IntWalk.i64_in _ (by omega)]
   omega
  have hA : IntKind.i64.wrap (p.armour - takeOff p n) = 0 := by rw [ho, h.armour]; rfl
  rw [hH, hA]
  simp only [cond_false]
  cases hz : decide (p.health - n ≤ 0) with
  | true => exact ⟨h.right, ⟨Int.le_refl _, by simp⟩, rfl, h.a0, h.a1, h.wait, ⟨by simp, by simp⟩, ⟨fun _ => by simp, fun _ => rfl⟩⟩
  | false =>
   have hz := of_decide_eq_false hz
   refine ⟨h.right, ⟨?_, ?_⟩, rfl, h.a0, h.a1, h.wait, h.dead, ⟨fun hx => ?_, fun hx => ?_⟩⟩
   · show 0 ≤ p.health - n; omega
   · show p.health - n ≤ 100; omega
   · have : p.health - n = 0 := hx; omega
   · have : 0 < p.dead := hx; omega
theorem PlOk.bump {F : V3 → Bool} {p : Pl} (h : PlOk F p) (o s : Int) : PlOk F (bumpP o s p) := by
 unfold bumpP
 cases p.id == o with
 | true => exact ⟨h.right, h.health, h.armour, h.a0, h.a1, h.wait, h.dead, h.both⟩
 | false => exact h
theorem PlOk.fire {F : V3 → Bool} {p : Pl} (h : PlOk F p) (k : Int) : PlOk F (fireP p k).1 := by
 have h0 := h.a0
 have h1 := h.a1
 unfold fireP fireG
 cases k == 0 with
 | true =>
  simp only [cond_true]
  cases decide (p.dead > 0) with
  | true => exact h
  | false =>
  cases decide (p.wait > 0) with
  | true => exact h
  | false =>
  cases ha : decide (p.a0 ≤ 0) with
  | true => exact h
  | false =>
   have ha := of_decide_eq_false ha
   refine ⟨h.right, h.health, h.armour, ?_, h.a1, ⟨by simp, by simp⟩, h.dead, h.both⟩
   show 0 ≤ IntKind.i64.wrap (p.a0 - 1) ∧ IntKind.i64.wrap (p.a0 - 1) ≤ 10
   rw [IntWalk.i64_in _ (by omega)]
   omega
 | false =>
  simp only [cond_false]
  cases decide (p.dead > 0) with
  | true => exact h
  | false =>
  cases decide (p.wait > 0) with
  | true => exact h
  | false =>
  cases ha : decide (p.a1 ≤ 0) with
  | true => exact h
  | false =>
   have ha := of_decide_eq_false ha
   refine ⟨h.right, h.health, h.armour, h.a0, ?_, ⟨by simp, by simp⟩, h.dead, h.both⟩
   show 0 ≤ IntKind.i64.wrap (p.a1 - 1) ∧ IntKind.i64.wrap (p.a1 - 1) ≤ 5
   rw [IntWalk.i64_in _ (by omega)]
   omega
theorem wRight_at {F : V3 → Bool} {a : V3} (h : F a = true) (p : Pl) (hp : p.pos = a) (hv : p.vel = ⟨0, 0, 0⟩) : wRight F p = true := by
 rw [wRight_iff, hp, hv]
 exact ⟨by simp, by simp, by simp, h⟩
theorem PlOk.spawn {F : V3 → Bool} {a : V3} (h : F a = true) (id : Int) : PlOk F (spawnP id a) :=
 ⟨wRight_at h _ rfl rfl, ⟨by simp [spawnP], by simp [spawnP]⟩, rfl, ⟨by simp [spawnP], by simp [spawnP]⟩, ⟨by simp [spawnP], by simp [spawnP]⟩, ⟨by simp [spawnP], by simp [spawnP]⟩, ⟨by simp [spawnP], by simp [spawnP]⟩, by simp [spawnP]⟩
theorem PlOk.back {F : V3 → Bool} {a : V3} (h : F a = true) (p : Pl) : PlOk F (backP p a) :=
 ⟨wRight_at h _ rfl rfl, ⟨by simp [backP], by simp [backP]⟩, rfl, ⟨by simp [backP], by simp [backP]⟩, ⟨by simp [backP], by simp [backP]⟩, ⟨by simp [backP], by simp [backP]⟩, ⟨by simp [backP], by simp [backP]⟩, by simp [backP]⟩
theorem PlOk.atick {F : V3 → Bool} {p : Pl} (h : PlOk F p) (hd : p.dead ≠ 1) : PlOk F (atickP p) := by
 have hw := h.wait
 have hdd := h.dead
 have hb := h.both
 have ew : IntKind.i64.wrap (p.wait - min (max p.wait 0) 1) = p.wait - min (max p.wait 0) 1 := IntWalk.i64_in _ (by omega)
 have ed : IntKind.i64.wrap (p.dead - min (max p.dead 0) 1) = p.dead - min (max p.dead 0) 1 := IntWalk.i64_in _ (by omega)
 unfold atickP
 rw [ew, ed]
 refine ⟨h.right, h.health, h.armour, h.a0, h.a1, ?_, ?_, ?_⟩
 · show 0 ≤ p.wait - min (max p.wait 0) 1 ∧ p.wait - min (max p.wait 0) 1 ≤ 10
   omega
 · show 0 ≤ p.dead - min (max p.dead 0) 1 ∧ p.dead - min (max p.dead 0) 1 ≤ 30
   omega
 · show p.health = 0 ↔ 0 < p.dead - min (max p.dead 0) 1
   rw [hb]
   omega
theorem PlOk.walk {m : Mp} {p : Pl} (h : PlOk m.free p) (c : Cm) : PlOk m.free (walkP m.slide p c) := by
 have hs := walkP_same m c p
 have hr := walkP_right (c := c) h.right
 unfold sameBut at hs
 generalize walkP m.slide p c = q at hs hr ⊢
 rw [hs] at hr ⊢
 exact ⟨hr, h.health, h.armour, h.a0, h.a1, h.wait, h.dead, h.both⟩

theorem stepS_id (F : V3 → Bool) (t : Sh) : (stepS F t).1.id = t.id := by
 unfold stepS
 cases decide (IntKind.i64.wrap (t.fuse - 1) ≤ 0) <;> cases t.rest <;> cases t.kind == 0 <;> first | rfl | (cases F (flyTo t) <;> rfl) | (cases bdown F t.pos t.vel && slowV (bvel F t.pos t.vel) <;> rfl)
theorem stepS_owner (F : V3 → Bool) (t : Sh) : (stepS F t).1.owner = t.owner := by
 unfold stepS
 cases decide (IntKind.i64.wrap (t.fuse - 1) ≤ 0) <;> cases t.rest <;> cases t.kind == 0 <;> first | rfl | (cases F (flyTo t) <;> rfl) | (cases bdown F t.pos t.vel && slowV (bvel F t.pos t.vel) <;> rfl)
theorem stepS_fuse {F : V3 → Bool} {t : Sh} (h : (stepS F t).2 = false) : 1 ≤ (stepS F t).1.fuse := by
 unfold stepS at h ⊢
 cases hf : decide (IntKind.i64.wrap (t.fuse - 1) ≤ 0) with
 | true => rw [hf] at h; cases h
 | false =>
  have hf2 : 1 ≤ (lessF t).fuse := by
   have := of_decide_eq_false hf
   show 1 ≤ IntKind.i64.wrap (t.fuse - 1)
   omega
  rw [hf] at h
  simp only [cond_false] at h ⊢
  cases hr : t.rest with
  | true => exact hf2
  | false =>
   rw [hr] at h
   simp only [cond_false] at h ⊢
   cases hk : t.kind == 0 with
   | true =>
    rw [hk] at h
    simp only [cond_true] at h ⊢
    cases hF : F (flyTo t) with
    | true => exact hf2
    | false => exact hf2
   | false =>
    simp only [cond_false]
    cases bdown F t.pos t.vel && slowV (bvel F t.pos t.vel) with
    | true => exact hf2
    | false => exact hf2

def idsW (s : WS) : List Int := s.ps.map fun p => p.p.id
structure WS.Pls (s : WS) : Prop where
 spf : ∀ a ∈ s.spawns, s.mp.free a = true
 ids : (idsW s).Pairwise (· < ·)
 ps : ∀ p ∈ s.ps, PlOk s.mp.free p.p ∧ 0 ≤ p.left ∧ p.left ≤ 16

theorem brAt_ids {B : List Pl} : ∀ {ps : List PL} {k : Nat}, (∀ i p, ps[i]? = some p → (B.getD (k + i) Knd.pl.dflt).id = p.p.id) → (brAt B k ps).map (fun p => p.p.id) = ps.map fun p => p.p.id
 | [], _, _ => rfl
 | p :: ps, k, h => by
  rw [brAt, List.map_cons, List.map_cons, brAt_ids (k := k + 1) (fun i q hq => by rw [show k + 1 + i = k + (i + 1) by omega]; exact h (i + 1) q (by simpa using hq))]
  congr 1
  exact h 0 p (by simp)
theorem burstW_ids (s : WS) (t : Sh) : idsW (burstW s t) = idsW s := by
 unfold idsW
 refine brAt_ids fun i p hp => ?_
 have h1 : (s.ps.map PL.p)[i]? = some p.p := by rw [List.getElem?_map, hp]; rfl
 have h2 := burstL_get (F := s.mp.brQ t.pos) (o := t.owner) h1
 unfold burstB
 simp only [Nat.zero_add, List.getD, h2]
 show (bumpP t.owner _ (s.mp.brQ t.pos p.p)).id = _
 rw [(bumpP_pos _ _ _).1]
 exact (takeP_pos _ _).1
theorem flyS_pls {s : WS} {t : Sh} (h : s.Pls) : (flyS s t).1.Pls ∧ idsW (flyS s t).1 = idsW s := by
 unfold flyS
 cases (stepS s.mp.at t).2 || hitL (stepS s.mp.at t).1 s.ps with
 | false => exact ⟨h, rfl⟩
 | true =>
  simp only [cond_true]
  refine ⟨⟨h.spf, by rw [burstW_ids]; exact h.ids, fun q hq => ?_⟩, burstW_ids _ _⟩
  obtain ⟨p, hp, sc, rfl⟩ := burstW_mem hq
  have := h.ps p hp
  exact ⟨(this.1.take (hurt_in _ _ _)).bump _ _, this.2⟩
theorem flyS_shot {s : WS} {t : Sh} : (flyS s t).2.1.id = t.id ∧ (flyS s t).2.1.owner = t.owner ∧ ((flyS s t).2.2 = true → 1 ≤ (flyS s t).2.1.fuse) := by
 unfold flyS
 cases hb : (stepS s.mp.at t).2 || hitL (stepS s.mp.at t).1 s.ps with
 | true => exact ⟨stepS_id _ _, stepS_owner _ _, fun h => by cases h⟩
 | false => exact ⟨stepS_id _ _, stepS_owner _ _, fun _ => stepS_fuse (Bool.or_eq_false_iff.1 hb).1⟩
theorem fliesG_pls : ∀ (ts : List Sh) (s : WS) (left : List Sh), s.Pls → (fliesG s left ts).1.Pls ∧ ((fliesG s left ts).2.map Sh.id).Sublist (left.map Sh.id ++ ts.map Sh.id) ∧ ((∀ t ∈ left, 1 ≤ t.fuse) → ∀ t ∈ (fliesG s left ts).2, 1 ≤ t.fuse)
 | [], s, left, h => ⟨h, by simp [fliesG], fun h => h⟩
 | t :: ts, s, left, h => by
  have hf := flyS_shot (s := s) (t := t)
  obtain ⟨g1, g2, g3⟩ := fliesG_pls ts (flyS s t).1 (bif (flyS s t).2.2 then left ++ [(flyS s t).2.1] else left) (flyS_pls h).1
  rw [fliesG]
  refine ⟨g1, g2.trans ?_, fun hl => g3 ?_⟩
  · cases (flyS s t).2.2 with
    | true => simp [hf.1]
    | false =>
     simp only [cond_false, List.map_cons]
     exact List.Sublist.append_left (List.sublist_cons_self _ _) _
  · cases hb : (flyS s t).2.2 with
    | false => exact hl
    | true =>
     intro u hu
     simp only [cond_true, List.mem_append, List.mem_singleton] at hu
     rcases hu with hu | rfl
     · exact hl u hu
     · exact hf.2.2 hb
theorem fliesG_ids : ∀ (ts : List Sh) (s : WS) (left : List Sh), idsW (fliesG s left ts).1 = idsW s
 | [], _, _ => rfl
 | t :: ts, s, left => by
  rw [fliesG, fliesG_ids ts]
  unfold flyS
  cases (stepS s.mp.at t).2 || hitL (stepS s.mp.at t).1 s.ps with
  | false => rfl
  | true => exact burstW_ids _ _
theorem fliesF_pls : ∀ (k : Nat) (i : Int) (s : WS) (t : Sh), s.Pls → (fliesF k i s t).1.Pls ∧ idsW (fliesF k i s t).1 = idsW s ∧ (fliesF k i s t).2.1.id = t.id ∧ (fliesF k i s t).2.1.owner = t.owner ∧ (1 ≤ t.fuse → (fliesF k i s t).2.2.1 = true → 1 ≤ (fliesF k i s t).2.1.fuse)
 | 0, i, s, t, h => ⟨h, rfl, rfl, rfl, fun h _ => h⟩
 | k + 1, i, s, t, h => by
  have hf := flyS_shot (s := s) (t := t)
  have hp := flyS_pls (t := t) h
  rw [fliesF]
  cases hb : (flyS s t).2.2 with
  | false => exact ⟨hp.1, hp.2, hf.1, hf.2.1, fun _ h => by cases h⟩
  | true =>
   obtain ⟨g1, g2, g3, g4, g5⟩ := fliesF_pls k (i + 1) (flyS s t).1 (flyS s t).2.1 hp.1
   exact ⟨g1, g2.trans hp.2, g3.trans hf.1, g4.trans hf.2.1, fun _ => g5 (hf.2.2 hb)⟩

structure WS.Rgt (s : WS) : Prop where
 pls : s.Pls
 shi : (s.shots.map Sh.id).Pairwise (· < ·)
 sh : ∀ t ∈ s.shots, 1 ≤ t.fuse
 shf : ∀ t ∈ s.shots, t.id ≤ s.fired

theorem doL_ids {s : WS} {id : Int} {c : Cm} : ∀ {ps : List PL}, (doL s id c ps).2.map (fun p => p.p.id) = ps.map fun p => p.p.id
 | [] => rfl
 | p :: ps => by
  rw [doL]
  cases p.p.id == id with
  | false => simp only [cond_false, List.map_cons, doL_ids]
  | true =>
   cases badC c with
   | true => rfl
   | false =>
    cases decide (c.ticks > p.left) with
    | true => rfl
    | false =>
     simp only [cond_true, cond_false, List.map_cons]
     rw [sameBut_id (walkP_same s.mp c p.p)]
theorem badC_false {c : Cm} (h : badC c = false) : 1 ≤ c.ticks ∧ c.ticks ≤ 8 := by
 unfold badC at h
 cases h1 : decide (c.ticks < 1) with
 | true => rw [h1] at h; cases h
 | false =>
  cases h2 : decide (c.ticks > 8) with
  | true => rw [h1, h2] at h; cases h
  | false =>
   have := of_decide_eq_false h1
   have := of_decide_eq_false h2
   omega
theorem doL_pls {s : WS} {id : Int} {c : Cm} : ∀ {ps : List PL}, (∀ p ∈ ps, PlOk s.mp.free p.p ∧ 0 ≤ p.left ∧ p.left ≤ 16) → ∀ q ∈ (doL s id c ps).2, PlOk s.mp.free q.p ∧ 0 ≤ q.left ∧ q.left ≤ 16
 | [], _, _, h => by simp [doL] at h
 | p :: ps, hp, q, h => by
  rw [doL] at h
  cases hid : p.p.id == id with
  | false =>
   rw [hid] at h
   simp only [cond_false, List.mem_cons] at h
   rcases h with rfl | h
   · exact hp _ (by simp)
   · exact doL_pls (fun p' h' => hp p' (by simp [h'])) q h
  | true =>
   rw [hid] at h
   cases hb : badC c with
   | true => rw [hb] at h; exact hp q h
   | false =>
    rw [hb] at h
    cases hl : decide (c.ticks > p.left) with
    | true => rw [hl] at h; exact hp q h
    | false =>
     rw [hl] at h
     simp only [cond_true, cond_false, List.mem_cons] at h
     rcases h with rfl | h
     · have h1 := hp p (by simp)
       have h2 := badC_false hb
       have h3 := of_decide_eq_false hl
       refine ⟨h1.1.walk c, ?_⟩
       show 0 ≤ IntKind.i64.wrap (p.left - c.ticks) ∧ IntKind.i64.wrap (p.left - c.ticks) ≤ 16
       rw [IntWalk.i64_in _ (by omega)]
       omega
     · exact hp q (by simp [h])
theorem WS.Rgt.doS {s : WS} (h : s.Rgt) (id : Int) (c : Cm) : (doS s id c).Rgt :=
 ⟨⟨h.pls.spf, by unfold idsW; show ((doL s id c s.ps).2.map _).Pairwise _; rw [doL_ids]; exact h.pls.ids, doL_pls h.pls.ps⟩, h.shi, h.sh, h.shf⟩
theorem WS.Rgt.tick {k : Nat} {s : WS} (h : s.Rgt) (hi : s.Inv k) (hk : k ≤ 1000) : (tickW s).Rgt := by
 have hn : (nowS s).Pls := ⟨h.pls.spf, h.pls.ids, h.pls.ps⟩
 obtain ⟨g1, g2, g3⟩ := fliesG_pls s.shots (nowS s) [] hn
 obtain ⟨hlen, hsame⟩ := fliesG_len s.shots (nowS s) []
 obtain ⟨f1, f2, f3, f4, f5⟩ := fliesG_facts s.shots (nowS s) [] hi.nowS hi.sh
 have hpl : ∀ q ∈ (fliesG (nowS s) [] s.shots).1.ps, s.mp.free ((fliesG (nowS s) [] s.shots).1.place q.p.id) = true := by
  intro q hq
  obtain ⟨p, hp, e1, _, _⟩ := f3 q hq
  have hid := hi.ps p hp
  have hg := hi.given
  have := (place_ok (s := s) (id := q.p.id) hi.sp (by rw [e1]; exact hid.1) (by rw [e1]; omega)).2
  rw [hsame]
  exact h.pls.spf _ this
 have hmp : (fliesG (nowS s) [] s.shots).1.mp = s.mp := by rw [hsame]; rfl
 have e : tickW s = { s with now := IntKind.i64.wrap (s.now + 1), ps := (fliesG (nowS s) [] s.shots).1.ps.map (stepPl (fliesG (nowS s) [] s.shots).1), shots := (fliesG (nowS s) [] s.shots).2 } := by
  unfold tickW stepAll
  rw [hsame]
  rfl
 have hst : ∀ p : PL, (stepPl (fliesG (nowS s) [] s.shots).1 p).p.id = p.p.id := by
  intro p
  unfold stepPl
  cases p.p.dead == 1 <;> rfl
 have hids : idsW (fliesG (nowS s) [] s.shots).1 = idsW s := fliesG_ids s.shots (nowS s) []
 rw [e]
 refine ⟨⟨h.pls.spf, ?_, fun q hq => ?_⟩, ?_, g3 (by simp), fun t ht => ?_⟩
 · have : idsW { s with now := IntKind.i64.wrap (s.now + 1), ps := (fliesG (nowS s) [] s.shots).1.ps.map (stepPl (fliesG (nowS s) [] s.shots).1), shots := (fliesG (nowS s) [] s.shots).2 } = idsW s := by
    rw [← hids]
    unfold idsW
    simp only [List.map_map]
    exact List.map_congr_left fun p _ => hst p
   rw [this]
   exact h.pls.ids
 · simp only [List.mem_map] at hq
   obtain ⟨p, hp, rfl⟩ := hq
   obtain ⟨h1, h2, h3⟩ := g1.ps p hp
   rw [hmp] at h1
   have hw : IntKind.i64.wrap (p.left + 1) = p.left + 1 := IntWalk.i64_in _ (by omega)
   refine ⟨?_, ?_⟩
   · unfold stepPl
     cases hd : p.p.dead == 1 with
     | true => exact PlOk.back (hpl p hp) _
     | false => exact h1.atick (by simpa using hd)
   · show 0 ≤ min (IntKind.i64.wrap (p.left + 1)) 16 ∧ min (IntKind.i64.wrap (p.left + 1)) 16 ≤ 16
     rw [hw]
     omega
 · refine List.Pairwise.sublist g2 ?_
   simpa using h.shi
 · have hm : t.id ∈ (fliesG (nowS s) [] s.shots).2.map Sh.id := List.mem_map_of_mem ht
   have hm2 := g2.subset hm
   simp only [List.map_nil, List.nil_append, List.mem_map] at hm2
   obtain ⟨u, hu, e2⟩ := hm2
   have := h.shf u hu
   show t.id ≤ s.fired
   omega
theorem WS.Rgt.leave {s : WS} (h : s.Rgt) (id : Int) : (leaveW s id).Rgt :=
 ⟨⟨h.pls.spf, List.Pairwise.sublist ((List.filter_sublist).map _) h.pls.ids, fun q hq => h.pls.ps q (List.mem_filter.1 hq).1⟩, h.shi, h.sh, h.shf⟩
theorem WS.Rgt.join {k : Nat} {s : WS} (h : s.Rgt) (hi : s.Inv k) (hk : k ≤ 1000) : (joinW s).Rgt := by
 have hg := hi.given
 have hw : IntKind.i64.wrap (s.given + 1) = s.given + 1 := IntWalk.i64_in _ (by omega)
 have hp := (place_ok (s := s) (id := s.given + 1) hi.sp (by omega) (by omega)).2
 unfold joinW
 cases fullB s with
 | true => exact h
 | false =>
  simp only [cond_false]
  unfold joinS
  rw [hw]
  refine ⟨⟨h.pls.spf, ?_, fun q hq => ?_⟩, h.shi, h.sh, h.shf⟩
  · unfold idsW
    simp only [List.map_append, List.map_cons, List.map_nil, List.pairwise_append, List.mem_map, List.mem_singleton]
    refine ⟨h.pls.ids, List.pairwise_singleton _ _, ?_⟩
    rintro a ⟨p, hp, rfl⟩ b rfl
    have := hi.ps p hp
    show p.p.id < s.given + 1
    omega
  · simp only [List.mem_append, List.mem_singleton] at hq
    rcases hq with hq | rfl
    · exact h.pls.ps q hq
    · exact ⟨PlOk.spawn (h.pls.spf _ hp) _, by simp, by simp⟩
theorem fireL_rgt {k : Nat} {s : WS} (h : s.Rgt) (hi : s.Inv k) (hk : k ≤ 1000) {id kd : Int} {d : V3} {ahead : Int} : ∀ (ps pre : List PL), s.ps = pre ++ ps → (fireL s id kd d ahead pre ps).1.Rgt
 | [], pre, _ => h
 | p :: ps, pre, hs => by
  rw [fireL]
  cases hid : p.p.id == id with
  | false => exact fireL_rgt h hi hk ps (pre ++ [p]) (by simp [hs])
  | true =>
   simp only [cond_true]
   unfold fire1
   cases hn : newE kd d != 0 with
   | true => exact h
   | false =>
   cases (fireP p.p kd).2 != 0 with
   | true => exact h
   | false =>
   cases (s.shots.length : Int) == 64 with
   | true => exact h
   | false =>
    simp only [cond_false]
    have hw : IntKind.i64.wrap (s.fired + 1) = s.fired + 1 := IntWalk.i64_in _ (by have := hi.fired; omega)
    have hnb : newBad kd d = false := by
     unfold newE at hn
     cases hb : newBad kd d with
     | false => rfl
     | true => rw [hb] at hn; cases hn
    have hF : (firedS s pre p ps kd).Pls := by
     refine ⟨h.pls.spf, ?_, fun q hq => ?_⟩
     · have : idsW (firedS s pre p ps kd) = idsW s := by
        unfold idsW firedS
        rw [hs]
        simp [(fireP_same p.p kd).1]
       rw [this]
       exact h.pls.ids
     · simp only [firedS, List.mem_append, List.mem_cons] at hq
       rcases hq with hq | rfl | hq
       · exact h.pls.ps q (by rw [hs]; simp [hq])
       · have := h.pls.ps p (by rw [hs]; simp)
         exact ⟨this.1.fire kd, this.2⟩
       · exact h.pls.ps q (by rw [hs]; simp [hq])
    have hT : fireSh s p id kd d = ⟨s.fired + 1, id, kd, p.p.pos, velN (spN kd) d, fuN kd, false⟩ := by
     unfold fireSh newS
     rw [hnb, hw]
     rfl
    have hfu : 1 ≤ (fireSh s p id kd d).fuse := by
     rw [hT]
     show 1 ≤ fuN kd
     unfold fuN
     cases kd == 0 <;> simp
    obtain ⟨g1, g2, g3, g4, g5⟩ := fliesF_pls (fireB ahead).toNat 0 (firedS s pre p ps kd) (fireSh s p id kd d) hF
    obtain ⟨l1, l2⟩ := fliesF_len (fireB ahead).toNat 0 (firedS s pre p ps kd) (fireSh s p id kd d)
    have hsh : (zF (firedS s pre p ps kd) (fireSh s p id kd d) (fireB ahead)).1.shots = s.shots ∧ (zF (firedS s pre p ps kd) (fireSh s p id kd d) (fireB ahead)).1.fired = s.fired + 1 := by
     unfold zF
     rw [l2]
     exact ⟨rfl, hw⟩
    unfold fire2
    have base : (zF (firedS s pre p ps kd) (fireSh s p id kd d) (fireB ahead)).1.Rgt := ⟨g1, by rw [hsh.1]; exact h.shi, by rw [hsh.1]; exact h.sh, fun t ht => by rw [hsh.1] at ht; rw [hsh.2]; have := h.shf t ht; omega⟩
    cases hz : (zF (firedS s pre p ps kd) (fireSh s p id kd d) (fireB ahead)).2.2.1 with
    | false => exact base
    | true =>
     have hid1 : (zF (firedS s pre p ps kd) (fireSh s p id kd d) (fireB ahead)).2.1.id = s.fired + 1 := by
      have : (zF (firedS s pre p ps kd) (fireSh s p id kd d) (fireB ahead)).2.1.id = (fireSh s p id kd d).id := g3
      rw [this, hT]
     refine ⟨⟨g1.spf, g1.ids, g1.ps⟩, ?_, fun t ht => ?_, fun t ht => ?_⟩
     · show ((s.shots ++ [_]).map Sh.id).Pairwise (· < ·)
       simp only [List.map_append, List.map_cons, List.map_nil, List.pairwise_append, List.mem_map, List.mem_singleton]
       refine ⟨h.shi, List.pairwise_singleton _ _, ?_⟩
       rintro a ⟨t, ht, rfl⟩ b rfl
       have := h.shf t ht
       omega
     · have ht : t ∈ s.shots ++ [(zF (firedS s pre p ps kd) (fireSh s p id kd d) (fireB ahead)).2.1] := ht
       simp only [List.mem_append, List.mem_singleton] at ht
       rcases ht with ht | rfl
       · exact h.sh t ht
       · exact g5 hfu hz
     · have ht : t ∈ s.shots ++ [(zF (firedS s pre p ps kd) (fireSh s p id kd d) (fireB ahead)).2.1] := ht
       show t.id ≤ (zF (firedS s pre p ps kd) (fireSh s p id kd d) (fireB ahead)).1.fired
       rw [hsh.2]
       simp only [List.mem_append, List.mem_singleton] at ht
       rcases ht with ht | rfl
       · have := h.shf t ht; omega
       · omega
theorem WS.Rgt.op {k : Nat} {s : WS} (h : s.Rgt) (hi : s.Inv k) (hk : k ≤ 1000) (o : WOp) : (opS s o).1.Rgt := by
 unfold opS
 cases o.kind == 0 || o.kind == 1 with
 | true => exact h.doS o.player o.cmd
 | false =>
 cases o.kind == 2 || o.kind == 3 with
 | true => exact fireL_rgt h hi hk s.ps [] rfl
 | false =>
 cases o.kind == 4 || (o.kind == 5 || o.kind == 6) with
 | true => exact h.tick hi hk
 | false =>
 cases o.kind == 7 with
 | true => exact h.join hi hk
 | false =>
 cases o.kind == 8 with
 | true => exact h.leave o.player
 | false => exact h

def plN (ps : List Pl) (k : Int) : Pl := ps.getD (0 + k.toNat) Knd.pl.dflt
def shK (ts : List Sh) (k : Int) : Sh := ts.getD (0 + k.toNat) Knd.sh.dflt
def inL (np n : Nat) (k : Int) (K : Option Res2) : Option Res2 := bif decide (0 ≤ k) && decide (k < (np : Int)) then (bif decide (0 + k.toNat < n) then K else none) else none
def orR (c : Bool) (A K : Option Res2) : Option Res2 := bif (bif false then true else c) then A else K
def retR : Option Res2 := some (.nils, [])
theorem inL_true {np n k : Nat} {K : Option Res2} (h1 : k < np) (h2 : k < n) : inL np n (k : Int) K = K := by
 unfold inL
 rw [decide_eq_true (show (0 : Int) ≤ (k : Int) by omega), decide_eq_true (show (k : Int) < (np : Int) by omega), decide_eq_true (show 0 + ((k : Int)).toNat < n by omega)]
 rfl
theorem orR_no {c : Bool} {A K : Option Res2} (h : c = false) : orR c A K = K := by subst h; rfl

theorem rgt_new {w d h : Int} {len ls : Nat} {xs : List Bool} {sp : List V3} (hx : xs.length = len) (hs : sp.length = ls) (hv : newV w d h len 0 xs ls 0 sp = true) : (newG w d h len 0 xs ls 0 sp).Rgt := by
 refine ⟨⟨fun a ha => ?_, by simp [idsW, newG], by simp [newG]⟩, by simp [newG], by simp [newG], by simp [newG]⟩
 unfold newV Mp.right at hv
 simp only [Bool.and_eq_true] at hv
 have hf := allFree_iff.1 hv.2
 have ha : a ∈ sp := List.mem_of_mem_drop (List.mem_of_mem_take ha)
 obtain ⟨i, hi⟩ := List.getElem?_of_mem ha
 have hlt := (List.getElem?_eq_some_iff.1 hi).1
 have := hf i (by omega) (by omega)
 have e1 : spAt sp 0 i = a := by unfold spAt; rw [Nat.zero_add, List.getD_eq_getElem?_getD, hi]; rfl
 rw [e1] at this
 have e2 : (newG w d h len 0 xs ls 0 sp).mp = mpOf w d h len fun j => xs.getD (0 + j) false := by
  unfold WS.mp newG
  have : (xs.drop 0).take len = xs := by rw [List.drop_zero, ← hx, List.take_length]
  simp only [this, hx]
 rw [e2]
 exact this
theorem opsS_rgt (cs : List WOp) : ∀ (k i j : Nat) (s : WS), s.Inv j → s.Rgt → j + k ≤ 1000 → (opsS cs k i s).Rgt
 | 0, _, _, _, _, h, _ => h
 | k + 1, i, j, s, hi, h, hk => opsS_rgt cs k (i + 1) (j + 1) _ (hi.op (by omega) (opN cs i)).2 (h.op hi (by omega) (opN cs i)) (by omega)

theorem fireL_counts {s : WS} {id k : Int} {d : V3} {ahead : Int} : ∀ (ps pre : List PL), (fireL s id k d ahead pre ps).1.given = s.given ∧ (fireL s id k d ahead pre ps).1.mp = s.mp ∧
    ((fireL s id k d ahead pre ps).2.2 = 0 → (fireL s id k d ahead pre ps).2.1 = IntKind.i64.wrap (s.fired + 1) ∧ (fireL s id k d ahead pre ps).1.fired = IntKind.i64.wrap (s.fired + 1))
 | [], _ => ⟨rfl, rfl, fun h => by cases h⟩
 | p :: ps, pre => by
  rw [fireL]
  cases hid : p.p.id == id with
  | false => exact fireL_counts ps (pre ++ [p])
  | true =>
   simp only [cond_true]
   unfold fire1
   cases hn : newE k d != 0 with
   | true => exact ⟨rfl, rfl, fun h => by rw [bne_iff_ne] at hn; exact absurd h hn⟩
   | false =>
   cases he : (fireP p.p k).2 != 0 with
   | true => exact ⟨rfl, rfl, fun h => by rw [bne_iff_ne] at he; exact absurd h he⟩
   | false =>
   cases h64 : (s.shots.length : Int) == 64 with
   | true => exact ⟨rfl, rfl, fun h => by cases h⟩
   | false =>
    simp only [cond_false]
    have hz := (fliesF_len (fireB ahead).toNat 0 (firedS s pre p ps k) (fireSh s p id k d)).2
    have z1 : (zF (firedS s pre p ps k) (fireSh s p id k d) (fireB ahead)).1.given = s.given := by unfold zF; rw [hz]; rfl
    have z2 : (zF (firedS s pre p ps k) (fireSh s p id k d) (fireB ahead)).1.mp = s.mp := by unfold zF; rw [hz]; rfl
    have z3 : (zF (firedS s pre p ps k) (fireSh s p id k d) (fireB ahead)).1.fired = IntKind.i64.wrap (s.fired + 1) := by unfold zF; rw [hz]; rfl
    unfold fire2
    cases (zF (firedS s pre p ps k) (fireSh s p id k d) (fireB ahead)).2.2.1 with
    | true => exact ⟨z1, z2, fun _ => ⟨z3, z3⟩⟩
    | false => exact ⟨z1, z2, fun _ => ⟨z3, z3⟩⟩
theorem tickW_same (s : WS) : (tickW s).given = s.given ∧ (tickW s).fired = s.fired ∧ (tickW s).mp = s.mp := by
 unfold tickW stepAll
 rw [(fliesG_len s.shots (nowS s) []).2]
 exact ⟨rfl, rfl, rfl⟩
def gvB (o : WOp) (y : WS × Int × Int) : Bool := o.kind == 7 && y.2.2 == 0
def fdB (o : WOp) (y : WS × Int × Int) : Bool := (o.kind == 2 || o.kind == 3) && y.2.2 == 0
theorem opS_counts {k : Nat} {s : WS} (h : s.Inv k) (hk : k ≤ 1000) (o : WOp) : (opS s o).1.mp = s.mp ∧
    (gvB o (opS s o) = true → (opS s o).2.1 = s.given + 1 ∧ (opS s o).1.given = s.given + 1) ∧ (gvB o (opS s o) = false → (opS s o).1.given = s.given) ∧
    (fdB o (opS s o) = true → (opS s o).2.1 = s.fired + 1 ∧ (opS s o).1.fired = s.fired + 1) ∧ (fdB o (opS s o) = false → (opS s o).1.fired = s.fired) := by
 have wg : IntKind.i64.wrap (s.given + 1) = s.given + 1 := IntWalk.i64_in _ (by have := h.given; omega)
 have wf : IntKind.i64.wrap (s.fired + 1) = s.fired + 1 := IntWalk.i64_in _ (by have := h.fired; omega)
 unfold gvB fdB opS
 cases h1 : o.kind == 0 || o.kind == 1 with
 | true =>
  have e7 : (o.kind == 7) = false := by simp only [Bool.or_eq_true, beq_iff_eq] at h1; rw [beq_eq_false_iff_ne]; omega
  have e2 : (o.kind == 2 || o.kind == 3) = false := by simp only [Bool.or_eq_true, beq_iff_eq] at h1; simp only [Bool.or_eq_false_iff, beq_eq_false_iff_ne]; omega
  rw [e7, e2]
  exact ⟨rfl, (fun h => by cases h), fun _ => rfl, (fun h => by cases h), fun _ => rfl⟩
 | false =>
 cases h2 : o.kind == 2 || o.kind == 3 with
 | true =>
  have e7 : (o.kind == 7) = false := by simp only [Bool.or_eq_true, beq_iff_eq] at h2; rw [beq_eq_false_iff_ne]; omega
  obtain ⟨c1, c2, c3⟩ := fireL_counts (s := s) (id := o.player) (k := o.shot) (d := o.dir) (ahead := o.ahead) s.ps []
  rw [wf] at c3
  rw [e7]
  refine ⟨c2, (fun h => by cases h), fun _ => c1, fun h => c3 ?_, fun h => ?_⟩
  · have h : (fireS s o.player o.shot o.dir o.ahead).2.2 = 0 := by simpa using h
    exact h
  have hne : (fireS s o.player o.shot o.dir o.ahead).2.2 ≠ 0 := by simpa using h
  have := (fireL_refused (ps := s.ps) (pre := []) hne).1
  show (fireL s o.player o.shot o.dir o.ahead [] s.ps).1.fired = s.fired
  rw [this]
 | false =>
 cases h3 : o.kind == 4 || (o.kind == 5 || o.kind == 6) with
 | true =>
  have e7 : (o.kind == 7) = false := by simp only [Bool.or_eq_true, beq_iff_eq] at h3; rw [beq_eq_false_iff_ne]; omega
  obtain ⟨t1, t2, t3⟩ := tickW_same s
  rw [e7]
  exact ⟨t3, (fun h => by cases h), fun _ => t1, (fun h => by cases h), fun _ => t2⟩
 | false =>
 cases h4 : o.kind == 7 with
 | true =>
  unfold joinW
  cases hf : fullB s with
  | true => exact ⟨rfl, (fun h => by cases h), fun _ => rfl, (fun h => by cases h), fun _ => rfl⟩
  | false =>
   refine ⟨rfl, fun _ => ⟨wg, wg⟩, fun h => ?_, (fun h => by cases h), fun _ => rfl⟩
   cases h
 | false =>
 cases h5 : o.kind == 8 with
 | true => exact ⟨rfl, (fun h => by cases h), fun _ => rfl, (fun h => by cases h), fun _ => rfl⟩
 | false => exact ⟨rfl, (fun h => by cases h), fun _ => rfl, (fun h => by cases h), fun _ => rfl⟩

end Go.Proofs.Ytimkhidniolpeaa
