/- Games of one player, in plain words: a shot that is fired ahead, and one that flies by itself. -/
import Derived.Test.YtimkhidniolpeaaWrA
namespace Go.Proofs.Ytimkhidniolpeaa
set_option linter.unusedSimpArgs false
set_option linter.unusedVariables false
set_option maxRecDepth 100000
set_option maxHeartbeats 0
open Go.RowKit

noncomputable def tickN : Nat → WS → WS
 | 0, s => s
 | n + 1, s => tickN n (tickW s)
theorem tickN_inv : ∀ (n j : Nat) (s : WS), s.Inv j → j + n ≤ 1000 → (tickN n s).Inv (j + n)
 | 0, _, _, h, _ => h
 | n + 1, j, s, h, hn => by
  have := tickN_inv n (j + 1) (tickW s) (h.tick (by omega)).2.more (by omega)
  rw [tickN, show j + (n + 1) = j + 1 + n by omega]
  exact this

structure HSame (p q : Pl) : Prop where
 id : q.id = p.id
 pos : q.pos = p.pos
 health : q.health = p.health
 armour : q.armour = p.armour
 dead : q.dead = p.dead
theorem HSame.hurt {p q : Pl} (h : HSame p q) (m : Mp) (a : V3) : m.hurt a q = m.hurt a p := by
 unfold Mp.hurt nearN
 rw [h.pos, h.dead]
theorem HSame.take {p q : Pl} (h : HSame p q) (n : Int) : HSame (takeP p n) (takeP q n) := by
 have ho : takeOff q n = takeOff p n := by unfold takeOff; rw [h.armour]
 have hh : takeH q n = takeH p n := by unfold takeH; rw [ho, h.health]
 unfold takeP
 rw [h.dead, hh, ho, h.armour]
 cases decide (p.dead > 0) || decide (n < 1) with
 | true => exact h
 | false =>
  cases decide (takeH p n ≤ 0) with
  | true => exact ⟨h.id, h.pos, rfl, rfl, rfl⟩
  | false => exact ⟨h.id, h.pos, rfl, rfl, rfl⟩
theorem bump_same (o s : Int) (p : Pl) : HSame p (bumpP o s p) := by
 unfold bumpP
 cases p.id == o <;> exact ⟨rfl, rfl, rfl, rfl, rfl⟩
theorem HSame.trans {p q r : Pl} (h : HSame p q) (k : HSame q r) : HSame p r := ⟨k.id.trans h.id, k.pos.trans h.pos, k.health.trans h.health, k.armour.trans h.armour, k.dead.trans h.dead⟩
theorem take_dead {p : Pl} (n : Int) (hp : p.dead = 0) : (takeP p n).dead = 0 ∨ (takeP p n).dead = 30 := by
 unfold takeP
 cases decide (p.dead > 0) || decide (n < 1) with
 | true => exact .inl hp
 | false =>
  cases decide (takeH p n ≤ 0) with
  | true => exact .inr rfl
  | false => exact .inl hp
theorem atick_same {p : Pl} (hd : p.dead = 0) : HSame p (atickP p) := by
 refine ⟨rfl, rfl, rfl, rfl, ?_⟩
 show IntKind.i64.wrap (p.dead - min (max p.dead 0) 1) = p.dead
 rw [hd]
 rfl

theorem burst_one {s : WS} {t : Sh} {p : Pl} {l : Int} (hs : s.ps = [⟨p, l⟩]) : ∃ q, (burstW s t).ps = [⟨q, l⟩] ∧ HSame (takeP p (s.mp.hurt t.pos p)) q := by
 have h1 : idsW (burstW s t) = idsW s := burstW_ids s t
 unfold idsW at h1
 rw [hs] at h1
 obtain ⟨q, hq⟩ : ∃ q, (burstW s t).ps = [q] := by
  have hl := congrArg List.length h1
  simp only [List.length_map, List.length_cons, List.length_nil] at hl
  exact List.length_eq_one_iff.1 hl
 obtain ⟨p', hp', sc, rfl⟩ := burstW_mem (s := s) (t := t) (q := q) (by rw [hq]; simp)
 rw [hs, List.mem_singleton] at hp'
 subst hp'
 exact ⟨_, hq, bump_same _ _ _⟩
theorem fly_one {s : WS} {t : Sh} {p : Pl} {l : Int} (hs : s.ps = [⟨p, l⟩]) (ho : p.id = t.owner) : flyS s t = bif (stepS s.mp.at t).2 then (burstW s (stepS s.mp.at t).1, (stepS s.mp.at t).1, false) else (s, (stepS s.mp.at t).1, true) := by
 have hh : hitL (stepS s.mp.at t).1 s.ps = false := by
  rw [hs]
  unfold hitL hitL hitB
  rw [stepS_owner, ho]
  simp
 unfold flyS
 rw [hh, Bool.or_false]
theorem tick_ps {s : WS} {z : WS} {left : List Sh} (h : fliesG (nowS s) [] s.shots = (z, left)) : (tickW s).ps = z.ps.map (stepPl z) ∧ (tickW s).shots = left ∧ (tickW s).mp = z.mp := by
 unfold tickW stepAll
 rw [h]
 exact ⟨rfl, rfl, rfl⟩

theorem quiet_ticks : ∀ (n : Nat) (v : WS) (q : Pl) (l H : Int), v.shots = [] → v.ps = [⟨q, l⟩] → (q.dead = 0 ∧ q.health = H) ∨ (n : Int) + 2 ≤ q.dead ∧ q.dead ≤ 30 → (tickN n v).shots = [] ∧ ∃ r l', (tickN n v).ps = [⟨r, l'⟩] ∧ (r.dead > 0 ∨ r.health = H)
 | 0, v, q, l, H, h1, h2, h3 => ⟨h1, q, l, h2, h3.elim (fun h => .inr h.2) fun h => .inl (by omega)⟩
 | n + 1, v, q, l, H, h1, h2, h3 => by
  obtain ⟨e1, e2, _⟩ := tick_ps (s := v) (z := nowS v) (left := []) (by rw [h1]; rfl)
  rw [tickN]
  have hps : (tickW v).ps = [⟨bif q.dead == 1 then backP (atickP q) ((nowS v).place q.id) else atickP q, min (IntKind.i64.wrap (l + 1)) 16⟩] := by
   rw [e1]
   show (v.ps.map (stepPl (nowS v))) = _
   rw [h2]
   rfl
  have hb : (q.dead == 1) = false := by
   rw [beq_eq_false_iff_ne]
   rcases h3 with h3 | h3 <;> omega
  rw [hb] at hps
  refine quiet_ticks n (tickW v) (atickP q) _ H e2 hps ?_
  rcases h3 with ⟨h3, h4⟩ | ⟨h3, h4⟩
  · have := atick_same h3
    exact .inl ⟨this.dead.trans h3, this.health.trans h4⟩
  · refine .inr ?_
    show (n : Int) + 2 ≤ IntKind.i64.wrap (q.dead - min (max q.dead 0) 1) ∧ IntKind.i64.wrap (q.dead - min (max q.dead 0) 1) ≤ 30
    rw [IntWalk.i64_in _ (by omega)]
    omega
theorem ahead_main : ∀ (n : Nat) (i : Int) (s u : WS) (t : Sh) (p q : Pl) (l l' : Int), n ≤ 8 → s.ps = [⟨p, l⟩] → u.ps = [⟨q, l'⟩] → HSame p q → p.dead = 0 → u.shots = [t] → u.mp = s.mp → p.id = t.owner →
    (tickN n u).shots = (bif (fliesF n i s t).2.2.1 then [(fliesF n i s t).2.1] else []) ∧ ∃ r w l1 l2, (tickN n u).ps = [⟨r, l1⟩] ∧ (fliesF n i s t).1.ps = [⟨w, l2⟩] ∧ (r.dead > 0 ∨ r.health = w.health)
 | 0, i, s, u, t, p, q, l, l', _, hs, hu, hh, _, hsh, _, _ => ⟨hsh, q, p, l', l, hu, hs, .inr hh.health⟩
 | n + 1, i, s, u, t, p, q, l, l', hn, hs, hu, hh, hd, hsh, hm, ho => by
  have hn1 : (nowS u).ps = [⟨q, l'⟩] := hu
  have hm1 : (nowS u).mp = s.mp := hm
  have hfs := fly_one (t := t) hs ho
  have hfu := fly_one (t := t) hn1 (hh.id.trans ho)
  rw [hm1] at hfu
  have hqd : q.dead = 0 := hh.dead.trans hd
  rw [tickN, fliesF]
  cases hb : (stepS s.mp.at t).2 with
  | false =>
   rw [hb] at hfs hfu
   simp only [cond_false] at hfs hfu
   rw [hfs]
   obtain ⟨e1, e2, e3⟩ := tick_ps (s := u) (z := nowS u) (left := [(stepS s.mp.at t).1]) (by rw [hsh, fliesG, hfu]; rfl)
   have hps : (tickW u).ps = [⟨atickP q, min (IntKind.i64.wrap (l' + 1)) 16⟩] := by
    rw [e1, hn1]
    unfold stepPl
    simp only [List.map_cons, List.map_nil]
    rw [show (q.dead == 1) = false by rw [hqd]; rfl]
    rfl
   exact ahead_main n (i + 1) s (tickW u) (stepS s.mp.at t).1 p (atickP q) l _ (by omega) hs hps (hh.trans (atick_same hqd)) hd e2 (e3.trans hm1) (ho.trans (stepS_owner _ _).symm)
  | true =>
   rw [hb] at hfs hfu
   simp only [cond_true] at hfs hfu
   rw [hfs]
   obtain ⟨w, hw, hw2⟩ := burst_one (t := (stepS s.mp.at t).1) hs
   obtain ⟨r, hr, hr2⟩ := burst_one (t := (stepS s.mp.at t).1) hn1
   obtain ⟨e1, e2, e3⟩ := tick_ps (s := u) (z := burstW (nowS u) (stepS s.mp.at t).1) (left := []) (by rw [hsh, fliesG, hfu]; rfl)
   rw [hm1, hh.hurt] at hr2
   have hk := hh.take (s.mp.hurt (stepS s.mp.at t).1.pos p)
   have hdd := take_dead (s.mp.hurt (stepS s.mp.at t).1.pos p) hd
   have hrd : r.dead = (takeP p (s.mp.hurt (stepS s.mp.at t).1.pos p)).dead := hr2.dead.trans hk.dead
   have hrh : r.health = w.health := (hr2.health.trans hk.health).trans hw2.health.symm
   have hps : (tickW u).ps = [⟨atickP r, min (IntKind.i64.wrap (l' + 1)) 16⟩] := by
    rw [e1, hr]
    unfold stepPl
    simp only [List.map_cons, List.map_nil]
    rw [show (r.dead == 1) = false by rw [beq_eq_false_iff_ne, hrd]; omega]
    rfl
   obtain ⟨g1, r', l1, g2, g3⟩ := quiet_ticks n (tickW u) (atickP r) _ w.health e2 hps (by
    rcases hdd with hz | hz
    · have := atick_same (p := r) (hrd.trans hz)
      exact .inl ⟨this.dead.trans (hrd.trans hz), this.health.trans hrh⟩
    · refine .inr ?_
      show (n : Int) + 2 ≤ IntKind.i64.wrap (r.dead - min (max r.dead 0) 1) ∧ IntKind.i64.wrap (r.dead - min (max r.dead 0) 1) ≤ 30
      rw [IntWalk.i64_in _ (by omega)]
      omega)
   exact ⟨g1, r', w, l1, l, g2, hw, g3⟩

end Go.Proofs.Ytimkhidniolpeaa
