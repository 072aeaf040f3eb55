/- WorldAhead: the law's loop and call. -/
import Derived.Test.YtimkhidniolpeaaWhA
namespace Go.Proofs.Ytimkhidniolpeaa
set_option linter.unusedSimpArgs false
set_option linter.unusedVariables false
set_option maxRecDepth 100000
set_option maxHeartbeats 0
open Go.RowKit

noncomputable def x16h : Ctx := ctxOfO [11] [orcShown16, orcRight, orcSameS] [orcNewG, orcJoinW, orcFireW, orcTickW, orcPlayersW, orcShotsW]
theorem x16h_ok : COk Try.prog x16h := ctxOfO_ok (by kernel_rfl)

def valH (a i : Int) : List SV := [.int .i64 a, .bool false, .bool true, .ptr 4 0 0 0, .ptr 5 0 0 0, .int .i64 i]
def rowH (w d h : Int) (len ls : Nat) (xs : List Bool) (sp : List V3) (dir : V3) (s u : WS) : List Row := [.vec true .bool xs, .vec true .vec sp, .own [.int .i64 w, .int .i64 d, .int .i64 h, .slice 0 1 0 len none, .slice 1 3 0 ls none], .own dir.sv, .obj s, .obj u]
noncomputable def rdH : List SV → List Row → Option Res2 := roundS x16h (fun _ _ => none) 100 3 [0, 1, 0, 1, 1, 1, 1, 1, 1, 1, 1, 1, 1, 1, 1] (bodyAt Try.f3 [0, 1, 0, 1, 1, 1, 1, 1, 1, 1, 1, 1, 1, 1, 1]) 133 6 [3, 8, 9, 10, 12, 18]

theorem wh_round (w d h : Int) (len ls : Nat) (xs : List Bool) (sp : List V3) (dir : V3) (s u : WS) (a i : Int) : rdH (valH a i) (rowH w d h len ls xs sp dir s u) =
 bif decide (i < min a 8) then bif okTick u then some (.tuple [.nilp, .tuple (valH a (IntKind.i64.wrap (i + 1)))], rowH w d h len ls xs sp dir s (tickW u)) else none
 else some (.tuple [.ptr 0 0 0 0, .tuple (valH a i)], rowH w d h len ls xs sp dir s u) := by kernel_rfl
theorem wh_loop {w d h : Int} {len ls : Nat} {xs : List Bool} {sp : List V3} {dir : V3} {s : WS} {a : Int} : ∀ (k i : Nat) (u : WS), u.Inv (i + 2) → i + k = (min a 8).toNat →
    LoopTo rdH (valH a i) (rowH w d h len ls xs sp dir s u) (.exit 0) (valH a (((min a 8).toNat : Nat) : Int)) (rowH w d h len ls xs sp dir s (tickN k u))
 | 0, i, u, hu, hi => by
  obtain rfl : i = (min a 8).toNat := by omega
  refine .done ?_ (by simp)
  rw [wh_round, decide_eq_false (show ¬ ((((min a 8).toNat : Nat) : Int) < min a 8) by omega), cond_false]
  rfl
 | k + 1, i, u, hu, hi => by
  have hro := wh_round w d h len ls xs sp dir s u a i
  obtain ⟨h1, h2⟩ := hu.tick (by omega)
  rw [decide_eq_true (show (i : Int) < min a 8 by omega), h1, IntWalk.i64_in ((i : Int) + 1) (by omega)] at hro
  simp only [cond_true] at hro
  exact .more hro (wh_loop k (i + 1) _ (by rw [show i + 1 + 2 = i + 2 + 1 by omega]; exact h2.more) (by omega))
open Classical in
noncomputable def inv2B (s : WS) : Bool := decide (s.Inv 2)
open Classical in
theorem inv2B_iff {s : WS} : inv2B s = true ↔ s.Inv 2 := by unfold inv2B; exact decide_eq_true_iff
noncomputable def outH (v : List SV) (R : List Row) (k : Ex → List SV → List Row → Option Res2) : Option Res2 := match v, R with
 | [.int .i64 a, .bool false, .bool true, .ptr 4 0 0 0, .ptr 5 0 0 0, .int .i64 i],
  [.vec true .bool xs, .vec true .vec sp, .own [.int .i64 w, .int .i64 d, .int .i64 h, .slice 0 1 0 len none, .slice 1 3 0 ls none], .own [.int .i64 x, .int .i64 y, .int .i64 z], .obj s, .obj u] =>
   bif decide (i = 0) && inv2B u then k (.exit 0) (valH a (((min a 8).toNat : Nat) : Int)) (rowH w d h len ls xs sp ⟨x, y, z⟩ s (tickN (min a 8).toNat u)) else none
 | _, _ => none
theorem lpoH_ok : LpOk 3 [0, 1, 0, 1, 1, 1, 1, 1, 1, 1, 1, 1, 1, 1, 1] (loopF 133 [3, 8, 9, 10, 12, 18] outH) := by
 intro b hat s K r h
 refine loopF_ok (fuel := 100) x16h_ok lok_none hat (fun v R k r hr => ?_) h
 have hbody := at_body Try.func3 hat
 subst hbody
 unfold outH at hr
 split at hr
 · rename_i a i xs sp w d h len ls x y z s u
   obtain ⟨hb, hr2⟩ := cond_some hr
   simp only [Bool.and_eq_true, decide_eq_true_eq, inv2B_iff] at hb
   obtain ⟨rfl, h3⟩ := hb
   exact ⟨_, _, _, hr2, wh_loop (dir := ⟨x, y, z⟩) _ 0 _ h3 (by omega)⟩
 · cases hr
noncomputable def lpoH : Lpo := ⟨_, _, _, lpoH_ok⟩

def a15 (a : Int) : Int := IntKind.i64.wrap ((BitVec.ofInt IntKind.i64.bits a &&& BitVec.ofInt IntKind.i64.bits 15).toNat : Int)
theorem a15_in (a : Int) : 0 ≤ a15 a ∧ a15 a ≤ 15 := by
 unfold a15
 have : (BitVec.ofInt IntKind.i64.bits a &&& BitVec.ofInt IntKind.i64.bits 15).toNat ≤ 15 := by
  rw [BitVec.toNat_and]
  exact Nat.le_trans Nat.and_le_right (by decide)
 rw [IntWalk.i64_in _ (by omega)]
 omega
def plW (s : WS) : Pl := (s.ps.map PL.p).getD (0 + Int.toNat 0) Knd.pl.dflt
def inOne (s : WS) (K : Option Res2) : Option Res2 := bif decide ((0 : Int) ≤ 0) && decide ((0 : Int) < ((s.ps.map PL.p : List Pl).length : Int)) then (bif decide (0 + Int.toNat 0 < (s.ps.map PL.p : List Pl).length) then K else none) else none
def tt : Option Res2 := some (.bool (bif true then true else false), [])
noncomputable def endH (y z : WS × Int × Int) (v : WS) : Option Res2 :=
 bif (bif (y.2.1 != z.2.1) == false then (bif false then true else y.2.2 != z.2.2) else true) then some (.bool false, []) else
 bif decide ((0 : Int) = 0) && inv2B z.1 then bif decide (y.1.shots.length ≤ 1000) then bif decide (v.shots.length ≤ 1000) then
 bif (decide (y.1.shots.length = y.1.shots.length) && decide (v.shots.length = v.shots.length)) && (decide (y.1.shots.length ≤ 1000) && sameS y.1.shots v.shots) then
 bif (bif (bif (!true) == false then (bif false then true else ((y.1.ps.map PL.p : List Pl).length : Int) != 1) else true) == false then (bif false then true else ((v.ps.map PL.p : List Pl).length : Int) != 1) else true) then some (.bool false, []) else
 inOne v (bif decide ((plW v).dead > 0) then tt else inOne y.1 (bif (bif false then true else decide ((plW y.1).dead > 0)) then tt else
  inOne y.1 (inOne v (some (.bool (bif true then (bif false then true else (plW y.1).health == (plW v).health) else false), []))))) else none else none else none else none
noncomputable def midH (g : WS) (kd A : Int) (dir : V3) : Option Res2 :=
 bif okFire g 1 kd dir A then bif okFire g 1 kd dir 0 then endH (fireS g 1 kd dir A) (fireS g 1 kd dir 0) (tickN (min A 8).toNat (fireS g 1 kd dir 0).1) else none else none
theorem wh_tree (w d h : Int) (len ls : Nat) (xs : List Bool) (sp : List V3) (kd a : Int) (dir : V3) : runK x16h (loopOf [lpoH]) 300 3 Try.f3 0 [mapS w d h (.slice 0 1 0 len none) (.slice 1 3 0 ls none), .int .i64 kd, .agg dir.sv, .int .i64 a] [.vec true .bool xs, .vec true .vec sp] =
 bif sm1 w d h len ls xs sp then bif sm2 w d h len ls xs sp then some (.bool true, []) else
 bif newC w d h len 0 xs ls 0 sp && newV w d h len 0 xs ls 0 sp then bif newC w d h len 0 xs ls 0 sp && newV w d h len 0 xs ls 0 sp then
 bif okJ (newG w d h len 0 xs ls 0 sp) then bif okJ (newG w d h len 0 xs ls 0 sp) then midH (joinW (newG w d h len 0 xs ls 0 sp)) kd (a15 a) dir else none else none else none else none else none := by kernel_rfl

theorem endH_true {y z : WS × Int × Int} {v : WS} {r q : Pl} {l1 l2 : Int} (h1 : y.2.1 = z.2.1) (h2 : y.2.2 = z.2.2) (hi : z.1.Inv 2) (hs : y.1.shots = v.shots) (hl : v.shots.length ≤ 1000) (hv : v.ps = [⟨r, l1⟩]) (hy : y.1.ps = [⟨q, l2⟩]) (hd : r.dead > 0 ∨ r.health = q.health) : endH y z v = some (.bool true, []) := by
 have pv : plW v = r := by unfold plW; rw [hv]; rfl
 have py : plW y.1 = q := by unfold plW; rw [hy]; rfl
 have iv : ∀ K, inOne v K = K := fun K => by unfold inOne; rw [hv]; rfl
 have iy : ∀ K, inOne y.1 K = K := fun K => by unfold inOne; rw [hy]; rfl
 unfold endH
 simp only [iv, iy, pv, py]
 rw [h1, h2, inv2B_iff.2 hi, hs, sameS_refl, decide_eq_true hl, hv, hy]
 simp only [bne_self_eq_false, decide_true, Bool.and_self, cond_true, cond_false, List.map_cons, List.map_nil, List.length_cons, List.length_nil, tt, beq_self_eq_true, Bool.not_true]
 rcases hd with hd | hd
 · rw [decide_eq_true hd]
   rfl
 · rw [hd]
   cases decide (r.dead > 0) with
   | true => rfl
   | false =>
    cases decide (q.dead > 0) with
    | true => rfl
    | false => simp

theorem join_one (w d h : Int) (len ls : Nat) (xs : List Bool) (sp : List V3) : joinW (newG w d h len 0 xs ls 0 sp) = { newG w d h len 0 xs ls 0 sp with ps := [⟨spawnP 1 ((newG w d h len 0 xs ls 0 sp).place 1), 8⟩], given := 1 } := by
 show joinS (newG w d h len 0 xs ls 0 sp) = _
 unfold joinS
 rw [show (newG w d h len 0 xs ls 0 sp).given = 0 from rfl, show IntKind.i64.wrap ((0 : Int) + 1) = 1 from IntWalk.i64_in _ (by omega)]
 rfl
theorem fire_one {g : WS} {p : Pl} {l : Int} (hg : g.ps = [⟨p, l⟩]) (hp : p.id = 1) (kd : Int) (d : V3) (a : Int) : fireS g 1 kd d a = fire1 g [] ⟨p, l⟩ [] 1 kd d a := by
 unfold fireS
 rw [hg, fireL, hp]
 rfl
theorem spawn_fire (a : V3) (kd : Int) : (fireP (spawnP 1 a) kd).2 = 0 ∧ (fireP (spawnP 1 a) kd).1.id = 1 ∧ (fireP (spawnP 1 a) kd).1.dead = 0 ∧ (fireP (spawnP 1 a) kd).1.health = 100 := by
 unfold fireP fireG
 cases kd == 0 <;> exact ⟨rfl, rfl, rfl, rfl⟩
theorem mid_true {g : WS} {a : V3} {l : Int} (hi : g.Inv 1) (hg : g.ps = [⟨spawnP 1 a, l⟩]) (hs : g.shots = []) (kd A : Int) (dir : V3) (hA : 0 ≤ A) : midH g kd A dir = some (.bool true, []) := by
 have f0 := hi.fire (by omega) 1 kd dir 0
 have fA := hi.fire (by omega) 1 kd dir A
 unfold midH
 rw [f0.1, fA.1]
 simp only [cond_true]
 have hn : (min A 8).toNat ≤ 8 := by omega
 have hinv := tickN_inv (min A 8).toNat 2 _ f0.2 (by omega)
 have hlen : (tickN (min A 8).toNat (fireS g 1 kd dir 0).1).shots.length ≤ 1000 := by have := hinv.shots; omega
 have o0 := fire_one hg rfl kd dir 0
 have oA := fire_one hg rfl kd dir A
 obtain ⟨p2, p3, p4, p5⟩ := spawn_fire a kd
 unfold fire1 at o0 oA
 rw [p2, hs] at o0 oA
 cases hne : newE kd dir != 0 with
 | true =>
  rw [hne] at o0 oA
  simp only [cond_true] at o0 oA
  rw [oA]
  rw [o0] at f0 hlen ⊢
  obtain ⟨g1, r, l', g2, g3⟩ := quiet_ticks (min A 8).toNat g (spawnP 1 a) l 100 hs hg (.inl ⟨rfl, rfl⟩)
  refine endH_true rfl rfl f0.2 ?_ hlen g2 hg g3
  rw [hs]
  exact g1.symm
 | false =>
  rw [hne] at o0 oA
  simp only [cond_false, show ((0 : Int) != 0) = false from rfl, show (((([] : List Sh).length : Nat) : Int) == 64) = false from rfl] at o0 oA
  have hB0 : (fireB 0).toNat = 0 := rfl
  have hBA : (fireB A).toNat = (min A 8).toNat := by unfold fireB; omega
  have hss : (firedS g [] ⟨spawnP 1 a, l⟩ [] kd).shots = [] := hs
  have hps : (firedS g [] ⟨spawnP 1 a, l⟩ [] kd).ps = [⟨(fireP (spawnP 1 a) kd).1, l⟩] := rfl
  have ht : (fireSh g ⟨spawnP 1 a, l⟩ 1 kd dir).owner = 1 := by
   unfold fireSh newS
   unfold newE at hne
   cases hb : newBad kd dir with
   | true => rw [hb] at hne; cases hne
   | false => rfl
  have e0 : fireS g 1 kd dir 0 = ({ firedS g [] ⟨spawnP 1 a, l⟩ [] kd with shots := [fireSh g ⟨spawnP 1 a, l⟩ 1 kd dir] }, (firedS g [] ⟨spawnP 1 a, l⟩ [] kd).fired, 0) := by
   rw [o0]
   unfold fire2 zF
   rw [hB0, hss]
   rfl
  rw [e0] at f0 hlen ⊢
  obtain ⟨m1, r, q, l1, l2, m2, m3, m4⟩ := ahead_main (min A 8).toNat 0 (firedS g [] ⟨spawnP 1 a, l⟩ [] kd) { firedS g [] ⟨spawnP 1 a, l⟩ [] kd with shots := [fireSh g ⟨spawnP 1 a, l⟩ 1 kd dir] } (fireSh g ⟨spawnP 1 a, l⟩ 1 kd dir) _ _ l l hn hps hps ⟨rfl, rfl, rfl, rfl, rfl⟩ p4 rfl rfl (p3.trans ht.symm)
  have hsame := (fliesF_len (min A 8).toNat 0 (firedS g [] ⟨spawnP 1 a, l⟩ [] kd) (fireSh g ⟨spawnP 1 a, l⟩ 1 kd dir)).2
  have hfd : (fliesF (min A 8).toNat 0 (firedS g [] ⟨spawnP 1 a, l⟩ [] kd) (fireSh g ⟨spawnP 1 a, l⟩ 1 kd dir)).1.fired = (firedS g [] ⟨spawnP 1 a, l⟩ [] kd).fired := by rw [hsame]
  have hsh : (fliesF (min A 8).toNat 0 (firedS g [] ⟨spawnP 1 a, l⟩ [] kd) (fireSh g ⟨spawnP 1 a, l⟩ 1 kd dir)).1.shots = [] := by rw [hsame]; exact hs
  have eA : fireS g 1 kd dir A = fire2 (firedS g [] ⟨spawnP 1 a, l⟩ [] kd) (fireSh g ⟨spawnP 1 a, l⟩ 1 kd dir) (fireB A) := oA
  rw [eA]
  unfold fire2 zF
  rw [hBA, hss]
  cases hz : (fliesF (min A 8).toNat 0 (firedS g [] ⟨spawnP 1 a, l⟩ [] kd) (fireSh g ⟨spawnP 1 a, l⟩ 1 kd dir)).2.2.1 with
  | true =>
   rw [hz] at m1
   exact endH_true hfd rfl f0.2 m1.symm hlen m2 m3 m4
  | false =>
   rw [hz] at m1
   exact endH_true hfd rfl f0.2 (hsh.trans m1.symm) hlen m2 m3 m4
theorem wh_law {w d h : Int} {len ls : Nat} {xs : List Bool} {sp : List V3} (m : MapA w d h len ls xs sp) (kd a : Int) (dir : V3) :
    runK x16h (loopOf [lpoH]) 300 3 Try.f3 0 [mapS w d h (.slice 0 1 0 len none) (.slice 1 3 0 ls none), .int .i64 kd, .agg dir.sv, .int .i64 a] [.vec true .bool xs, .vec true .vec sp] = some (.bool true, []) := by
 rw [wh_tree, m.sm1, cond_true]
 refine bif_law (fun _ => rfl) (fun hr => ?_)
 have hv := sm2_false hr
 have hi := m.inv hv
 have hj := hi.join (by omega)
 rw [m.newC, hv, hj.1]
 simp only [Bool.and_true, cond_true]
 refine mid_true (a := (newG w d h len 0 xs ls 0 sp).place 1) (l := 8) hj.2 ?_ ?_ kd (a15 a) dir (a15_in a).1
 · rw [join_one]
 · rw [join_one]; rfl

end Go.Proofs.Ytimkhidniolpeaa
