/- A game's methods that tell rows. A game's methods that change it: who comes, who goes, who moves. A game's Tick: its players' loop. A game's rows, read back as they lie; Tick's players' loop, whole. -/
import Derived.Test.YtimkhidniolpeaaWoA
namespace Go.Proofs.Ytimkhidniolpeaa
set_option linter.unusedSimpArgs false
set_option linter.unusedVariables false
set_option maxRecDepth 100000
set_option maxHeartbeats 0
open Go.RowKit

def bigB (n b : Nat) : Bool := decide (0 + n ≤ n) && (decide (0 + n ≤ 9223372036854775807) && decide ((0 + n) * b ≤ 140737488355328))
def shotsT (l : WLay) (s : WS) : Option Res2 := match l.hc with
 | none => endV l s .nils []
 | some _ => bif bigB s.shots.length 88 then endV l s (.slice 0 11 0 (0 + s.shots.length) none) [.vec false .sh (s.shots.take s.shots.length)] else none
theorem shots_tree : ∀ (s : WS) (l : WLay), LayOk l s → runG xWo (fun _ _ => none) 300 18 Try.f18 foldV [.ptr 0 0 0 0] (s.rows l) = shotsT l s :=
 game_cases fun w d h cells spawns now given fired cc sc => by repeat' (first | apply And.intro | intro _ | kernel_rfl)

def playersT (l : WLay) (s : WS) : Option Res2 := match s.ps with
 | [] => endV l s .nils []
 | p :: ps => endV l s (.slice 0 15 0 (ps.length + 1) none) [.vec false .pl (p.p :: ps.map PL.p)]
theorem players_tree : ∀ (s : WS) (l : WLay), LayOk l s → runG xWo (fun _ _ => none) 300 16 Try.f16 foldV [.ptr 0 0 0 0] (s.rows l) = playersT l s :=
 game_cases fun w d h cells spawns now given fired cc sc => by repeat' (first | apply And.intro | intro _ | kernel_rfl)

end Go.Proofs.Ytimkhidniolpeaa

namespace Go.Proofs.Ytimkhidniolpeaa
set_option linter.unusedSimpArgs false
set_option linter.unusedVariables false
set_option maxRecDepth 100000
set_option maxHeartbeats 0
open Go.RowKit

def endX (l : WLay) (s : WS) (v P H : SV) : Option Res2 := some (.tuple [v, .slice 0 0 0 s.cells.length (some l.cc), .slice 0 0 0 s.spawns.length (some l.sc), P, H], [.obj s])
def pS (l : WLay) (n : Nat) : SV := match l.pc with
 | none => .nils
 | some c => .slice 0 0 0 n (some c)
def hS (l : WLay) (n : Nat) : SV := match l.hc with
 | none => .nils
 | some c => .slice 0 0 0 n (some c)

def badC (c : Cm) : Bool := bif ((bif (decide (c.ticks < 1) == false) then (bif false then true else decide (c.ticks > 8)) else true) == false) then (bif false then true else decide (c.buttons > 3)) else true
noncomputable def doT (l : WLay) (s : WS) (id : Int) (c : Cm) (pre : List PL) : List PL → Option Res2
 | [] => endX l s (.int .i64 6) (pS l s.ps.length) (hS l s.shots.length)
 | p :: ps => bif p.p.id == id then
     (bif badC c then endX l s (.int .i64 1) (pS l s.ps.length) (hS l s.shots.length) else bif decide (c.ticks > p.left) then endX l s (.int .i64 8) (pS l s.ps.length) (hS l s.shots.length) else
      bif mapOk s.w s.d s.h s.cells.length && (fitsB p.p.pos && decide (0 + s.cells.length ≤ s.cells.length)) then endX l { s with ps := pre ++ ⟨walkP s.mp.slide p.p c, IntKind.i64.wrap (p.left - c.ticks)⟩ :: ps } (.int .i64 0) (pS l s.ps.length) (hS l s.shots.length) else none)
  else doT l s id c (pre ++ [p]) ps
theorem do_tree (id : Int) (c : Cm) : ∀ (s : WS) (l : WLay), LayOk l s → runG xWo (fun _ _ => none) 300 20 Try.f20 foldK [.ptr 0 0 0 0, .int .i64 id, .agg c.sv] (s.rows l) = doT l s id c [] s.ps :=
 game_cases fun w d h cells spawns now given fired cc sc => by repeat' (first | apply And.intro | intro _ | kernel_rfl)

def spawnI (s : WS) (id : Int) : Int := (IntKind.i64.wrap (id - 1)).tmod (s.spawns.length : Int)
def spawnOk (s : WS) (id : Int) (k : Option Res2) : Option Res2 := bif !decide ((s.spawns.length : Int) = 0) then (bif decide (0 ≤ spawnI s id) && decide (spawnI s id < (s.spawns.length : Int)) then (bif decide (0 + (spawnI s id).toNat < s.spawns.length) then k else none) else none) else none
def WS.place (s : WS) (id : Int) : V3 := s.spawns.getD (0 + (spawnI s id).toNat) ⟨0, 0, 0⟩
def joinS (s : WS) : WS := { s with ps := s.ps ++ [⟨spawnP (IntKind.i64.wrap (s.given + 1)) (s.place (IntKind.i64.wrap (s.given + 1))), 8⟩], given := IntKind.i64.wrap (s.given + 1) }
def joinT (l : WLay) (s : WS) : Option Res2 := bif Nat.beq s.ps.length 8 then endX l s (.tuple [.int .i64 0, .int .i64 5]) (pS l s.ps.length) (hS l s.shots.length) else
 spawnOk s (IntKind.i64.wrap (s.given + 1)) (endX l (joinS s) (.tuple [.int .i64 (IntKind.i64.wrap (s.given + 1)), .int .i64 0]) (.slice 0 0 0 (s.ps.length + 1) none) (hS l s.shots.length))
theorem join_tree : ∀ (s : WS) (l : WLay), LayOk l s → runG xWo (fun _ _ => none) 300 13 Try.f13 foldK [.ptr 0 0 0 0] (s.rows l) = joinT l s :=
 game_cases fun w d h cells spawns now given fired cc sc => by repeat' (first | apply And.intro | intro _ | kernel_rfl)

end Go.Proofs.Ytimkhidniolpeaa

namespace Go.Proofs.Ytimkhidniolpeaa
set_option linter.unusedSimpArgs false
set_option linter.unusedVariables false
set_option maxRecDepth 100000
set_option maxHeartbeats 0
open Go.RowKit

def plD : PL := ⟨⟨0, ⟨0, 0, 0⟩, ⟨0, 0, 0⟩, false, 0, 0, 0, 0, 0, 0, 0⟩, 0⟩
def hX (s : WS) (X : Option (Nat × List Sh)) : SV := match X with
 | none => .nils
 | some (ll, _) => .slice (5 + s.ps.length) 11 0 ll none
def moreX (X : Option (Nat × List Sh)) : List Row := match X with
 | none => []
 | some (_, xs) => [.vec false .sh xs]
def pX (s : WS) (l : WLay) : SV := match l.pc with | none => .nils | some c => .slice 3 1 0 s.ps.length (some c)
def tk (s : WS) (l : WLay) (X : Option (Nat × List Sh)) : List Row :=
 .own [.int .i64 s.w, .int .i64 s.d, .int .i64 s.h, .slice 1 1 0 s.cells.length (some l.cc), .slice 2 3 0 s.spawns.length (some l.sc), .int .i64 s.now, pX s l, hX s X, .int .i64 s.given, .int .i64 s.fired] :: .vec false .bool s.cells :: .vec false .vec s.spawns ::
 (match l.pc with | none => .gone | some _ => .pre false (ptrsS 5 s.ps.length)) :: (match l.hc with | none => .gone | some _ => .vec false .sh s.shots) :: (s.ps.map (fun p => .own p.sv) ++ moreX X)
def valT (s : WS) (l : WLay) (i : Nat) : List SV := [.ptr 0 0 0 0, pX s l, .int .i64 (s.ps.length : Int), .int .i64 (i : Int)]
noncomputable def rdT2 (n0 : Nat) : List SV → List Row → Option Res2 := roundS xWo (fun _ _ => none) 100 15 [0, 1, 1, 1, 1, 1] (bodyAt Try.f15 [0, 1, 1, 1, 1, 1]) 81 n0 [0, 38, 39, 40]
def setT (s : WS) (i : Nat) (p : PL) : WS := { s with ps := s.ps.set i p }
def goT (s : WS) (l : WLay) (X : Option (Nat × List Sh)) (i : Nat) (q : Pl) : Option Res2 := some (.tuple [.nilp, .tuple (valT s l (i + 1))], tk (setT s i ⟨q, min (IntKind.i64.wrap ((s.ps.getD i plD).left + 1)) 16⟩) l X)
def roundT (s : WS) (l : WLay) (X : Option (Nat × List Sh)) (i : Nat) : Option Res2 :=
 bif (s.ps.getD i plD).p.dead == 1 then spawnOk s (s.ps.getD i plD).p.id (goT s l X i (backP (atickP (s.ps.getD i plD).p) (s.place (s.ps.getD i plD).p.id))) else goT s l X i (atickP (s.ps.getD i plD).p)
theorem t2_round : ∀ (s : WS) (l : WLay), LayOk l s → ∀ (X : Option (Nat × List Sh)) (i : Nat), i < s.ps.length → rdT2 (tk s l X).length (valT s l i) (tk s l X) = roundT s l X i :=
 game_cases fun w d h cells spawns now given fired cc sc => by
  refine ⟨fun shots hc X i hi => absurd hi (by simp), fun X i hi => absurd hi (by simp), fun c shots hc => ?_, fun c => ?_⟩
  all_goals
   repeat' (first | apply And.intro | intro _)
   all_goals
    rename_i X i hi
    rcases X with _ | ⟨ll, xs⟩ <;> rcases i with _ | _ | _ | _ | _ | _ | _ | _ | i <;> first | (exfalso; simp only [List.length_cons, List.length_nil] at hi; omega) | kernel_rfl
theorem t2_end : ∀ (s : WS) (l : WLay), LayOk l s → ∀ (X : Option (Nat × List Sh)), rdT2 (tk s l X).length (valT s l s.ps.length) (tk s l X) = some (.tuple [exS (.exit 2), .tuple (valT s l s.ps.length)], tk s l X) :=
 game_cases fun w d h cells spawns now given fired cc sc => by
  repeat' (first | apply And.intro | intro _)
  all_goals
   rename_i X
   rcases X with _ | ⟨ll, xs⟩ <;> kernel_rfl

end Go.Proofs.Ytimkhidniolpeaa

namespace Go.Proofs.Ytimkhidniolpeaa
set_option linter.unusedSimpArgs false
set_option linter.unusedVariables false
set_option maxRecDepth 100000
set_option maxHeartbeats 0
open Go.RowKit

def gk (s : WS) (l : WLay) (H : SV) (more : List Row) : List Row :=
 .own [.int .i64 s.w, .int .i64 s.d, .int .i64 s.h, .slice 1 1 0 s.cells.length (some l.cc), .slice 2 3 0 s.spawns.length (some l.sc), .int .i64 s.now, pX s l, H, .int .i64 s.given, .int .i64 s.fired] :: .vec false .bool s.cells :: .vec false .vec s.spawns ::
 (match l.pc with | none => .gone | some _ => .pre false (ptrsS 5 s.ps.length)) :: (match l.hc with | none => .gone | some _ => .vec false .sh s.shots) :: (s.ps.map (fun p => .own p.sv) ++ more)

def isPtrs (k : Nat) : Nat → List SV → Bool
 | 0, [] => true
 | n + 1, .ptr id 0 0 0 :: l => Nat.beq id k && isPtrs (k + 1) n l
 | _, _ => false
theorem isPtrs_spec : ∀ {n k : Nat} {l : List SV}, isPtrs k n l = true → l = ptrsS k n
 | 0, k, [], _ => rfl
 | n + 1, k, .ptr id 0 0 0 :: l, h => by
  simp only [isPtrs, Bool.and_eq_true] at h
  rw [ptrsS, isPtrs_spec h.2, Nat.eq_of_beq_eq_true h.1]
 | 0, _, _ :: _, h => by simp [isPtrs] at h
 | n + 1, _, [], h => by simp [isPtrs] at h
 | n + 1, _, .ptr _ (_ + 1) _ _ :: _, h => by simp [isPtrs] at h
 | n + 1, _, .ptr _ 0 (_ + 1) _ :: _, h => by simp [isPtrs] at h
 | n + 1, _, .ptr _ 0 0 (_ + 1) :: _, h => by simp [isPtrs] at h
 | n + 1, _, .top :: _, h => by simp [isPtrs] at h
 | n + 1, _, .unk :: _, h => by simp [isPtrs] at h
 | n + 1, _, .int .. :: _, h => by simp [isPtrs] at h
 | n + 1, _, .bool _ :: _, h => by simp [isPtrs] at h
 | n + 1, _, .nilp :: _, h => by simp [isPtrs] at h
 | n + 1, _, .slice .. :: _, h => by simp [isPtrs] at h
 | n + 1, _, .nils :: _, h => by simp [isPtrs] at h
 | n + 1, _, .agg _ :: _, h => by simp [isPtrs] at h
 | n + 1, _, .tuple _ :: _, h => by simp [isPtrs] at h
 | n + 1, _, .fn .. :: _, h => by simp [isPtrs] at h

def readP : SV → Row → Option (Nat × Option Nat)
 | .nils, .gone => some (0, none)
 | .slice 3 1 0 n (some c), .pre false cs => bif isPtrs 5 n cs && Nat.ble n 8 then some (n, some c) else none
 | _, _ => none
def leC (n : Nat) (pc : Option Nat) : Bool := match pc with
 | none => true
 | some c => Nat.ble n c
def readH : Row → Option (Option Nat × List Sh)
 | .gone => some (none, [])
 | .vec false .sh xs => some (some 0, xs)
 | _ => none
def readPs : Nat → List Row → Option (List PL × List Row)
 | 0, l => some ([], l)
 | n + 1, .own cs :: l => match dPL cs, readPs n l with
  | some p, some (ps, more) => some (p :: ps, more)
  | _, _ => none
 | _, _ => none
structure GK where
 s : WS
 l : WLay
 H : SV
 more : List Row
 ok : Bool
def readG (R : List Row) : Option GK := match R with
 | .own [.int .i64 w, .int .i64 d, .int .i64 h, .slice 1 1 0 la (some cc), .slice 2 3 0 lb (some sc), .int .i64 now, P, H, .int .i64 given, .int .i64 fired] :: .vec false .bool cells :: .vec false .vec spawns :: r3 :: r4 :: rest =>
  match readP P r3, readH r4 with
  | some (n, pc), some (hc, shots) => match readPs n rest with
   | some (ps, more) => some ⟨⟨w, d, h, cells, spawns, now, ps, shots, given, fired⟩, ⟨cc, sc, pc, hc⟩, H, more, (Nat.beq la cells.length && Nat.beq lb spawns.length) && leC n pc⟩
   | none => none
  | _, _ => none
 | _ => none
theorem readPs_spec : ∀ {n : Nat} {l : List Row} {ps : List PL} {more : List Row}, readPs n l = some (ps, more) → l = ps.map (fun p => .own p.sv) ++ more ∧ ps.length = n
 | 0, l, ps, more, h => by
  simp only [readPs, Option.some.injEq, Prod.mk.injEq] at h
  obtain ⟨rfl, rfl⟩ := h
  exact ⟨rfl, rfl⟩
 | n + 1, l, ps, more, h => by
  unfold readPs at h
  split at h
  · rename_i heq; cases heq
  · rename_i n' cs l' heq
    cases heq
    split at h
    · rename_i p ps' more' hp hr
      cases h
      obtain ⟨h1, h2⟩ := readPs_spec hr
      exact ⟨by rw [dPL_spec hp, h1]; rfl, by simp [h2]⟩
    · cases h
  · cases h
theorem readP_spec {P : SV} {r : Row} {n : Nat} {pc : Option Nat} (h : readP P r = some (n, pc)) : (pc = none ∧ n = 0 ∧ P = .nils ∧ r = .gone) ∨ ∃ c, pc = some c ∧ n ≤ 8 ∧ P = .slice 3 1 0 n (some c) ∧ r = .pre false (ptrsS 5 n) := by
 unfold readP at h
 split at h
 · cases h; exact .inl ⟨rfl, rfl, rfl, rfl⟩
 · obtain ⟨hb, h⟩ := cond_some h
   cases h
   rw [Bool.and_eq_true] at hb
   exact .inr ⟨_, rfl, Nat.le_of_ble_eq_true hb.2, rfl, by rw [isPtrs_spec hb.1]⟩
 · cases h
theorem readG_spec {R : List Row} {g : GK} (h : readG R = some g) (hok : g.ok = true) : R = gk g.s g.l g.H g.more ∧ LayOk g.l g.s := by
 unfold readG at h
 split at h
 · rename_i w d hh la cc lb sc now P H given fired cells spawns r3 r4 rest
   split at h
   · rename_i n pc hc shots hp hr4
     split at h
     · rename_i ps more hps
       cases h
       rw [Bool.and_eq_true, Bool.and_eq_true] at hok
       have h1 := Nat.eq_of_beq_eq_true hok.1.1
       have h2 := Nat.eq_of_beq_eq_true hok.1.2
       have h5 := hok.2
       subst h1 h2
       obtain ⟨rfl, rfl⟩ := readPs_spec hps
       have h4 : (hc = none ∧ shots = [] ∧ r4 = .gone) ∨ (hc = some 0 ∧ r4 = .vec false .sh shots) := by
        unfold readH at hr4
        split at hr4
        · cases hr4; exact .inl ⟨rfl, rfl, rfl⟩
        · cases hr4; exact .inr ⟨rfl, rfl⟩
        · cases hr4
       rcases readP_spec hp with ⟨rfl, hn, rfl, rfl⟩ | ⟨c, rfl, h6, rfl, rfl⟩
       · have hps0 : ps = [] := List.length_eq_zero_iff.1 hn
         subst hps0
         rcases h4 with ⟨rfl, rfl, rfl⟩ | ⟨rfl, rfl⟩ <;> exact ⟨rfl, ⟨fun _ => rfl, (fun h => by first | rfl | cases h), (fun _ h => by cases h), by simp⟩⟩
       · rcases h4 with ⟨rfl, rfl, rfl⟩ | ⟨rfl, rfl⟩ <;> exact ⟨rfl, ⟨(fun h => by cases h), (fun h => by first | rfl | cases h), (fun c' h => by cases h; exact Nat.le_of_ble_eq_true h5), h6⟩⟩
     · cases h
   · cases h
 · cases h

def placeB (s : WS) (id : Int) : Bool := !decide ((s.spawns.length : Int) = 0) && ((decide (0 ≤ spawnI s id) && decide (spawnI s id < (s.spawns.length : Int))) && decide (0 + (spawnI s id).toNat < s.spawns.length))
theorem spawnOk_true {s : WS} {id : Int} {k : Option Res2} (h : placeB s id = true) : spawnOk s id k = k := by
 unfold placeB at h
 rw [Bool.and_eq_true, Bool.and_eq_true] at h
 unfold spawnOk
 rw [h.1, h.2.1, h.2.2]
 rfl
def okPl (s : WS) (p : PL) : Bool := !(p.p.dead == 1) || placeB s p.p.id
def stepPl (s : WS) (p : PL) : PL := ⟨bif p.p.dead == 1 then backP (atickP p.p) (s.place p.p.id) else atickP p.p, min (IntKind.i64.wrap (p.left + 1)) 16⟩
theorem roundT_ok {s : WS} {l : WLay} {X : Option (Nat × List Sh)} {i : Nat} {p : PL} (hp : s.ps[i]? = some p) (h : okPl s p = true) : roundT s l X i = some (.tuple [.nilp, .tuple (valT s l (i + 1))], tk (setT s i (stepPl s p)) l X) := by
 have hg : s.ps.getD i plD = p := by simp [List.getD, hp]
 unfold roundT goT
 rw [hg]
 unfold okPl at h
 unfold stepPl
 cases hd : p.p.dead == 1 with
 | true =>
  rw [hd] at h
  simp only [cond_true]
  rw [spawnOk_true (by simpa using h)]
 | false => rfl

theorem tk_len (s : WS) (l : WLay) (X : Option (Nat × List Sh)) : (tk s l X).length = 5 + s.ps.length + (moreX X).length := by
 simp [tk]; omega

theorem t2_loop (l : WLay) (X : Option (Nat × List Sh)) : ∀ (post pre : List PL) (s : WS), s.ps = pre ++ post → LayOk l s → (∀ p ∈ post, okPl s p = true) →
    LoopTo (rdT2 (5 + s.ps.length + (moreX X).length)) (valT s l pre.length) (tk s l X) (.exit 2) (valT s l s.ps.length) (tk { s with ps := pre ++ post.map (stepPl s) } l X)
 | [], pre, s, hs, ok, _ => by
  have he : ({ s with ps := pre ++ [].map (stepPl s) } : WS) = s := by
   obtain ⟨_, _, _, _, _, _, ps, _, _, _⟩ := s
   simp only [List.map_nil, List.append_nil] at hs ⊢
   rw [hs]
  have hl : pre.length = s.ps.length := by rw [hs, List.append_nil]
  rw [he, hl]
  refine .done ?_ (by simp)
  rw [← tk_len s l X]
  exact t2_end s l ok X
 | p :: post, pre, s, hs, ok, hp => by
  have hi : s.ps[pre.length]? = some p := by rw [hs]; simp
  have hlt : pre.length < s.ps.length := by rw [hs]; simp
  have hr := t2_round s l ok X pre.length hlt
  rw [tk_len, roundT_ok hi (hp p (by simp))] at hr
  have hps : (setT s pre.length (stepPl s p)).ps = (pre ++ [stepPl s p]) ++ post := by
   simp [setT, hs]
  have hlen : (setT s pre.length (stepPl s p)).ps.length = s.ps.length := by simp [setT]
  have ok' : LayOk l (setT s pre.length (stepPl s p)) := ⟨fun h => by
   have := ok.pn h
   rw [this] at hlt; simp at hlt, ok.hn, fun c hc => by rw [hlen]; exact ok.pc c hc, by rw [hlen]; exact ok.few⟩
  have ih := t2_loop l X post (pre ++ [stepPl s p]) (setT s pre.length (stepPl s p)) hps ok' (fun q hq => hp q (by simp [hq]))
  have hv : ∀ k, valT (setT s pre.length (stepPl s p)) l k = valT s l k := by
   intro k
   unfold valT pX
   rw [hlen]
  rw [hlen, hv, hv] at ih
  rw [show (pre ++ [stepPl s p]).length = pre.length + 1 by simp] at ih
  refine .more hr ?_
  have hsame : ({ setT s pre.length (stepPl s p) with ps := pre ++ [stepPl s p] ++ post.map (stepPl (setT s pre.length (stepPl s p))) } : WS) = { s with ps := pre ++ (p :: post).map (stepPl s) } := by
   have : stepPl (setT s pre.length (stepPl s p)) = stepPl s := rfl
   rw [this]
   simp [setT]
  rw [hsame] at ih
  exact ih

def readX (n : Nat) : SV → List Row → Option (Option (Nat × List Sh))
 | .nils, [] => some none
 | .slice id 11 0 ll none, [.vec false .sh xs] => bif Nat.beq id (5 + n) then some (some (ll, xs)) else none
 | _, _ => none
theorem readX_spec {s : WS} {l : WLay} {H : SV} {more : List Row} {X : Option (Nat × List Sh)} (h : readX s.ps.length H more = some X) : gk s l H more = tk s l X := by
 unfold readX at h
 split at h
 · cases h; rfl
 · obtain ⟨hid, h⟩ := cond_some h
   cases h
   rw [Nat.eq_of_beq_eq_true hid]
   rfl
 · cases h
def sameP (s : WS) (l : WLay) : SV → Bool
 | .nils => l.pc.isNone
 | .slice 3 1 0 n (some c) => Nat.beq n s.ps.length && (match l.pc with | some c' => Nat.beq c c' | none => false)
 | _ => false
def stepAll (s : WS) : WS := { s with ps := s.ps.map (stepPl s) }
noncomputable def outT2 (v : List SV) (R : List Row) (k : Ex → List SV → List Row → Option Res2) : Option Res2 := match v, readG R with
 | [.ptr 0 0 0 0, P, .int .i64 n, .int .i64 i], some g => match readX g.s.ps.length g.H g.more with
  | some X => bif g.ok && (decide (i = 0) && (decide (n = (g.s.ps.length : Int)) && (match g.l.pc with
      | none => (match P with | .nils => true | _ => false)
      | some c => (match P with | .slice 3 1 0 m (some c') => Nat.beq m g.s.ps.length && Nat.beq c c' | _ => false)))) then
      (bif g.s.ps.all (okPl g.s) then k (.exit 2) (valT g.s g.l g.s.ps.length) (tk (stepAll g.s) g.l X) else none) else none
  | none => none
 | _, _ => none
theorem lpoT2_ok : LpOk 15 [0, 1, 1, 1, 1, 1] (loopF 81 [0, 38, 39, 40] outT2) := by
 intro b hat s K r h
 have := at_body Try.func15 hat
 subst this
 refine loopF_ok (fuel := 100) xWo_ok lok_none hat (fun v R k r hr => ?_) h
 unfold outT2 at hr
 split at hr
 · rename_i P n i g hg
   split at hr
   · rename_i X hXr
     obtain ⟨hb, hr⟩ := cond_some hr
     obtain ⟨hall, hrk⟩ := cond_some hr
     rw [Bool.and_eq_true, Bool.and_eq_true, Bool.and_eq_true, decide_eq_true_eq, decide_eq_true_eq] at hb
     obtain ⟨hok, rfl, rfl, hP⟩ := hb
     obtain ⟨hR, hl⟩ := readG_spec hg hok
     have hPx : P = pX g.s g.l := by
      unfold pX
      split at hP
      · rename_i hpc
        try simp only [hpc]
        split at hP
        · rfl
        · cases hP
      · rename_i c hpc
        try simp only [hpc]
        split at hP
        · rw [Bool.and_eq_true] at hP
          rw [Nat.eq_of_beq_eq_true hP.1, Nat.eq_of_beq_eq_true hP.2]
        · cases hP
     subst hPx
     have hRt : R = tk g.s g.l X := by
      rw [hR]
      exact readX_spec hXr
     refine ⟨_, _, _, hrk, ?_⟩
     have hlp := t2_loop g.l X g.s.ps [] g.s rfl hl (fun p hp => List.all_eq_true.1 hall p hp)
     rw [hRt, tk_len]
     exact hlp
   · cases hr
 · cases hr
noncomputable def lpoT2 : Lpo := ⟨_, _, _, lpoT2_ok⟩

end Go.Proofs.Ytimkhidniolpeaa
