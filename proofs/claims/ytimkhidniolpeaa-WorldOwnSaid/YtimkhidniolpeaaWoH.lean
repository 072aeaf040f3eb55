/- A game's Tick: its shots' loop, whole; Tick. A game's Tick, whole. A game's Tick, walked. -/
import Derived.Test.YtimkhidniolpeaaWoG
namespace Go.Proofs.Ytimkhidniolpeaa
set_option linter.unusedSimpArgs false
set_option linter.unusedVariables false
set_option maxRecDepth 100000
set_option maxHeartbeats 0
open Go.RowKit

theorem s1_round : ∀ (s : WS) (l : WLay), LayOk l s → l.hc ≠ none → ∀ (X : Option (Nat × List Sh)) (i : Int), rdS (5 + s.ps.length) (valS s l X i) (rowS s l X) = roundS1 s l X i :=
 game_cases fun w d h cells spawns now given fired cc sc => by
  refine ⟨fun shots hc hh X i => ?_, fun hh => absurd rfl hh, fun c shots hc => ?_, fun c => ⟨fun h => absurd rfl h, fun _ => ⟨fun h => absurd rfl h, fun _ => ⟨fun h => absurd rfl h, fun _ => ⟨fun h => absurd rfl h, fun _ => ⟨fun h => absurd rfl h, fun _ => ⟨fun h => absurd rfl h, fun _ => ⟨fun h => absurd rfl h, fun _ => ⟨fun h => absurd rfl h, fun _ h => absurd rfl h⟩⟩⟩⟩⟩⟩⟩⟩⟩
  · rcases X with _ | ⟨ll, xs⟩
    · exact s1_n0a ..
    · exact s1_n0b ..
  · exact ⟨(fun _ X i => match X with | none => s1_c0a .. | some (ll, xs) => s1_c0b ..), fun p1 => ⟨(fun _ X i => match X with | none => s1_c1a .. | some (ll, xs) => s1_c1b ..), fun p2 => ⟨(fun _ X i => match X with | none => s1_c2a .. | some (ll, xs) => s1_c2b ..), fun p3 => ⟨(fun _ X i => match X with | none => s1_c3a .. | some (ll, xs) => s1_c3b ..), fun p4 => ⟨(fun _ X i => match X with | none => s1_c4a .. | some (ll, xs) => s1_c4b ..), fun p5 => ⟨(fun _ X i => match X with | none => s1_c5a .. | some (ll, xs) => s1_c5b ..), fun p6 => ⟨(fun _ X i => match X with | none => s1_c6a .. | some (ll, xs) => s1_c6b ..), fun p7 => ⟨(fun _ X i => match X with | none => s1_c7a .. | some (ll, xs) => s1_c7b ..), fun p8 => (fun _ X i => match X with | none => s1_c8a .. | some (ll, xs) => s1_c8b ..)⟩⟩⟩⟩⟩⟩⟩⟩

noncomputable def hitL (t : Sh) : List PL → Bool
 | [] => false
 | p :: ps => hitB t p.p || hitL t ps
noncomputable def flyS (s : WS) (t : Sh) : WS × Sh × Bool := bif (stepS s.mp.at t).2 || hitL (stepS s.mp.at t).1 s.ps then (burstW s (stepS s.mp.at t).1, (stepS s.mp.at t).1, false) else (s, (stepS s.mp.at t).1, true)
def burstOkB (s : WS) (t : Sh) : Bool := match s.ps with
 | [] => true
 | _ => buOk s.w s.d s.h 0 s.cells.length s.cells t.pos (s.ps.map PL.p) s.ps.length
noncomputable def flyOk (s : WS) (t : Sh) : Bool := (mapOk s.w s.d s.h s.cells.length && (fitsB t.pos && decide (0 + s.cells.length ≤ s.cells.length))) && burstOkB s (stepS s.mp.at t).1
theorem burstOk_true {s : WS} {t : Sh} {b : Option Res2} (h : burstOkB s t = true) : burstOk s t b = b := by
 unfold burstOkB at h
 unfold burstOk
 split at h
 · rename_i hp; simp [hp]
 · split
   · rfl
   · rw [h]; rfl
theorem hitT_eq (t : Sh) (b k : Option Res2) : ∀ ps : List PL, hitT t b k ps = bif hitL t ps then b else k
 | [] => rfl
 | p :: ps => by
  rw [hitT, hitL, hitT_eq t b k ps]
  cases hitB t p.p <;> rfl
theorem flyT_eq {s : WS} {t : Sh} {b k : Option Res2} (h : flyOk s t = true) : flyT s t b k = bif (flyS s t).2.2 then k else b := by
 unfold flyOk at h
 rw [Bool.and_eq_true] at h
 unfold flyT flyS
 rw [h.1, cond_true, burstOk_true h.2, hitT_eq]
 cases (stepS s.mp.at t).2 <;> cases hitL (stepS s.mp.at t).1 s.ps <;> rfl
theorem brAt_len (B : List Pl) : ∀ (k : Nat) (ps : List PL), (brAt B k ps).length = ps.length
 | _, [] => rfl
 | k, p :: ps => by rw [brAt, List.length_cons, List.length_cons, brAt_len B (k + 1) ps]
theorem flyS_len (s : WS) (t : Sh) : (flyS s t).1.ps.length = s.ps.length := by
 unfold flyS
 cases (stepS s.mp.at t).2 || hitL (stepS s.mp.at t).1 s.ps with
 | true => exact brAt_len _ _ _
 | false => rfl
theorem flyS_same (s : WS) (t : Sh) : (flyS s t).1 = { s with ps := (flyS s t).1.ps } := by
 unfold flyS
 cases (stepS s.mp.at t).2 || hitL (stepS s.mp.at t).1 s.ps <;> rfl

noncomputable def fliesG : WS → List Sh → List Sh → WS × List Sh
 | s, left, [] => (s, left)
 | s, left, t :: ts => fliesG (flyS s t).1 (bif (flyS s t).2.2 then left ++ [(flyS s t).2.1] else left) ts
noncomputable def fliesOk : WS → List Sh → Bool
 | _, [] => true
 | s, t :: ts => flyOk s t && fliesOk (flyS s t).1 ts
def optX (left : List Sh) : Option (Nat × List Sh) := match left with
 | [] => none
 | _ => some (left.length, left)

theorem s1_loop (l : WLay) (hhc : l.hc ≠ none) : ∀ (ts left : List Sh) (s : WS) (i : Nat), LayOk l s → s.shots.drop i = ts → i + ts.length = s.shots.length → s.shots.length ≤ 1000 → left.length ≤ i → fliesOk s ts = true →
    LoopTo (rdS (5 + s.ps.length)) (valS s l (optX left) (i : Int)) (rowS s l (optX left)) (.exit 0) (valS (fliesG s left ts).1 l (optX (fliesG s left ts).2) (s.shots.length : Int)) (rowS (fliesG s left ts).1 l (optX (fliesG s left ts).2))
 | [], left, s, i, ok, hd, hl, hL, hli, _ => by
  have hi : i = s.shots.length := by simpa using hl
  subst hi
  refine .done ?_ (by simp)
  rw [s1_round s l ok hhc]
  unfold roundS1
  rw [show decide ((s.shots.length : Int) < (s.shots.length : Int)) = false by simp]
  rfl
 | t :: ts, left, s, i, ok, hd, hl, hL, hli, hf => by
  have hlt : i < s.shots.length := by simp at hl; omega
  have ht : shN s (i : Int) = t := by
   have h1 : s.shots[i]? = some t := by
    have := congrArg List.head? hd
    rw [List.head?_drop] at this
    exact this
   simp only [shN, List.getD, Int.toNat_natCast, Nat.zero_add, h1]
   rfl
  simp only [fliesOk, Bool.and_eq_true] at hf
  have hw : IntKind.i64.wrap ((i : Int) + 1) = ((i + 1 : Nat) : Int) := by
   rw [i64_wrap (by omega) (by omega)]; omega
  have hlen := flyS_len s t
  have hsame := flyS_same s t
  have hsh : (flyS s t).1.shots = s.shots := by rw [hsame]
  have ok' : LayOk l (flyS s t).1 := ⟨fun h => by
      have := ok.pn h
      rw [this] at hlen
      exact List.length_eq_zero_iff.1 hlen, fun h => absurd h hhc, fun c hc => by rw [hlen]; exact ok.pc c hc, by rw [hlen]; exact ok.few⟩
  have hr := s1_round s l ok hhc (optX left) (i : Int)
  unfold roundS1 at hr
  rw [show decide ((i : Int) < (s.shots.length : Int)) = true by simp; omega, show decide (0 ≤ (i : Int)) = true by simp, show decide (0 + (i : Int).toNat < s.shots.length) = true by simp; omega, ht] at hr
  simp only [cond_true, Bool.and_self] at hr
  rw [flyT_eq hf.1] at hr
  have ih := s1_loop l hhc ts (bif (flyS s t).2.2 then left ++ [(flyS s t).2.1] else left) (flyS s t).1 (i + 1) ok' (by
      rw [hsh, ← List.drop_drop, hd]; rfl) (by rw [hsh]; simp at hl; omega) (by rw [hsh]; exact hL) (by cases (flyS s t).2.2 <;> simp <;> omega) hf.2
  rw [hlen, hsh] at ih
  have hgo : ∀ (s' : WS) (X : Option (Nat × List Sh)), goS s' l X (i : Int) = some (.tuple [.nilp, .tuple (valS s' l X ((i + 1 : Nat) : Int))], rowS s' l X) := by
   intro s' X
   unfold goS
   rw [hw]
  refine .more (hr.trans ?_) ih
  cases hb : (flyS s t).2.2 with
  | false =>
   simp only [cond_false]
   rw [hgo]
   have : burstW s (stepS s.mp.at t).1 = (flyS s t).1 := by
    unfold flyS at hb ⊢
    cases hc : (stepS s.mp.at t).2 || hitL (stepS s.mp.at t).1 s.ps with
    | true => rfl
    | false => rw [hc] at hb; cases hb
   rw [this]
  | true =>
   simp only [cond_true]
   have h1 : (flyS s t).1 = s ∧ (flyS s t).2.1 = (stepS s.mp.at t).1 := by
    unfold flyS at hb ⊢
    cases hc : (stepS s.mp.at t).2 || hitL (stepS s.mp.at t).1 s.ps with
    | true => rw [hc] at hb; cases hb
    | false => exact ⟨rfl, rfl⟩
   rw [h1.1, h1.2]
   cases left with
   | nil =>
    simp only [optX, keepT, List.nil_append]
    rw [hgo]
    rfl
   | cons x xs =>
    simp only [optX, keepT]
    have hg : growSh (x :: xs).length (x :: xs) = true := by
     simp only [growSh, Bool.and_eq_true, Bool.or_eq_true, decide_eq_true_eq]
     simp only [List.length_cons] at hli ⊢
     refine ⟨.inl (by omega), Nat.le_refl _, by omega, by omega⟩
    rw [hg, cond_true, hgo, List.take_length]
    simp

end Go.Proofs.Ytimkhidniolpeaa

namespace Go.Proofs.Ytimkhidniolpeaa
set_option linter.unusedSimpArgs false
set_option linter.unusedVariables false
set_option maxRecDepth 100000
set_option maxHeartbeats 0
open Go.RowKit

theorem fliesG_len : ∀ (ts : List Sh) (s : WS) (left : List Sh), (fliesG s left ts).1.ps.length = s.ps.length ∧ (fliesG s left ts).1 = { s with ps := (fliesG s left ts).1.ps }
 | [], s, left => ⟨rfl, rfl⟩
 | t :: ts, s, left => by
  obtain ⟨h1, h2⟩ := fliesG_len ts (flyS s t).1 (bif (flyS s t).2.2 then left ++ [(flyS s t).2.1] else left)
  rw [fliesG]
  refine ⟨h1.trans (flyS_len s t), ?_⟩
  rw [h2]
  rw [flyS_same s t]

def tabW (n : Nat) (s : WS) : WS := { s with ps := (List.range n).map fun i => s.ps.getD i plD }
theorem tabW_eq {n : Nat} {s : WS} (h : s.ps.length = n) : tabW n s = s := by
 unfold tabW
 have : (List.range n).map (fun i => s.ps.getD i plD) = s.ps := by
  refine List.ext_getElem? fun i => ?_
  rw [List.getElem?_map]
  by_cases hi : i < n
  · simp [List.getElem?_range hi, List.getD, List.getElem?_eq_getElem (show i < s.ps.length by omega)]
  · rw [List.getElem?_eq_none (by simpa using hi), List.getElem?_eq_none (by omega)]
    rfl
 rw [this]

def eqH (hc : Option Nat) (len : Nat) : SV → SV → Bool
 | .nils, .nils => hc.isNone
 | .slice 4 11 0 m (some c), .slice 4 11 0 m' (some c') => hc.isSome && (Nat.beq m len && (Nat.beq m' m && Nat.beq c' c))
 | _, _ => false
noncomputable def tS (g : GK) (H : SV) (n i : Int) : Bool := (g.ok && decide (i = 0)) && (decide (n = (g.s.shots.length : Int)) && (decide (g.s.shots.length ≤ 1000) && (eqH g.l.hc g.s.shots.length g.H H && fliesOk g.s g.s.shots)))
noncomputable def afterS (s : WS) : WS := tabW s.ps.length (fliesG s [] s.shots).1
noncomputable def leftS (s : WS) : List Sh := (fliesG s [] s.shots).2
noncomputable def outS (v : List SV) (R : List Row) (k : Ex → List SV → List Row → Option Res2) : Option Res2 := match v, readG R with
 | [.ptr 0 0 0 0, .nils, H, .int .i64 n, .int .i64 i], some g => match g.more with
  | [] => bif tS g H n i then (bif (leftS g.s).isEmpty then k (.exit 0) [.ptr 0 0 0 0, .nils, H, .int .i64 n, .int .i64 n] (gk (afterS g.s) g.l H []) else
      k (.exit 0) [.ptr 0 0 0 0, hX (afterS g.s) (some ((leftS g.s).length, leftS g.s)), H, .int .i64 n, .int .i64 n] (gk (afterS g.s) g.l H (moreX (some ((leftS g.s).length, leftS g.s))))) else none
  | _ => none
 | _, _ => none

theorem s1_none : ∀ (s : WS) (l : WLay), LayOk l s → l.hc = none → rdS (5 + s.ps.length) (valS s l none 0) (rowS s l none) = some (.tuple [exS (.exit 0), .tuple (valS s l none 0)], rowS s l none) :=
 game_cases fun w d h cells spawns now given fired cc sc => by
  refine ⟨fun shots hc hh => (by cases hh), fun _ => by kernel_rfl, fun c shots hc => ?_, fun c => ?_⟩
  · exact ⟨fun h => (by cases h), fun _ => ⟨fun h => (by cases h), fun _ => ⟨fun h => (by cases h), fun _ => ⟨fun h => (by cases h), fun _ => ⟨fun h => (by cases h), fun _ => ⟨fun h => (by cases h), fun _ => ⟨fun h => (by cases h), fun _ => ⟨fun h => (by cases h), fun _ h => (by cases h)⟩⟩⟩⟩⟩⟩⟩⟩
  · repeat' (first | apply And.intro | intro _)
    all_goals kernel_rfl

theorem gk_len (s : WS) (l : WLay) (H : SV) (more : List Row) : (gk s l H more).length = 5 + s.ps.length + more.length := by
 simp [gk]; omega

theorem lpoS_ok : LpOk 15 [0, 1, 0, 1, 1] (loopF 81 [0, 2, 18, 19, 20] outS) := by
 intro b hat s K r h
 have := at_body Try.func15 hat
 subst this
 refine loopF_ok (fuel := 200) xWf_ok lok_none hat (fun v R k r hr => ?_) h
 unfold outS at hr
 split at hr
 · rename_i H n i g hg
   split at hr
   · rename_i hmore
     obtain ⟨hb, hr2⟩ := cond_some hr
     clear hr
     unfold tS at hb
     rw [Bool.and_eq_true, Bool.and_eq_true, Bool.and_eq_true, Bool.and_eq_true, Bool.and_eq_true, decide_eq_true_eq, decide_eq_true_eq, decide_eq_true_eq] at hb
     obtain ⟨⟨hok, hi0⟩, hn, hL, hH, hf⟩ := hb
     obtain ⟨hR, hl⟩ := readG_spec hg hok
     rw [hmore] at hR
     have hlen : (fliesG g.s [] g.s.shots).1.ps.length = g.s.ps.length := (fliesG_len g.s.shots g.s []).1
     have haft : afterS g.s = (fliesG g.s [] g.s.shots).1 := tabW_eq hlen
     have hshots : (afterS g.s).shots = g.s.shots := by rw [haft, (fliesG_len g.s.shots g.s []).2]
     -- the layout with the shots' room
     obtain ⟨l', hl', hHO, hgH, hgk, hpX⟩ : ∃ l' : WLay, LayOk l' g.s ∧ H = hO g.s l' ∧ g.H = H ∧ (∀ s H more, gk s l' H more = gk s g.l H more) ∧ (l'.hc = none ↔ H = .nils) := by
      unfold eqH at hH
      split at hH
      · rename_i e1
        have hnone : g.l.hc = none := by simpa using hH
        exact ⟨g.l, hl, by unfold hO; rw [hnone], e1, fun _ _ _ => rfl, by simp [hnone]⟩
      · rename_i m c m' c' e1
        rw [Bool.and_eq_true, Bool.and_eq_true, Bool.and_eq_true] at hH
        obtain ⟨h1, h2, h3, h4⟩ := hH
        have h2 := Nat.eq_of_beq_eq_true h2
        have h3 := Nat.eq_of_beq_eq_true h3
        have h4 := Nat.eq_of_beq_eq_true h4
        obtain ⟨c0, hc0⟩ := Option.isSome_iff_exists.1 h1
        refine ⟨{ g.l with hc := some c }, ⟨hl.pn, (fun h => by cases h), hl.pc, hl.few⟩, by rw [h3, h4, h2]; rfl, by rw [e1, h3, h4], fun s H more => ?_, by simp⟩
        unfold gk pX
        rw [hc0]
      · cases hH
     rw [hgH] at hR
     have hRs : R = rowS g.s l' none := by
      rw [hR]
      unfold rowS
      rw [hgk, ← hHO]
      rfl
     have hRl : R.length = 5 + g.s.ps.length := by rw [hR, gk_len]; rfl
     have hv : ([.ptr 0 0 0 0, .nils, H, .int .i64 n, .int .i64 i] : List SV) = valS g.s l' none 0 := by
      unfold valS
      rw [← hHO, hn, hi0]
      rfl
     rw [hv, hRl, hRs]
     have main : LoopTo (rdS (5 + g.s.ps.length)) (valS g.s l' none 0) (rowS g.s l' none) (.exit 0) (valS (afterS g.s) l' (optX (leftS g.s)) (g.s.shots.length : Int)) (rowS (afterS g.s) l' (optX (leftS g.s))) := by
      by_cases hnone : l'.hc = none
      · have h0 := hl'.hn hnone
        have e1 : afterS g.s = g.s := by rw [haft, h0]; rfl
        have e2 : leftS g.s = [] := by unfold leftS; rw [h0]; rfl
        rw [e1, e2, h0]
        exact .done (s1_none g.s l' hl' hnone) (by simp)
      · have := s1_loop l' hnone g.s.shots [] g.s 0 hl' rfl (by simp) hL (by simp) hf
        rw [haft]
        exact this
     have hHO' : hO (afterS g.s) l' = H := by rw [hHO]; unfold hO; rw [hshots]
     have key1 : ∀ X, rowS (afterS g.s) l' X = gk (afterS g.s) g.l H (moreX X) := fun X => by unfold rowS; rw [hHO', hgk]
     have key2 : ∀ X, valS (afterS g.s) l' X (g.s.shots.length : Int) = [.ptr 0 0 0 0, hX (afterS g.s) X, H, .int .i64 n, .int .i64 n] := fun X => by unfold valS; rw [hHO', hshots, hn]
     cases he : (leftS g.s).isEmpty with
     | true =>
      rw [he, cond_true] at hr2
      have e2 : leftS g.s = [] := List.isEmpty_iff.1 he
      refine ⟨_, _, _, hr2, ?_⟩
      rw [e2, key1, key2] at main
      exact main
     | false =>
      rw [he, cond_false] at hr2
      refine ⟨_, _, _, hr2, ?_⟩
      have e2 : optX (leftS g.s) = some ((leftS g.s).length, leftS g.s) := by
       cases hq : leftS g.s with
       | nil => rw [hq] at he; cases he
       | cons x xs => rfl
      rw [e2, key1, key2] at main
      exact main
   · cases hr
 · cases hr
noncomputable def lpoS : Lpo := ⟨_, _, _, lpoS_ok⟩

def okG (l : WLay) (s : WS) : Bool := (Nat.beq s.cells.length s.cells.length && Nat.beq s.spawns.length s.spawns.length) && leC s.ps.length l.pc
def sameX (l : WLay) (n : Nat) : Bool := match l.pc with
 | none => true
 | some c => Nat.beq n n && Nat.beq c c
def finT (l : WLay) (s : WS) (X : Option (Nat × List Sh)) : Option Res2 := bif okG l s && (decide ((0 : Int) = 0) && (decide ((s.ps.length : Int) = (s.ps.length : Int)) && sameX l s.ps.length)) then
 (bif s.ps.all (okPl s) then endX l { stepAll s with shots := (match X with | none => [] | some (_, xs) => xs) } (.tuple []) (pS l s.ps.length) (match X with | none => .nils | some (ll, _) => .slice 0 0 0 ll none) else none) else none
def nowS (s : WS) : WS := { s with now := IntKind.i64.wrap (s.now + 1) }
def hcL (l : WLay) (s : WS) : Option Nat := match l.hc with
 | none => none
 | some _ => some 0
noncomputable def tickT (l : WLay) (s : WS) : Option Res2 := bif tS ⟨nowS s, ⟨l.cc, l.sc, l.pc, hcL l s⟩, hO s l, [], okG l s⟩ (hO s l) (s.shots.length : Int) 0 then
 (bif (leftS (nowS s)).isEmpty then finT l (afterS (nowS s)) none else finT l (afterS (nowS s)) (some ((leftS (nowS s)).length, leftS (nowS s)))) else none

end Go.Proofs.Ytimkhidniolpeaa

namespace Go.Proofs.Ytimkhidniolpeaa
set_option linter.unusedSimpArgs false
set_option linter.unusedVariables false
set_option maxRecDepth 100000
set_option maxHeartbeats 0
open Go.RowKit

theorem wtick_tree : ∀ (s : WS) (l : WLay), LayOk l s → runG xWf (loopOf [lpoS, lpoT2]) 300 15 Try.f15 foldK [.ptr 0 0 0 0] (s.rows l) = tickT l s :=
 game_cases fun w d h cells spawns now given fired cc sc => by repeat' (first | apply And.intro | intro _ | kernel_rfl)

end Go.Proofs.Ytimkhidniolpeaa
