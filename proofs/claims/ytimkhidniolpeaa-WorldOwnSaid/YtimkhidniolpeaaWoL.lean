/- A game's Fire: its flights' loop, whole. -/
import Derived.Test.YtimkhidniolpeaaWoK
import Derived.Test.YtimkhidniolpeaaWoH
namespace Go.Proofs.Ytimkhidniolpeaa
set_option linter.unusedSimpArgs false
set_option linter.unusedVariables false
set_option maxRecDepth 100000
set_option maxHeartbeats 0
open Go.RowKit

theorem f1_round : ∀ (s : WS) (l : WLay), LayOk l s → ∀ (a : V3) (t : Sh) (q : Pl) (b i : Int), rdF (8 + s.ps.length) (valF s 0 b i) (rowF s l a t q) = roundF s l a t q b i :=
 game_cases fun w d h cells spawns now given fired cc sc => by
  refine ⟨fun shots hc a t q b i => f1_n0b .., fun a t q b i => f1_n0a .., fun c shots hc => ?_, fun c => ?_⟩
  · exact ⟨(fun a t q b i => f1_c0b ..), fun p1 => ⟨(fun a t q b i => f1_c1b ..), fun p2 => ⟨(fun a t q b i => f1_c2b ..), fun p3 => ⟨(fun a t q b i => f1_c3b ..), fun p4 => ⟨(fun a t q b i => f1_c4b ..), fun p5 => ⟨(fun a t q b i => f1_c5b ..), fun p6 => ⟨(fun a t q b i => f1_c6b ..), fun p7 => ⟨(fun a t q b i => f1_c7b ..), fun p8 => (fun a t q b i => f1_c8b ..)⟩⟩⟩⟩⟩⟩⟩⟩
  · exact ⟨(fun a t q b i => f1_c0a ..), fun p1 => ⟨(fun a t q b i => f1_c1a ..), fun p2 => ⟨(fun a t q b i => f1_c2a ..), fun p3 => ⟨(fun a t q b i => f1_c3a ..), fun p4 => ⟨(fun a t q b i => f1_c4a ..), fun p5 => ⟨(fun a t q b i => f1_c5a ..), fun p6 => ⟨(fun a t q b i => f1_c6a ..), fun p7 => ⟨(fun a t q b i => f1_c7a ..), fun p8 => (fun a t q b i => f1_c8a ..)⟩⟩⟩⟩⟩⟩⟩⟩

noncomputable def fliesF : Nat → Int → WS → Sh → WS × Sh × Bool × Int
 | 0, i, s, t => (s, t, true, i)
 | k + 1, i, s, t => bif (flyS s t).2.2 then fliesF k (i + 1) (flyS s t).1 (flyS s t).2.1 else ((flyS s t).1, (flyS s t).2.1, false, i)
noncomputable def fliesFOk : Nat → WS → Sh → Bool
 | 0, _, _ => true
 | k + 1, s, t => flyOk s t && (bif (flyS s t).2.2 then fliesFOk k (flyS s t).1 (flyS s t).2.1 else true)
theorem flyS_alive {s : WS} {t : Sh} (h : (flyS s t).2.2 = true) : (flyS s t).1 = s ∧ (flyS s t).2.1 = (stepS s.mp.at t).1 := by
 unfold flyS at h ⊢
 cases hc : (stepS s.mp.at t).2 || hitL (stepS s.mp.at t).1 s.ps with
 | true => rw [hc] at h; cases h
 | false => exact ⟨rfl, rfl⟩
theorem flyS_dead {s : WS} {t : Sh} (h : (flyS s t).2.2 = false) : flyS s t = (burstW s (stepS s.mp.at t).1, (stepS s.mp.at t).1, false) := by
 unfold flyS at h ⊢
 cases hc : (stepS s.mp.at t).2 || hitL (stepS s.mp.at t).1 s.ps with
 | true => rfl
 | false => rw [hc] at h; cases h
theorem fliesF_len : ∀ (k : Nat) (i : Int) (s : WS) (t : Sh), (fliesF k i s t).1.ps.length = s.ps.length ∧ (fliesF k i s t).1 = { s with ps := (fliesF k i s t).1.ps }
 | 0, i, s, t => ⟨rfl, rfl⟩
 | k + 1, i, s, t => by
  rw [fliesF]
  cases hb : (flyS s t).2.2 with
  | true =>
   obtain ⟨h1, h2⟩ := fliesF_len k (i + 1) (flyS s t).1 (flyS s t).2.1
   simp only [cond_true]
   refine ⟨h1.trans (flyS_len s t), ?_⟩
   rw [h2, flyS_same s t]
  | false => exact ⟨flyS_len s t, flyS_same s t⟩
def exF (z : WS × Sh × Bool × Int) : Ex := bif z.2.2.1 then .exit 1 else .ret
def rF (z : WS × Sh × Bool × Int) : Int := bif z.2.2.1 then 0 else z.1.fired

theorem f1_loop (l : WLay) (a : V3) (q : Pl) (b : Int) : ∀ (k : Nat) (i : Int) (s : WS) (t : Sh), LayOk l s → i + k = b → 0 ≤ i → b ≤ 1000 → fliesFOk k s t = true →
    LoopTo (rdF (8 + s.ps.length)) (valF s 0 b i) (rowF s l a t q) (exF (fliesF k i s t)) (valF (fliesF k i s t).1 (rF (fliesF k i s t)) b (fliesF k i s t).2.2.2) (rowF (fliesF k i s t).1 l a (fliesF k i s t).2.1 q)
 | 0, i, s, t, ok, hi, h0, hb, _ => by
  have : i = b := by omega
  subst this
  refine .done ?_ (by simp [exF, fliesF])
  rw [f1_round s l ok]
  unfold roundF
  rw [show decide (i < i) = false by simp]
  rfl
 | k + 1, i, s, t, ok, hi, h0, hb, hf => by
  simp only [fliesFOk, Bool.and_eq_true] at hf
  have hr := f1_round s l ok a t q b i
  unfold roundF at hr
  rw [show decide (i < b) = true by simp; omega, cond_true, flyT_eq hf.1] at hr
  rw [fliesF]
  cases hlv : (flyS s t).2.2 with
  | true =>
   rw [hlv, cond_true] at hr
   obtain ⟨h1, h2⟩ := flyS_alive hlv
   have h3 := hf.2
   rw [hlv, cond_true] at h3
   simp only [cond_true]
   rw [h1, h2] at h3 ⊢
   rw [i64_wrap (by omega) (by omega)] at hr
   exact .more hr (f1_loop l a q b k (i + 1) s _ ok (by omega) (by omega) hb h3)
  | false =>
   rw [hlv, cond_false] at hr
   simp only [cond_false]
   rw [flyS_dead hlv]
   have hlen : (burstW s (stepS s.mp.at t).1).ps.length = s.ps.length := brAt_len _ _ _
   refine .done (hr.trans ?_) (by simp [exF])
   unfold valF exF rF
   rw [hlen]
   rfl

def eqH1 (hc : Option Nat) (len : Nat) : SV → Bool
 | .nils => hc.isNone
 | .slice 4 11 0 m (some _) => hc.isSome && Nat.beq m len
 | _ => false
noncomputable def tF (g : GK) (id : Nat) (t : Sh) (b i r e : Int) : Bool := g.ok && (Nat.beq id (6 + g.s.ps.length) && ((decide (i = 0) && (decide (r = 0) && decide (e = 0))) && ((decide (0 ≤ b) && decide (b ≤ 8)) && (eqH1 g.l.hc g.s.shots.length g.H && fliesFOk b.toNat g.s t))))
noncomputable def zF (s : WS) (t : Sh) (b : Int) : WS × Sh × Bool × Int := fliesF b.toNat 0 s t
noncomputable def afterF (s : WS) (t : Sh) (b : Int) : WS := tabW s.ps.length (zF s t b).1
noncomputable def outF (v : List SV) (R : List Row) (k : Ex → List SV → List Row → Option Res2) : Option Res2 := match v, readG R with
 | [.ptr 0 0 0 0, .int .i64 r, .int .i64 e, .ptr id 0 0 0, .int .i64 b, .int .i64 i], some g => match g.more with
  | [.own ca, .own ct, .own cq] => match dVec ca, dSh ct, dPl cq with
   | some a, some t, some q => bif tF g id t b i r e then
       (bif (zF g.s t b).2.2.1 then k (.exit 1) (valF (afterF g.s t b) 0 b (zF g.s t b).2.2.2) (gk (afterF g.s t b) g.l g.H [.own a.sv, .own (zF g.s t b).2.1.sv, .own q.sv])
        else k .ret (valF (afterF g.s t b) (zF g.s t b).1.fired b (zF g.s t b).2.2.2) (gk (afterF g.s t b) g.l g.H [.own a.sv, .own (zF g.s t b).2.1.sv, .own q.sv])) else none
   | _, _, _ => none
  | _ => none
 | _, _ => none
theorem lpoF_ok : LpOk 14 [0, 1, 0, 1, 1, 1, 1, 1, 1, 1, 1, 1] (loopF 99 [0, 10, 11, 13, 74, 75] outF) := by
 intro bd hat s K r0 h
 have := at_body Try.func14 hat
 subst this
 refine loopF_ok (fuel := 200) xWf_ok lok_none hat (fun v R k r1 hr => ?_) h
 unfold outF at hr
 split at hr
 · rename_i r e id b i g hg
   split at hr
   · rename_i ca ct cq hmore
     split at hr
     · rename_i a t q ha ht hq
       obtain ⟨hb, hr2⟩ := cond_some hr
       clear hr
       rw [dVec_sv ha, dSh_sv ht, dPl_sv hq] at hmore
       unfold tF at hb
       rw [Bool.and_eq_true, Bool.and_eq_true, Bool.and_eq_true, Bool.and_eq_true, Bool.and_eq_true, Bool.and_eq_true, Bool.and_eq_true, Bool.and_eq_true, decide_eq_true_eq, decide_eq_true_eq, decide_eq_true_eq, decide_eq_true_eq, decide_eq_true_eq] at hb
       obtain ⟨hok, hid, ⟨hi0, hr0, he0⟩, ⟨hb0, hb8⟩, hH, hf⟩ := hb
       have hid := Nat.eq_of_beq_eq_true hid
       obtain ⟨hR, hl⟩ := readG_spec hg hok
       rw [hmore] at hR
       obtain ⟨hlen, hsame⟩ := fliesF_len b.toNat 0 g.s t
       have haft : afterF g.s t b = (zF g.s t b).1 := tabW_eq hlen
       have hshots : (zF g.s t b).1.shots = g.s.shots := by
        show (fliesF b.toNat 0 g.s t).1.shots = _
        rw [hsame]
       obtain ⟨l', hl', hHO, hgk⟩ : ∃ l' : WLay, LayOk l' g.s ∧ g.H = hO g.s l' ∧ (∀ s H more, gk s l' H more = gk s g.l H more) := by
        unfold eqH1 at hH
        split at hH
        · rename_i e1
          have hnone : g.l.hc = none := by simpa using hH
          exact ⟨g.l, hl, by rw [e1]; unfold hO; rw [hnone], fun _ _ _ => rfl⟩
        · rename_i m c e1
          rw [Bool.and_eq_true] at hH
          have h2 := Nat.eq_of_beq_eq_true hH.2
          obtain ⟨c0, hc0⟩ := Option.isSome_iff_exists.1 hH.1
          refine ⟨{ g.l with hc := some c }, ⟨hl.pn, (fun h => by cases h), hl.pc, hl.few⟩, by rw [e1, h2]; rfl, fun s H more => ?_⟩
          unfold gk pX
          rw [hc0]
        · cases hH
       have hRs : R = rowF g.s l' a t q := by
        rw [hR]
        unfold rowF
        rw [hgk, ← hHO]
       have hRl : R.length = 8 + g.s.ps.length := by
        rw [hR, gk_len]
        simp only [List.length_cons, List.length_nil]
        omega
       have hv : ([.ptr 0 0 0 0, .int .i64 r, .int .i64 e, .ptr id 0 0 0, .int .i64 b, .int .i64 i] : List SV) = valF g.s 0 b 0 := by
        unfold valF
        rw [hid, hi0, hr0, he0]
       rw [hv, hRl, hRs]
       have main := f1_loop l' a q b b.toNat 0 g.s t hl' (by omega) (by omega) (by omega) hf
       have key : rowF (zF g.s t b).1 l' a (zF g.s t b).2.1 q = gk (afterF g.s t b) g.l g.H [.own a.sv, .own (zF g.s t b).2.1.sv, .own q.sv] := by
        unfold rowF
        rw [hgk, haft, hHO]
        unfold hO
        rw [hshots]
       change LoopTo _ _ _ (exF (zF g.s t b)) (valF (zF g.s t b).1 (rF (zF g.s t b)) b (zF g.s t b).2.2.2) (rowF (zF g.s t b).1 l' a (zF g.s t b).2.1 q) at main
       rw [key, ← haft] at main
       cases hz : (zF g.s t b).2.2.1 with
       | true =>
        rw [hz, cond_true] at hr2
        unfold exF rF at main
        rw [hz] at main
        exact ⟨_, _, _, hr2, main⟩
       | false =>
        rw [hz, cond_false] at hr2
        unfold exF rF at main
        rw [hz] at main
        exact ⟨_, _, _, hr2, main⟩
     · cases hr
   · cases hr
 · cases hr
noncomputable def lpoF : Lpo := ⟨_, _, _, lpoF_ok⟩

end Go.Proofs.Ytimkhidniolpeaa
