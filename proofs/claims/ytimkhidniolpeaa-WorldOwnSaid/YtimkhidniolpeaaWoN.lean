/- A game's methods as contracts: what a game is behind each, in plain words. A game's Fire as a contract. -/
import Derived.Test.YtimkhidniolpeaaWoH
import Derived.Test.YtimkhidniolpeaaWoM
namespace Go.Proofs.Ytimkhidniolpeaa
set_option linter.unusedSimpArgs false
set_option linter.unusedVariables false
set_option maxRecDepth 100000
set_option maxHeartbeats 0
open Go.RowKit

theorem endX_ends {l : WLay} {s : WS} {v P H : SV} (hP : P.firm s.ps.length) (hH : H.firm s.shots.length) (hf : s.ps.length ≤ 8) : Ends (endX l s v P H) v s [] :=
 ⟨_, _, _, _, rfl, ⟨rfl, .inr rfl⟩, ⟨rfl, .inr rfl⟩, hP, hH, hf⟩
theorem pS_firm {l : WLay} {s : WS} {n : Nat} (ok : LayOk l s) (h : n = s.ps.length) : (pS l n).firm n := by
 unfold pS
 cases hp : l.pc with
 | none => rw [ok.pn hp] at h; simp [SV.firm, h]
 | some c => exact ⟨rfl, .inr rfl⟩
theorem hS_firm {l : WLay} {s : WS} {n : Nat} (ok : LayOk l s) (h : n = s.shots.length) : (hS l n).firm n := by
 unfold hS
 cases hh : l.hc with
 | none => rw [ok.hn hh] at h; simp [SV.firm, h]
 | some c => exact ⟨rfl, .inr rfl⟩

noncomputable def oNowW (args : List SV) (rows : List Row) : Option Eff := match args with
 | [.ptr g 0 0 0] => match rows[g]? with
  | some (.obj s) => some { val := .int .i64 s.now, rd := [g], wr := [(g, .obj s)] }
  | _ => none
 | _ => none
theorem oNowW_ok {args : List SV} {rows : List Row} {e : Eff} (h : oNowW args rows = some e) (hok : e.ok = true) : FnOkO Try.prog 21 args (rows[·]?) rows.length e := by
 unfold oNowW at h
 split at h
 · split at h
   · rename_i s hs
     cases h
     exact fnOkO_game xWo_ok lok_none Try.func21 (ds := []) rfl rfl (fun l ok => by rw [now_tree s l ok]; exact endV_ends _ _ ok) hs
   · cases h
 · cases h
noncomputable def orcNowW : OrcO := ⟨21, oNowW, fun _ _ _ h hok => oNowW_ok h hok, bodied Try.func21 (by kernel_rfl)⟩

noncomputable def oLeftW (args : List SV) (rows : List Row) : Option Eff := match args with
 | [.ptr g 0 0 0, .int .i64 id] => match rows[g]? with
  | some (.obj s) => some { val := .int .i64 (leftL id s.ps), rd := [g], wr := [(g, .obj s)] }
  | _ => none
 | _ => none
theorem oLeftW_ok {args : List SV} {rows : List Row} {e : Eff} (h : oLeftW args rows = some e) (hok : e.ok = true) : FnOkO Try.prog 19 args (rows[·]?) rows.length e := by
 unfold oLeftW at h
 split at h
 · rename_i g id
   split at h
   · rename_i s hs
     cases h
     exact fnOkO_game xWo_ok lok_none Try.func19 (ds := [.int .i64 id]) rfl rfl (fun l ok => by rw [left_tree id s l ok, leftT_eq]; exact endV_ends _ _ ok) hs
   · cases h
 · cases h
noncomputable def orcLeftW : OrcO := ⟨19, oLeftW, fun _ _ _ h hok => oLeftW_ok h hok, bodied Try.func19 (by kernel_rfl)⟩

noncomputable def oPlayersW (args : List SV) (rows : List Row) : Option Eff := match args with
 | [.ptr g 0 0 0] => match rows[g]? with
  | some (.obj s) => some { val := .slice rows.length 15 0 (s.ps.map PL.p).length none, rd := [g], wr := [(g, .obj s)], nw := [.vec true .pl (s.ps.map PL.p)] }
  | _ => none
 | _ => none
theorem oPlayersW_ok {args : List SV} {rows : List Row} {e : Eff} (h : oPlayersW args rows = some e) (hok : e.ok = true) : FnOkO Try.prog 16 args (rows[·]?) rows.length e := by
 unfold oPlayersW at h
 split at h
 · split at h
   · rename_i s hs
     cases h
     refine fnOkO_slice (fuel := 300) (k := .pl) (xs := s.ps.map PL.p) xWo_ok lok_none Try.func16 (ds := []) rfl (fun l ok => ?_) hs
     rw [players_tree s l ok]
     unfold playersT
     cases hp : s.ps with
     | nil => exact .inl ⟨rfl, endV_ends _ _ ok⟩
     | cons p ps =>
      refine .inr ⟨none, ?_⟩
      have key : ∀ (ys : List Pl) (n : Nat), p.p :: ps.map PL.p = ys → ps.length + 1 = n → Ends (endV l s (.slice 0 15 0 (ps.length + 1) none) [.vec false .pl (p.p :: ps.map PL.p)]) (.slice 0 15 0 n none) s [.vec false .pl ys] := by
       rintro _ _ rfl rfl
       exact endV_ends _ _ ok
      exact key _ _ rfl (show ps.length + 1 = ((p :: ps).map PL.p : List Pl).length by simp)
   · cases h
 · cases h
noncomputable def orcPlayersW : OrcO := ⟨16, oPlayersW, fun _ _ _ h hok => oPlayersW_ok h hok, bodied Try.func16 (by kernel_rfl)⟩

theorem big_ok {n : Nat} (h : n ≤ 1000) : bigB n 88 = true := by
 simp only [bigB, Bool.and_eq_true, decide_eq_true_eq]
 omega
noncomputable def oShotsW (args : List SV) (rows : List Row) : Option Eff := match args with
 | [.ptr g 0 0 0] => match rows[g]? with
  | some (.obj s) => some { ok := decide (s.shots.length ≤ 1000), val := .slice rows.length 11 0 s.shots.length none, rd := [g], wr := [(g, .obj s)], nw := [.vec true .sh s.shots] }
  | _ => none
 | _ => none
theorem oShotsW_ok {args : List SV} {rows : List Row} {e : Eff} (h : oShotsW args rows = some e) (hok : e.ok = true) : FnOkO Try.prog 18 args (rows[·]?) rows.length e := by
 unfold oShotsW at h
 split at h
 · split at h
   · rename_i s hs
     cases h
     rw [decide_eq_true_eq] at hok
     refine fnOkO_slice (fuel := 300) (k := .sh) (xs := s.shots) xWo_ok lok_none Try.func18 (ds := []) rfl (fun l ok => ?_) hs
     rw [shots_tree s l ok]
     unfold shotsT
     cases hh : l.hc with
     | none => exact .inl ⟨ok.hn hh, endV_ends _ _ ok⟩
     | some c =>
      refine .inr ⟨none, ?_⟩
      simp only
      rw [big_ok hok, cond_true]
      have key : ∀ (ys : List Sh) (n : Nat), ys = s.shots → n = s.shots.length → Ends (endV l s (.slice 0 11 0 n none) [.vec false .sh ys]) (.slice 0 11 0 s.shots.length none) s [.vec false .sh s.shots] := by
       rintro _ _ rfl rfl
       exact endV_ends _ _ ok
      exact key _ _ List.take_length (Nat.zero_add _)
   · cases h
 · cases h
noncomputable def orcShotsW : OrcO := ⟨18, oShotsW, fun _ _ _ h hok => oShotsW_ok h hok, bodied Try.func18 (by kernel_rfl)⟩

noncomputable def doL (s : WS) (id : Int) (c : Cm) : List PL → Int × List PL
 | [] => (6, [])
 | p :: ps => bif p.p.id == id then (bif badC c then (1, p :: ps) else bif decide (c.ticks > p.left) then (8, p :: ps) else (0, ⟨walkP s.mp.slide p.p c, IntKind.i64.wrap (p.left - c.ticks)⟩ :: ps))
  else ((doL s id c ps).1, p :: (doL s id c ps).2)
def mapB (s : WS) : Bool := mapOk s.w s.d s.h s.cells.length && s.ps.all fun p => fitsB p.p.pos
noncomputable def doS (s : WS) (id : Int) (c : Cm) : WS := { s with ps := (doL s id c s.ps).2 }
theorem doL_len (s : WS) (id : Int) (c : Cm) : ∀ ps, (doL s id c ps).2.length = ps.length
 | [] => rfl
 | p :: ps => by
  rw [doL]
  cases p.p.id == id
  · simp [doL_len s id c ps]
  · cases badC c
    · cases decide (c.ticks > p.left) <;> rfl
    · rfl
theorem doT_eq (l : WLay) (s : WS) (id : Int) (c : Cm) (hm : mapOk s.w s.d s.h s.cells.length = true) : ∀ (ps pre : List PL), s.ps = pre ++ ps → (∀ p ∈ ps, fitsB p.p.pos = true) →
    doT l s id c pre ps = endX l { s with ps := pre ++ (doL s id c ps).2 } (.int .i64 (doL s id c ps).1) (pS l s.ps.length) (hS l s.shots.length)
 | [], pre, hs, _ => by
  rw [doT, doL]
  simp only
  rw [← hs]
 | p :: ps, pre, hs, hf => by
  rw [doT, doL]
  cases p.p.id == id with
  | true =>
   simp only [cond_true]
   cases badC c with
   | true => simp only [cond_true]; rw [← hs]
   | false =>
    simp only [cond_false]
    cases decide (c.ticks > p.left) with
    | true => simp only [cond_true]; rw [← hs]
    | false =>
     simp only [cond_false]
     rw [hm, hf p (by simp)]
     simp
  | false =>
   simp only [cond_false]
   rw [doT_eq l s id c hm ps (pre ++ [p]) (by simp [hs]) (fun q hq => hf q (by simp [hq]))]
   simp
def dCm : List SV → Option Cm
 | [.int .u16 a, .int .u8 b, .int .i8 c, .int .i8 d, .int .i64 e] => some ⟨a, b, c, d, e⟩
 | _ => none
theorem dCm_sv {l : List SV} {c : Cm} (h : dCm l = some c) : l = c.sv := by
 unfold dCm at h
 split at h
 · cases h; rfl
 · cases h
noncomputable def oDoW (args : List SV) (rows : List Row) : Option Eff := match args with
 | [.ptr g 0 0 0, .int .i64 id, .agg cs] => match rows[g]?, dCm cs with
  | some (.obj s), some c => some { ok := mapB s, val := .int .i64 (doL s id c s.ps).1, rd := [g], wr := [(g, .obj (doS s id c))] }
  | _, _ => none
 | _ => none
theorem oDoW_ok {args : List SV} {rows : List Row} {e : Eff} (h : oDoW args rows = some e) (hok : e.ok = true) : FnOkO Try.prog 20 args (rows[·]?) rows.length e := by
 unfold oDoW at h
 split at h
 · rename_i g id cs
   split at h
   · rename_i s c hs hc
     cases h
     rw [dCm_sv hc]
     unfold mapB at hok
     rw [Bool.and_eq_true, List.all_eq_true] at hok
     refine fnOkO_game (fuel := 300) xWo_ok lok_none Try.func20 (ds := [.int .i64 id, .agg c.sv]) rfl rfl (fun l ok => ?_) hs
     rw [do_tree id c s l ok, doT_eq l s id c hok.1 s.ps [] rfl hok.2]
     have hl : (doS s id c).ps.length = s.ps.length := doL_len s id c s.ps
     refine endX_ends ?_ (hS_firm ok rfl) ?_
     · show (pS l s.ps.length).firm (doL s id c s.ps).2.length
       rw [doL_len]
       exact pS_firm ok rfl
     · show (doL s id c s.ps).2.length ≤ 8
       rw [doL_len]
       exact ok.few
   · cases h
 · cases h
noncomputable def orcDoW : OrcO := ⟨20, oDoW, fun _ _ _ h hok => oDoW_ok h hok, bodied Try.func20 (by kernel_rfl)⟩

def fullB (s : WS) : Bool := Nat.beq s.ps.length 8
def joinW (s : WS) : WS := bif fullB s then s else joinS s
def okJ (s : WS) : Bool := fullB s || placeB s (IntKind.i64.wrap (s.given + 1))
noncomputable def oJoinW (args : List SV) (rows : List Row) : Option Eff := match args with
 | [.ptr g 0 0 0] => match rows[g]? with
  | some (.obj s) => some { ok := okJ s, val := .tuple [.int .i64 (bif fullB s then 0 else IntKind.i64.wrap (s.given + 1)), .int .i64 (bif fullB s then 5 else 0)], rd := [g], wr := [(g, .obj (joinW s))] }
  | _ => none
 | _ => none
theorem oJoinW_ok {args : List SV} {rows : List Row} {e : Eff} (h : oJoinW args rows = some e) (hok : e.ok = true) : FnOkO Try.prog 13 args (rows[·]?) rows.length e := by
 unfold oJoinW at h
 split at h
 · split at h
   · rename_i s hs
     cases h
     refine fnOkO_game (fuel := 300) xWo_ok lok_none Try.func13 (ds := []) rfl rfl (fun l ok => ?_) hs
     rw [join_tree s l ok]
     unfold joinT joinW
     unfold okJ fullB at hok
     unfold fullB
     cases hf : Nat.beq s.ps.length 8 with
     | true =>
      simp only [cond_true]
      exact endX_ends (pS_firm ok rfl) (hS_firm ok rfl) ok.few
     | false =>
      rw [hf, Bool.false_or] at hok
      simp only [cond_false]
      rw [spawnOk_true hok]
      have hne : s.ps.length ≠ 8 := fun h => by rw [h] at hf; cases hf
      have hf8 := ok.few
      refine endX_ends ⟨by simp [joinS], .inl (by omega)⟩ (hS_firm ok rfl) ?_
      simp only [joinS, List.length_append, List.length_cons, List.length_nil]
      omega
   · cases h
 · cases h
noncomputable def orcJoinW : OrcO := ⟨13, oJoinW, fun _ _ _ h hok => oJoinW_ok h hok, bodied Try.func13 (by kernel_rfl)⟩

noncomputable def tickW (s : WS) : WS := stepAll { (fliesG (nowS s) [] s.shots).1 with shots := (fliesG (nowS s) [] s.shots).2 }
noncomputable def okTick (s : WS) : Bool := decide (s.shots.length ≤ 1000) && (fliesOk (nowS s) s.shots && (fliesG (nowS s) [] s.shots).1.ps.all (okPl (fliesG (nowS s) [] s.shots).1))
noncomputable def oTickW (args : List SV) (rows : List Row) : Option Eff := match args with
 | [.ptr g 0 0 0] => match rows[g]? with
  | some (.obj s) => some { ok := okTick s, val := .tuple [], rd := [g], wr := [(g, .obj (tickW s))] }
  | _ => none
 | _ => none
theorem okG_true {l : WLay} {s s0 : WS} (ok : LayOk l s0) (h : s.ps.length = s0.ps.length) : okG l s = true := by
 unfold okG leC
 simp only [Bool.and_eq_true]
 refine ⟨⟨Nat.beq_refl _, Nat.beq_refl _⟩, ?_⟩
 cases hp : l.pc with
 | none => rfl
 | some c => exact Nat.ble_eq_true_of_le (h ▸ ok.pc c hp)
theorem sameX_true (l : WLay) (n : Nat) : sameX l n = true := by
 unfold sameX
 cases l.pc with
 | none => rfl
 | some c => simp only [Bool.and_eq_true]; exact ⟨Nat.beq_refl _, Nat.beq_refl _⟩
theorem oTickW_ok {args : List SV} {rows : List Row} {e : Eff} (h : oTickW args rows = some e) (hok : e.ok = true) : FnOkO Try.prog 15 args (rows[·]?) rows.length e := by
 unfold oTickW at h
 split at h
 · split at h
   · rename_i s hs
     cases h
     unfold okTick at hok
     rw [Bool.and_eq_true, Bool.and_eq_true, decide_eq_true_eq] at hok
     obtain ⟨h1, h2, h3⟩ := hok
     refine fnOkO_game (fuel := 300) xWf_ok (loopOf_ok (l := [lpoS, lpoT2])) Try.func15 (ds := []) rfl rfl (fun l ok => ?_) hs
     rw [wtick_tree s l ok]
     unfold tickT
     have hlen := (fliesG_len s.shots (nowS s) []).1
     have haft : afterS (nowS s) = (fliesG (nowS s) [] s.shots).1 := tabW_eq hlen
     have hsh : ((fliesG (nowS s) [] s.shots).1).ps.length = s.ps.length := hlen
     have hts : tS ⟨nowS s, ⟨l.cc, l.sc, l.pc, hcL l s⟩, hO s l, [], okG l s⟩ (hO s l) (s.shots.length : Int) 0 = true := by
      unfold tS
      simp only [Bool.and_eq_true, decide_eq_true_eq]
      refine ⟨⟨okG_true ok rfl, by first | rfl | trivial⟩, by first | rfl | trivial, h1, ?_, h2⟩
      unfold hO hcL
      cases l.hc with
      | none => rfl
      | some c =>
       simp only [eqH, Bool.and_eq_true]
       exact ⟨rfl, Nat.beq_refl _, Nat.beq_refl _, Nat.beq_refl _⟩
     rw [hts, cond_true]
     have hfin : ∀ X : Option (Nat × List Sh), finT l (afterS (nowS s)) X = endX l { stepAll (afterS (nowS s)) with shots := (match X with | none => [] | some (_, xs) => xs) } (.tuple []) (pS l (afterS (nowS s)).ps.length) (match X with | none => .nils | some (ll, _) => .slice 0 0 0 ll none) := by
      intro X
      unfold finT
      rw [okG_true ok (by rw [haft]; exact hsh), sameX_true, haft, h3]
      cases X <;> simp
     have hps : (pS l (afterS (nowS s)).ps.length).firm (tickW s).ps.length := by
      have e1 : (afterS (nowS s)).ps.length = s.ps.length := by rw [haft]; exact hsh
      have e2 : (tickW s).ps.length = s.ps.length := by
       unfold tickW stepAll
       simp only [List.length_map]
       exact hsh
      rw [e1, e2]
      exact pS_firm ok rfl
     have hfew : (tickW s).ps.length ≤ 8 := by
      unfold tickW stepAll
      simp only [List.length_map]
      rw [hsh]
      exact ok.few
     have hW : ({ stepAll (afterS (nowS s)) with shots := leftS (nowS s) } : WS) = tickW s := by
      rw [haft]; rfl
     cases he : (leftS (nowS s)).isEmpty with
     | true =>
      rw [cond_true, hfin]
      have e3 : leftS (nowS s) = [] := List.isEmpty_iff.1 he
      have hW' := hW
      rw [e3] at hW'
      simp only
      rw [hW']
      refine endX_ends hps ?_ hfew
      have : (tickW s).shots = [] := by rw [← hW']
      rw [this]
      rfl
     | false =>
      rw [cond_false, hfin]
      simp only
      rw [hW]
      refine endX_ends hps ?_ hfew
      have : (tickW s).shots = leftS (nowS s) := by rw [← hW]
      rw [this]
      refine ⟨rfl, .inl ?_⟩
      cases hq : leftS (nowS s) with
      | nil => rw [hq] at he; cases he
      | cons x xs => simp
   · cases h
 · cases h
noncomputable def orcTickW : OrcO := ⟨15, oTickW, fun _ _ _ h hok => oTickW_ok h hok, bodied Try.func15 (by kernel_rfl)⟩

end Go.Proofs.Ytimkhidniolpeaa

namespace Go.Proofs.Ytimkhidniolpeaa
set_option linter.unusedSimpArgs false
set_option linter.unusedVariables false
set_option maxRecDepth 100000
set_option maxHeartbeats 0
open Go.RowKit

noncomputable def fire2 (s : WS) (t : Sh) (b : Int) : WS × Int × Int := bif (zF s t b).2.2.1 then ({ (zF s t b).1 with shots := s.shots ++ [(zF s t b).2.1] }, (zF s t b).1.fired, 0) else ((zF s t b).1, (zF s t b).1.fired, 0)
noncomputable def fire1 (s : WS) (pre : List PL) (p : PL) (ps : List PL) (id k : Int) (d : V3) (ahead : Int) : WS × Int × Int :=
 bif newE k d != 0 then (s, 0, newE k d) else bif (fireP p.p k).2 != 0 then (s, 0, (fireP p.p k).2) else bif (s.shots.length : Int) == 64 then (s, 0, 5) else fire2 (firedS s pre p ps k) (fireSh s p id k d) (fireB ahead)
noncomputable def fireL (s : WS) (id k : Int) (d : V3) (ahead : Int) (pre : List PL) : List PL → WS × Int × Int
 | [] => (s, 0, 6)
 | p :: ps => bif p.p.id == id then fire1 s pre p ps id k d ahead else fireL s id k d ahead (pre ++ [p]) ps
noncomputable def fireS (s : WS) (id k : Int) (d : V3) (ahead : Int) : WS × Int × Int := fireL s id k d ahead [] s.ps
noncomputable def fireOk1 (s : WS) (pre : List PL) (p : PL) (ps : List PL) (id k : Int) (d : V3) (ahead : Int) : Bool :=
 bif newE k d != 0 then true else bif (fireP p.p k).2 != 0 then true else bif (s.shots.length : Int) == 64 then true else fliesFOk (fireB ahead).toNat (firedS s pre p ps k) (fireSh s p id k d)
noncomputable def fireOkL (s : WS) (id k : Int) (d : V3) (ahead : Int) (pre : List PL) : List PL → Bool
 | [] => true
 | p :: ps => bif p.p.id == id then fireOk1 s pre p ps id k d ahead else fireOkL s id k d ahead (pre ++ [p]) ps
noncomputable def okFire (s : WS) (id k : Int) (d : V3) (ahead : Int) : Bool := decide (s.shots.length ≤ 1000) && fireOkL s id k d ahead [] s.ps

theorem eqH1_true {l : WLay} {s s1 : WS} (h : s1.shots.length = s.shots.length) : eqH1 (hcL l s1) s1.shots.length (hO s l) = true := by
 unfold hO hcL
 cases l.hc with
 | none => rfl
 | some c =>
  simp only [eqH1, Bool.and_eq_true]
  exact ⟨rfl, by rw [h]; exact Nat.beq_refl _⟩

theorem fireR_ends {l : WLay} {s s1 : WS} {d : V3} {t : Sh} {q : Pl} {b : Int} (ok : LayOk l s) (hps : s1.ps.length = s.ps.length) (hsh : s1.shots = s.shots) (hL : s.shots.length ≤ 1000) (hb : 0 ≤ b ∧ b ≤ 8) (hf : fliesFOk b.toNat s1 t = true) :
    Ends (fireR l s1 d t q b) (.tuple [.int .i64 (fire2 s1 t b).2.1, .int .i64 (fire2 s1 t b).2.2]) (fire2 s1 t b).1 [] := by
 have hO1 : hO s1 l = hO s l := by unfold hO; rw [hsh]
 have htf : tF (fireK l s1 d t q) (6 + s1.ps.length) t b 0 0 0 = true := by
  unfold tF fireK
  simp only [Bool.and_eq_true, decide_eq_true_eq]
  refine ⟨okG_true ok hps, Nat.beq_refl _, ⟨by first | rfl | trivial, by first | rfl | trivial, by first | rfl | trivial⟩, hb, ?_, hf⟩
  rw [hO1]
  exact eqH1_true (by rw [hsh])
 obtain ⟨hlen, hsame⟩ := fliesF_len b.toNat 0 s1 t
 have haft : afterF s1 t b = (zF s1 t b).1 := tabW_eq hlen
 have hzl : (zF s1 t b).1.ps.length = s.ps.length := hlen.trans hps
 have hzs : (zF s1 t b).1.shots = s.shots := by
  show (fliesF b.toNat 0 s1 t).1.shots = _
  rw [hsame]
  exact hsh
 have hP : (pS l s1.ps.length).firm s.ps.length := by rw [hps]; exact pS_firm ok rfl
 unfold fireR
 rw [htf, cond_true, haft]
 unfold fire2
 cases hz : (zF s1 t b).2.2.1 with
 | true =>
  simp only [cond_true]
  cases hc : l.hc with
  | none =>
   have h0 := ok.hn hc
   simp only
   have e : s1.shots ++ [(zF s1 t b).2.1] = [(zF s1 t b).2.1] := by rw [hsh, h0]; rfl
   rw [e]
   refine endX_ends ?_ ⟨rfl, .inl (by omega)⟩ ?_
   · show (pS l s1.ps.length).firm (zF s1 t b).1.ps.length
     rw [hzl]; exact hP
   · show (zF s1 t b).1.ps.length ≤ 8
     rw [hzl]; exact ok.few
  | some c =>
   simp only
   have hg : growC s1.shots.length (zF s1 t b).1.shots = true := by
    simp only [growC, Bool.or_true, Bool.true_and, Bool.and_eq_true, decide_eq_true_eq]
    rw [hzs, hsh]
    omega
   rw [hg, cond_true, hzs, hsh, List.take_length]
   refine endX_ends ?_ ⟨by simp, .inl (by omega)⟩ ?_
   · show (pS l s1.ps.length).firm (zF s1 t b).1.ps.length
     rw [hzl]; exact hP
   · show (zF s1 t b).1.ps.length ≤ 8
     rw [hzl]; exact ok.few
 | false =>
  simp only [cond_false]
  have fin : ∀ S : WS, S = (zF s1 t b).1 → Ends (endX l S (.tuple [.int .i64 (zF s1 t b).1.fired, .int .i64 0]) (pS l s1.ps.length) (hS l s1.shots.length)) (.tuple [.int .i64 (zF s1 t b).1.fired, .int .i64 0]) (zF s1 t b).1 [] := by
   rintro _ rfl
   refine endX_ends ?_ ?_ ?_
   · rw [hzl]; exact hP
   · rw [hzs, hsh]; exact hS_firm ok rfl
   · rw [hzl]; exact ok.few
  refine fin _ ?_
  cases hc : l.hc with
  | none =>
   have h0 := ok.hn hc
   have h1 : (zF s1 t b).1.shots = [] := by rw [hzs, h0]
   simp only
   rw [← h1]
  | some c => rfl

theorem fireT_ends {l : WLay} {s : WS} (ok : LayOk l s) {id k : Int} {d : V3} {ahead : Int} (hL : s.shots.length ≤ 1000) : ∀ (ps pre : List PL), s.ps = pre ++ ps → fireOkL s id k d ahead pre ps = true →
    Ends (wfireT l s id k d ahead pre ps) (.tuple [.int .i64 (fireL s id k d ahead pre ps).2.1, .int .i64 (fireL s id k d ahead pre ps).2.2]) (fireL s id k d ahead pre ps).1 []
 | [], pre, _, _ => by
  rw [wfireT, fireL]
  exact endX_ends (pS_firm ok rfl) (hS_firm ok rfl) ok.few
 | p :: ps, pre, hs, hf => by
  rw [wfireT, fireL]
  rw [fireOkL] at hf
  cases hid : p.p.id == id with
  | false =>
   rw [hid, cond_false] at hf
   simp only [cond_false]
   exact fireT_ends ok hL ps (pre ++ [p]) (by simp [hs]) hf
  | true =>
   rw [hid, cond_true] at hf
   simp only [cond_true]
   unfold fire1
   unfold fireOk1 at hf
   cases hn : newE k d != 0 with
   | true =>
    simp only [cond_true]
    exact endX_ends (pS_firm ok rfl) (hS_firm ok rfl) ok.few
   | false =>
    rw [hn, cond_false] at hf
    simp only [cond_false]
    have hbad : newBad k d = false := by
     unfold newE at hn
     cases hb : newBad k d with
     | true => rw [hb] at hn; cases hn
     | false => rfl
    have hk : (k == 0 || k == 1) = true := by
     rcases (newBad_false hbad).1 with h | h <;> subst h <;> rfl
    rw [hk, cond_true]
    cases he : (fireP p.p k).2 != 0 with
    | true =>
     simp only [cond_true]
     exact endX_ends (pS_firm ok rfl) (hS_firm ok rfl) ok.few
    | false =>
     rw [he, cond_false] at hf
     simp only [cond_false]
     cases h64 : (s.shots.length : Int) == 64 with
     | true =>
      simp only [cond_true]
      have hne : s.shots ≠ [] := fun h => by rw [h] at h64; cases h64
      unfold fullT
      cases hc : l.hc with
      | none => exact absurd (ok.hn hc) hne
      | some c =>
       simp only
       rw [h64, cond_true]
       exact endX_ends (pS_firm ok rfl) (by
        have := hS_firm ok (rfl : s.shots.length = s.shots.length)
        exact this) ok.few
     | false =>
      rw [h64, cond_false] at hf
      simp only [cond_false]
      have hfull : ∀ y n : Option Res2, fullT l s y n = n := by
       intro y n
       unfold fullT
       cases l.hc with
       | none => rfl
       | some c => simp only; rw [h64]; rfl
      rw [hfull]
      refine fireR_ends ok ?_ rfl hL ⟨?_, ?_⟩ hf
      · simp only [firedS]
        rw [hs]
        simp
      · unfold fireB; omega
      · unfold fireB; omega

noncomputable def oFireW (args : List SV) (rows : List Row) : Option Eff := match args with
 | [.ptr g 0 0 0, .int .i64 id, .int .i64 k, .agg cs, .int .i64 ahead] => match rows[g]?, dVec cs with
  | some (.obj s), some d => some { ok := okFire s id k d ahead, val := .tuple [.int .i64 (fireS s id k d ahead).2.1, .int .i64 (fireS s id k d ahead).2.2], rd := [g], wr := [(g, .obj (fireS s id k d ahead).1)] }
  | _, _ => none
 | _ => none

theorem fire_tree (id k ahead : Int) (d : V3) : ∀ (s : WS) (l : WLay), LayOk l s → runG xWf (loopOf [lpoF]) 400 14 Try.f14 foldK [.ptr 0 0 0 0, .int .i64 id, .int .i64 k, .agg d.sv, .int .i64 ahead] (s.rows l) = wfireT l s id k d ahead [] s.ps :=
 game_cases fun w dd h cells spawns now given fired cc sc => by
  refine ⟨fun shots hc => ft_n0b .., ft_n0a .., fun c shots hc => ?_, fun c => ?_⟩
  · exact ⟨ft_c0b .., fun p1 => ⟨ft_c1b .., fun p2 => ⟨ft_c2b .., fun p3 => ⟨ft_c3b .., fun p4 => ⟨ft_c4b .., fun p5 => ⟨ft_c5b .., fun p6 => ⟨ft_c6b .., fun p7 => ⟨ft_c7b .., fun p8 => ft_c8b ..⟩⟩⟩⟩⟩⟩⟩⟩
  · exact ⟨ft_c0a .., fun p1 => ⟨ft_c1a .., fun p2 => ⟨ft_c2a .., fun p3 => ⟨ft_c3a .., fun p4 => ⟨ft_c4a .., fun p5 => ⟨ft_c5a .., fun p6 => ⟨ft_c6a .., fun p7 => ⟨ft_c7a .., fun p8 => ft_c8a ..⟩⟩⟩⟩⟩⟩⟩⟩
theorem oFireW_ok {args : List SV} {rows : List Row} {e : Eff} (h : oFireW args rows = some e) (hok : e.ok = true) : FnOkO Try.prog 14 args (rows[·]?) rows.length e := by
 unfold oFireW at h
 split at h
 · rename_i g id k cs ahead
   split at h
   · rename_i s d hs hd
     cases h
     rw [dVec_sv hd]
     unfold okFire at hok
     rw [Bool.and_eq_true, decide_eq_true_eq] at hok
     refine fnOkO_game (fuel := 400) xWf_ok (loopOf_ok (l := [lpoF])) Try.func14 (ds := [.int .i64 id, .int .i64 k, .agg d.sv, .int .i64 ahead]) rfl rfl (fun l ok => ?_) hs
     rw [fire_tree id k ahead d s l ok]
     exact fireT_ends ok hok.1 s.ps [] rfl hok.2
   · cases h
 · cases h
noncomputable def orcFireW : OrcO := ⟨14, oFireW, fun _ _ _ h hok => oFireW_ok h hok, bodied Try.func14 (by kernel_rfl)⟩

end Go.Proofs.Ytimkhidniolpeaa
