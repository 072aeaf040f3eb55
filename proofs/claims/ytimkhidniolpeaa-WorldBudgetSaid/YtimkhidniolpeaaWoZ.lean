/- WorldBudget: the law's loop and call. -/
import Derived.Test.YtimkhidniolpeaaWoW
namespace Go.Proofs.Ytimkhidniolpeaa
set_option linter.unusedSimpArgs false
set_option linter.unusedVariables false
set_option maxRecDepth 100000
set_option maxHeartbeats 0
open Go.RowKit

def valBg (ll lb : Nat) (id done i : Int) : List SV := [.slice 2 5 0 ll none, .slice 3 1 0 lb none, .ptr 4 0 0 0, .bool false, .bool true, .ptr 5 0 0 0, .int .i64 id, .int .i64 done, .int .i64 i]
def rowBg (w d h : Int) (len ls : Nat) (xs : List Bool) (sp : List V3) (cs : List Cm) (bs : List Bool) (s : WS) : List Row := [.vec true .bool xs, .vec true .vec sp, .vec true .cm cs, .vec true .bool bs, .own [.int .i64 w, .int .i64 d, .int .i64 h, .slice 0 1 0 len none, .slice 1 3 0 ls none], .obj s]
noncomputable def rdBg : List SV → List Row → Option Res2 := roundS x16b (fun _ _ => none) 100 4 [0, 1, 0, 1, 1, 1, 1, 1, 1, 1] (bodyAt Try.f4 [0, 1, 0, 1, 1, 1, 1, 1, 1, 1]) 101 6 [1, 2, 3, 6, 7, 8, 10, 12, 13]

def cmN (cs : List Cm) (i : Int) : Cm := cs.getD (0 + i.toNat) Knd.cm.dflt
def boN (bs : List Bool) (i : Int) : Bool := bs.getD (0 + i.toNat) Knd.bool.dflt
section
variable (w d h : Int) (len ls ll lb : Nat) (xs : List Bool) (sp : List V3) (cs : List Cm) (bs : List Bool) (id i : Int)
def retBg (s : WS) (done : Int) : Option Res2 := some (.tuple [.nils, .tuple (valBg ll lb id done i)], rowBg w d h len ls xs sp cs bs s)
def chkBg (s : WS) (done : Int) : Option Res2 :=
 bif decide (done > IntKind.i64.wrap (8 + s.now)) then retBg w d h len ls ll lb xs sp cs bs id i s done else
 bif (bif false == false then (bif false then true else decide (leftL id s.ps < 0)) else true) then retBg w d h len ls ll lb xs sp cs bs id i s done else
 some (.tuple [.nilp, .tuple (valBg ll lb id done (IntKind.i64.wrap (i + 1)))], rowBg w d h len ls xs sp cs bs s)
def btB : Bool := (((true && (true && ((decide (0 ≤ i) && decide (i < (lb : Int))) && (decide (0 + i.toNat < bs.length) && true)))) && true || decide (i < (lb : Int)) != true) && (!!true || decide (i < (lb : Int)) == true)) && true
noncomputable def tailBg (s : WS) (done : Int) : Option Res2 :=
 bif btB lb bs i then
 bif (bif decide (i < (lb : Int)) == true then (bif true then boN bs i else false) else false) then
 bif okTick s then chkBg w d h len ls ll lb xs sp cs bs id i (tickW s) done else none
 else chkBg w d h len ls ll lb xs sp cs bs id i s done else none
def inI (n : Nat) (k : Option Res2) : Option Res2 := bif decide (0 ≤ i) && decide (i < (ll : Int)) then (bif decide (0 + i.toNat < n) then k else none) else none
end
theorem bg_round (w d h : Int) (len ls ll lb : Nat) (xs : List Bool) (sp : List V3) (cs : List Cm) (bs : List Bool) (s : WS) (id done i : Int) : rdBg (valBg ll lb id done i) (rowBg w d h len ls xs sp cs bs s) =
 bif bif decide (i < (ll : Int)) == true then (bif true then decide (i < 60) else false) else false then
 inI ll i cs.length (bif mapB s then
  bif (doL s id (cmN cs i) s.ps).1 == 0 then inI ll i cs.length (inI ll i cs.length (
   bif leftL id (doS s id (cmN cs i)).ps != IntKind.i64.wrap (leftL id s.ps - (cmN cs i).ticks) then retBg w d h len ls ll lb xs sp cs bs id i (doS s id (cmN cs i)) (IntKind.i64.wrap (done + (cmN cs i).ticks))
   else tailBg w d h len ls ll lb xs sp cs bs id i (doS s id (cmN cs i)) (IntKind.i64.wrap (done + (cmN cs i).ticks))))
  else tailBg w d h len ls ll lb xs sp cs bs id i (doS s id (cmN cs i)) done
 else none)
 else some (.tuple [.ptr 0 0 0 0, .tuple (valBg ll lb id done i)], rowBg w d h len ls xs sp cs bs s) := by kernel_rfl

structure BgI (k : Nat) (s : WS) (done : Int) : Prop where
 inv : s.Inv 1
 one : ∃ p, s.ps = [p] ∧ p.p.id = 1 ∧ 0 ≤ p.left ∧ p.left ≤ 16 ∧ done + p.left ≤ 8 + s.now
 now : 0 ≤ s.now ∧ s.now ≤ k
 done : 0 ≤ done
theorem badC_false {c : Cm} (h : badC c = false) : 1 ≤ c.ticks ∧ c.ticks ≤ 8 := by
 unfold badC at h
 by_cases h1 : c.ticks < 1
 · rw [decide_eq_true h1] at h; cases h
 · by_cases h2 : c.ticks > 8
   · rw [decide_eq_false h1, decide_eq_true h2] at h; cases h
   · omega
theorem BgI.cmd {k : Nat} {s : WS} {done : Int} (hb : BgI k s done) (hk : k ≤ 1000) (c : Cm) :
    ((doL s 1 c s.ps).1 = 0 → leftL 1 (doS s 1 c).ps = IntKind.i64.wrap (leftL 1 s.ps - c.ticks) ∧ IntKind.i64.wrap (done + c.ticks) = done + c.ticks ∧ BgI k (doS s 1 c) (done + c.ticks)) ∧ ((doL s 1 c s.ps).1 ≠ 0 → BgI k (doS s 1 c) done) := by
 obtain ⟨p, hp, hid, h0, h16, hd⟩ := hb.one
 have hnow := hb.now
 have hdone := hb.done
 constructor
 · intro h
   have e : doL s 1 c s.ps = (0, [⟨walkP s.mp.slide p.p c, IntKind.i64.wrap (p.left - c.ticks)⟩]) ∧ (1 ≤ c.ticks ∧ c.ticks ≤ 8) ∧ c.ticks ≤ p.left := by
    rw [hp] at h ⊢
    rw [doL] at h ⊢
    rw [hid] at h ⊢
    simp only [beq_self_eq_true, cond_true] at h ⊢
    cases hbad : badC c with
    | true => rw [hbad] at h; cases h
    | false =>
     rw [hbad] at h
     cases hl : decide (c.ticks > p.left) with
     | true => rw [hl] at h; cases h
     | false => exact ⟨rfl, badC_false hbad, by have := of_decide_eq_false hl; omega⟩
   obtain ⟨e, ht, hl⟩ := e
   have hps : (doS s 1 c).ps = [⟨walkP s.mp.slide p.p c, IntKind.i64.wrap (p.left - c.ticks)⟩] := by
    show (doL s 1 c s.ps).2 = _
    rw [e]
   have hw : IntKind.i64.wrap (p.left - c.ticks) = p.left - c.ticks := i64_wrap (by omega) (by omega)
   have hi : (walkP s.mp.slide p.p c).id = 1 := (sameBut_id (walkP_same s.mp c p.p)).trans hid
   have hw2 : IntKind.i64.wrap (done + c.ticks) = done + c.ticks := i64_wrap (by omega) (by omega)
   refine ⟨?_, hw2, (hb.inv.doS 1 c).2, ⟨_, hps, hi, ?_, ?_, ?_⟩, hnow, by omega⟩
   · rw [hps, hp]
     simp only [leftL, hid, hi, beq_self_eq_true, cond_true]
   · show 0 ≤ IntKind.i64.wrap (p.left - c.ticks)
     rw [hw]; omega
   · show IntKind.i64.wrap (p.left - c.ticks) ≤ 16
     rw [hw]; omega
   · show done + c.ticks + IntKind.i64.wrap (p.left - c.ticks) ≤ 8 + s.now
     rw [hw]; omega
 · intro h
   have e : doS s 1 c = s := by
    unfold doS
    rw [doL_refused h]
   rw [e]
   exact hb
theorem tickW_ps {j : Nat} {s : WS} (h : s.Inv j) : (tickW s).ps.length = s.ps.length ∧ (tickW s).now = IntKind.i64.wrap (s.now + 1) ∧ ∀ q ∈ (tickW s).ps, ∃ p ∈ s.ps, q.p.id = p.p.id ∧ q.left = min (IntKind.i64.wrap (p.left + 1)) 16 := by
 obtain ⟨g1, g2, g3, g4, g5⟩ := fliesG_facts s.shots (nowS s) [] h.nowS h.sh
 obtain ⟨hlen, hsame⟩ := fliesG_len s.shots (nowS s) []
 refine ⟨?_, ?_, fun q hq => ?_⟩
 · unfold tickW stepAll
   simp only [List.length_map]
   exact hlen
 · unfold tickW stepAll
   rw [hsame]
   rfl
 · unfold tickW stepAll at hq
   simp only [List.mem_map] at hq
   obtain ⟨p1, hp1, rfl⟩ := hq
   obtain ⟨p, hp, e1, _, e3⟩ := g3 p1 hp1
   refine ⟨p, hp, ?_, ?_⟩
   · unfold stepPl
     cases p1.p.dead == 1 <;> exact e1
   · unfold stepPl
     simp only [e3]
theorem BgI.tick {k : Nat} {s : WS} {done : Int} (hb : BgI k s done) (hk : k ≤ 1000) : okTick s = true ∧ BgI (k + 1) (tickW s) done := by
 obtain ⟨p, hp, hid, h0, h16, hd⟩ := hb.one
 have hnow := hb.now
 obtain ⟨t1, t2⟩ := hb.inv.tick (by omega)
 obtain ⟨l1, l2, l3⟩ := tickW_ps hb.inv
 have hw : IntKind.i64.wrap (s.now + 1) = s.now + 1 := i64_wrap (by omega) (by omega)
 have hw2 : IntKind.i64.wrap (p.left + 1) = p.left + 1 := i64_wrap (by omega) (by omega)
 rw [hp] at l1
 obtain ⟨q, hq⟩ : ∃ q, (tickW s).ps = [q] := List.length_eq_one_iff.1 l1
 obtain ⟨p', hp', e1, e2⟩ := l3 q (by rw [hq]; simp)
 rw [hp, List.mem_singleton] at hp'
 subst hp'
 rw [hw2] at e2
 exact ⟨t1, t2, ⟨q, hq, e1.trans hid, by omega, by omega, by rw [l2, hw]; omega⟩, by rw [l2, hw]; omega, hb.done⟩
theorem BgI.more {k : Nat} {s : WS} {done : Int} (hb : BgI k s done) : BgI (k + 1) s done := ⟨hb.inv, hb.one, ⟨hb.now.1, by have := hb.now.2; omega⟩, hb.done⟩

section
variable {w d h : Int} {len ls ll lb : Nat} {xs : List Bool} {sp : List V3} {cs : List Cm} {bs : List Bool}
theorem chk_ok {k i : Nat} {s : WS} {done : Int} (hb : BgI k s done) (hk : k ≤ 1000) (hi : i ≤ 1000) : chkBg w d h len ls ll lb xs sp cs bs 1 i s done = some (.tuple [.nilp, .tuple (valBg ll lb 1 done ((i + 1 : Nat) : Int))], rowBg w d h len ls xs sp cs bs s) := by
 obtain ⟨p, hp, hid, h0, h16, hd⟩ := hb.one
 have hnow := hb.now
 have hw : IntKind.i64.wrap (8 + s.now) = 8 + s.now := i64_wrap (by omega) (by omega)
 have hl : leftL 1 s.ps = p.left := by rw [hp]; simp [leftL, hid]
 unfold chkBg
 rw [hw, hl, decide_eq_false (show ¬ done > 8 + s.now by omega), decide_eq_false (show ¬ p.left < 0 by omega), i64_wrap (show 0 ≤ (i : Int) + 1 by omega) (by omega)]
 rfl
theorem tail_ok {k i : Nat} {s : WS} {done : Int} (hb : BgI k s done) (hk : k ≤ 900) (hi : i ≤ 900) (hlb : lb ≤ bs.length) : ∃ s', BgI (k + 1) s' done ∧ tailBg w d h len ls ll lb xs sp cs bs 1 i s done = some (.tuple [.nilp, .tuple (valBg ll lb 1 done ((i + 1 : Nat) : Int))], rowBg w d h len ls xs sp cs bs s') := by
 unfold tailBg
 have hbt : btB lb bs (i : Int) = true := by
  unfold btB
  by_cases hlt : (i : Int) < (lb : Int)
  · rw [decide_eq_true hlt, decide_eq_true (show (0 : Int) ≤ (i : Int) by omega), decide_eq_true (show 0 + ((i : Int)).toNat < bs.length by omega)]
    rfl
  · rw [decide_eq_false hlt]
    cases decide (0 ≤ (i : Int)) <;> rfl
 rw [hbt, cond_true]
 cases (bif decide ((i : Int) < (lb : Int)) == true then (bif true then boN bs (i : Int) else false) else false) with
 | false => exact ⟨s, hb.more, chk_ok hb (by omega) (by omega)⟩
 | true =>
  obtain ⟨t1, t2⟩ := hb.tick (by omega)
  rw [t1]
  exact ⟨_, t2, chk_ok t2 (by omega) (by omega)⟩
theorem inI_true {i ll n : Nat} {k : Option Res2} (h1 : i < ll) (h2 : i < n) : inI ll (i : Int) n k = k := by
 unfold inI
 rw [decide_eq_true (show (0 : Int) ≤ (i : Int) by omega), decide_eq_true (show (i : Int) < (ll : Int) by omega), decide_eq_true (show 0 + ((i : Int)).toNat < n by omega)]
 rfl
theorem bg_step (hc : ll ≤ cs.length) (hlb : lb ≤ bs.length) {i : Nat} {s : WS} {done : Int} (hb : BgI i s done) (hi : i < min ll 60) : ∃ s' done', BgI (i + 1) s' done' ∧
    rdBg (valBg ll lb 1 done i) (rowBg w d h len ls xs sp cs bs s) = some (.tuple [.nilp, .tuple (valBg ll lb 1 done' ((i + 1 : Nat) : Int))], rowBg w d h len ls xs sp cs bs s') := by
 have ht : (bif decide ((i : Int) < (ll : Int)) == true then (bif true then decide ((i : Int) < 60) else false) else false) = true := by
  rw [decide_eq_true (show (i : Int) < (ll : Int) by omega), decide_eq_true (show (i : Int) < 60 by omega)]
  rfl
 have hin : ∀ k : Option Res2, inI ll (i : Int) cs.length k = k := fun k => inI_true (by omega) (by omega)
 rw [bg_round, ht, cond_true, hin, (hb.inv.doS 1 (cmN cs i)).1, cond_true]
 obtain ⟨c1, c2⟩ := hb.cmd (by omega) (cmN cs i)
 by_cases h0 : (doL s 1 (cmN cs i) s.ps).1 = 0
 · obtain ⟨e1, e2, e3⟩ := c1 h0
   rw [h0, hin, hin, e1, e2, show (IntKind.i64.wrap (leftL 1 s.ps - (cmN cs i).ticks) != IntKind.i64.wrap (leftL 1 s.ps - (cmN cs i).ticks)) = false by simp]
   simp only [beq_self_eq_true, cond_true, cond_false]
   obtain ⟨s', k1, k2⟩ := tail_ok (w := w) (d := d) (h := h) (len := len) (ls := ls) (ll := ll) (xs := xs) (sp := sp) (cs := cs) e3 (by omega) (show i ≤ 900 by omega) hlb
   exact ⟨s', _, k1, k2⟩
 · rw [show ((doL s 1 (cmN cs i) s.ps).1 == 0) = false by simpa using h0]
   simp only [cond_false]
   obtain ⟨s', k1, k2⟩ := tail_ok (w := w) (d := d) (h := h) (len := len) (ls := ls) (ll := ll) (xs := xs) (sp := sp) (cs := cs) (c2 h0) (by omega) (show i ≤ 900 by omega) hlb
   exact ⟨s', _, k1, k2⟩
theorem bg_loop (hc : ll ≤ cs.length) (hlb : lb ≤ bs.length) : ∀ (k i : Nat) (s : WS) (done : Int), BgI i s done → i + k = min ll 60 →
    ∃ s' done', LoopTo rdBg (valBg ll lb 1 done i) (rowBg w d h len ls xs sp cs bs s) (.exit 0) (valBg ll lb 1 done' ((min ll 60 : Nat) : Int)) (rowBg w d h len ls xs sp cs bs s')
 | 0, i, s, done, hb, hi => by
  obtain rfl : i = min ll 60 := by omega
  refine ⟨s, done, .done ?_ (by simp)⟩
  have ht : (bif decide (((min ll 60 : Nat) : Int) < (ll : Int)) == true then (bif true then decide (((min ll 60 : Nat) : Int) < 60) else false) else false) = false := by
   rw [and_form]; simp; omega
  rw [bg_round, ht, cond_false]
  rfl
 | k + 1, i, s, done, hb, hi => by
  obtain ⟨s1, d1, b1, r1⟩ := bg_step (w := w) (d := d) (h := h) (len := len) (ls := ls) (xs := xs) (sp := sp) hc hlb hb (by omega)
  obtain ⟨s', done', hl⟩ := bg_loop hc hlb k (i + 1) s1 d1 b1 (by omega)
  exact ⟨s', done', .more r1 hl⟩
end

instance : Nonempty WS := ⟨⟨0, 0, 0, [], [], 0, [], [], 0, 0⟩⟩
open Classical in
noncomputable def bgB (id : Int) (s : WS) (done : Int) : Bool := decide (id = 1 ∧ BgI 0 s done)
open Classical in
theorem bgB_iff {id : Int} {s : WS} {done : Int} : bgB id s done = true ↔ id = 1 ∧ BgI 0 s done := by unfold bgB; exact decide_eq_true_iff
noncomputable def finBg (w d h : Int) (len ls ll lb : Nat) (xs : List Bool) (sp : List V3) (cs : List Cm) (bs : List Bool) (s : WS) (done : Int) : WS × Int :=
 Classical.epsilon fun z => LoopTo rdBg (valBg ll lb 1 done 0) (rowBg w d h len ls xs sp cs bs s) (.exit 0) (valBg ll lb 1 z.2 ((min ll 60 : Nat) : Int)) (rowBg w d h len ls xs sp cs bs z.1)
noncomputable def outBg (v : List SV) (R : List Row) (k : Ex → List SV → List Row → Option Res2) : Option Res2 := match v, R with
 | [.slice 2 5 0 ll none, .slice 3 1 0 lb none, .ptr 4 0 0 0, .bool false, .bool true, .ptr 5 0 0 0, .int .i64 id, .int .i64 done, .int .i64 i],
  [.vec true .bool xs, .vec true .vec sp, .vec true .cm cs, .vec true .bool bs, .own [.int .i64 w, .int .i64 d, .int .i64 h, .slice 0 1 0 len none, .slice 1 3 0 ls none], .obj s] =>
   bif decide (i = 0) && (decide (ll ≤ cs.length) && (decide (lb ≤ bs.length) && bgB id s done)) then
    k (.exit 0) (valBg ll lb 1 (finBg w d h len ls ll lb xs sp cs bs s done).2 ((min ll 60 : Nat) : Int)) (rowBg w d h len ls xs sp cs bs (finBg w d h len ls ll lb xs sp cs bs s done).1) else none
 | _, _ => none
theorem lpoBg_ok : LpOk 4 [0, 1, 0, 1, 1, 1, 1, 1, 1, 1] (loopF 101 [1, 2, 3, 6, 7, 8, 10, 12, 13] outBg) := by
 intro b hat s K r h
 refine loopF_ok (fuel := 100) x16b_ok lok_none hat (fun v R k r hr => ?_) h
 have hbody := at_body Try.func4 hat
 subst hbody
 unfold outBg at hr
 split at hr
 · rename_i ll lb id done i xs sp cs bs w d h len ls s
   obtain ⟨hb, hr2⟩ := cond_some hr
   simp only [Bool.and_eq_true, decide_eq_true_eq, bgB_iff] at hb
   obtain ⟨h1, h2, h3, h4, h5⟩ := hb
   subst h1 h4
   obtain ⟨s', d', hl⟩ := bg_loop (w := w) (d := d) (h := h) (len := len) (ls := ls) (xs := xs) (sp := sp) h2 h3 (min ll 60) 0 s done h5 (by omega)
   exact ⟨_, _, _, hr2, Classical.epsilon_spec (p := fun z : WS × Int => LoopTo rdBg (valBg ll lb 1 done 0) (rowBg w d h len ls xs sp cs bs s) (.exit 0) (valBg ll lb 1 z.2 ((min ll 60 : Nat) : Int)) (rowBg w d h len ls xs sp cs bs z.1)) ⟨(s', d'), hl⟩⟩
 · cases hr
noncomputable def lpoBg : Lpo := ⟨_, _, _, lpoBg_ok⟩

theorem bg_tree (w d h : Int) (len ls ll lb : Nat) (xs : List Bool) (sp : List V3) (cs : List Cm) (bs : List Bool) : runK x16b (loopOf [lpoBg]) 300 4 Try.f4 0 [mapS w d h (.slice 0 1 0 len none) (.slice 1 3 0 ls none), .slice 2 5 0 ll none, .slice 3 1 0 lb none] [.vec true .bool xs, .vec true .vec sp, .vec true .cm cs, .vec true .bool bs] =
 bif sm1 w d h len ls xs sp then bif sm2 w d h len ls xs sp then some (.bool true, []) else
 bif newC w d h len 0 xs ls 0 sp && newV w d h len 0 xs ls 0 sp then bif okJ (newG w d h len 0 xs ls 0 sp) then
 bif decide ((0 : Int) = 0) && (decide (ll ≤ cs.length) && (decide (lb ≤ bs.length) && bgB (bif fullB (newG w d h len 0 xs ls 0 sp) then 0 else IntKind.i64.wrap ((newG w d h len 0 xs ls 0 sp).given + 1)) (joinW (newG w d h len 0 xs ls 0 sp)) 0)) then some (.bool true, []) else none else none else none else none := by kernel_rfl
theorem wrap_one : IntKind.i64.wrap ((0 : Int) + 1) = 1 := i64_wrap (by omega) (by omega)
theorem join_new (w d h : Int) (len ls : Nat) (xs : List Bool) (sp : List V3) : joinW (newG w d h len 0 xs ls 0 sp) = { newG w d h len 0 xs ls 0 sp with ps := [⟨spawnP 1 ((newG w d h len 0 xs ls 0 sp).place 1), 8⟩], given := 1 } := by
 show joinS (newG w d h len 0 xs ls 0 sp) = _
 unfold joinS
 rw [show (newG w d h len 0 xs ls 0 sp).given = 0 from rfl, wrap_one]
 rfl
theorem BgI.new {w d h : Int} {len ls : Nat} {xs : List Bool} {sp : List V3} (hi : (newG w d h len 0 xs ls 0 sp).Inv 0) : BgI 0 (joinW (newG w d h len 0 xs ls 0 sp)) 0 := by
 refine ⟨(hi.join (by omega)).2, ⟨⟨spawnP 1 ((newG w d h len 0 xs ls 0 sp).place 1), 8⟩, by rw [join_new], rfl, by show (0 : Int) ≤ 8; omega, by show (8 : Int) ≤ 16; omega, ?_⟩, ?_, Int.le_refl _⟩
 · rw [join_new]
   show (0 : Int) + 8 ≤ 8 + 0
   omega
 · rw [join_new]
   show (0 : Int) ≤ 0 ∧ (0 : Int) ≤ ((0 : Nat) : Int)
   omega
theorem bg_law {w d h : Int} {len ls ll lb : Nat} {xs : List Bool} {sp : List V3} {cs : List Cm} {bs : List Bool} (a : MapA w d h len ls xs sp) (hc : cs.length = ll) (hb : bs.length = lb) :
    runK x16b (loopOf [lpoBg]) 300 4 Try.f4 0 [mapS w d h (.slice 0 1 0 len none) (.slice 1 3 0 ls none), .slice 2 5 0 ll none, .slice 3 1 0 lb none] [.vec true .bool xs, .vec true .vec sp, .vec true .cm cs, .vec true .bool bs] = some (.bool true, []) := by
 rw [bg_tree, a.sm1, cond_true]
 refine bif_law (fun _ => rfl) (fun hr => ?_)
 have hv := sm2_false hr
 have hi := a.inv hv
 have hid : (bif fullB (newG w d h len 0 xs ls 0 sp) then 0 else IntKind.i64.wrap ((newG w d h len 0 xs ls 0 sp).given + 1)) = 1 := wrap_one
 rw [a.newC, hv, (hi.join (by omega)).1, decide_eq_true (show ll ≤ cs.length by omega), decide_eq_true (show lb ≤ bs.length by omega), bgB_iff.2 ⟨hid, BgI.new hi⟩]
 rfl

end Go.Proofs.Ytimkhidniolpeaa
